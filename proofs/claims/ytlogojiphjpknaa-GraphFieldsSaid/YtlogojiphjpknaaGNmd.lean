/- flitlaw07.named tells what a Src names. No condition. -/
import Derived.Test.YtlogojiphjpknaaGFieldsP
import Derived.Test.YtlogojiphjpknaaGKind
import Derived.Test.YtlogojiphjpknaaGLook
namespace Go.Proofs.Ytlogojiphjpknaa
open Go.RowKit
set_option linter.unusedVariables false

set_option maxRecDepth 100000 in
set_option maxHeartbeats 2000000 in
theorem nmd_any (k n : Int) (hn : n = 0 ∨ n = 1) (w : World) : Calls Try.prog 30 #[vv ⟨k, n⟩] w fun e w' => e = .returned (vv (nmd ⟨k, n⟩)) ∧ Below w.heap.size w w' := by
  by_cases h0 : k = 0
  · subst h0
    go_enter Try.func30, Try.ntmps30
    go_wp2_with fail
    refine bodyPost_ret (v := vv (nmd ⟨0, n⟩)) (by simp [results, Try.results30, go_sem, nmd]) rfl ⟨rfl, ?_⟩
    repeat (first | with_reducible exact Below.refl _ _ | refine Below.alloc ?_ (by simp [go_sem]) _)
  · by_cases h1 : k = 1
    · subst h1
      rcases hn with rfl | rfl
      · go_enter Try.func30, Try.ntmps30
        go_wp2_with fail
        refine bodyPost_ret (v := vv (nmd ⟨1, 0⟩)) (by simp [results, Try.results30, go_sem, nmd]) rfl ⟨rfl, ?_⟩
        repeat (first | with_reducible exact Below.refl _ _ | refine Below.alloc ?_ (by simp [go_sem]) _)
      · go_enter Try.func30, Try.ntmps30
        go_wp2_with fail
        refine bodyPost_ret (v := vv (nmd ⟨1, 1⟩)) (by simp [results, Try.results30, go_sem, nmd]) rfl ⟨rfl, ?_⟩
        repeat (first | with_reducible exact Below.refl _ _ | refine Below.alloc ?_ (by simp [go_sem]) _)
    · have h2 : (k == 0) = false := by simpa using h0
      have h3 : (k == 1) = false := by simpa using h1
      rw [show nmd ⟨k, n⟩ = ⟨1, 0⟩ by unfold nmd; rw [if_neg h0, if_neg h1]]
      go_enter Try.func30, Try.ntmps30
      go_wp2_with fail
      refine bodyPost_ret (v := vv ⟨1, 0⟩) (by simp [results, Try.results30, go_sem]) rfl ⟨rfl, ?_⟩
      repeat (first | with_reducible exact Below.refl _ _ | refine Below.alloc ?_ (by simp [go_sem]) _)

end Go.Proofs.Ytlogojiphjpknaa
