/- roots.may and flitref06.May tell whether roots may be: of any nine ints. No condition. -/
import Derived.Test.YtlogojiphjpknaaEq
import Derived.Test.YtlogojiphjpknaaPure
namespace Go.Proofs.Ytlogojiphjpknaa
open Go.RowKit

abbrev rv (r : Rt) : Value := .agg #[.int .i64 r.n, .int .i64 r.a0, .int .i64 r.a1, .int .i64 r.a2, .int .i64 r.a3, .int .i64 r.a4, .int .i64 r.a5, .int .i64 r.a6, .int .i64 r.a7]

def MayP (r : Rt) (w : World) (e : Ending) (w' : World) : Prop := e = .returned (.bool r.may) ∧ Below w.heap.size w w'

theorem may_end {r : Rt} {b : Bool} {w w' : World} (h : b = r.may) (hb : Below w.heap.size w w') : MayP r w (.returned (.bool b)) w' := ⟨by rw [h], hb⟩

theorem may_no (r : Rt) (h : ¬ r.ok) : false = r.may := by simp [Rt.may, h]

set_option maxRecDepth 100000 in
set_option maxHeartbeats 1000000 in
theorem may_lt (n a0 a1 a2 a3 a4 a5 a6 a7 : Int) (w : World) (h : n < 0) : Calls Try.prog 51 #[rv ⟨n, a0, a1, a2, a3, a4, a5, a6, a7⟩] w (MayP ⟨n, a0, a1, a2, a3, a4, a5, a6, a7⟩ w) := by
  go_enter Try.func51, Try.ntmps51
  go_wp2
  go_ret
  exact may_end (may_no _ (by simp [Rt.ok]; omega)) ((Below.refl _ _).alloc (Nat.le_refl _) _)

set_option maxRecDepth 100000 in
set_option maxHeartbeats 1000000 in
theorem may_gt (n a0 a1 a2 a3 a4 a5 a6 a7 : Int) (w : World) (h1 : 8 < n) : Calls Try.prog 51 #[rv ⟨n, a0, a1, a2, a3, a4, a5, a6, a7⟩] w (MayP ⟨n, a0, a1, a2, a3, a4, a5, a6, a7⟩ w) := by
  have h : ¬ n < 0 := by omega
  go_enter Try.func51, Try.ntmps51
  go_wp2
  go_ret
  exact may_end (may_no _ (by simp [Rt.ok]; omega)) ((Below.refl _ _).alloc (Nat.le_refl _) _)

set_option maxRecDepth 100000 in
set_option maxHeartbeats 1000000 in
theorem may_0 (a0 a1 a2 a3 a4 a5 a6 a7 : Int) (w : World) : Calls Try.prog 51 #[rv ⟨0, a0, a1, a2, a3, a4, a5, a6, a7⟩] w (MayP ⟨0, a0, a1, a2, a3, a4, a5, a6, a7⟩ w) := by
  have he := eq97
  go_enter Try.func51, Try.ntmps51
  go_wp2
  refine wp_loop_rounds 1 ?_
  repeat (rw [rounds_succ]; go_wp2)
  go_ret
  refine may_end (by simp [Rt.may, Rt.ok]) ?_
  exact (((Below.refl _ _).alloc (Nat.le_refl _) _).alloc (by simp) _)

set_option maxRecDepth 100000 in
set_option maxHeartbeats 1000000 in
theorem may_1 (a0 a1 a2 a3 a4 a5 a6 a7 : Int) (w : World) : Calls Try.prog 51 #[rv ⟨1, a0, a1, a2, a3, a4, a5, a6, a7⟩] w (MayP ⟨1, a0, a1, a2, a3, a4, a5, a6, a7⟩ w) := by
  have he := eq97
  go_enter Try.func51, Try.ntmps51
  go_wp2
  refine wp_loop_rounds 2 ?_
  repeat (rw [rounds_succ]; go_wp2)
  go_ret
  refine may_end (by simp [Rt.may, Rt.ok]) ?_
  exact (((Below.refl _ _).alloc (Nat.le_refl _) _).alloc (by simp) _)

set_option maxRecDepth 100000 in
set_option maxHeartbeats 1000000 in
theorem may_2 (a0 a1 a2 a3 a4 a5 a6 a7 : Int) (w : World) : Calls Try.prog 51 #[rv ⟨2, a0, a1, a2, a3, a4, a5, a6, a7⟩] w (MayP ⟨2, a0, a1, a2, a3, a4, a5, a6, a7⟩ w) := by
  have he := eq97
  go_enter Try.func51, Try.ntmps51
  go_wp2
  refine wp_loop_rounds 3 ?_
  repeat (rw [rounds_succ]; go_wp2)
  go_ret
  refine may_end (by simp [Rt.may, Rt.ok]) ?_
  exact (((Below.refl _ _).alloc (Nat.le_refl _) _).alloc (by simp) _)

set_option maxRecDepth 100000 in
set_option maxHeartbeats 1000000 in
theorem may_3 (a0 a1 a2 a3 a4 a5 a6 a7 : Int) (w : World) : Calls Try.prog 51 #[rv ⟨3, a0, a1, a2, a3, a4, a5, a6, a7⟩] w (MayP ⟨3, a0, a1, a2, a3, a4, a5, a6, a7⟩ w) := by
  have he := eq97
  go_enter Try.func51, Try.ntmps51
  go_wp2
  refine wp_loop_rounds 4 ?_
  repeat (rw [rounds_succ]; go_wp2)
  go_ret
  refine may_end (by simp [Rt.may, Rt.ok]) ?_
  exact (((Below.refl _ _).alloc (Nat.le_refl _) _).alloc (by simp) _)

set_option maxRecDepth 100000 in
set_option maxHeartbeats 1000000 in
theorem may_4 (a0 a1 a2 a3 a4 a5 a6 a7 : Int) (w : World) : Calls Try.prog 51 #[rv ⟨4, a0, a1, a2, a3, a4, a5, a6, a7⟩] w (MayP ⟨4, a0, a1, a2, a3, a4, a5, a6, a7⟩ w) := by
  have he := eq97
  go_enter Try.func51, Try.ntmps51
  go_wp2
  refine wp_loop_rounds 5 ?_
  repeat (rw [rounds_succ]; go_wp2)
  go_ret
  refine may_end (by simp [Rt.may, Rt.ok]) ?_
  exact (((Below.refl _ _).alloc (Nat.le_refl _) _).alloc (by simp) _)

set_option maxRecDepth 100000 in
set_option maxHeartbeats 1000000 in
theorem may_5 (a0 a1 a2 a3 a4 a5 a6 a7 : Int) (w : World) : Calls Try.prog 51 #[rv ⟨5, a0, a1, a2, a3, a4, a5, a6, a7⟩] w (MayP ⟨5, a0, a1, a2, a3, a4, a5, a6, a7⟩ w) := by
  have he := eq97
  go_enter Try.func51, Try.ntmps51
  go_wp2
  refine wp_loop_rounds 6 ?_
  repeat (rw [rounds_succ]; go_wp2)
  go_ret
  refine may_end (by simp [Rt.may, Rt.ok]) ?_
  exact (((Below.refl _ _).alloc (Nat.le_refl _) _).alloc (by simp) _)

set_option maxRecDepth 100000 in
set_option maxHeartbeats 1000000 in
theorem may_6 (a0 a1 a2 a3 a4 a5 a6 a7 : Int) (w : World) : Calls Try.prog 51 #[rv ⟨6, a0, a1, a2, a3, a4, a5, a6, a7⟩] w (MayP ⟨6, a0, a1, a2, a3, a4, a5, a6, a7⟩ w) := by
  have he := eq97
  go_enter Try.func51, Try.ntmps51
  go_wp2
  refine wp_loop_rounds 7 ?_
  repeat (rw [rounds_succ]; go_wp2)
  go_ret
  refine may_end (by simp [Rt.may, Rt.ok]) ?_
  exact (((Below.refl _ _).alloc (Nat.le_refl _) _).alloc (by simp) _)

set_option maxRecDepth 100000 in
set_option maxHeartbeats 1000000 in
theorem may_7 (a0 a1 a2 a3 a4 a5 a6 a7 : Int) (w : World) : Calls Try.prog 51 #[rv ⟨7, a0, a1, a2, a3, a4, a5, a6, a7⟩] w (MayP ⟨7, a0, a1, a2, a3, a4, a5, a6, a7⟩ w) := by
  have he := eq97
  go_enter Try.func51, Try.ntmps51
  go_wp2
  refine wp_loop_rounds 8 ?_
  repeat (rw [rounds_succ]; go_wp2)
  go_ret
  refine may_end (by simp [Rt.may, Rt.ok]) ?_
  exact (((Below.refl _ _).alloc (Nat.le_refl _) _).alloc (by simp) _)

set_option maxRecDepth 100000 in
set_option maxHeartbeats 1000000 in
theorem may_8 (a0 a1 a2 a3 a4 a5 a6 a7 : Int) (w : World) : Calls Try.prog 51 #[rv ⟨8, a0, a1, a2, a3, a4, a5, a6, a7⟩] w (MayP ⟨8, a0, a1, a2, a3, a4, a5, a6, a7⟩ w) := by
  have he := eq97
  go_enter Try.func51, Try.ntmps51
  go_wp2
  refine wp_loop_rounds 9 ?_
  repeat (rw [rounds_succ]; go_wp2)
  go_ret
  refine may_end (by simp [Rt.may, Rt.ok]) ?_
  exact (((Below.refl _ _).alloc (Nat.le_refl _) _).alloc (by simp) _)

theorem may_any (r : Rt) (w : World) : Calls Try.prog 51 #[rv r] w (MayP r w) := by
  obtain ⟨n, a0, a1, a2, a3, a4, a5, a6, a7⟩ := r
  by_cases h : n < 0
  · exact may_lt _ _ _ _ _ _ _ _ _ w h
  by_cases h1 : 8 < n
  · exact may_gt _ _ _ _ _ _ _ _ _ w h1
  have hn : n = 0 ∨ n = 1 ∨ n = 2 ∨ n = 3 ∨ n = 4 ∨ n = 5 ∨ n = 6 ∨ n = 7 ∨ n = 8 := by omega
  rcases hn with rfl | rfl | rfl | rfl | rfl | rfl | rfl | rfl | rfl
  · exact may_0 _ _ _ _ _ _ _ _ w
  · exact may_1 _ _ _ _ _ _ _ _ w
  · exact may_2 _ _ _ _ _ _ _ _ w
  · exact may_3 _ _ _ _ _ _ _ _ w
  · exact may_4 _ _ _ _ _ _ _ _ w
  · exact may_5 _ _ _ _ _ _ _ _ w
  · exact may_6 _ _ _ _ _ _ _ _ w
  · exact may_7 _ _ _ _ _ _ _ _ w
  · exact may_8 _ _ _ _ _ _ _ _ w

set_option maxRecDepth 100000 in
set_option maxHeartbeats 1000000 in
theorem May_lt (n a0 a1 a2 a3 a4 a5 a6 a7 : Int) (w : World) (h : n < 0) : Calls Try.prog 52 #[rv ⟨n, a0, a1, a2, a3, a4, a5, a6, a7⟩] w (MayP ⟨n, a0, a1, a2, a3, a4, a5, a6, a7⟩ w) := by
  go_enter Try.func52, Try.ntmps52
  go_wp2
  go_ret
  exact may_end (may_no _ (by simp [Rt.ok]; omega)) ((Below.refl _ _).alloc (Nat.le_refl _) _)

set_option maxRecDepth 100000 in
set_option maxHeartbeats 1000000 in
theorem May_gt (n a0 a1 a2 a3 a4 a5 a6 a7 : Int) (w : World) (h1 : 8 < n) : Calls Try.prog 52 #[rv ⟨n, a0, a1, a2, a3, a4, a5, a6, a7⟩] w (MayP ⟨n, a0, a1, a2, a3, a4, a5, a6, a7⟩ w) := by
  have h : ¬ n < 0 := by omega
  go_enter Try.func52, Try.ntmps52
  go_wp2
  go_ret
  exact may_end (may_no _ (by simp [Rt.ok]; omega)) ((Below.refl _ _).alloc (Nat.le_refl _) _)

set_option maxRecDepth 100000 in
set_option maxHeartbeats 1000000 in
theorem May_0 (a0 a1 a2 a3 a4 a5 a6 a7 : Int) (w : World) : Calls Try.prog 52 #[rv ⟨0, a0, a1, a2, a3, a4, a5, a6, a7⟩] w (MayP ⟨0, a0, a1, a2, a3, a4, a5, a6, a7⟩ w) := by
  go_enter Try.func52, Try.ntmps52
  go_wp2
  refine wp_loop_rounds 9 ?_
  rw [rounds_succ]; go_wp2
  · go_ret
    exact may_end (by simp_all [Rt.may, Rt.ok]) ((Below.refl _ _).alloc (Nat.le_refl _) _)
  rw [rounds_succ]; go_wp2
  · go_ret
    exact may_end (by simp_all [Rt.may, Rt.ok]) ((Below.refl _ _).alloc (Nat.le_refl _) _)
  rw [rounds_succ]; go_wp2
  · go_ret
    exact may_end (by simp_all [Rt.may, Rt.ok]) ((Below.refl _ _).alloc (Nat.le_refl _) _)
  rw [rounds_succ]; go_wp2
  · go_ret
    exact may_end (by simp_all [Rt.may, Rt.ok]) ((Below.refl _ _).alloc (Nat.le_refl _) _)
  rw [rounds_succ]; go_wp2
  · go_ret
    exact may_end (by simp_all [Rt.may, Rt.ok]) ((Below.refl _ _).alloc (Nat.le_refl _) _)
  rw [rounds_succ]; go_wp2
  · go_ret
    exact may_end (by simp_all [Rt.may, Rt.ok]) ((Below.refl _ _).alloc (Nat.le_refl _) _)
  rw [rounds_succ]; go_wp2
  · go_ret
    exact may_end (by simp_all [Rt.may, Rt.ok]) ((Below.refl _ _).alloc (Nat.le_refl _) _)
  rw [rounds_succ]; go_wp2
  · go_ret
    exact may_end (by simp_all [Rt.may, Rt.ok]) ((Below.refl _ _).alloc (Nat.le_refl _) _)
  rw [rounds_succ]; go_wp2
  go_ret
  exact may_end (by simp_all [Rt.may, Rt.ok]) ((Below.refl _ _).alloc (Nat.le_refl _) _)

set_option maxRecDepth 100000 in
set_option maxHeartbeats 1000000 in
theorem May_1 (a0 a1 a2 a3 a4 a5 a6 a7 : Int) (w : World) : Calls Try.prog 52 #[rv ⟨1, a0, a1, a2, a3, a4, a5, a6, a7⟩] w (MayP ⟨1, a0, a1, a2, a3, a4, a5, a6, a7⟩ w) := by
  go_enter Try.func52, Try.ntmps52
  go_wp2
  refine wp_loop_rounds 8 ?_
  rw [rounds_succ]; go_wp2
  · go_ret
    exact may_end (by simp_all [Rt.may, Rt.ok]) ((Below.refl _ _).alloc (Nat.le_refl _) _)
  rw [rounds_succ]; go_wp2
  · go_ret
    exact may_end (by simp_all [Rt.may, Rt.ok]) ((Below.refl _ _).alloc (Nat.le_refl _) _)
  rw [rounds_succ]; go_wp2
  · go_ret
    exact may_end (by simp_all [Rt.may, Rt.ok]) ((Below.refl _ _).alloc (Nat.le_refl _) _)
  rw [rounds_succ]; go_wp2
  · go_ret
    exact may_end (by simp_all [Rt.may, Rt.ok]) ((Below.refl _ _).alloc (Nat.le_refl _) _)
  rw [rounds_succ]; go_wp2
  · go_ret
    exact may_end (by simp_all [Rt.may, Rt.ok]) ((Below.refl _ _).alloc (Nat.le_refl _) _)
  rw [rounds_succ]; go_wp2
  · go_ret
    exact may_end (by simp_all [Rt.may, Rt.ok]) ((Below.refl _ _).alloc (Nat.le_refl _) _)
  rw [rounds_succ]; go_wp2
  · go_ret
    exact may_end (by simp_all [Rt.may, Rt.ok]) ((Below.refl _ _).alloc (Nat.le_refl _) _)
  rw [rounds_succ]; go_wp2
  go_ret
  exact may_end (by simp_all [Rt.may, Rt.ok]) ((Below.refl _ _).alloc (Nat.le_refl _) _)

set_option maxRecDepth 100000 in
set_option maxHeartbeats 1000000 in
theorem May_2 (a0 a1 a2 a3 a4 a5 a6 a7 : Int) (w : World) : Calls Try.prog 52 #[rv ⟨2, a0, a1, a2, a3, a4, a5, a6, a7⟩] w (MayP ⟨2, a0, a1, a2, a3, a4, a5, a6, a7⟩ w) := by
  go_enter Try.func52, Try.ntmps52
  go_wp2
  refine wp_loop_rounds 7 ?_
  rw [rounds_succ]; go_wp2
  · go_ret
    exact may_end (by simp_all [Rt.may, Rt.ok]) ((Below.refl _ _).alloc (Nat.le_refl _) _)
  rw [rounds_succ]; go_wp2
  · go_ret
    exact may_end (by simp_all [Rt.may, Rt.ok]) ((Below.refl _ _).alloc (Nat.le_refl _) _)
  rw [rounds_succ]; go_wp2
  · go_ret
    exact may_end (by simp_all [Rt.may, Rt.ok]) ((Below.refl _ _).alloc (Nat.le_refl _) _)
  rw [rounds_succ]; go_wp2
  · go_ret
    exact may_end (by simp_all [Rt.may, Rt.ok]) ((Below.refl _ _).alloc (Nat.le_refl _) _)
  rw [rounds_succ]; go_wp2
  · go_ret
    exact may_end (by simp_all [Rt.may, Rt.ok]) ((Below.refl _ _).alloc (Nat.le_refl _) _)
  rw [rounds_succ]; go_wp2
  · go_ret
    exact may_end (by simp_all [Rt.may, Rt.ok]) ((Below.refl _ _).alloc (Nat.le_refl _) _)
  rw [rounds_succ]; go_wp2
  go_ret
  exact may_end (by simp_all [Rt.may, Rt.ok]) ((Below.refl _ _).alloc (Nat.le_refl _) _)

set_option maxRecDepth 100000 in
set_option maxHeartbeats 1000000 in
theorem May_3 (a0 a1 a2 a3 a4 a5 a6 a7 : Int) (w : World) : Calls Try.prog 52 #[rv ⟨3, a0, a1, a2, a3, a4, a5, a6, a7⟩] w (MayP ⟨3, a0, a1, a2, a3, a4, a5, a6, a7⟩ w) := by
  go_enter Try.func52, Try.ntmps52
  go_wp2
  refine wp_loop_rounds 6 ?_
  rw [rounds_succ]; go_wp2
  · go_ret
    exact may_end (by simp_all [Rt.may, Rt.ok]) ((Below.refl _ _).alloc (Nat.le_refl _) _)
  rw [rounds_succ]; go_wp2
  · go_ret
    exact may_end (by simp_all [Rt.may, Rt.ok]) ((Below.refl _ _).alloc (Nat.le_refl _) _)
  rw [rounds_succ]; go_wp2
  · go_ret
    exact may_end (by simp_all [Rt.may, Rt.ok]) ((Below.refl _ _).alloc (Nat.le_refl _) _)
  rw [rounds_succ]; go_wp2
  · go_ret
    exact may_end (by simp_all [Rt.may, Rt.ok]) ((Below.refl _ _).alloc (Nat.le_refl _) _)
  rw [rounds_succ]; go_wp2
  · go_ret
    exact may_end (by simp_all [Rt.may, Rt.ok]) ((Below.refl _ _).alloc (Nat.le_refl _) _)
  rw [rounds_succ]; go_wp2
  go_ret
  exact may_end (by simp_all [Rt.may, Rt.ok]) ((Below.refl _ _).alloc (Nat.le_refl _) _)

set_option maxRecDepth 100000 in
set_option maxHeartbeats 1000000 in
theorem May_4 (a0 a1 a2 a3 a4 a5 a6 a7 : Int) (w : World) : Calls Try.prog 52 #[rv ⟨4, a0, a1, a2, a3, a4, a5, a6, a7⟩] w (MayP ⟨4, a0, a1, a2, a3, a4, a5, a6, a7⟩ w) := by
  go_enter Try.func52, Try.ntmps52
  go_wp2
  refine wp_loop_rounds 5 ?_
  rw [rounds_succ]; go_wp2
  · go_ret
    exact may_end (by simp_all [Rt.may, Rt.ok]) ((Below.refl _ _).alloc (Nat.le_refl _) _)
  rw [rounds_succ]; go_wp2
  · go_ret
    exact may_end (by simp_all [Rt.may, Rt.ok]) ((Below.refl _ _).alloc (Nat.le_refl _) _)
  rw [rounds_succ]; go_wp2
  · go_ret
    exact may_end (by simp_all [Rt.may, Rt.ok]) ((Below.refl _ _).alloc (Nat.le_refl _) _)
  rw [rounds_succ]; go_wp2
  · go_ret
    exact may_end (by simp_all [Rt.may, Rt.ok]) ((Below.refl _ _).alloc (Nat.le_refl _) _)
  rw [rounds_succ]; go_wp2
  go_ret
  exact may_end (by simp_all [Rt.may, Rt.ok]) ((Below.refl _ _).alloc (Nat.le_refl _) _)

set_option maxRecDepth 100000 in
set_option maxHeartbeats 1000000 in
theorem May_5 (a0 a1 a2 a3 a4 a5 a6 a7 : Int) (w : World) : Calls Try.prog 52 #[rv ⟨5, a0, a1, a2, a3, a4, a5, a6, a7⟩] w (MayP ⟨5, a0, a1, a2, a3, a4, a5, a6, a7⟩ w) := by
  go_enter Try.func52, Try.ntmps52
  go_wp2
  refine wp_loop_rounds 4 ?_
  rw [rounds_succ]; go_wp2
  · go_ret
    exact may_end (by simp_all [Rt.may, Rt.ok]) ((Below.refl _ _).alloc (Nat.le_refl _) _)
  rw [rounds_succ]; go_wp2
  · go_ret
    exact may_end (by simp_all [Rt.may, Rt.ok]) ((Below.refl _ _).alloc (Nat.le_refl _) _)
  rw [rounds_succ]; go_wp2
  · go_ret
    exact may_end (by simp_all [Rt.may, Rt.ok]) ((Below.refl _ _).alloc (Nat.le_refl _) _)
  rw [rounds_succ]; go_wp2
  go_ret
  exact may_end (by simp_all [Rt.may, Rt.ok]) ((Below.refl _ _).alloc (Nat.le_refl _) _)

set_option maxRecDepth 100000 in
set_option maxHeartbeats 1000000 in
theorem May_6 (a0 a1 a2 a3 a4 a5 a6 a7 : Int) (w : World) : Calls Try.prog 52 #[rv ⟨6, a0, a1, a2, a3, a4, a5, a6, a7⟩] w (MayP ⟨6, a0, a1, a2, a3, a4, a5, a6, a7⟩ w) := by
  go_enter Try.func52, Try.ntmps52
  go_wp2
  refine wp_loop_rounds 3 ?_
  rw [rounds_succ]; go_wp2
  · go_ret
    exact may_end (by simp_all [Rt.may, Rt.ok]) ((Below.refl _ _).alloc (Nat.le_refl _) _)
  rw [rounds_succ]; go_wp2
  · go_ret
    exact may_end (by simp_all [Rt.may, Rt.ok]) ((Below.refl _ _).alloc (Nat.le_refl _) _)
  rw [rounds_succ]; go_wp2
  go_ret
  exact may_end (by simp_all [Rt.may, Rt.ok]) ((Below.refl _ _).alloc (Nat.le_refl _) _)

set_option maxRecDepth 100000 in
set_option maxHeartbeats 1000000 in
theorem May_7 (a0 a1 a2 a3 a4 a5 a6 a7 : Int) (w : World) : Calls Try.prog 52 #[rv ⟨7, a0, a1, a2, a3, a4, a5, a6, a7⟩] w (MayP ⟨7, a0, a1, a2, a3, a4, a5, a6, a7⟩ w) := by
  go_enter Try.func52, Try.ntmps52
  go_wp2
  refine wp_loop_rounds 2 ?_
  rw [rounds_succ]; go_wp2
  · go_ret
    exact may_end (by simp_all [Rt.may, Rt.ok]) ((Below.refl _ _).alloc (Nat.le_refl _) _)
  rw [rounds_succ]; go_wp2
  go_ret
  exact may_end (by simp_all [Rt.may, Rt.ok]) ((Below.refl _ _).alloc (Nat.le_refl _) _)

set_option maxRecDepth 100000 in
set_option maxHeartbeats 1000000 in
theorem May_8 (a0 a1 a2 a3 a4 a5 a6 a7 : Int) (w : World) : Calls Try.prog 52 #[rv ⟨8, a0, a1, a2, a3, a4, a5, a6, a7⟩] w (MayP ⟨8, a0, a1, a2, a3, a4, a5, a6, a7⟩ w) := by
  go_enter Try.func52, Try.ntmps52
  go_wp2
  refine wp_loop_rounds 1 ?_
  rw [rounds_succ]; go_wp2
  go_ret
  exact may_end (by simp_all [Rt.may, Rt.ok]) ((Below.refl _ _).alloc (Nat.le_refl _) _)

theorem May_any (r : Rt) (w : World) : Calls Try.prog 52 #[rv r] w (MayP r w) := by
  obtain ⟨n, a0, a1, a2, a3, a4, a5, a6, a7⟩ := r
  by_cases h : n < 0
  · exact May_lt _ _ _ _ _ _ _ _ _ w h
  by_cases h1 : 8 < n
  · exact May_gt _ _ _ _ _ _ _ _ _ w h1
  have hn : n = 0 ∨ n = 1 ∨ n = 2 ∨ n = 3 ∨ n = 4 ∨ n = 5 ∨ n = 6 ∨ n = 7 ∨ n = 8 := by omega
  rcases hn with rfl | rfl | rfl | rfl | rfl | rfl | rfl | rfl | rfl
  · exact May_0 _ _ _ _ _ _ _ _ w
  · exact May_1 _ _ _ _ _ _ _ _ w
  · exact May_2 _ _ _ _ _ _ _ _ w
  · exact May_3 _ _ _ _ _ _ _ _ w
  · exact May_4 _ _ _ _ _ _ _ _ w
  · exact May_5 _ _ _ _ _ _ _ _ w
  · exact May_6 _ _ _ _ _ _ _ _ w
  · exact May_7 _ _ _ _ _ _ _ _ w
  · exact May_8 _ _ _ _ _ _ _ _ w

end Go.Proofs.Ytlogojiphjpknaa
