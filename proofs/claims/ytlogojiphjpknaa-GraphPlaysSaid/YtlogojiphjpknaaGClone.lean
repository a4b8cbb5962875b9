/- slices.Clone, of a row of fields and of a row of roots. Condition: at most a thousand. -/
import Derived.Test.YtlogojiphjpknaaGNew
import Derived.Test.YtlogojiphjpknaaGNamed
namespace Go.Proofs.Ytlogojiphjpknaa
open Go.RowKit
set_option linter.unusedVariables false

/-- a row of one's own that is not nil -/
def CloneP (base : Nat) (e : TypeId) (size n : Nat) (xs : List Value) (w : World) (x : Ending) (w' : World) : Prop :=
  ∃ g cap, x = .returned (.slice (some ⟨g, 0, none⟩) n cap) ∧ w.heap.size ≤ g ∧ w'.ownsRow base e size (.slice (some ⟨g, 0, none⟩) n cap) n xs ∧ Below w.heap.size w w'

theorem clone_form {w : World} {base n size : Nat} {e : TypeId} {v : Value} {xs : List Value} {g : Nat} (h : w.ownsRow base e size v n xs) (hv : v.ownBlock = some g) : ∃ cap, v = .slice (some ⟨g, 0, none⟩) n cap := by
  rcases h.2 with ⟨rfl, _⟩ | ⟨g', cap, cur, rfl, _⟩
  · cases hv
  · injection hv with hv
    exact ⟨cap, by rw [← hv]⟩

set_option maxRecDepth 100000 in
set_option maxHeartbeats 1000000 in
theorem cloneV (ad : Addr) (n c : Nat) (xs : List Value) (w : World) (hr : Reads w w.heap.size 2 (some ad) n xs) (h1 : ∀ u ∈ xs, u.oneCell' = true) (hn : n ≤ 1000) :
    Calls Try.prog 59 #[.slice (some ad) n c] w (CloneP w.heap.size 46 2 n xs w) := by
  obtain ⟨i, hi, hz, hs, hb⟩ := info_parts info46
  have HR := Lib.hid (hr.alloc (Nat.le_refl _) (.cells #[] 46))
  have HO := Lib.hid (show (w.alloc (.cells #[] 46)).ownsRow w.heap.size 46 2 (.slice (some ⟨w.heap.size, 0, none⟩) 0 0) 0 [] from World.ownsRow_lit w #[] 0 (Nat.le_refl _) (by unfold maxLen; omega) rfl)
  have hnil := fun (w : World) => Lib.run_eql_slice_nil (P := Try.prog) w 67 46 (some ad) n c 0 0 Try.underlying67
  clear hr
  go_enter Try.func59, Try.ntmps59
  go_wp2_with (at_builtin; refine wpList_append_any _ rfl (.tmp 5) (.tmp 6) _ rfl w.heap.size 46 i _ 2 16 Try.underlying67 hi hz hs hb rfl (by omega) (.slice (some ⟨w.heap.size, 0, none⟩) 0 0) 0 [] rfl HO.out w.heap.size (some ad) n c xs rfl HR.out h1 (by unfold maxLen; omega) (by omega) (by simp) ?_; intro v2 w2 hown2 hg2 hat2)
  have hown : w2.ownsRow w.heap.size 46 2 v2 n xs := by simpa using hown2
  have hb2 : Below w.heap.size w w2 := ((Below.refl _ _).alloc (Nat.le_refl _) _).grown hg2 (by simp) (by simp [Value.ownBlock])
  obtain ⟨g, hg⟩ : ∃ g, v2.ownBlock = some g := by rcases hat2 with h | h <;> exact ⟨_, h⟩
  obtain ⟨cap, rfl⟩ := clone_form hown hg
  have hge := (hown.lt g hg).1
  have HOWN := Lib.hid hown
  have HB2 := Lib.hid hb2
  clear hown2 hg2 hat2 hown hb2 hg
  go_wp2_with fail
  go_ret
  exact ⟨g, cap, rfl, hge, HOWN.out, HB2.out⟩

set_option maxRecDepth 100000 in
set_option maxHeartbeats 1000000 in
theorem cloneR (ad : Addr) (n c : Nat) (xs : List Value) (w : World) (hr : Reads w w.heap.size 9 (some ad) n xs) (h1 : ∀ u ∈ xs, u.oneCell' = true) (hn : n ≤ 1000) :
    Calls Try.prog 63 #[.slice (some ad) n c] w (CloneP w.heap.size 26 9 n xs w) := by
  obtain ⟨i, hi, hz, hs, hb⟩ := info_parts info26
  have HR := Lib.hid (hr.alloc (Nat.le_refl _) (.cells #[] 26))
  have HO := Lib.hid (show (w.alloc (.cells #[] 26)).ownsRow w.heap.size 26 9 (.slice (some ⟨w.heap.size, 0, none⟩) 0 0) 0 [] from World.ownsRow_lit w #[] 0 (Nat.le_refl _) (by unfold maxLen; omega) rfl)
  have hnil := fun (w : World) => Lib.run_eql_slice_nil (P := Try.prog) w 77 26 (some ad) n c 0 0 Try.underlying77
  clear hr
  go_enter Try.func63, Try.ntmps63
  go_wp2_with (at_builtin; refine wpList_append_any _ rfl (.tmp 5) (.tmp 6) _ rfl w.heap.size 26 i _ 9 72 Try.underlying77 hi hz hs hb rfl (by omega) (.slice (some ⟨w.heap.size, 0, none⟩) 0 0) 0 [] rfl HO.out w.heap.size (some ad) n c xs rfl HR.out h1 (by unfold maxLen; omega) (by omega) (by simp) ?_; intro v2 w2 hown2 hg2 hat2)
  have hown : w2.ownsRow w.heap.size 26 9 v2 n xs := by simpa using hown2
  have hb2 : Below w.heap.size w w2 := ((Below.refl _ _).alloc (Nat.le_refl _) _).grown hg2 (by simp) (by simp [Value.ownBlock])
  obtain ⟨g, hg⟩ : ∃ g, v2.ownBlock = some g := by rcases hat2 with h | h <;> exact ⟨_, h⟩
  obtain ⟨cap, rfl⟩ := clone_form hown hg
  have hge := (hown.lt g hg).1
  have HOWN := Lib.hid hown
  have HB2 := Lib.hid hb2
  clear hown2 hg2 hat2 hown hb2 hg
  go_wp2_with fail
  go_ret
  exact ⟨g, cap, rfl, hge, HOWN.out, HB2.out⟩

end Go.Proofs.Ytlogojiphjpknaa
