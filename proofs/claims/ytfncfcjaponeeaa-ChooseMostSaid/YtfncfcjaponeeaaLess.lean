/- (queue).Less, (queue).Swap: what they come to, over a row of candidates. -/
import Derived.Test.YtfncfcjaponeeaaExt
import Derived.Test.YtfncfcjaponeeaaPick
import Derived.Laws.OwnMore
import Derived.OwnWalk
import Derived.Deep.Draws
namespace Go.Proofs.Ytfncfcjaponeeaa
open Go.RowKit

/-- a row of candidates as cells -/
def flat : List C → List Value
  | [] => []
  | x :: h => .int .i64 x.b :: .int .i64 x.l :: .int .i64 x.a :: flat h

theorem flat_length : ∀ h : List C, (flat h).length = h.length * 3
  | [] => rfl
  | x :: h => by simp [flat, flat_length h]; omega
theorem flat_append (h k : List C) : flat (h ++ k) = flat h ++ flat k := by
  induction h with
  | nil => rfl
  | cons x h ih => simp [flat, ih]
theorem flat_at : ∀ (h : List C) (i : Nat), i < h.length → (flat h)[i * 3]? = some (.int .i64 (at_ h i).b) ∧ (flat h)[i * 3 + 1]? = some (.int .i64 (at_ h i).l) ∧ (flat h)[i * 3 + 2]? = some (.int .i64 (at_ h i).a)
  | [], i, hi => by simp at hi
  | x :: h, 0, _ => ⟨rfl, rfl, rfl⟩
  | x :: h, i + 1, hi => by
    have := flat_at h i (by simpa using hi)
    have e : at_ (x :: h) (i + 1) = at_ h i := rfl
    rw [e]
    simpa [flat, Nat.add_mul] using this
theorem flat_set : ∀ (h : List C) (i : Nat) (x : C), i < h.length → flat (h.set i x) = (((flat h).set (i * 3) (.int .i64 x.b)).set (i * 3 + 1) (.int .i64 x.l)).set (i * 3 + 2) (.int .i64 x.a)
  | [], i, _, hi => by simp at hi
  | y :: h, 0, x, _ => rfl
  | y :: h, i + 1, x, hi => by
    have := flat_set h i x (by simpa using hi)
    simp [flat, this, Nat.add_mul]

/-- a slice of the call's own that holds these candidates -/
def Row (w : World) (base g c : Nat) (h : List C) : Prop := w.ownsRow base 37 3 (.slice (some ⟨g, 0, none⟩) h.length c) h.length (flat h)

theorem Row.cells {w : World} {base g c : Nat} {h : List C} (hr : Row w base g c h) {i : Nat} (hi : i < h.length) :
    w.cell? ⟨g, i * 3, none⟩ = some (.int .i64 (at_ h i).b) ∧ w.cell? ⟨g, i * 3 + 1, none⟩ = some (.int .i64 (at_ h i).l) ∧ w.cell? ⟨g, i * 3 + 2, none⟩ = some (.int .i64 (at_ h i).a) := by
  obtain ⟨h0, h1, h2⟩ := flat_at h i hi
  exact ⟨(World.ownsRow.cellAt hr _ (by omega)).trans h0, (World.ownsRow.cellAt hr _ (by omega)).trans h1, (World.ownsRow.cellAt hr _ (by omega)).trans h2⟩
theorem Row.frozen {w : World} {base g c : Nat} {h : List C} (hr : Row w base g c h) (j : Nat) : w.frozen? ⟨g, j, none⟩ = false := World.ownsRow.frozenAt hr j
theorem Row.len {w : World} {base g c : Nat} {h : List C} (hr : Row w base g c h) : h.length ≤ c ∧ c ≤ 9223372036854775807 := by
  rcases hr.2 with ⟨h1, _⟩ | ⟨g', cap, cur, hv, _, _, h1, h2, _⟩
  · cases h1
  · injection hv with _ _ hc
    subst hc
    exact ⟨h1, h2⟩
theorem Row.set_ {w : World} {base g c : Nat} {h : List C} (hr : Row w base g c h) {i : Nat} (hi : i < h.length) (x : C) :
    Row (((w.setCell ⟨g, i * 3, none⟩ (.int .i64 x.b)).setCell ⟨g, i * 3 + 1, none⟩ (.int .i64 x.l)).setCell ⟨g, i * 3 + 2, none⟩ (.int .i64 x.a)) base g c (h.set i x) := by
  unfold Row
  rw [flat_set h i x hi, List.length_set]
  exact (World.ownsRow.stored (World.ownsRow.stored (World.ownsRow.stored hr _ _).1 _ _).1 _ _).1
theorem Row.drew {w : World} {base g c : Nat} {h : List C} (hr : Row w base g c h) : Row w.drew base g c h := hr

theorem grown_set {a w : World} {g : Nat} (h : a.grownBy w (some g)) (i : Nat) (u : Value) : a.grownBy (w.setCell ⟨g, i, none⟩ u) (some g) :=
  ⟨h.os, h.tape, h.output, by simpa [World.setCell] using h.size, fun k hk hne => (Below.heap_setCell w _ u k (by rintro rfl; exact hne rfl)).trans (h.block k hk hne)⟩
theorem grown_drew {a w : World} {row : Option Nat} (h : a.grownBy w row) : a.grownBy w.drew row := ⟨h.os, h.tape, h.output, h.size, h.block⟩

theorem less_end {b : Bool} {p : Prop} [Decidable p] (h : b = true ↔ p) : Ending.returned (.bool b) = .returned (.bool (decide p)) := by
  congr 2
  rw [Bool.eq_iff_iff, h]
  simp

set_option maxRecDepth 100000 in
set_option maxHeartbeats 1000000 in
theorem less_any (g n c i j : Nat) (x y : C) (w : World) (hi : i < n) (hj : j < n)
    (x0 : w.cell? ⟨g, i * 3, none⟩ = some (.int .i64 x.b)) (x1 : w.cell? ⟨g, i * 3 + 1, none⟩ = some (.int .i64 x.l)) (x2 : w.cell? ⟨g, i * 3 + 2, none⟩ = some (.int .i64 x.a))
    (y0 : w.cell? ⟨g, j * 3, none⟩ = some (.int .i64 y.b)) (y1 : w.cell? ⟨g, j * 3 + 1, none⟩ = some (.int .i64 y.l)) (y2 : w.cell? ⟨g, j * 3 + 2, none⟩ = some (.int .i64 y.a)) :
    Calls Try.prog 34 #[.slice (some ⟨g, 0, none⟩) n c, .int .i64 i, .int .i64 j] w fun e w' => e = .returned (.bool (decide (lt x y))) ∧ Below w.heap.size w w' := by
  have hg : g < w.heap.size := block_lt x0
  go_enter Try.func34, Try.ntmps34
  go_wp2
  go_region
  all_goals (
    go_wp2
    all_goals (
      go_ret
      refine ⟨less_end ?_, ?_⟩
      · simp_all [lt]
      · repeat (first | with_reducible exact Below.refl _ _ | refine below_drewN ?_ _ | refine Below.drew ?_ | refine below_ext ?_ (by simp [go_sem]) _ _ | refine Below.alloc ?_ (by simp [go_sem]) _)))

set_option maxRecDepth 100000 in
set_option maxHeartbeats 1000000 in
theorem swap_any (base g c i j : Nat) (h : List C) (w : World) (hr : Row w base g c h) (hi : i < h.length) (hj : j < h.length) :
    Calls Try.prog 35 #[.slice (some ⟨g, 0, none⟩) h.length c, .int .i64 i, .int .i64 j] w fun e w' => e = .returned (.tuple #[]) ∧ w.grownBy w' (some g) ∧ Row w' base g c (swp h i j) := by
  obtain ⟨x0, x1, x2⟩ := hr.cells hi
  obtain ⟨y0, y1, y2⟩ := hr.cells hj
  have hf := hr.frozen
  have HR := Lib.hid hr
  obtain ⟨hl1, hl2⟩ := hr.len
  clear hr
  by_cases hij : i = j
  · subst hij
    go_enter Try.func35, Try.ntmps35
    go_wp2
    go_region
    go_end0
    refine ⟨rfl, ?_, ((HR.out.set_ hi (at_ h i)).set_ (by simpa using hi) (at_ h i)).drew⟩
    exact grown_drew (grown_set (grown_set (grown_set (grown_set (grown_set (grown_set ⟨rfl, rfl, rfl, Nat.le_refl _, fun _ _ _ => rfl⟩ _ _) _ _) _ _) _ _) _ _) _ _)
  · go_enter Try.func35, Try.ntmps35
    go_wp2
    go_region
    go_end0
    refine ⟨rfl, ?_, ((HR.out.set_ hi (at_ h j)).set_ (by simpa using hj) (at_ h i)).drew⟩
    exact grown_drew (grown_set (grown_set (grown_set (grown_set (grown_set (grown_set ⟨rfl, rfl, rfl, Nat.le_refl _, fun _ _ _ => rfl⟩ _ _) _ _) _ _) _ _) _ _) _ _)

end Go.Proofs.Ytfncfcjaponeeaa
