/- flitlaw18.shown comes to true; few keeps the first seventy. No condition. -/
import Derived.Test.YtfncfcjaponeeaaPickW
namespace Go.Proofs.Ytfncfcjaponeeaa
open Go.RowKit

def YesP (w : World) (e : Ending) (w' : World) : Prop := e = .returned (.bool true) ∧ Below w.heap.size w w'

/-- numbers that came out of a call -/
def Outs (w : World) (A : Option Addr) (l : List Int) : Prop :=
  l = [] ∨ ∃ g, A = some ⟨g, 0, none⟩ ∧ g < w.heap.size ∧ ∀ j, j < l.length → w.cell? ⟨g, j, none⟩ = some (.int .i64 (l.getD j 0))

theorem Outs.below {w w' : World} {A : Option Addr} {l : List Int} (h : Outs w A l) (hb : Below w.heap.size w w') : Outs w' A l := by
  rcases h with h | ⟨g, hA, hlt, hc⟩
  · exact .inl h
  · exact .inr ⟨g, hA, Nat.lt_of_lt_of_le hlt hb.size, fun j hj => (hb.cell (p := ⟨g, j, none⟩) hlt).trans (hc j hj)⟩

theorem outs_of {w : World} {base : Nat} {ov : Value} {l : List Int} (h : w.ownsRow base 3 1 ov l.length (l.map (Value.int .i64))) : ∃ A c, ov = .slice A l.length c ∧ Outs w A l := by
  rcases h.2 with ⟨h1, h2⟩ | ⟨g, cap, cur, hv, hb, hh, hn, hm, hs, ht⟩
  · exact ⟨none, 0, by rw [h1, h2], .inl (List.eq_nil_of_length_eq_zero h2)⟩
  · refine ⟨some ⟨g, 0, none⟩, cap, hv, .inr ⟨g, rfl, ?_, fun j hj => ?_⟩⟩
    · rcases Nat.lt_or_ge g w.heap.size with h1 | h1
      · exact h1
      · rw [Array.getElem?_eq_none h1] at hh; cases hh
    · subst hv
      have := World.ownsRow.cellAt h j (by omega)
      rw [this, List.getElem?_map, List.getD_eq_getElem?_getD, List.getElem?_eq_getElem hj]
      rfl

def PickP (w : World) (ls : List (Int × Int)) (most : Int) (e : Ending) (w' : World) : Prop :=
  ∃ A c outs, e = .returned (.slice A (List.length outs) c) ∧ Outs w' A outs ∧ Below w.heap.size w w' ∧ Picked ls most outs

theorem pick_out (A : Option Addr) (n c : Nat) (most : Int) (ls : List (Int × Int)) (w : World) (hA : Cands w A n ls) (hn : n ≤ 1000) (hm : most ≤ 9223372036854775807) :
    Calls Try.prog 10 #[.slice A n c, .int .i64 most] w (PickP w ls most) :=
  (pick_any A n c most ls w hA hn hm).mono fun e w' ⟨ov, outs, he, ho, hb, hp⟩ => by
    obtain ⟨A', c', rfl, h⟩ := outs_of ho
    exact ⟨A', c', outs, he, h, hb, hp⟩

theorem picked_1 {o : List Int} (h : Picked [(3, 2), (1, 1), (2, 2)] 3 o) : o = [1, 2] := by
  have := h [⟨1, 1, 1⟩, ⟨2, 2, 2⟩, ⟨3, 2, 0⟩] ⟨by simp [lt], by
    show List.Perm (([⟨1, 1, 1⟩, ⟨2, 2, 2⟩] : List C) ++ [⟨3, 2, 0⟩]) (([⟨3, 2, 0⟩] : List C) ++ [⟨1, 1, 1⟩, ⟨2, 2, 2⟩])
    exact List.perm_append_comm⟩
  rw [this]; rfl
theorem picked_2 {o : List Int} (h : Picked [(1, 0), (2, 5)] 4 o) : o = [] := by
  have := h [⟨2, 5, 1⟩] ⟨by simp, List.Perm.refl _⟩
  rw [this]; rfl

set_option maxRecDepth 100000 in
set_option maxHeartbeats 1000000 in
theorem shown_yes (w : World) : Calls Try.prog 8 #[] w (YesP w) := by
  go_enter Try.func8, Try.ntmps8
  go_wp2_with fail
  refine (pick_out _ 3 _ _ [(3, 2), (1, 1), (2, 2)] _ ⟨rfl, .inr ⟨w.heap.size, 0, rfl, by simp, fun j hj => ?_⟩⟩ (by omega) (by omega)).mono ?_
  · rcases (show j = 0 ∨ j = 1 ∨ j = 2 by omega) with rfl | rfl | rfl <;> simp [go_sem]
  rintro e w1 ⟨A, c, o, rfl, ho, hb, hp⟩
  obtain rfl := picked_1 hp
  clear hp
  rcases ho with ho | ⟨g, rfl, hg, hc⟩
  · cases ho
  have c0 := hc 0 (by simp)
  have c1 := hc 1 (by simp)
  simp only [List.getD_cons_zero, List.getD_cons_succ] at c0 c1
  have HB := Lib.hid hb
  clear hb hc
  go_wp2_with fail
  refine (pick_out _ 2 _ _ [(1, 0), (2, 5)] _ ⟨rfl, .inr ⟨w1.heap.size, 0, rfl, by simp, fun j hj => ?_⟩⟩ (by omega) (by omega)).mono ?_
  · rcases (show j = 0 ∨ j = 1 by omega) with rfl | rfl <;> simp [go_sem]
  rintro e w2 ⟨A, c', o, rfl, ho, hb, hp⟩
  obtain rfl := picked_2 hp
  have d0 : w2.cell? ⟨g, 0, none⟩ = some (.int .i64 1) := (hb.cell (p := ⟨g, 0, none⟩) (by simp; omega)).trans (by simp [go_sem, c0, hg])
  have d1 : w2.cell? ⟨g, 1, none⟩ = some (.int .i64 2) := (hb.cell (p := ⟨g, 1, none⟩) (by simp; omega)).trans (by simp [go_sem, c1, hg])
  have HB2 := Lib.hid hb
  clear hb ho hp c0 c1
  go_wp2_with fail
  go_ret
  refine ⟨rfl, ?_⟩
  have h1 : Below w.heap.size w w1 := ((Below.refl _ _).alloc (Nat.le_refl _) _).trans (HB.out.mono (by simp))
  exact (h1.alloc h1.size _).trans (HB2.out.mono (by have := h1.size; simp; omega))

set_option maxHeartbeats 400000 in
theorem few_any (A : Option Addr) (n c : Nat) (w : World) (hc : n ≤ c) (hm : c ≤ 9223372036854775807) : Calls Try.prog 9 #[.slice A n c] w fun e w' => e = .returned (.slice A (min n 70) c) ∧ w = w' := by
  by_cases h : n ≤ 70
  · have h1 : ¬ (70 : Int) < n := by omega
    have h2 : min n 70 = n := by omega
    have H2 := Lib.hid h2
    clear h2
    go_enter Try.func9, Try.ntmps9
    go_wp2
    go_ret
    exact ⟨(by first | rfl | (simp; done) | (rw [H2.out]; rfl) | (rw [H2.out])), rfl⟩
  · have h1 : (70 : Int) < n := by omega
    have h2 : min n 70 = 70 := by omega
    have H2 := Lib.hid h2
    clear h2
    have h3 : ¬ (c : Int) < 70 := by omega
    have h4 : (70 : Nat) ≤ c := by omega
    go_enter Try.func9, Try.ntmps9
    go_wp2
    go_ret
    exact ⟨(by first | rfl | (simp; done) | (rw [H2.out]; rfl) | (rw [H2.out])), rfl⟩

end Go.Proofs.Ytfncfcjaponeeaa
