/- flitlaw07.shown comes to true, and writes nothing that was there; kind. No condition. -/
import Derived.Test.YtlogojiphjpknaaGState
namespace Go.Proofs.Ytlogojiphjpknaa
open Go.RowKit
set_option linter.unusedVariables false

def gA : Gd := ⟨[⟨1, 1, 0, 0, 0, 0, 0, 0, 0⟩], [[⟨0, 0⟩, ⟨0, 0⟩]]⟩
def gB : Gd := ⟨[⟨1, 1, 0, 0, 0, 0, 0, 0, 0⟩], [[⟨0, 0⟩, ⟨1, 1⟩]]⟩
def gC : Gd := ⟨[⟨1, 1, 0, 0, 0, 0, 0, 0, 0⟩], [[⟨1, 0⟩, ⟨1, 1⟩]]⟩
theorem shown1 : (Gd.new 1).alloc 0 2 = (gA, 0) := by rfl
theorem shown2 : gA.write 0 0 1 ⟨1, 0⟩ = (gB, 0) := by rfl
theorem shown3 : gB.look 0 0 1 = (⟨1, 1⟩, 0) := by rfl
theorem shown4 : gB.Is [[1]] [[⟨0, 0⟩, ⟨1, 1⟩]] := ⟨by rfl, 1, by rfl, by rfl, fun i hi => by obtain rfl : i = 0 := (by omega); decide⟩
theorem shown5 : gB.swap 0 0 0 ⟨0, 0⟩ ⟨2, 0⟩ = (gC, true, 0) := by rfl
theorem shown6 : gC.swap 0 0 0 ⟨0, 0⟩ ⟨2, 0⟩ = (gC, false, 0) := by rfl
theorem shown7 : gC.eq 0 0 0 = (true, 0) := by rfl
theorem shown8 : gC.look 0 0 2 = (default, 15) := by rfl

def YesP (w : World) (e : Ending) (w' : World) : Prop := e = .returned (.bool true) ∧ Below w.heap.size w w'

set_option maxRecDepth 100000 in
set_option maxHeartbeats 4000000 in
theorem gshown_yes (w : World) : Calls Try.prog 26 #[] w (YesP w) := by
  go_enter Try.func26, Try.ntmps26
  go_wp2_with fail
  refine (new_s 1 (by omega) (by omega) _).mono ?_
  rintro e w1 ⟨p, rfl, hg⟩
  have HG1 := Lib.hid (alloc_s hg 0 2 (by decide))
  rw [shown1] at HG1
  clear hg
  go_wp2_with fail
  refine (HG1.out).mono ?_
  rintro e w2 ⟨rfl, hg, _⟩
  have HG2 := Lib.hid (write_s hg (by decide) 0 0 1 ⟨1, 0⟩)
  rw [shown2] at HG2
  clear hg HG1
  go_wp2_with fail
  refine (HG2.out).mono ?_
  rintro e w3 ⟨rfl, hg, _⟩
  have HG3 := Lib.hid (look_s hg 0 0 1)
  rw [shown3] at HG3
  clear hg HG2
  go_wp2_with fail
  refine (HG3.out).mono ?_
  rintro e w4 ⟨rfl, hg, _⟩
  have hgn := (hg.new (.cells #[.int .i64 1, .int .i64 1] 46)).less (D := fun k => k = w4.heap.size) (fun k hk => .inr hk)
  have HG4 := Lib.hid (shape_s hgn (by decide))
  have hB4 : w.heap.size ≤ w4.heap.size := hg.bl.size
  obtain ⟨b5, hb5⟩ : ∃ b5, b5 = w4.heap.size := ⟨_, rfl⟩
  rw [← hb5] at HG4
  have e0 : (w4.alloc (.cells #[.int .i64 1, .int .i64 1] 46)).cell? ⟨b5, 0, none⟩ = some (.int .i64 1) := by rw [hb5]; simp [go_sem]
  have e1 : (w4.alloc (.cells #[.int .i64 1, .int .i64 1] 46)).cell? ⟨b5, 1, none⟩ = some (.int .i64 1) := by rw [hb5]; simp [go_sem]
  have HE := Lib.hid (And.intro e0 e1)
  have HB5 := Lib.hid hb5
  clear hg HG3 hgn e0 e1 hb5
  go_wp2_with fail
  rw [← HB5.out]
  refine (HG4.out).mono ?_
  rintro e w5 ⟨R, L, Rv, Lv, his, rfl, hrd, hld, hg, hk, hb⟩
  obtain ⟨rfl, rfl⟩ := Gd.is_unique his shown4
  have f0 := (hk.cell rfl).trans HE.out.1
  have f1 := (hk.cell rfl).trans HE.out.2
  have hlt5 : b5 < w5.heap.size := block_lt f0
  have HRD := Lib.hid hrd.rd
  have HLD := Lib.hid hld.rd
  have HG5 := Lib.hid (hg.less (D := fun k => k = b5) (fun k hk => .inl hk))
  clear hrd hld hg hk hb his HG4 HE
  go_wp2_with fail
  have hb5w : Below w5.heap.size w5 ((((w5.alloc (.cells #[.int .i64 1] 3)).alloc (.cells #[.slice (some ⟨w5.heap.size, 0, none⟩) 1 1] 22)).alloc (.cells #[.int .i64 0, .int .i64 0, .int .i64 1, .int .i64 1] 46)).alloc (.cells #[.slice (some ⟨w5.heap.size + 2, 0, none⟩) 2 2] 67)) :=
    ((((Below.refl _ _).alloc (Nat.le_refl _) _).alloc (by simp) _).alloc (by simp; omega) _).alloc (by simp; omega) _
  have HL5 := Lib.hid (show Rd ((((w5.alloc (.cells #[.int .i64 1] 3)).alloc (.cells #[.slice (some ⟨w5.heap.size, 0, none⟩) 1 1] 22)).alloc (.cells #[.int .i64 0, .int .i64 0, .int .i64 1, .int .i64 1] 46)).alloc (.cells #[.slice (some ⟨w5.heap.size + 2, 0, none⟩) 2 2] 67)) (.slice (some ⟨w5.heap.size + 1, 0, none⟩) 1 1) [[1]] from by
    refine ⟨_, 1, rfl, fun i hi => ?_⟩
    obtain rfl : i = 0 := by simp at hi; omega
    refine ⟨w5.heap.size + 1, w5.heap.size, 1, rfl, by simp, by simp [go_sem], by simp; omega, by simp, fun j hj => ?_⟩
    obtain rfl : j = 0 := by simp at hj; omega
    simp [go_sem])
  have HM5 := Lib.hid (show Ld ((((w5.alloc (.cells #[.int .i64 1] 3)).alloc (.cells #[.slice (some ⟨w5.heap.size, 0, none⟩) 1 1] 22)).alloc (.cells #[.int .i64 0, .int .i64 0, .int .i64 1, .int .i64 1] 46)).alloc (.cells #[.slice (some ⟨w5.heap.size + 2, 0, none⟩) 2 2] 67)) (.slice (some ⟨w5.heap.size + 3, 0, none⟩) 1 1) [[⟨0, 0⟩, ⟨1, 1⟩]] from by
    refine ⟨_, 1, rfl, fun i hi => ?_⟩
    obtain rfl : i = 0 := by simp at hi; omega
    refine ⟨w5.heap.size + 3, w5.heap.size + 2, 2, rfl, by simp, by simp [go_sem], by simp, by simp, fun j hj => ?_⟩
    rcases (show j = 0 ∨ j = 1 by simp at hj; omega) with rfl | rfl <;> simp [go_sem])
  refine (same_any _ _ _ _ _ _ _ _ _ (HRD.out.below hb5w) (HLD.out.below hb5w) HL5.out HM5.out (by decide) (by decide) (by decide) (by decide)).mono ?_
  rintro e w6 ⟨sb, rfl, hsb, hb6⟩
  obtain rfl : sb = true := hsb.2 ⟨rfl, rfl⟩
  obtain ⟨hg, hk⟩ := HG5.out.below (hb5w.trans (hb6.mono hb5w.size))
  have g0 := (hk.cell rfl).trans f0
  have g1 := (hk.cell rfl).trans f1
  have HG6 := Lib.hid (swap_s hg (by decide) 0 0 0 ⟨0, 0⟩ ⟨2, 0⟩)
  rw [shown5] at HG6
  have HE6 := Lib.hid (And.intro g0 g1)
  clear hg hk hb6 hb5w hsb HL5 HM5 HRD HLD HG5 f0 f1 g0 g1 hlt5
  go_wp2_with fail
  refine (HG6.out).mono ?_
  rintro e w7 ⟨rfl, hg, hk⟩
  have g0 := (hk.cell rfl).trans HE6.out.1
  have g1 := (hk.cell rfl).trans HE6.out.2
  have HG7 := Lib.hid (swap_s hg (by decide) 0 0 0 ⟨0, 0⟩ ⟨2, 0⟩)
  rw [shown6] at HG7
  have HE7 := Lib.hid (And.intro g0 g1)
  clear hg hk HG6 HE6 g0 g1
  go_wp2_with fail
  refine (HG7.out).mono ?_
  rintro e w8 ⟨rfl, hg, hk⟩
  have g0 := (hk.cell rfl).trans HE7.out.1
  have g1 := (hk.cell rfl).trans HE7.out.2
  have HG8 := Lib.hid (eq_s hg 0 0 0)
  rw [shown7] at HG8
  have HE8 := Lib.hid (And.intro g0 g1)
  clear hg hk HG7 HE7 g0 g1
  go_wp2_with fail
  refine (HG8.out).mono ?_
  rintro e w9 ⟨rfl, hg, hk⟩
  have g0 := (hk.cell rfl).trans HE8.out.1
  have g1 := (hk.cell rfl).trans HE8.out.2
  have HG9 := Lib.hid (look_s hg 0 0 2)
  rw [shown8] at HG9
  have HE9 := Lib.hid (And.intro g0 g1)
  clear hg hk HG8 HE8 g0 g1
  go_wp2_with fail
  refine (HG9.out).mono ?_
  rintro e w10 ⟨rfl, hg, hk⟩
  have g0 := (hk.cell rfl).trans HE9.out.1
  have g1 := (hk.cell rfl).trans HE9.out.2
  have hlt : b5 < w10.heap.size := block_lt g0
  have HBL := Lib.hid hg.bl
  clear hg hk HG9 HE9
  go_wp2_with fail
  go_ret
  exact ⟨rfl, HBL.out.alloc HBL.out.size _⟩

end Go.Proofs.Ytlogojiphjpknaa
