/- container/heap.down over choose's queue, from the place 0 on. Condition: at most a million candidates. -/
import Derived.Test.YtfncfcjaponeeaaUp
namespace Go.Proofs.Ytfncfcjaponeeaa
open Go.RowKit

theorem down_fuel : ∀ (f f' : Nat) (h : List C) (i n : Nat), n ≤ f + i → n ≤ f' + i → down f h i n = down f' h i n
  | 0, 0, _, _, _, _, _ => rfl
  | 0, f' + 1, h, i, n, hf, _ => by unfold down; rw [if_neg (by omega)]
  | f + 1, 0, h, i, n, _, hf => by unfold down; rw [if_neg (by omega)]
  | f + 1, f' + 1, h, i, n, hf, hf' => by
    unfold down
    by_cases h0 : 2 * i + 1 < n
    · rw [if_pos h0, if_pos h0]
      have := child_gt h i n
      rw [down_fuel f f' _ _ n (by omega) (by omega)]
    · rw [if_neg h0, if_neg h0]

def SomeBool (e : Ending) : Prop := ∃ b, e = .returned (.bool b)

/-- down, seen from a place on the way -/
def DownRel (w : World) (base p g c L n : Nat) (goal : List C) (i : Nat) (h : List C) (wr : World) : Prop :=
  h.length = L ∧ (i < n ∨ i = 0) ∧ down n h i n = goal ∧ Box wr p (.slice (some ⟨g, 0, none⟩) L c) ∧ Row wr base g c h ∧ w.grownBy wr (some g)

set_option maxRecDepth 100000 in
set_option maxHeartbeats 4000000 in
theorem down_any (base p g c n : Nat) (h : List C) (w : World) (hb : Box w p (.slice (some ⟨g, 0, none⟩) h.length c)) (hr : Row w base g c h) (hn : n ≤ h.length) (hm : h.length ≤ 1000000) :
    Calls Try.prog 16 #[.iface 35 (.pointer (some ⟨p, 0, none⟩)), .int .i64 0, .int .i64 n] w fun e w' => SomeBool e ∧ w.grownBy w' (some g) ∧ Row w' base g c (down n h 0 n) := by
  have hl := hr.len
  have HREL : DownRel w base p g c h.length n (down n h 0 n) 0 h w := ⟨rfl, .inr rfl, rfl, hb, hr, grown_refl _ _⟩
  obtain ⟨hl1, hl2⟩ := hl
  generalize down n h 0 n = goal at *
  generalize h.length = L at *
  clear hb hr
  go_enter Try.func16, Try.ntmps16
  go_wp2
  go_loopw [7] (fun s7 wr => ∃ (i : Nat) (h : List C), s7 = .int .i64 i ∧ DownRel w base p g c L n goal i h wr) (fun s7 _ => n - (intOf s7).toNat)
  case atStart => exact ⟨0, h, rfl, HREL⟩
  case round =>
    clear HREL
    obtain ⟨i, h, rfl, hlen, hi, hgoal, hbox, hrow, hgr⟩ := hrel
    have HG := Lib.hid hgoal
    have HLEN := Lib.hid hlen
    have HBOX := Lib.hid hbox
    have HROW := Lib.hid hrow
    have HGR := Lib.hid hgr
    have HI := Lib.hid hi
    obtain ⟨a, ha⟩ : ∃ a : Nat, a = 2 * i + 1 := ⟨_, rfl⟩
    have HA := Lib.hid ha
    have ea : 2 * (i : Int) + 1 = (a : Int) := by omega
    have ea0 : ¬ (a : Int) < 0 := by omega
    have hi2 : i ≤ 1000000 := by omega
    clear hgoal hlen hgr hi
    by_cases han : a < n
    · have han' : ¬ (n : Int) ≤ (a : Int) := by omega
      have hin : i < n := by omega
      obtain ⟨b, hb⟩ : ∃ b : Nat, b = a + 1 := ⟨_, rfl⟩
      have HB := Lib.hid hb
      have eb : (a : Int) + 1 = (b : Int) := by omega
      have han2 : a ≤ 1000000 := by omega
      have hmL := via_less p _ wr hbox.cell
      have hnL : n ≤ L := hn
      clear hbox hrow ha hb
      by_cases hbn : b < n
      · have HL := Lib.hid (show Calls Try.prog 34 #[.slice (some ⟨g, 0, none⟩) L c, .int .i64 b, .int .i64 a] wr fun e w' => e = .returned (.bool (decide (lt (at_ h b) (at_ h a)))) ∧ Below wr.heap.size wr w' by
          have := HROW.out; rw [← HLEN.out]; exact less_row this (by rw [HLEN.out]; omega) (by rw [HLEN.out]; omega))
        have hbn' : (b : Int) < (n : Int) := by omega
        by_cases hlt : lt (at_ h b) (at_ h a)
        · have hd : decide (lt (at_ h b) (at_ h a)) = true := by simpa using hlt
          have hch : child h i n = b := by unfold child; rw [show 2 * i + 2 = b by have := HA.out; have := HB.out; omega, show 2 * i + 1 = a from HA.out.symm, if_pos ⟨hbn, hlt⟩]
          rw [hd] at HL
          go_wp2_with fail
          refine (HL.out).mono ?_
          rintro e w1 ⟨rfl, hb1⟩
          have HB1 := Lib.hid hb1
          have HBOX1 := Lib.hid (HBOX.out.grown (grown_below (row := none) hb1) (by simp))
          have HROW1 := Lib.hid (HROW.out.grown (grown_below (row := none) hb1) (by simp))
          have HGR1 := Lib.hid (grown_trans HGR.out (grown_below hb1))
          clear hb1 hmL HL hd hlt
          have hmL := via_less p _ w1 HBOX1.out.cell
          have HCH := Lib.hid hch
          clear hch
          have hcn : b < n := by omega
          have HL2 := Lib.hid (show Calls Try.prog 34 #[.slice (some ⟨g, 0, none⟩) L c, .int .i64 b, .int .i64 i] w1 fun e w' => e = .returned (.bool (decide (lt (at_ h b) (at_ h i)))) ∧ Below w1.heap.size w1 w' by
            have := HROW1.out; rw [← HLEN.out]; exact less_row this (by rw [HLEN.out]; omega) (by rw [HLEN.out]; omega))
          by_cases hlt2 : lt (at_ h b) (at_ h i)
          · have hd2 : decide (lt (at_ h b) (at_ h i)) = true := by simpa using hlt2
            rw [hd2] at HL2
            go_wp2_with fail
            refine (HL2.out).mono ?_
            rintro e w2 ⟨rfl, hb2⟩
            have HBOX2 := Lib.hid (HBOX1.out.grown (grown_below (row := none) hb2) (by simp))
            have HROW2 := Lib.hid (HROW1.out.grown (grown_below (row := none) hb2) (by simp))
            have HGR2 := Lib.hid (grown_trans HGR1.out (grown_below hb2))
            clear hb2 hmL HL2 hd2
            have hmS := via_swap p _ w2 HBOX2.out.cell
            have HS := Lib.hid (show Calls Try.prog 35 #[.slice (some ⟨g, 0, none⟩) L c, .int .i64 i, .int .i64 b] w2 fun e w' => e = .returned (.tuple #[]) ∧ w2.grownBy w' (some g) ∧ Row w' base g c (swp h i b) by
              have := HROW2.out
              rw [← HLEN.out]; exact swap_any base g c i b h w2 this (by rw [HLEN.out]; omega) (by rw [HLEN.out]; omega))
            go_wp2_with fail
            refine (HS.out).mono ?_
            rintro e w3 ⟨rfl, hg3, hr3⟩
            have HG3 := Lib.hid hg3
            have HR3 := Lib.hid hr3
            clear hg3 hr3 hmS
            go_wp2_with fail
            go_roundw
            case rel =>
              refine ⟨b, swp h i b, rfl, by rw [swp_length]; exact HLEN.out, .inl hcn, ?_, HBOX2.out.grown HG3.out (HBOX2.out.ne HROW2.out), HR3.out, grown_trans HGR2.out HG3.out⟩
              rw [← HG.out]
              obtain ⟨m, rfl⟩ : ∃ m, n = m + 1 := ⟨n - 1, by omega⟩
              conv => rhs; unfold down
              rw [if_pos (show 2 * i + 1 < m + 1 by have := HA.out; omega), HCH.out, if_pos hlt2]
              exact down_fuel _ _ _ _ _ (by omega) (by have := HA.out; have := HB.out; omega)
            case measure => have := HA.out; have := HB.out; simp [intOf]; omega
          · have hd2 : decide (lt (at_ h b) (at_ h i)) = false := by simpa using hlt2
            rw [hd2] at HL2
            go_wp2_with fail
            refine (HL2.out).mono ?_
            rintro e w2 ⟨rfl, hb2⟩
            have HB2 := Lib.hid hb2
            clear hb2 hmL HL2 hd2
            go_wp2_with fail
            go_ret
            have hdn : down n h i n = h := by
              cases n with
              | zero => rfl
              | succ n => unfold down; rw [if_pos (show 2 * i + 1 < n + 1 by have := HA.out; omega), HCH.out, if_neg hlt2]
            have hg : goal = h := by rw [← HG.out, hdn]
            exact ⟨⟨_, rfl⟩, grown_trans HGR1.out (grown_below HB2.out), by rw [hg]; exact HROW1.out.grown (grown_below (row := none) HB2.out) (by simp)⟩
        · have hd : decide (lt (at_ h b) (at_ h a)) = false := by simpa using hlt
          have hch : child h i n = a := by unfold child; rw [show 2 * i + 2 = b by have := HA.out; have := HB.out; omega, show 2 * i + 1 = a from HA.out.symm, if_neg (fun h => hlt h.2)]
          rw [hd] at HL
          go_wp2_with fail
          refine (HL.out).mono ?_
          rintro e w1 ⟨rfl, hb1⟩
          have HB1 := Lib.hid hb1
          have HBOX1 := Lib.hid (HBOX.out.grown (grown_below (row := none) hb1) (by simp))
          have HROW1 := Lib.hid (HROW.out.grown (grown_below (row := none) hb1) (by simp))
          have HGR1 := Lib.hid (grown_trans HGR.out (grown_below hb1))
          clear hb1 hmL HL hd hlt
          have hmL := via_less p _ w1 HBOX1.out.cell
          have HCH := Lib.hid hch
          clear hch
          have hcn : a < n := by omega
          have HL2 := Lib.hid (show Calls Try.prog 34 #[.slice (some ⟨g, 0, none⟩) L c, .int .i64 a, .int .i64 i] w1 fun e w' => e = .returned (.bool (decide (lt (at_ h a) (at_ h i)))) ∧ Below w1.heap.size w1 w' by
            have := HROW1.out; rw [← HLEN.out]; exact less_row this (by rw [HLEN.out]; omega) (by rw [HLEN.out]; omega))
          by_cases hlt2 : lt (at_ h a) (at_ h i)
          · have hd2 : decide (lt (at_ h a) (at_ h i)) = true := by simpa using hlt2
            rw [hd2] at HL2
            go_wp2_with fail
            refine (HL2.out).mono ?_
            rintro e w2 ⟨rfl, hb2⟩
            have HBOX2 := Lib.hid (HBOX1.out.grown (grown_below (row := none) hb2) (by simp))
            have HROW2 := Lib.hid (HROW1.out.grown (grown_below (row := none) hb2) (by simp))
            have HGR2 := Lib.hid (grown_trans HGR1.out (grown_below hb2))
            clear hb2 hmL HL2 hd2
            have hmS := via_swap p _ w2 HBOX2.out.cell
            have HS := Lib.hid (show Calls Try.prog 35 #[.slice (some ⟨g, 0, none⟩) L c, .int .i64 i, .int .i64 a] w2 fun e w' => e = .returned (.tuple #[]) ∧ w2.grownBy w' (some g) ∧ Row w' base g c (swp h i a) by
              have := HROW2.out
              rw [← HLEN.out]; exact swap_any base g c i a h w2 this (by rw [HLEN.out]; omega) (by rw [HLEN.out]; omega))
            go_wp2_with fail
            refine (HS.out).mono ?_
            rintro e w3 ⟨rfl, hg3, hr3⟩
            have HG3 := Lib.hid hg3
            have HR3 := Lib.hid hr3
            clear hg3 hr3 hmS
            go_wp2_with fail
            go_roundw
            case rel =>
              refine ⟨a, swp h i a, rfl, by rw [swp_length]; exact HLEN.out, .inl hcn, ?_, HBOX2.out.grown HG3.out (HBOX2.out.ne HROW2.out), HR3.out, grown_trans HGR2.out HG3.out⟩
              rw [← HG.out]
              obtain ⟨m, rfl⟩ : ∃ m, n = m + 1 := ⟨n - 1, by omega⟩
              conv => rhs; unfold down
              rw [if_pos (show 2 * i + 1 < m + 1 by have := HA.out; omega), HCH.out, if_pos hlt2]
              exact down_fuel _ _ _ _ _ (by omega) (by have := HA.out; have := HB.out; omega)
            case measure => have := HA.out; have := HB.out; simp [intOf]; omega
          · have hd2 : decide (lt (at_ h a) (at_ h i)) = false := by simpa using hlt2
            rw [hd2] at HL2
            go_wp2_with fail
            refine (HL2.out).mono ?_
            rintro e w2 ⟨rfl, hb2⟩
            have HB2 := Lib.hid hb2
            clear hb2 hmL HL2 hd2
            go_wp2_with fail
            go_ret
            have hdn : down n h i n = h := by
              cases n with
              | zero => rfl
              | succ n => unfold down; rw [if_pos (show 2 * i + 1 < n + 1 by have := HA.out; omega), HCH.out, if_neg hlt2]
            have hg : goal = h := by rw [← HG.out, hdn]
            exact ⟨⟨_, rfl⟩, grown_trans HGR1.out (grown_below HB2.out), by rw [hg]; exact HROW1.out.grown (grown_below (row := none) HB2.out) (by simp)⟩
      · have hbn' : decide ((b : Int) < (n : Int)) = false := by simp; omega
        have hch : child h i n = a := by unfold child; rw [show 2 * i + 2 = b by have := HA.out; have := HB.out; omega, show 2 * i + 1 = a from HA.out.symm, if_neg (fun h => hbn h.1)]
        have HW1 := Lib.hid (Below.refl wr.heap.size wr)
        obtain ⟨w1, hw1⟩ : ∃ w1, w1 = wr := ⟨_, rfl⟩
        have HBOX1 := HBOX
        have HROW1 := HROW
        have HGR1 := HGR
        rw [← hw1] at HBOX1 HROW1 HGR1 hmL ⊢
        clear hw1 HW1
        have HCH := Lib.hid hch
        clear hch
        have hcn : a < n := by omega
        have HL2 := Lib.hid (show Calls Try.prog 34 #[.slice (some ⟨g, 0, none⟩) L c, .int .i64 a, .int .i64 i] w1 fun e w' => e = .returned (.bool (decide (lt (at_ h a) (at_ h i)))) ∧ Below w1.heap.size w1 w' by
          have := HROW1.out; rw [← HLEN.out]; exact less_row this (by rw [HLEN.out]; omega) (by rw [HLEN.out]; omega))
        by_cases hlt2 : lt (at_ h a) (at_ h i)
        · have hd2 : decide (lt (at_ h a) (at_ h i)) = true := by simpa using hlt2
          rw [hd2] at HL2
          go_wp2_with fail
          refine (HL2.out).mono ?_
          rintro e w2 ⟨rfl, hb2⟩
          have HBOX2 := Lib.hid (HBOX1.out.grown (grown_below (row := none) hb2) (by simp))
          have HROW2 := Lib.hid (HROW1.out.grown (grown_below (row := none) hb2) (by simp))
          have HGR2 := Lib.hid (grown_trans HGR1.out (grown_below hb2))
          clear hb2 hmL HL2 hd2
          have hmS := via_swap p _ w2 HBOX2.out.cell
          have HS := Lib.hid (show Calls Try.prog 35 #[.slice (some ⟨g, 0, none⟩) L c, .int .i64 i, .int .i64 a] w2 fun e w' => e = .returned (.tuple #[]) ∧ w2.grownBy w' (some g) ∧ Row w' base g c (swp h i a) by
            have := HROW2.out
            rw [← HLEN.out]; exact swap_any base g c i a h w2 this (by rw [HLEN.out]; omega) (by rw [HLEN.out]; omega))
          go_wp2_with fail
          refine (HS.out).mono ?_
          rintro e w3 ⟨rfl, hg3, hr3⟩
          have HG3 := Lib.hid hg3
          have HR3 := Lib.hid hr3
          clear hg3 hr3 hmS
          go_wp2_with fail
          go_roundw
          case rel =>
            refine ⟨a, swp h i a, rfl, by rw [swp_length]; exact HLEN.out, .inl hcn, ?_, HBOX2.out.grown HG3.out (HBOX2.out.ne HROW2.out), HR3.out, grown_trans HGR2.out HG3.out⟩
            rw [← HG.out]
            obtain ⟨m, rfl⟩ : ∃ m, n = m + 1 := ⟨n - 1, by omega⟩
            conv => rhs; unfold down
            rw [if_pos (show 2 * i + 1 < m + 1 by have := HA.out; omega), HCH.out, if_pos hlt2]
            exact down_fuel _ _ _ _ _ (by omega) (by have := HA.out; have := HB.out; omega)
          case measure => have := HA.out; have := HB.out; simp [intOf]; omega
        · have hd2 : decide (lt (at_ h a) (at_ h i)) = false := by simpa using hlt2
          rw [hd2] at HL2
          go_wp2_with fail
          refine (HL2.out).mono ?_
          rintro e w2 ⟨rfl, hb2⟩
          have HB2 := Lib.hid hb2
          clear hb2 hmL HL2 hd2
          go_wp2_with fail
          go_ret
          have hdn : down n h i n = h := by
            cases n with
            | zero => rfl
            | succ n => unfold down; rw [if_pos (show 2 * i + 1 < n + 1 by have := HA.out; omega), HCH.out, if_neg hlt2]
          have hg : goal = h := by rw [← HG.out, hdn]
          exact ⟨⟨_, rfl⟩, grown_trans HGR1.out (grown_below HB2.out), by rw [hg]; exact HROW1.out.grown (grown_below (row := none) HB2.out) (by simp)⟩
    · have han' : (n : Int) ≤ (a : Int) := by omega
      clear hbox hrow ha
      go_wp2_with fail
      go_ret
      have hdn : down n h i n = h := by
        cases n with
        | zero => rfl
        | succ n => unfold down; rw [if_neg (by have := HA.out; omega)]
      have hg : goal = h := by rw [← HG.out, hdn]
      exact ⟨⟨_, rfl⟩, HGR.out, by rw [hg]; exact HROW.out⟩

end Go.Proofs.Ytfncfcjaponeeaa
