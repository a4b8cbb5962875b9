/- flitlaw18.ChooseOrder comes to true, whatever candidates and number it is handed, and writes nothing that was there. -/
import Derived.Test.YtfncfcjaponeeaaNoneW
import Derived.Test.YtfncfcjaponeeaaOrderP
import Derived.Test.YtfncfcjaponeeaaBlk
namespace Go.Proofs.Ytfncfcjaponeeaa
open Go.RowKit

def P28 (w : World) (g : Nat) (p : Int × Int) : Prop := Blk w g 28 #[.int .i64 p.1, .int .i64 p.2]
theorem P28.put {w : World} {g : Nat} {p : Int × Int} (h : P28 w g p) (x y : Int) : P28 ((w.setCell ⟨g, 0, none⟩ (.int .i64 x)).setCell ⟨g, 1, none⟩ (.int .i64 y)) g (x, y) := Blk.set_ (Blk.set_ h 0 _) 1 _
theorem P28.alloc {w : World} {g : Nat} {p : Int × Int} (h : P28 w g p) (o : Obj) : P28 (w.alloc o) g p := Blk.alloc h o
theorem P28.drewN {w : World} {g : Nat} {p : Int × Int} (h : P28 w g p) (n : Nat) : P28 (w.drewN n) g p := h
theorem P28.far {w : World} {g g' i : Nat} {p : Int × Int} (h : P28 w g p) (hne : g ≠ g') (u : Value) : P28 (w.setCell ⟨g', i, none⟩ u) g p := Blk.far h (p := ⟨g', i, none⟩) hne u

set_option maxRecDepth 100000 in
set_option maxHeartbeats 2000000 in
theorem order_walk (A : Option Addr) (n c : Nat) (most : Int) (ls : List (Int × Int)) (w : World) (hA : Cands w A n ls) (hc : n ≤ c) (hm : c ≤ 9223372036854775807) (hmm : most ≤ 9223372036854775807) :
    Calls Try.prog 5 #[.slice A n c, .int .i64 most] w (YesP w) := by
  obtain ⟨i28, hi, hz, hs, hb⟩ := info_parts info28
  go_enter Try.func5, Try.ntmps5
  go_wp2_with fail
  refine (shown_yes _).mono ?_
  rintro e w1 ⟨rfl, hb1⟩
  have HC := Lib.hid (cands_first (hA.below hb1) (Nat.min_le_left n 70))
  have HB1 := Lib.hid hb1
  clear hA hb1
  go_wp2_with fail
  refine (few_any _ _ _ _ hc hm).mono ?_
  rintro e w1' ⟨rfl, rfl⟩
  have h70 : min n 70 ≤ 70 := Nat.min_le_right _ _
  have hmc : min n 70 ≤ c := by omega
  generalize min n 70 = k at *
  generalize ls.take k = l at *
  clear hc
  go_wp2_with fail
  refine (pick_out _ _ _ most _ _ HC.out (by omega) hmm).mono ?_
  rintro e w3 ⟨A3, c3, o, rfl, ho3, hb3, hp3⟩
  obtain ⟨s, hsort⟩ := sort_exists (cands_nodup l 0)
  have hos := hp3 s hsort
  obtain ⟨hg1, hg2⟩ := greedy_at s most
  rw [← hos] at hg1 hg2
  have hsl : s.length ≤ k := by have := hsort.2.length_eq; have := cands_length l 0; have := HC.out.1; omega
  have HSORT := Lib.hid hsort
  have HAT := Lib.hid hg2
  have HB3 := Lib.hid hb3
  have HO3 := Lib.hid ho3
  have HC3 := Lib.hid (HC.out.below hb3)
  have HCL := Lib.hid HC.out.1
  clear hb3 ho3 hp3 hos hg2 hsort HC
  go_wp2_with fail
  go_loopw [8] (fun s8 wr => ∃ (i : Nat) (last : Int × Int), i ≤ o.length ∧ s8 = .int .i64 i ∧ Behind s i last ∧ P28 wr w3.heap.size last ∧ Below w3.heap.size w3 wr) (fun s8 _ => o.length - (intOf s8).toNat)
  case atStart =>
    refine ⟨0, (0, 0), by omega, rfl, behind_zero HSORT.out, Blk.new w3 28 _, (Below.refl _ _).alloc (Nat.le_refl _) _⟩
  case round =>
    obtain ⟨i, last, hi', rfl, hbh, hl, hbr⟩ := hrel
    obtain ⟨lb, ll⟩ := last
    have hlsz := hl.lt
    have hwo := hbr.size
    by_cases hio : i < o.length
    · have HBH := Lib.hid hbh
      have HL0 := Lib.hid hl
      have HBR := Lib.hid hbr
      have HAI := Lib.hid (HAT.out i hio)
      obtain ⟨pb, hpb⟩ : ∃ pb, pb = (at_ s i).b := ⟨_, rfl⟩
      have HPB := Lib.hid hpb
      clear hbh hl hbr hpb
      go_wp2_with fail
      rename World => wo
      go_loopw [9, 11] (fun s9 s11 wx => ∃ (j : Nat) (yes' : Bool) (best' : Int × Int), j ≤ k ∧ s9 = .bool yes' ∧ s11 = .int .i64 j ∧ Found l pb (lb, ll) j yes' best' ∧ P28 wx wo.heap.size best' ∧ P28 wx w3.heap.size (lb, ll) ∧ Below w3.heap.size w3 wx) (fun _ s11 _ => k - (intOf s11).toNat)
      case atStart =>
        refine ⟨0, false, (0, 0), by omega, rfl, rfl, found_zero _ _ _ _, Blk.new wo 28 _, HL0.out.alloc _, HBR.out.alloc hwo _⟩
      case round =>
        obtain ⟨j, yes', best', hj, rfl, rfl, hfd, hp, hl, hbx⟩ := hrel
        have hsz := hbx.size
        by_cases hjk : j < k
        · rcases (HC3.out.below hbx).2 with h0 | ⟨b, off, hAe, hbl, hcz⟩
          · omega
          subst hAe
          obtain ⟨x0, x1⟩ := hcz j hjk
          obtain ⟨y, hy⟩ : ∃ y, y = l.getD j (0, 0) := ⟨_, rfl⟩
          rw [← hy] at x0 x1
          obtain ⟨yb, yl⟩ := y
          obtain ⟨bb, bl⟩ := best'
          simp only at x0 x1
          rcases (HO3.out.below hbx) with h0 | ⟨g4, rfl, hg4, hc4⟩
          · rw [h0] at hio; simp at hio
          have x4 := hc4 i hio
          rw [HAI.out, ← HPB.out] at x4
          have hl0 := hl.cell 0
          have hl1 := hl.cell 1
          simp only [List.getElem?_toArray, List.getElem?_cons_zero, List.getElem?_cons_succ] at hl0 hl1
          have hbest0 := hp.cell 0
          have hbest1 := hp.cell 1
          simp only [List.getElem?_toArray, List.getElem?_cons_zero, List.getElem?_cons_succ] at hbest0 hbest1
          have hpf := hp.frozen
          have hplt := hp.lt
          have hllt := hl.lt
          have HY := Lib.hid hy
          have HF := Lib.hid hfd
          have HP := Lib.hid hp
          have HL := Lib.hid hl
          have HBX := Lib.hid hbx
          have hi0 : (0 : Int) ≤ (i : Int) := by omega
          have hi1 : (i : Int) < (o.length : Int) := by omega
          clear hcz hc4 hy hfd hp hl hbx
          by_cases h1 : yb = pb
          · have h1d : (yb == pb) = true := by simpa using h1
            have H1H := Lib.hid h1
            clear h1
            by_cases h2 : 1 ≤ yl
            · have h2d : decide (1 ≤ yl) = true := by simpa using h2
              have H2H := Lib.hid h2
              clear h2
              by_cases h3 : ll < yl
              · have h3d : decide (ll < yl) = true := by simpa using h3
                have H3H := Lib.hid h3
                clear h3
                cases yes' with
                | false =>
                  go_wp2_with fail
                  go_quiet (fail)
                  go_wp2_with fail
                  go_roundw
                  case rel =>
                    refine ⟨j + 1, true, (yb, yl), by omega, rfl, by go_num, by rw [HY.out]; exact found_take HF.out (by unfold Fits lex; rw [← HY.out]; simp only; exact ⟨H1H.out, H2H.out, .inl H3H.out⟩) (by rw [← HY.out]; exact .inl rfl), ?_, ?_, ?_⟩
                    · exact ((HP.out.alloc _).drewN _).put _ _
                    · exact (((HL.out.alloc _).drewN _).far (by omega) _).far (by omega) _
                    · exact ((below_drewN (HBX.out.alloc hsz _) _).setCell (p := ⟨wo.heap.size, 0, none⟩) (by simp; omega) _).setCell (p := ⟨wo.heap.size, 1, none⟩) (by simp; omega) _
                  case measure => simp [intOf]; omega
                | true =>
                  by_cases h6 : yl < bl
                  · have h6d : decide (yl < bl) = true := by simpa using h6
                    have H6H := Lib.hid h6
                    clear h6
                    go_wp2_with fail
                    go_quiet (fail)
                    go_wp2_with fail
                    go_roundw
                    case rel =>
                      refine ⟨j + 1, true, (yb, yl), by omega, rfl, by go_num, by rw [HY.out]; exact found_take HF.out (by unfold Fits lex; rw [← HY.out]; simp only; exact ⟨H1H.out, H2H.out, .inl H3H.out⟩) (by rw [← HY.out]; exact .inr H6H.out), ?_, ?_, ?_⟩
                      · exact ((HP.out.alloc _).drewN _).put _ _
                      · exact (((HL.out.alloc _).drewN _).far (by omega) _).far (by omega) _
                      · exact ((below_drewN (HBX.out.alloc hsz _) _).setCell (p := ⟨wo.heap.size, 0, none⟩) (by simp; omega) _).setCell (p := ⟨wo.heap.size, 1, none⟩) (by simp; omega) _
                    case measure => simp [intOf]; omega
                  · have h6d : decide (yl < bl) = false := by simpa using h6
                    have H6H := Lib.hid h6
                    clear h6
                    go_wp2_with fail
                    go_quiet (fail)
                    go_wp2_with fail
                    go_roundw
                    case rel => exact ⟨j + 1, _, (bb, bl), by omega, rfl, by go_num, found_skip HF.out (by unfold Fits lex; rw [← HY.out]; simp only; rintro ⟨⟨q1, q2, q3⟩, q4⟩; rcases q4 with q4 | q4; cases q4; have := H6H.out; omega), (HP.out.alloc _).drewN _, (HL.out.alloc _).drewN _, below_drewN (HBX.out.alloc hsz _) _⟩
                    case measure => simp [intOf]; omega
              · have h3d : decide (ll < yl) = false := by simpa using h3
                have H3H := Lib.hid h3
                clear h3
                by_cases h4 : yl = ll
                · have h4d : (yl == ll) = true := by simpa using h4
                  have H4H := Lib.hid h4
                  clear h4
                  by_cases h5 : lb ≤ yb
                  · have h5d : decide (lb ≤ yb) = true := by simpa using h5
                    have H5H := Lib.hid h5
                    clear h5
                    cases yes' with
                    | false =>
                      go_wp2_with fail
                      go_quiet (fail)
                      go_wp2_with fail
                      go_roundw
                      case rel =>
                        refine ⟨j + 1, true, (yb, yl), by omega, rfl, by go_num, by rw [HY.out]; exact found_take HF.out (by unfold Fits lex; rw [← HY.out]; simp only; exact ⟨H1H.out, H2H.out, .inr ⟨H4H.out.symm, H5H.out⟩⟩) (by rw [← HY.out]; exact .inl rfl), ?_, ?_, ?_⟩
                        · exact ((HP.out.alloc _).drewN _).put _ _
                        · exact (((HL.out.alloc _).drewN _).far (by omega) _).far (by omega) _
                        · exact ((below_drewN (HBX.out.alloc hsz _) _).setCell (p := ⟨wo.heap.size, 0, none⟩) (by simp; omega) _).setCell (p := ⟨wo.heap.size, 1, none⟩) (by simp; omega) _
                      case measure => simp [intOf]; omega
                    | true =>
                      by_cases h6 : yl < bl
                      · have h6d : decide (yl < bl) = true := by simpa using h6
                        have H6H := Lib.hid h6
                        clear h6
                        go_wp2_with fail
                        go_quiet (fail)
                        go_wp2_with fail
                        go_roundw
                        case rel =>
                          refine ⟨j + 1, true, (yb, yl), by omega, rfl, by go_num, by rw [HY.out]; exact found_take HF.out (by unfold Fits lex; rw [← HY.out]; simp only; exact ⟨H1H.out, H2H.out, .inr ⟨H4H.out.symm, H5H.out⟩⟩) (by rw [← HY.out]; exact .inr H6H.out), ?_, ?_, ?_⟩
                          · exact ((HP.out.alloc _).drewN _).put _ _
                          · exact (((HL.out.alloc _).drewN _).far (by omega) _).far (by omega) _
                          · exact ((below_drewN (HBX.out.alloc hsz _) _).setCell (p := ⟨wo.heap.size, 0, none⟩) (by simp; omega) _).setCell (p := ⟨wo.heap.size, 1, none⟩) (by simp; omega) _
                        case measure => simp [intOf]; omega
                      · have h6d : decide (yl < bl) = false := by simpa using h6
                        have H6H := Lib.hid h6
                        clear h6
                        go_wp2_with fail
                        go_quiet (fail)
                        go_wp2_with fail
                        go_roundw
                        case rel => exact ⟨j + 1, _, (bb, bl), by omega, rfl, by go_num, found_skip HF.out (by unfold Fits lex; rw [← HY.out]; simp only; rintro ⟨⟨q1, q2, q3⟩, q4⟩; rcases q4 with q4 | q4; cases q4; have := H6H.out; omega), (HP.out.alloc _).drewN _, (HL.out.alloc _).drewN _, below_drewN (HBX.out.alloc hsz _) _⟩
                        case measure => simp [intOf]; omega
                  · have h5d : decide (lb ≤ yb) = false := by simpa using h5
                    have H5H := Lib.hid h5
                    clear h5
                    go_wp2_with fail
                    go_quiet (fail)
                    go_wp2_with fail
                    go_roundw
                    case rel => exact ⟨j + 1, _, (bb, bl), by omega, rfl, by go_num, found_skip HF.out (by unfold Fits lex; rw [← HY.out]; simp only; rintro ⟨⟨q1, q2, q3⟩, q4⟩; clear q4; have := H3H.out; have := H5H.out; omega), (HP.out.alloc _).drewN _, (HL.out.alloc _).drewN _, below_drewN (HBX.out.alloc hsz _) _⟩
                    case measure => simp [intOf]; omega
                · have h4d : (yl == ll) = false := by simpa using h4
                  have H4H := Lib.hid h4
                  clear h4
                  go_wp2_with fail
                  go_quiet (fail)
                  go_wp2_with fail
                  go_roundw
                  case rel => exact ⟨j + 1, _, (bb, bl), by omega, rfl, by go_num, found_skip HF.out (by unfold Fits lex; rw [← HY.out]; simp only; rintro ⟨⟨q1, q2, q3⟩, q4⟩; clear q4; have := H3H.out; have := H4H.out; omega), (HP.out.alloc _).drewN _, (HL.out.alloc _).drewN _, below_drewN (HBX.out.alloc hsz _) _⟩
                  case measure => simp [intOf]; omega
            · have h2d : decide (1 ≤ yl) = false := by simpa using h2
              have H2H := Lib.hid h2
              clear h2
              go_wp2_with fail
              go_quiet (fail)
              go_wp2_with fail
              go_roundw
              case rel => exact ⟨j + 1, _, (bb, bl), by omega, rfl, by go_num, found_skip HF.out (by unfold Fits lex; rw [← HY.out]; simp only; rintro ⟨⟨q1, q2, q3⟩, q4⟩; clear q4; have := H2H.out; omega), (HP.out.alloc _).drewN _, (HL.out.alloc _).drewN _, below_drewN (HBX.out.alloc hsz _) _⟩
              case measure => simp [intOf]; omega
          · have h1d : (yb == pb) = false := by simpa using h1
            have H1H := Lib.hid h1
            clear h1
            go_wp2_with fail
            go_quiet (fail)
            go_wp2_with fail
            go_roundw
            case rel => exact ⟨j + 1, _, (bb, bl), by omega, rfl, by go_num, found_skip HF.out (by unfold Fits lex; rw [← HY.out]; simp only; rintro ⟨⟨q1, q2, q3⟩, q4⟩; clear q4; have := H1H.out; omega), (HP.out.alloc _).drewN _, (HL.out.alloc _).drewN _, below_drewN (HBX.out.alloc hsz _) _⟩
            case measure => simp [intOf]; omega
        · obtain rfl : j = k := by omega
          obtain ⟨hy, hbh2⟩ := found_end HSORT.out (show i < s.length by omega) HBH.out (by rw [HCL.out, ← HPB.out]; exact hfd)
          subst hy
          obtain ⟨bb, bl⟩ := best'
          have hbest0 := hp.cell 0
          have hbest1 := hp.cell 1
          simp only [List.getElem?_toArray, List.getElem?_cons_zero, List.getElem?_cons_succ] at hbest0 hbest1
          have hlf := hl.frozen
          have hlc0 := hl.cell 0
          have hlc1 := hl.cell 1
          simp only [List.getElem?_toArray, List.getElem?_cons_zero, List.getElem?_cons_succ] at hlc0 hlc1
          have HB2 := Lib.hid hbh2
          have HL := Lib.hid hl
          have HBX := Lib.hid hbx
          have hpne : wo.heap.size ≠ w3.heap.size := by omega
          clear hfd hp hl hbx hbh2
          go_wp2_with fail
          go_roundw
          case rel =>
            exact ⟨i + 1, (bb, bl), by omega, by go_num, HB2.out, HL.out.put _ _, (HBX.out.setCell (p := ⟨w3.heap.size, 0, none⟩) (by simp) _).setCell (p := ⟨w3.heap.size, 1, none⟩) (by simp) _⟩
          case measure => simp [intOf]; omega
    · have HBR := Lib.hid hbr
      have hle : (o.length : Int) ≤ (k : Int) := by omega
      clear hbr hl
      go_wp2_with fail
      go_ret
      refine ⟨rfl, ?_⟩
      have h1 := HB1.out.trans (HB3.out.mono HB1.out.size)
      exact h1.trans (HBR.out.mono h1.size)

end Go.Proofs.Ytfncfcjaponeeaa
