/- flitlaw07.GraphEqual comes to true, whatever it is handed, and writes nothing that was there. -/
import Derived.Test.YtlogojiphjpknaaGShown
import Derived.Test.YtlogojiphjpknaaGKind
import Derived.Test.YtlogojiphjpknaaGEqP
import Derived.Outline
namespace Go.Proofs.Ytlogojiphjpknaa
open Go.RowKit
set_option linter.unusedVariables false

set_option maxRecDepth 100000 in
set_option maxHeartbeats 4000000 in
theorem equal_walk (A : Option Addr) (n c : Nat) (zs : List Int) (y0 y1 x : Int) (w : World) (hA : Ints w A n zs) (hz : ∀ j, j < n → -9223372036854775808 ≤ zs.getD j 0 ∧ zs.getD j 0 ≤ 9223372036854775807) (hm : n ≤ 9223372036854775807)
    (hy0 : -9223372036854775808 ≤ y0) (hy0' : y0 ≤ 9223372036854775807) (hy1 : -9223372036854775808 ≤ y1) (hy1' : y1 ≤ 9223372036854775807) (hx : -9223372036854775808 ≤ x) (hx' : x ≤ 9223372036854775807) :
    Calls Try.prog 10 #[.slice A n c, .agg #[.int .i64 y0, .int .i64 y1], .int .i64 x] w (YesP w) := by
  have HZ := Lib.hid hz
  have HY := Lib.hid (And.intro (And.intro hy0 hy0') (And.intro (And.intro hy1 hy1') (And.intro hx hx')))
  have HA := Lib.hid hA
  clear hz hy0 hy0' hy1 hy1' hx hx' hA
  go_enter Try.func10, Try.ntmps10
  go_wp2_with fail
  refine (gshown_yes _).mono ?_
  rintro e w1 ⟨rfl, hb1⟩
  have HB1 := Lib.hid hb1
  have k0 : w1.cell? ⟨w.heap.size, 0, none⟩ = some (.int .i64 y0) := (hb1.cell (p := ⟨w.heap.size, 0, none⟩) (by simp)).trans (by simp [go_sem])
  have k1 : w1.cell? ⟨w.heap.size, 1, none⟩ = some (.int .i64 y1) := (hb1.cell (p := ⟨w.heap.size, 1, none⟩) (by simp)).trans (by simp [go_sem])
  have hwl1 : w.heap.size < w1.heap.size := block_lt k0
  have HK := Lib.hid (And.intro k0 k1)
  clear hb1 k0 k1
  go_wp2_with fail
  refine (new_s 1 (by omega) (by omega) _).mono ?_
  rintro e w2 ⟨p, rfl, hg⟩
  have HG1 := Lib.hid (alloc_s hg 0 1 (by decide))
  rw [gE_start1] at HG1
  clear hg
  go_wp2_with fail
  refine (HG1.out).mono ?_
  rintro e w3 ⟨rfl, hg, _⟩
  have HG2 := Lib.hid (alloc_s hg 0 1 (by decide))
  rw [gE_start2] at HG2
  clear hg HG1
  go_wp2_with fail
  refine (HG2.out).mono ?_
  rintro e w4 ⟨rfl, hg, _⟩
  have HG := Lib.hid hg
  clear hg HG2
  obtain ⟨K, hK⟩ : ∃ k, k = min n 6 := ⟨_, rfl⟩
  have hK6 : K ≤ 6 := by omega
  have hKn : K ≤ n := by omega
  have HKK := Lib.hid hK
  clear hK
  go_wp2_with fail
  go_loopw [10, 11] (fun s10 s11 wr => ∃ (j : Nat) (ids : List Int), j ≤ K ∧ s11 = .int .i64 j ∧ s10 = .int .i64 ids.length ∧ ids.length = j + 2 ∧ TwoIds ids ∧ GS w1 wr p (gE ids default default) (fun _ => False)) (fun _ s11 _ => K - (intOf s11).toNat)
  case atStart => exact ⟨0, [1, 2], by omega, rfl, rfl, rfl, ⟨by decide, by simp⟩, HG.out⟩
  case round =>
    clear HG
    obtain ⟨j, ids, hj, rfl, rfl, hl, htw, hg⟩ := hrel
    by_cases hjK : j < K
    · have hjn : (j : Int) < (n : Int) := by omega
      have hj6 : (j : Int) < 6 := by omega
      rcases (HA.out) with h0 | ⟨b, off, rfl, hbl, hzl, hcz⟩
      · omega
      have x1 : wr.cell? ⟨b, off + j, none⟩ = some (.int .i64 (zs.getD j 0)) := (hg.bl.cell (p := ⟨b, off + j, none⟩) (by have := HB1.out.size; simp at this; show b < w1.heap.size; omega)).trans ((HB1.out.cell (p := ⟨b, off + j, none⟩) (by simp; omega)).trans (by simp [go_sem, hbl, hcz j (by omega)]))
      obtain ⟨z, hz⟩ : ∃ z, z = zs.getD j 0 := ⟨_, rfl⟩
      have hzb := HZ.out j (by omega)
      rw [← hz] at x1 hzb
      obtain ⟨q0, q1⟩ := kd_bd z (show (0 : Int) < ids.length by omega)
      obtain ⟨i, hi⟩ : ∃ i : Nat, kd z ids.length = i := ⟨(kd z ids.length).toNat, by omega⟩
      have hil : i < ids.length := by omega
      obtain ⟨d1, d2⟩ := gE_dup (a := default) (b := default) htw (by omega) hil
      have HKD := Lib.hid (kind_any z ids.length wr hzb.1 hzb.2 (by omega) (by omega))
      have HDUP := Lib.hid (dup_s hg 0 i)
      rw [d1] at HDUP
      rw [hi] at HKD
      have HD2 := Lib.hid d2
      have HL := Lib.hid hl
      generalize hids : ids ++ [ids.getD i 0] = ids2 at *
      have hl2 : ids2.length = ids.length + 1 := by rw [← hids]; simp
      have HL2 := Lib.hid hl2
      have hl8 : ids.length ≤ 8 := by omega
      clear hz hzb q0 q1 hi hil d1 d2 hl htw hg hcz hids hl2
      go_wp2_with fail
      refine (HKD.out).mono ?_
      rintro e w5 ⟨rfl, rfl⟩
      go_wp2_with fail
      refine (HDUP.out).mono ?_
      rintro e w6 ⟨rfl, hg, _⟩
      have HG := Lib.hid hg
      clear hg
      go_wp2_with fail
      go_roundw
      case rel => exact ⟨j + 1, ids2, by omega, by go_num, by rw [HL2.out]; go_num, by rw [HL2.out, HL.out], HD2.out, HG.out⟩
      case measure => simp [intOf]; omega
    · obtain rfl : j = K := by omega
      have k0 : wr.cell? ⟨w.heap.size, 0, none⟩ = some (.int .i64 y0) := (hg.bl.cell (p := ⟨w.heap.size, 0, none⟩) hwl1).trans HK.out.1
      have k1 : wr.cell? ⟨w.heap.size, 1, none⟩ = some (.int .i64 y1) := (hg.bl.cell (p := ⟨w.heap.size, 1, none⟩) hwl1).trans HK.out.2
      obtain ⟨⟨hy0, hy0'⟩, ⟨hy1, hy1'⟩, hx, hx'⟩ := HY.out
      obtain ⟨q0, q1⟩ := kd_bd y0 (show (0 : Int) < ids.length by omega)
      obtain ⟨q2, q3⟩ := kd_bd y1 (show (0 : Int) < ids.length by omega)
      obtain ⟨q4, q5⟩ := kd_bd x (show (0 : Int) < 1000 by omega)
      obtain ⟨i, hi⟩ : ∃ i : Nat, kd y0 ids.length = i := ⟨(kd y0 ids.length).toNat, by omega⟩
      obtain ⟨k, hk⟩ : ∃ i : Nat, kd y1 ids.length = i := ⟨(kd y1 ids.length).toNat, by omega⟩
      obtain ⟨u, hu⟩ : ∃ u, kd x 1000 = u := ⟨_, rfl⟩
      have hil : i < ids.length := by omega
      have hkl : k < ids.length := by omega
      obtain ⟨G1, G2, e1, e2, e3, e4⟩ := gE_seen htw hil hkl default default (x := u) ⟨by omega, by omega⟩
      have HKI := Lib.hid (kind_any y0 ids.length wr hy0 hy0' (by omega) (by omega))
      have HKK2 := Lib.hid (kind_any y1 ids.length wr hy1 hy1' (by omega) (by omega))
      have HKX := Lib.hid (fun w => kind_any x 1000 w hx hx' (by omega) (by omega))
      rw [hi] at HKI
      rw [hk] at HKK2
      rw [hu] at HKX
      have HEQ1 := Lib.hid (gE_eq (a := default) (b := default) htw hil hkl)
      have HEQ2 := Lib.hid (gE_eq (a := default) (b := default) htw hkl hil)
      have HE := Lib.hid (And.intro e1 (And.intro e2 (And.intro e3 e4)))
      have hu0 : 0 ≤ u := by omega
      have hu1 : u < 1000 := by omega
      have HG := Lib.hid hg
      have hend : ((j : Int) < (n : Int) ∧ ¬ (j : Int) < 6) ∨ ¬ (j : Int) < (n : Int) := by
        have := HKK.out
        omega
      have HL := Lib.hid hl
      have hl8 : ids.length ≤ 8 := by omega
      clear hy0 hy0' hy1 hy1' hx hx' q0 q1 q2 q3 q4 q5 hi hk hu hil hkl e1 e2 e3 e4 hl hg
      have hcase : (i = k ∧ ids.getD i 0 = ids.getD k 0) ∨ (i ≠ k ∧ ids.getD i 0 = ids.getD k 0) ∨ (i ≠ k ∧ ids.getD i 0 ≠ ids.getD k 0) := by
        by_cases h1 : i = k
        · exact .inl ⟨h1, by rw [h1]⟩
        · by_cases h2 : ids.getD i 0 = ids.getD k 0
          · exact .inr (.inl ⟨h1, h2⟩)
          · exact .inr (.inr ⟨h1, h2⟩)
      have HCASE := Lib.hid hcase
      clear hcase
      rcases hend with ⟨hj1, hj2⟩ | hj2
      all_goals
        go_wp2_with fail
        refine (HKI.out).mono ?_
        rintro e w5 ⟨rfl, rfl⟩
        go_wp2_with fail
        refine (HKK2.out).mono ?_
        rintro e w5 ⟨rfl, rfl⟩
        have HC1 := Lib.hid (eq_s HG.out 0 i k)
        rw [HEQ1.out] at HC1
        go_wp2_with fail
        refine (HC1.out).mono ?_
        rintro e w5 ⟨rfl, hg, _⟩
        have HC2 := Lib.hid (eq_s hg 0 k i)
        rw [HEQ2.out] at HC2
        clear hg HC1 k0 k1
        go_wp2_with fail
        refine (HC2.out).mono ?_
        rintro e w6 ⟨rfl, hg, _⟩
        have HC3 := Lib.hid (write_s hg (by show 2 ≤ 1000; omega) 0 k 0 ⟨0, 5000⟩)
        rw [HE.out.1] at HC3
        clear hg HC2
        go_wp2_with fail
        refine (HC3.out).mono ?_
        rintro e w7 ⟨rfl, hg, _⟩
        have HG7 := Lib.hid hg
        clear hg HC3
        go_wp2_with fail
        refine (HKX.out _).mono ?_
        rintro e w8 ⟨rfl, rfl⟩
        have HC4 := Lib.hid (write_s HG7.out (by have := HE.out.2.2.1; omega) 0 i 0 ⟨0, u⟩)
        rw [HE.out.2.1] at HC4
        go_wp2_with fail
        refine (HC4.out).mono ?_
        rintro e w8 ⟨rfl, hg, _⟩
        have HC5 := Lib.hid (look_s hg 0 k 0)
        rw [HE.out.2.2.2] at HC5
        clear hg HC4 HG7
        rcases HCASE.out with ⟨h1, h2⟩ | ⟨h1, h2⟩ | ⟨h1, h2⟩
        · subst h1
          rw [if_pos rfl] at HC5
          rw [decide_eq_true rfl]
          go_wp2_with fail
          refine (HC5.out).mono ?_
          rintro e w9 ⟨rfl, hg, _⟩
          have HBL := Lib.hid hg.bl
          clear hg HC5
          go_wp2_with fail
          go_quiet ((go_at_call 29; exact Calls.quiet_of_same ((HKX.out _).mono fun e w' ⟨he, hw⟩ => ⟨he, hw.symm⟩)))
          go_wp2_with fail
          go_ret
          refine ⟨rfl, ?_⟩
          have hb1 := HB1.out
          have hbl := HBL.out
          clear HB1 HBL
          have hs1 := hb1.size
          have hs2 := hbl.size
          simp at hs1
          exact ((((Below.refl _ _).alloc (Nat.le_refl _) _).trans (hb1.mono (by simp))).trans (hbl.mono (by omega))).alloc (by omega) _ |> fun h => by first | exact h | exact below_dn h _
        · have h3 : ((i : Int) != (k : Int)) = true := by simp; omega
          rw [if_pos h2] at HC5
          simp only [List.getD_eq_getElem?_getD] at h2
          rw [decide_eq_true h2, decide_eq_true h2.symm]
          go_wp2_with fail
          refine (HC5.out).mono ?_
          rintro e w9 ⟨rfl, hg, _⟩
          have HBL := Lib.hid hg.bl
          clear hg HC5
          generalize (i : Int) = iz at h3 ⊢
          generalize (k : Int) = kz at h3 ⊢
          go_wp2_with fail
          go_quiet ((go_at_call 29; exact Calls.quiet_of_same ((HKX.out _).mono fun e w' ⟨he, hw⟩ => ⟨he, hw.symm⟩)))
          go_wp2_with fail
          go_ret
          refine ⟨rfl, ?_⟩
          have hb1 := HB1.out
          have hbl := HBL.out
          clear HB1 HBL
          have hs1 := hb1.size
          have hs2 := hbl.size
          simp at hs1
          exact ((((Below.refl _ _).alloc (Nat.le_refl _) _).trans (hb1.mono (by simp))).trans (hbl.mono (by omega))).alloc (by omega) _ |> fun h => by first | exact h | exact below_dn h _
        · have h3 : ((i : Int) != (k : Int)) = true := by simp; omega
          have h4 : ((5000 : Int) == u) = false := by simp; omega
          rw [if_neg h2] at HC5
          simp only [List.getD_eq_getElem?_getD] at h2
          rw [decide_eq_false h2, decide_eq_false (Ne.symm h2)]
          go_wp2_with fail
          refine (HC5.out).mono ?_
          rintro e w9 ⟨rfl, hg, _⟩
          have HBL := Lib.hid hg.bl
          clear hg HC5
          generalize (i : Int) = iz at h3 ⊢
          generalize (k : Int) = kz at h3 ⊢
          go_wp2_with fail
          go_quiet ((go_at_call 29; exact Calls.quiet_of_same ((HKX.out _).mono fun e w' ⟨he, hw⟩ => ⟨he, hw.symm⟩)))
          go_wp2_with fail
          go_ret
          refine ⟨rfl, ?_⟩
          have hb1 := HB1.out
          have hbl := HBL.out
          clear HB1 HBL
          have hs1 := hb1.size
          have hs2 := hbl.size
          simp at hs1
          exact ((((Below.refl _ _).alloc (Nat.le_refl _) _).trans (hb1.mono (by simp))).trans (hbl.mono (by omega))).alloc (by omega) _ |> fun h => by first | exact h | exact below_dn h _

end Go.Proofs.Ytlogojiphjpknaa
