/- flitlaw07.GraphGone comes to true, whatever it is handed, and writes nothing that was there. -/
import Derived.Test.YtlogojiphjpknaaGOps
import Derived.Test.YtlogojiphjpknaaGGoneP
import Derived.Test.YtlogojiphjpknaaOpenOps
import Derived.Outline
import Derived.Deep.DeepCutAuto
import Derived.Deep.CutBlock
namespace Go.Proofs.Ytlogojiphjpknaa
open Go.RowKit
set_option linter.unusedVariables false

set_option maxRecDepth 100000 in
set_option maxHeartbeats 4000000 in
theorem gone_walk (A : Option Addr) (n c : Nat) (z : Nat → Nat → Int) (nn xx : Int) (w : World) (hA : Ops w A n z) (hz : ∀ i k, -9223372036854775808 ≤ z i k ∧ z i k ≤ 9223372036854775807) (hm : n ≤ 9223372036854775807)
    (hnn : -9223372036854775808 ≤ nn ∧ nn ≤ 9223372036854775807) (hxx : -9223372036854775808 ≤ xx ∧ xx ≤ 9223372036854775807) :
    Calls Try.prog 12 #[.slice A n c, .int .i64 nn, .int .i64 xx] w (YesP w) := by
  have HZ := Lib.hid hz
  have HA := Lib.hid hA
  have HN8 := Lib.hid (fun w => kind_any nn 8 w hnn.1 hnn.2 (by omega) (by omega))
  have HX := Lib.hid (fun w => kind_any xx 1000 w hxx.1 hxx.2 (by omega) (by omega))
  have hn8 := kd_bd nn (show (0 : Int) < 8 by omega)
  have hx1 := kd_bd xx (show (0 : Int) < 1000 by omega)
  generalize kd nn 8 = n8 at *
  generalize kd xx 1000 = x1 at *
  have HBN := Lib.hid (And.intro hn8 hx1)
  clear hz hA hnn hxx hn8 hx1
  go_enter Try.func12, Try.ntmps12
  go_wp2_with fail
  refine (gshown_yes _).mono ?_
  rintro e w1 ⟨rfl, hb1⟩
  have HB1 := Lib.hid hb1
  clear hb1
  go_wp2_with fail
  refine (new_s 2 (by omega) (by omega) _).mono ?_
  rintro e w2 ⟨p, rfl, hg⟩
  have HG := Lib.hid hg
  clear hg
  go_wp2_with fail
  obtain ⟨K, hK⟩ : ∃ k, k = min n 40 := ⟨_, rfl⟩
  have hK40 : K ≤ 40 := by omega
  have hKn : K ≤ n := by omega
  have HKK := Lib.hid hK
  clear hK
  go_loopw [10] (fun s6 wr => ∃ (j : Nat) (G : Gd), j ≤ K ∧ s6 = .int .i64 j ∧ G.os.length ≤ j ∧ G.ts.length = 2 ∧ GS w1 wr p G (fun _ => False)) (fun s6 _ => K - (intOf s6).toNat)
  case atStart => exact ⟨0, Gd.new 2, by omega, rfl, by decide, by decide, HG.out⟩
  case round =>
    clear HG
    obtain ⟨j, G, hj, rfl, hos, hts, hg⟩ := hrel
    by_cases hjK : j < K
    · have hjn : (j : Int) < (n : Int) := by omega
      have hj40 : (j : Int) < 40 := by omega
      rcases (HA.out) with h0 | ⟨b, off, rfl, hbl, hcz⟩
      · omega
      have hx : ∀ k, k < 9 → wr.cell? ⟨b, off + (j * 9 + k), none⟩ = some (.int .i64 (z j k)) := fun k hk => (hg.bl.cell (p := ⟨b, off + (j * 9 + k), none⟩) (by have := HB1.out.size; show b < w1.heap.size; omega)).trans ((HB1.out.cell (p := ⟨b, off + (j * 9 + k), none⟩) (by simp; omega)).trans (by simp [go_sem, hcz j (by omega) k hk]))
      have x0 : wr.cell? ⟨b, off + j * 9, none⟩ = some (.int .i64 (z j 0)) := hx 0 (by omega)
      have x1 : wr.cell? ⟨b, off + (j * 9 + 1), none⟩ = some (.int .i64 (z j 1)) := hx 1 (by omega)
      have x2 : wr.cell? ⟨b, off + (j * 9 + 2), none⟩ = some (.int .i64 (z j 2)) := hx 2 (by omega)
      have x3 : wr.cell? ⟨b, off + (j * 9 + 3), none⟩ = some (.int .i64 (z j 3)) := hx 3 (by omega)
      have x4 : wr.cell? ⟨b, off + (j * 9 + 4), none⟩ = some (.int .i64 (z j 4)) := hx 4 (by omega)
      have x5 : wr.cell? ⟨b, off + (j * 9 + 5), none⟩ = some (.int .i64 (z j 5)) := hx 5 (by omega)
      have x6 : wr.cell? ⟨b, off + (j * 9 + 6), none⟩ = some (.int .i64 (z j 6)) := hx 6 (by omega)
      have x7 : wr.cell? ⟨b, off + (j * 9 + 7), none⟩ = some (.int .i64 (z j 7)) := hx 7 (by omega)
      have x8 : wr.cell? ⟨b, off + (j * 9 + 8), none⟩ = some (.int .i64 (z j 8)) := hx 8 (by omega)
      have hblr : b < wr.heap.size := block_lt x0
      clear hx hcz
      obtain ⟨h00, h01⟩ := HZ.out j 0
      obtain ⟨h10, h11⟩ := HZ.out j 1
      obtain ⟨h30, h31⟩ := HZ.out j 3
      have HT := Lib.hid (fun w => kind_any (z j 1) 2 w h10 h11 (by omega) (by omega))
      have HF8 := Lib.hid (fun w => kind_any (z j 3) 8 w h30 h31 (by omega) (by omega))
      have HKD := Lib.hid (fun w => kind_any (z j 0) 4 w h00 h01 (by omega) (by omega))
      obtain ⟨b0, b0'⟩ := kd_bd (z j 0) (show (0 : Int) < 4 by omega)
      clear h00 h01 h10 h11 h30 h31
      generalize kd (z j 0) 4 = kk at *
      generalize kd (z j 1) 2 = tt at *
      generalize kd (z j 3) 8 = f8 at *
      generalize z j 0 = z0 at *
      generalize z j 1 = z1 at *
      generalize z j 2 = z2 at *
      generalize z j 3 = z3 at *
      generalize z j 4 = z4 at *
      generalize z j 5 = z5 at *
      generalize z j 6 = z6 at *
      generalize z j 7 = z7 at *
      generalize z j 8 = z8 at *
      have HG := Lib.hid (hg.new (.cells #[.int .i64 z0, .int .i64 z1, .int .i64 z2, .int .i64 z3, .int .i64 z4, .int .i64 z5, .int .i64 z6, .int .i64 z7, .int .i64 z8] 50))
      have HAL := Lib.hid (alloc_s HG.out tt f8 (by omega))
      have HWR := Lib.hid (write_s HG.out (by omega) tt z2 z3 ⟨z5, z6⟩)
      have HDU := Lib.hid (dup_s HG.out tt z2)
      have HDR := Lib.hid (drop_s HG.out tt)
      clear hg
      go_wp2_with fail
      refine (HT.out _).mono ?_
      rintro e w5 ⟨rfl, rfl⟩
      clear x0 x1 x2 x3 x4 x5 x6 x7 x8
      go_wp2_with fail
      refine (HKD.out _).mono ?_
      rintro e w5 ⟨rfl, rfl⟩
      rcases (show kk = 0 ∨ kk = 1 ∨ kk = 2 ∨ kk = 3 by omega) with rfl | rfl | rfl | rfl
      · go_wp2_with fail
        refine (HF8.out _).mono ?_
        rintro e w5 ⟨rfl, rfl⟩
        go_wp2_with fail
        refine (HAL.out).mono ?_
        rintro e w5 ⟨rfl, hg, _⟩
        have HG2 := Lib.hid (hg.less (D := fun _ => False) (fun k hk => hk.elim))
        clear hg
        go_wp2_with fail
        go_roundw
        case rel =>
          have := alloc_len G tt f8
          exact ⟨j + 1, _, by omega, by go_num, by omega, by omega, HG2.out⟩
        case measure => simp [intOf]; omega
      · go_wp2_with fail
        refine (HWR.out).mono ?_
        rintro e w5 ⟨rfl, hg, _⟩
        have HG2 := Lib.hid (hg.less (D := fun _ => False) (fun k hk => hk.elim))
        clear hg
        go_wp2_with fail
        go_roundw
        case rel =>
          have := write_len G tt z2 z3 ⟨z5, z6⟩
          exact ⟨j + 1, _, by omega, by go_num, by omega, by omega, HG2.out⟩
        case measure => simp [intOf]; omega
      · go_wp2_with fail
        refine (HDU.out).mono ?_
        rintro e w5 ⟨rfl, hg, _⟩
        have HG2 := Lib.hid (hg.less (D := fun _ => False) (fun k hk => hk.elim))
        clear hg
        go_wp2_with fail
        go_roundw
        case rel =>
          have := dup_len G tt z2
          exact ⟨j + 1, _, by omega, by go_num, by omega, by omega, HG2.out⟩
        case measure => simp [intOf]; omega
      · go_wp2_with fail
        refine (HDR.out).mono ?_
        rintro e w5 ⟨rfl, hg, _⟩
        have HG2 := Lib.hid (hg.less (D := fun _ => False) (fun k hk => hk.elim))
        clear hg
        go_wp2_with fail
        go_roundw
        case rel =>
          have := drop_len G tt
          exact ⟨j + 1, _, by omega, by go_num, by omega, by omega, HG2.out⟩
        case measure => simp [intOf]; omega
    · obtain rfl : j = K := by omega
      have hend : ((j : Int) < (n : Int) ∧ ¬ (j : Int) < 40) ∨ ¬ (j : Int) < (n : Int) := by
        have := HKK.out
        omega
      obtain ⟨ts, os⟩ := G
      obtain ⟨r, s, rfl⟩ : ∃ r s, ts = [r, s] := by
        match ts, hts with
        | [r, s], _ => exact ⟨r, s, rfl⟩
      simp only at hos
      have HSH := Lib.hid (shape_s hg (by show os.length ≤ 1000; omega))
      have HOKG := Lib.hid hg.ok
      have HLAW := Lib.hid (Gd.gone hg.ok n8 x1 HBN.out.1 HBN.out.2)
      clear hg hts
      rcases hend with ⟨hj1, hj2⟩ | hj2
      all_goals
        go_wp2_with fail
        refine (HSH.out).mono ?_
        rintro e w5 ⟨R, L, Rv, Lv, his, rfl, hrd, hld, hg, _, _⟩
        have hgW := hg.new (.cells #[Rv, Lv] 65)
        have hkW := hg.keepA (.cells #[Rv, Lv] 65)
        have HRD := Lib.hid (hrd.keep hkW.1 hkW.2)
        have HLD := Lib.hid (hld.keep hkW.1 hkW.2)
        have s0 : (w5.alloc (.cells #[Rv, Lv] 65)).cell? ⟨w5.heap.size, 0, none⟩ = some Rv := by simp [go_sem]
        have s1 : (w5.alloc (.cells #[Rv, Lv] 65)).cell? ⟨w5.heap.size, 1, none⟩ = some Lv := by simp [go_sem]
        obtain ⟨A1, c1, e1, _⟩ := hrd
        obtain ⟨A2, c2, e2, _⟩ := hld
        subst e1 e2
        have hgW' := hgW.less (D := fun k => Also (fun _ => False) wr w5 k ∨ k = w5.heap.size) (fun k hk => hk)
        have HG := Lib.hid hgW'
        obtain ⟨C, hC⟩ : ∃ C, C = (fun k => Also (fun _ => False) wr w5 k ∨ k = w5.heap.size) := ⟨_, rfl⟩
        have hc9 : C w5.heap.size := by rw [hC]; exact .inr rfl
        have HRD2 := Lib.hid (show RdC C (w5.alloc (.cells #[.slice A1 R.length c1, .slice A2 L.length c2] 65)) _ R from HRD.out.mono (fun k hk _ => by rw [hC]; exact .inl hk))
        have HLD2 := Lib.hid (show LdC C (w5.alloc (.cells #[.slice A1 R.length c1, .slice A2 L.length c2] 65)) _ L from HLD.out.mono (fun k hk _ => by rw [hC]; exact .inl hk))
        rw [← hC] at HG
        have HIS := Lib.hid his
        have hlen := hgW.is_len his
        simp only at hlen
        have hRn : R.length ≤ 64 := hlen.1
        have hLn : L.length ≤ 40 := by omega
        have HS := Lib.hid (And.intro s0 s1)
        clear hg hgW hgW' hkW HRD HLD hC s0 s1 his HSH hlen
        go_wp2_with fail
        refine (HN8.out _).mono ?_
        rintro e w6 ⟨rfl, rfl⟩
        generalize w5.alloc (.cells #[.slice A1 R.length c1, .slice A2 L.length c2] 65) = W at *
        generalize w5.heap.size = b9 at *
        have HAL := Lib.hid (alloc_s HG.out 0 n8 (by show os.length < 100000; omega))
        have hal := alloc_len (⟨[r, s], os⟩ : Gd) 0 n8
        simp only at hal
        have HALLEN := Lib.hid hal.1
        have hlaw := HLAW.out
        clear hal HLAW HN8
        obtain ⟨⟨G2, er⟩, hr⟩ : ∃ q, q = (⟨[r, s], os⟩ : Gd).alloc 0 n8 := ⟨_, rfl⟩
        rw [← hr] at HAL HALLEN hlaw
        simp only at hlaw
        clear hr
        go_wp2_with fail
        refine (HAL.out).mono ?_
        rintro e w6 ⟨rfl, hg, hk⟩
        have p0 := (hk.cell hc9).trans HS.out.1
        have p1 := (hk.cell hc9).trans HS.out.2
        have HRD := Lib.hid (HRD2.out.keep hk.1 hk.2)
        have HLD := Lib.hid (HLD2.out.keep hk.1 hk.2)
        have HB6 := Lib.hid (hg.bl)
        have HSH2 := Lib.hid (shape_s hg (by have := HALLEN.out; omega))
        clear HAL hg hk HS HRD2 HLD2 HG
        rcases hlaw with rfl | ⟨rfl, k, hk8, hshape, o, hdrop⟩
        · go_wp2_with fail
          go_ret
          exact ⟨rfl, HB1.out.trans (HB6.out.mono HB1.out.size)⟩
        · have HD := Lib.hid hdrop
          have HSP := Lib.hid hshape
          clear hdrop hshape
          go_wp2_with fail
          refine (HSH2.out).mono ?_
          rintro e w7 ⟨R', L', Rv', Lv', his', rfl, hrd', hld', hg', hk', _⟩
          obtain ⟨q1, q2, q3⟩ := HSP.out R L R' L' HIS.out his'
          have hL' : (L'.length : Int) = (L.length : Int) + 1 := by omega
          have p0 := (hk'.cell (i := 0) hc9).trans p0
          have p1 := (hk'.cell (i := 1) hc9).trans p1
          have HRD := Lib.hid (HRD.out.keep hk'.1 hk'.2)
          have HLD := Lib.hid (HLD.out.keep hk'.1 hk'.2)
          have HG7 := Lib.hid ((hg'.new (.cells #[Rv', Lv'] 65)).less (D := C) (fun k hk => .inl (.inl hk)))
          have hkA := (hg'.less (D := C) (fun k hk => .inl hk)).keepA (.cells #[Rv', Lv'] 65)
          have HKA := Lib.hid hkA
          have hrow := hrd'.rd.below (w' := w7.alloc (.cells #[Rv', Lv'] 65)) ((Below.refl _ _).alloc (Nat.le_refl _) _)
          obtain ⟨A3, c3, e3, hrow⟩ := hrow
          obtain ⟨A4, c4, e4, _⟩ := hld'
          subst e3 e4
          obtain ⟨bb, g, k', rfl, _, hcell, _, _, _⟩ := hrow 0 (by omega)
          rw [q3] at hcell
          have hR' : (0 : Int) < (R'.length : Int) := by omega
          have m0 : (w7.alloc (.cells #[.slice (some ⟨bb, 0, none⟩) R'.length c3, .slice A4 L'.length c4] 65)).cell? ⟨w7.heap.size, 0, none⟩ = some (.slice (some ⟨bb, 0, none⟩) R'.length c3) := by simp [go_sem]
          have m1 : (w7.alloc (.cells #[.slice (some ⟨bb, 0, none⟩) R'.length c3, .slice A4 L'.length c4] 65)).cell? ⟨w7.heap.size, 1, none⟩ = some (.slice A4 L'.length c4) := by simp [go_sem]
          have p0 := (hkA.cell (i := 0) hc9).trans p0
          have p1 := (hkA.cell (i := 1) hc9).trans p1
          have HRD := Lib.hid (HRD.out.keep hkA.1 hkA.2)
          have HLD := Lib.hid (HLD.out.keep hkA.1 hkA.2)
          have hb97 : b9 < w7.heap.size := block_lt ((hkA.cell (i := 0) hc9).symm.trans p0)
          clear hg' hk' hrow q1 q2 q3 his' hrd' HSH2 HSP hkA
          go_upto_region 20 with fail
          generalize w7.alloc (.cells #[.slice (some ⟨bb, 0, none⟩) R'.length c3, .slice A4 L'.length c4] 65) = W7 at *
          clear m0 m1 hcell hb97
          go_wp2_with fail
          refine (HX.out _).mono ?_
          rintro e w8 ⟨rfl, rfl⟩
          have HWR := Lib.hid (write_s HG7.out (by have := HALLEN.out; omega) 0 k 0 ⟨0, x1⟩)
          have HLN := Lib.hid (write_len G2 0 k 0 ⟨0, x1⟩).1
          generalize G2.write 0 k 0 ⟨0, x1⟩ = gw at *
          obtain ⟨G3, e3⟩ := gw
          go_wp2_with fail
          refine (HWR.out).mono ?_
          rintro e w8 ⟨rfl, hg, hk⟩
          have p0 := (hk.cell (i := 0) hc9).trans p0
          have p1 := (hk.cell (i := 1) hc9).trans p1
          have HRD := Lib.hid (HRD.out.keep hk.1 hk.2)
          have HLD := Lib.hid (HLD.out.keep hk.1 hk.2)
          have HDR := Lib.hid (drop_s hg 0)
          have hd := HD.out
          rw [hd] at HDR
          clear hg hk hd HD HWR HG7 HKA
          go_wp2_with fail
          refine (HDR.out).mono ?_
          rintro e w9 ⟨rfl, hg, hk⟩
          have p0 := (hk.cell (i := 0) hc9).trans p0
          have p1 := (hk.cell (i := 1) hc9).trans p1
          have HRD := Lib.hid (HRD.out.keep hk.1 hk.2)
          have HLD := Lib.hid (HLD.out.keep hk.1 hk.2)
          have HOK := Lib.hid hg.ok
          have HSH := Lib.hid (shape_s (hg.below (Below.refl _ _).drew).1 (by show (os ++ [o]).length ≤ 1000; simp; omega))
          clear hg hk HDR
          go_wp2
          go_region_held3 (fun w' => w'.cell? ⟨b9, 0, none⟩ = some (.slice A1 R.length c1) ∧ w'.cell? ⟨b9, 1, none⟩ = some (.slice A2 L.length c2)) (go_simp)
            ((first | (go_at_call 37; refine (HSH.out).mono ?_; rintro e w10 ⟨R', L', Rv', Lv', his', rfl, hrd', hld', hg', hk', hb'⟩; have p0' := (hk'.cell (i := 0) hc9).trans p0; have p1' := (hk'.cell (i := 1) hc9).trans p1; have hl6 := hg'.is_len his'; have hRk := HRD.out.keep (w' := w10) hk'.1 hk'.2; have hLk := HLD.out.keep (w' := w10) hk'.1 hk'.2) | (go_at_call 38; refine (same_any _ _ _ _ _ _ _ _ _ hRk.rd hLk.rd hrd'.rd hld'.rd (by omega) (by omega) (by omega) (by have h9 := hl6.2; simp at h9; omega)).mono ?_; rintro e w11 ⟨sb, rfl, hsb, hb7⟩; have q0 := (hb7.cell (p := ⟨b9, 0, none⟩) (block_lt p0')).trans p0'; have q1 := (hb7.cell (p := ⟨b9, 1, none⟩) (block_lt p1')).trans p1')))
          all_goals
            have HBL := Lib.hid (show Below w.heap.size w w11 by
              have h1 := HB1.out
              have h2 := h1.trans (hg'.bl.mono h1.size)
              exact h2.trans (hb7.mono h2.size))
            obtain rfl : sb = true := hsb.2 (Gd.is_unique HIS.out (Gd.unseen HOKG.out o his'))
            clear hrd' hld' hg' hk' hb' p0' p1' hl6 hRk hLk hsb hb7 q0 q1
            go_wp2_with fail
            go_ret
            exact ⟨rfl, HBL.out⟩

end Go.Proofs.Ytlogojiphjpknaa
