/- flitlaw07.GraphBad comes to true, whatever it is handed, and writes nothing that was there. -/
import Derived.Test.YtlogojiphjpknaaGOps
import Derived.Test.YtlogojiphjpknaaOpenOps
import Derived.Outline
import Derived.Deep.DeepCutAuto
import Derived.Deep.CutBlock
namespace Go.Proofs.Ytlogojiphjpknaa
open Go.RowKit
set_option linter.unusedVariables false

set_option maxRecDepth 100000 in
set_option maxHeartbeats 4000000 in
theorem bad_walk (A : Option Addr) (n c : Nat) (z : Nat → Nat → Int) (y : Nat → Int) (w : World) (hA : Ops w A n z) (hz : ∀ i k, -9223372036854775808 ≤ z i k ∧ z i k ≤ 9223372036854775807) (hm : n ≤ 9223372036854775807)
    (hy : ∀ k, -9223372036854775808 ≤ y k ∧ y k ≤ 9223372036854775807) :
    Calls Try.prog 13 #[.slice A n c, .agg #[.int .i64 (y 0), .int .i64 (y 1), .int .i64 (y 2), .int .i64 (y 3), .int .i64 (y 4), .int .i64 (y 5), .int .i64 (y 6), .int .i64 (y 7), .int .i64 (y 8)]] w (YesP w) := by
  have HZ := Lib.hid hz
  have HA := Lib.hid hA
  obtain ⟨h00, h01⟩ := hy 0
  have HKD := Lib.hid (fun w => kind_any (y 0) 6 w h00 h01 (by omega) (by omega))
  obtain ⟨b0, b0'⟩ := kd_bd (y 0) (show (0 : Int) < 6 by omega)
  generalize kd (y 0) 6 = kk at *
  generalize y 0 = y0 at *
  generalize y 1 = y1 at *
  generalize y 2 = y2 at *
  generalize y 3 = y3 at *
  generalize y 4 = y4 at *
  generalize y 5 = y5 at *
  generalize y 6 = y6 at *
  generalize y 7 = y7 at *
  generalize y 8 = y8 at *
  clear hz hA hy h00 h01
  go_enter Try.func13, Try.ntmps13
  go_wp2_with fail
  refine (gshown_yes _).mono ?_
  rintro e w1 ⟨rfl, hb1⟩
  have hk1 : ∀ i, w1.cell? ⟨w.heap.size, i, none⟩ = (w.alloc (.cells #[.int .i64 y0, .int .i64 y1, .int .i64 y2, .int .i64 y3, .int .i64 y4, .int .i64 y5, .int .i64 y6, .int .i64 y7, .int .i64 y8] 50)).cell? ⟨w.heap.size, i, none⟩ := fun i => hb1.cell (p := ⟨w.heap.size, i, none⟩) (by simp)
  have HB1 := Lib.hid hb1
  have HK1 := Lib.hid hk1
  have hs1 := hb1.size
  simp at hs1
  have hwl : w.heap.size < w1.heap.size := by omega
  clear hb1 hk1
  go_wp2_with fail
  refine (new_s 1 (by omega) (by omega) _).mono ?_
  rintro e w2 ⟨p, rfl, hg⟩
  have HG := Lib.hid hg
  clear hg
  go_wp2_with fail
  obtain ⟨K, hK⟩ : ∃ k, k = min n 20 := ⟨_, rfl⟩
  have hK40 : K ≤ 20 := by omega
  have hKn : K ≤ n := by omega
  have HKK := Lib.hid hK
  clear hK
  go_loopw [8] (fun s6 wr => ∃ (j : Nat) (G : Gd), j ≤ K ∧ s6 = .int .i64 j ∧ G.os.length ≤ j ∧ GS w1 wr p G (fun _ => False)) (fun s6 _ => K - (intOf s6).toNat)
  case atStart => exact ⟨0, Gd.new 1, by omega, rfl, by decide, HG.out⟩
  case round =>
    clear HG
    obtain ⟨j, G, hj, rfl, hos, hg⟩ := hrel
    by_cases hjK : j < K
    · have hjn : (j : Int) < (n : Int) := by omega
      have hj40 : (j : Int) < 20 := by omega
      rcases (HA.out) with h0 | ⟨b, off, rfl, hbl, hcz⟩
      · omega
      have hx : ∀ k, k < 9 → wr.cell? ⟨b, off + (j * 9 + k), none⟩ = some (.int .i64 (z j k)) := fun k hk => (hg.bl.cell (p := ⟨b, off + (j * 9 + k), none⟩) (by show b < w1.heap.size; omega)).trans ((HB1.out.cell (p := ⟨b, off + (j * 9 + k), none⟩) (by simp; omega)).trans (by simp [go_sem, hbl, hcz j (by omega) k hk]))
      have x2 : wr.cell? ⟨b, off + (j * 9 + 2), none⟩ = some (.int .i64 (z j 2)) := hx 2 (by omega)
      have x3 : wr.cell? ⟨b, off + (j * 9 + 3), none⟩ = some (.int .i64 (z j 3)) := hx 3 (by omega)
      have x5 : wr.cell? ⟨b, off + (j * 9 + 5), none⟩ = some (.int .i64 (z j 5)) := hx 5 (by omega)
      have x6 : wr.cell? ⟨b, off + (j * 9 + 6), none⟩ = some (.int .i64 (z j 6)) := hx 6 (by omega)
      have hblr : b < w1.heap.size := by omega
      clear hx hcz
      obtain ⟨h20, h21⟩ := HZ.out j 2
      obtain ⟨h30, h31⟩ := HZ.out j 3
      have HI := Lib.hid (fun w => kind_any (z j 2) 3 w h20 h21 (by omega) (by omega))
      have HF8 := Lib.hid (fun w => kind_any (z j 3) 8 w h30 h31 (by omega) (by omega))
      have HF4 := Lib.hid (fun w => kind_any (z j 3) 4 w h30 h31 (by omega) (by omega))
      clear h20 h21 h30 h31
      generalize kd (z j 2) 3 = ii at *
      generalize kd (z j 3) 8 = f8 at *
      generalize kd (z j 3) 4 = f4 at *
      generalize z j 2 = z2 at *
      generalize z j 3 = z3 at *
      generalize z j 5 = z5 at *
      generalize z j 6 = z6 at *
      have HAL := Lib.hid (alloc_s hg 0 f8 (by omega))
      have HBR := Lib.hid hg.bl
      have HX := Lib.hid (And.intro x2 (And.intro x3 (And.intro x5 x6)))
      clear hg
      go_wp2_with fail
      refine (HF8.out _).mono ?_
      rintro e w5 ⟨rfl, rfl⟩
      go_wp2_with fail
      refine (HAL.out).mono ?_
      rintro e w5 ⟨rfl, hg, _⟩
      have hlen := alloc_len G 0 f8
      generalize hG2 : (G.alloc 0 f8).1 = G2 at *
      have hcell : ∀ i, w5.cell? ⟨b, i, none⟩ = wr.cell? ⟨b, i, none⟩ := fun i => (hg.bl.cell (p := ⟨b, i, none⟩) hblr).trans (HBR.out.cell (p := ⟨b, i, none⟩) hblr).symm
      obtain ⟨x2', x3', x5', x6'⟩ := HX.out
      rw [← hcell] at x2' x3' x5' x6'
      have HBR5 := Lib.hid hg.bl
      have HWR := Lib.hid (write_s (hg.below (Below.refl _ _).drew).1 (by omega) 0 ii f4 ⟨z5, z6⟩)
      clear hg HAL hcell x2 x3 x5 x6 hG2 HX HBR
      go_wp2_with fail
      go_region_held3 (fun w' => w'.cell? ⟨b, off + (j * 9 + 2), none⟩ = some (.int .i64 z2) ∧ w'.cell? ⟨b, off + (j * 9 + 3), none⟩ = some (.int .i64 z3) ∧ w'.cell? ⟨b, off + (j * 9 + 5), none⟩ = some (.int .i64 z5) ∧ w'.cell? ⟨b, off + (j * 9 + 6), none⟩ = some (.int .i64 z6)) (go_simp)
        ((first | (go_at_call 29; first | (with_reducible refine (HI.out _).mono ?_; rintro e w6 ⟨rfl, rfl⟩) | (with_reducible refine (HF4.out _).mono ?_; rintro e w6 ⟨rfl, rfl⟩)) | (go_at_call 31; refine (HWR.out).mono ?_; rintro e w6 ⟨rfl, hg, hk⟩; have hcell : ∀ i, w6.cell? ⟨b, i, none⟩ = w5.cell? ⟨b, i, none⟩ := fun i => (hg.bl.cell (p := ⟨b, i, none⟩) hblr).trans (HBR5.out.cell (p := ⟨b, i, none⟩) hblr).symm; rw [← hcell] at x2' x3' x5' x6'; clear hcell)))
      all_goals
        have HG2 := Lib.hid hg
        clear hg hk x2' x3' x5' x6'
        go_wp2_with fail
        go_roundw
        case rel =>
          have := write_len G2 0 ii f4 ⟨z5, z6⟩
          exact ⟨j + 1, _, by omega, by go_num, by omega, HG2.out⟩
        case measure => simp [intOf]; omega
    · obtain rfl : j = K := by omega
      have hend : ((j : Int) < (n : Int) ∧ ¬ (j : Int) < 20) ∨ ¬ (j : Int) < (n : Int) := by
        have := HKK.out
        omega
      have HSH := Lib.hid (shape_s hg (by omega))
      clear hg
      rcases hend with ⟨hj1, hj2⟩ | hj2
      all_goals
        go_wp2_with fail
        refine (HSH.out).mono ?_
        rintro e w5 ⟨R, L, Rv, Lv, his, rfl, hrd, hld, hg, _, _⟩
        have hgW := hg.new (.cells #[Rv, Lv] 65)
        have hkW := hg.keepA (.cells #[Rv, Lv] 65)
        have HRD := Lib.hid (hrd.keep hkW.1 hkW.2)
        have HLD := Lib.hid (hld.keep hkW.1 hkW.2)
        have s0 : (w5.alloc (.cells #[Rv, Lv] 65)).cell? ⟨w5.heap.size, 0, none⟩ = some Rv := by simp [go_sem]
        have s1 : (w5.alloc (.cells #[Rv, Lv] 65)).cell? ⟨w5.heap.size, 1, none⟩ = some Lv := by simp [go_sem]
        obtain ⟨A1, c1, e1, _⟩ := hrd
        obtain ⟨A2, c2, e2, _⟩ := hld
        subst e1 e2
        go_upto_region 11 with fail
        generalize hW : w5.alloc (.cells #[.slice A1 R.length c1, .slice A2 L.length c2] 65) = W at *
        have hoc : ∀ i, W.cell? ⟨w.heap.size, i, none⟩ = (w.alloc (.cells #[.int .i64 y0, .int .i64 y1, .int .i64 y2, .int .i64 y3, .int .i64 y4, .int .i64 y5, .int .i64 y6, .int .i64 y7, .int .i64 y8] 50)).cell? ⟨w.heap.size, i, none⟩ := fun i => (hgW.bl.cell (p := ⟨w.heap.size, i, none⟩) hwl).trans (HK1.out i)
        have hgW' := hgW.less (D := fun k => Also (fun _ => False) wr w5 k ∨ k = w5.heap.size) (fun k hk => hk)
        have HG := Lib.hid hgW'
        obtain ⟨C, hC⟩ : ∃ C, C = (fun k => Also (fun _ => False) wr w5 k ∨ k = w5.heap.size) := ⟨_, rfl⟩
        have hc9 : C w5.heap.size := by rw [hC]; exact .inr rfl
        have HRD2 := Lib.hid (show RdC C W _ R from HRD.out.mono (fun k hk _ => by rw [hC]; exact .inl hk))
        have HLD2 := Lib.hid (show LdC C W _ L from HLD.out.mono (fun k hk _ => by rw [hC]; exact .inl hk))
        rw [← hC] at HG
        have k0 : W.cell? ⟨w.heap.size, 0, none⟩ = some (.int .i64 y0) := (hoc 0).trans (by simp [go_sem])
        have k1 : W.cell? ⟨w.heap.size, 1, none⟩ = some (.int .i64 y1) := (hoc 1).trans (by simp [go_sem])
        have k2 : W.cell? ⟨w.heap.size, 2, none⟩ = some (.int .i64 y2) := (hoc 2).trans (by simp [go_sem])
        have k3 : W.cell? ⟨w.heap.size, 3, none⟩ = some (.int .i64 y3) := (hoc 3).trans (by simp [go_sem])
        have k4 : W.cell? ⟨w.heap.size, 4, none⟩ = some (.int .i64 y4) := (hoc 4).trans (by simp [go_sem])
        have k5 : W.cell? ⟨w.heap.size, 5, none⟩ = some (.int .i64 y5) := (hoc 5).trans (by simp [go_sem])
        have k6 : W.cell? ⟨w.heap.size, 6, none⟩ = some (.int .i64 y6) := (hoc 6).trans (by simp [go_sem])
        have k7 : W.cell? ⟨w.heap.size, 7, none⟩ = some (.int .i64 y7) := (hoc 7).trans (by simp [go_sem])
        have k8 : W.cell? ⟨w.heap.size, 8, none⟩ = some (.int .i64 y8) := (hoc 8).trans (by simp [go_sem])
        have HIS := Lib.hid his
        have hRn : R.length ≤ 100000 := by have := (hgW.is_len his).1; omega
        have hLn : L.length ≤ 100000 := by have := (hgW.is_len his).2; omega
        have HS := Lib.hid (And.intro s0 s1)
        clear hg hgW hgW' hkW HRD HLD hW hC hoc s0 s1 his HSH
        generalize w5.heap.size = b9 at *
        go_wp2_with fail
        refine (HKD.out _).mono ?_
        rintro e w6 ⟨rfl, rfl⟩
        go_upto_block 2 with fail
        go_cut [10] (fun s10 wx => ∃ G' e, s10 = .int .i64 e ∧ (e = 0 ∨ G' = G) ∧ GS w1 wx p G' C ∧ Keep C W wx ∧ G'.os.length ≤ 1000)
        case first =>
          rcases (show kk = 0 ∨ kk = 1 ∨ kk = 2 ∨ kk = 3 ∨ kk = 4 ∨ kk = 5 by omega) with rfl | rfl | rfl | rfl | rfl | rfl
          · have HC := Lib.hid (alloc_s HG.out y1 y3 (by omega))
            go_wp2_with fail
            refine (HC.out).mono ?_
            rintro e w6 ⟨rfl, hg, hk⟩
            have HH := Lib.hid (And.intro (Gd.alloc_same G y1 y3) (And.intro hg (And.intro hk (alloc_len G y1 y3).1)))
            clear hg hk HC
            go_wp2_with fail
            go_meet
            obtain ⟨h1, h2, h3, h4⟩ := HH.out
            exact ⟨_, _, rfl, h1, h2, h3, by omega⟩
          · have HC := Lib.hid (put_s HG.out y1 y4)
            go_wp2_with fail
            refine (HC.out).mono ?_
            rintro e w6 ⟨rfl, hg, hk⟩
            have HH := Lib.hid (And.intro (Gd.put_same G y1 y4) (And.intro hg (And.intro hk (Gd.put_len G y1 y4))))
            clear hg hk HC
            go_wp2_with fail
            go_meet
            obtain ⟨h1, h2, h3, h4⟩ := HH.out
            exact ⟨_, _, rfl, h1, h2, h3, by omega⟩
          · have HC := Lib.hid (write_s HG.out (by omega) y1 y2 y3 ⟨y5, y6⟩)
            go_wp2_with fail
            refine (HC.out).mono ?_
            rintro e w6 ⟨rfl, hg, hk⟩
            have HH := Lib.hid (And.intro (Gd.write_same G y1 y2 y3 ⟨y5, y6⟩) (And.intro hg (And.intro hk (write_len G y1 y2 y3 ⟨y5, y6⟩).1)))
            clear hg hk HC
            go_wp2_with fail
            go_meet
            obtain ⟨h1, h2, h3, h4⟩ := HH.out
            exact ⟨_, _, rfl, h1, h2, h3, by omega⟩
          · have HC := Lib.hid (swap_s HG.out (by omega) y1 y2 y3 ⟨y5, y6⟩ ⟨y7, y8⟩)
            have hs := Gd.swap_same G y1 y2 y3 ⟨y5, y6⟩ ⟨y7, y8⟩
            have hl := Gd.swap_len G y1 y2 y3 ⟨y5, y6⟩ ⟨y7, y8⟩
            obtain ⟨⟨G2, yes, er⟩, hr⟩ : ∃ r, r = G.swap y1 y2 y3 ⟨y5, y6⟩ ⟨y7, y8⟩ := ⟨_, rfl⟩
            rw [← hr] at HC hs hl
            simp only at hs hl
            clear hr
            go_wp2_with fail
            refine (HC.out).mono ?_
            rintro e w6 ⟨rfl, hg, hk⟩
            have HH := Lib.hid (And.intro hg (And.intro hk hl))
            clear hg hk HC hl
            rcases hs with ⟨rfl, rfl⟩ | hs
            · go_wp2_with fail
              go_meet
              obtain ⟨h2, h3, h4⟩ := HH.out
              exact ⟨_, _, rfl, .inl rfl, h2, h3, by omega⟩
            · have HSM := Lib.hid hs
              clear hs
              by_cases he : er = 0
              · subst he
                cases yes
                all_goals
                  go_wp2_with fail
                  go_meet
                  obtain ⟨h2, h3, h4⟩ := HH.out
                  exact ⟨_, _, rfl, .inr HSM.out, h2, h3, by omega⟩
              · have he' : (er == 0) = false := by simpa using he
                go_wp2_with fail
                go_meet
                obtain ⟨h2, h3, h4⟩ := HH.out
                exact ⟨_, _, rfl, .inr HSM.out, h2, h3, by omega⟩
          · have HC := Lib.hid (dup_s HG.out y1 y2)
            go_wp2_with fail
            refine (HC.out).mono ?_
            rintro e w6 ⟨rfl, hg, hk⟩
            have HH := Lib.hid (And.intro (show (G.dup y1 y2).2 = 0 ∨ (G.dup y1 y2).1 = G from Gd.turn_same G y1 ((G.rt y1).dup y2)) (And.intro hg (And.intro hk (dup_len G y1 y2).1)))
            clear hg hk HC
            go_wp2_with fail
            go_meet
            obtain ⟨h1, h2, h3, h4⟩ := HH.out
            exact ⟨_, _, rfl, h1, h2, h3, by omega⟩
          · have HC := Lib.hid (drop_s HG.out y1)
            go_wp2_with fail
            refine (HC.out).mono ?_
            rintro e w6 ⟨rfl, hg, hk⟩
            have HH := Lib.hid (And.intro (show (G.drop y1).2 = 0 ∨ (G.drop y1).1 = G from Gd.turn_same G y1 (G.rt y1).drop) (And.intro hg (And.intro hk (drop_len G y1).1)))
            clear hg hk HC
            go_wp2_with fail
            go_meet
            obtain ⟨h1, h2, h3, h4⟩ := HH.out
            exact ⟨_, _, rfl, h1, h2, h3, by omega⟩
        case rest =>
          obtain ⟨G', er, rfl, he, hg, hk, hl⟩ := hcut
          clear HKD k0 k1 k2 k3 k4 k5 k6 k7 k8
          have p0 := (hk.cell hc9).trans HS.out.1
          have p1 := (hk.cell hc9).trans HS.out.2
          have HSH := Lib.hid (shape_s (hg.below (Below.refl _ _).drew).1 hl)
          have HRD := Lib.hid (HRD2.out.keep hk.1 hk.2)
          have HLD := Lib.hid (HLD2.out.keep hk.1 hk.2)
          have HE := Lib.hid he
          clear hg hk he HS HRD2 HLD2 HG
          go_wp2
          go_region_held3 (fun w' => w'.cell? ⟨b9, 0, none⟩ = some (.slice A1 R.length c1) ∧ w'.cell? ⟨b9, 1, none⟩ = some (.slice A2 L.length c2)) (go_simp)
            ((first | (go_at_call 37; refine (HSH.out).mono ?_; rintro e w6 ⟨R', L', Rv', Lv', his', rfl, hrd', hld', hg', hk', hb'⟩; have p0' := (hk'.cell (i := 0) hc9).trans p0; have p1' := (hk'.cell (i := 1) hc9).trans p1; have hl6 := hg'.is_len his'; have hRk := HRD.out.keep (w' := w6) hk'.1 hk'.2; have hLk := HLD.out.keep (w' := w6) hk'.1 hk'.2) | (go_at_call 38; refine (same_any _ _ _ _ _ _ _ _ _ hRk.rd hLk.rd hrd'.rd hld'.rd hRn hLn (by omega) (by omega)).mono ?_; rintro e w7 ⟨sb, rfl, hsb, hb7⟩; have q0 := (hb7.cell (p := ⟨b9, 0, none⟩) (block_lt p0')).trans p0'; have q1 := (hb7.cell (p := ⟨b9, 1, none⟩) (block_lt p1')).trans p1')))
          all_goals
            have HBL := Lib.hid (show Below w.heap.size w w7 by
              have h1 : Below w.heap.size w w1 := ((Below.refl _ _).alloc (Nat.le_refl _) _).trans (HB1.out.mono (by simp))
              have h2 := h1.trans (hg'.bl.mono h1.size)
              exact h2.trans (hb7.mono h2.size))
            have hsb' : er = 0 ∨ sb = true := by
              rcases HE.out with h1 | h1
              · exact .inl h1
              · subst h1
                exact .inr (hsb.2 (Gd.is_unique HIS.out his'))
            clear hrd' hld' hg' hk' hb' p0' p1' hl6 hRk hLk hsb hb7 q0 q1
            rcases hsb' with rfl | rfl
            · go_wp2_with fail
              go_ret
              exact ⟨rfl, HBL.out⟩
            · by_cases h0 : er = 0
              · subst h0
                go_wp2_with fail
                go_ret
                exact ⟨rfl, HBL.out⟩
              · have h0' : (er == 0) = false := by simpa using h0
                go_wp2_with fail
                go_ret
                exact ⟨rfl, HBL.out⟩

end Go.Proofs.Ytlogojiphjpknaa
