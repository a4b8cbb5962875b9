/- flitlaw07.GraphNumbers comes to true, whatever it is handed, and writes nothing that was there. -/
import Derived.Test.YtlogojiphjpknaaGShown
import Derived.Test.YtlogojiphjpknaaGKind
import Derived.Test.YtlogojiphjpknaaGNumsP
import Derived.Test.YtlogojiphjpknaaOpenOps
import Derived.Outline
import Derived.Deep.DeepCutAuto
namespace Go.Proofs.Ytlogojiphjpknaa
open Go.RowKit
set_option linter.unusedVariables false

/-- no call takes a thread away, and only Alloc adds an object, one -/
theorem alloc_len (G : Gd) (t n : Int) : (G.alloc t n).1.os.length ≤ G.os.length + 1 ∧ (G.alloc t n).1.ts.length = G.ts.length := by
  unfold Gd.alloc
  split
  · exact ⟨Nat.le_succ _, rfl⟩
  · split
    · exact ⟨Nat.le_succ _, rfl⟩
    · split
      · exact ⟨by simp, by simp⟩
      · exact ⟨Nat.le_succ _, rfl⟩
theorem write_len (G : Gd) (t i f : Int) (s : V) : (G.write t i f s).1.os.length = G.os.length ∧ (G.write t i f s).1.ts.length = G.ts.length := by
  unfold Gd.write
  split
  · exact ⟨rfl, rfl⟩
  · split
    · exact ⟨rfl, rfl⟩
    · unfold Gd.fset; exact ⟨by simp, rfl⟩
theorem drop_len (G : Gd) (t : Int) : (G.drop t).1.os.length = G.os.length ∧ (G.drop t).1.ts.length = G.ts.length :=
  ⟨by unfold Gd.drop; rw [(Gd.turn_os G t _).1], (Gd.turn_os G t _).2⟩
theorem dup_len (G : Gd) (t i : Int) : (G.dup t i).1.os.length = G.os.length ∧ (G.dup t i).1.ts.length = G.ts.length :=
  ⟨by unfold Gd.dup; rw [(Gd.turn_os G t _).1], (Gd.turn_os G t _).2⟩

set_option maxRecDepth 100000 in
set_option maxHeartbeats 4000000 in
theorem numbers_walk (A : Option Addr) (n c : Nat) (z : Nat → Nat → Int) (w : World) (hA : Ops w A n z) (hz : ∀ i k, -9223372036854775808 ≤ z i k ∧ z i k ≤ 9223372036854775807) (hm : n ≤ 9223372036854775807) :
    Calls Try.prog 11 #[.slice A n c] w (YesP w) := by
  have HZ := Lib.hid hz
  have HA := Lib.hid hA
  clear hz hA
  go_enter Try.func11, Try.ntmps11
  go_wp2_with fail
  refine (gshown_yes _).mono ?_
  rintro e w1 ⟨rfl, hb1⟩
  have HB1 := Lib.hid hb1
  clear hb1
  go_wp2_with fail
  refine (new_s 2 (by omega) (by omega) _).mono ?_
  rintro e w2 ⟨p, rfl, hg⟩
  have HG := Lib.hid hg
  clear hg
  go_wp2_with fail
  obtain ⟨K, hK⟩ : ∃ k, k = min n 40 := ⟨_, rfl⟩
  have hK40 : K ≤ 40 := by omega
  have hKn : K ≤ n := by omega
  have HKK := Lib.hid hK
  clear hK
  go_loopw [6] (fun s6 wr => ∃ (j : Nat) (G : Gd), j ≤ K ∧ s6 = .int .i64 j ∧ G.os.length ≤ j ∧ G.ts.length = 2 ∧ GS w1 wr p G (fun _ => False)) (fun s6 _ => K - (intOf s6).toNat)
  case atStart => exact ⟨0, Gd.new 2, by omega, rfl, by decide, by decide, HG.out⟩
  case round =>
    clear HG
    obtain ⟨j, G, hj, rfl, hos, hts, hg⟩ := hrel
    by_cases hjK : j < K
    · have hjn : (j : Int) < (n : Int) := by omega
      have hj40 : (j : Int) < 40 := by omega
      rcases (HA.out) with h0 | ⟨b, off, rfl, hbl, hcz⟩
      · omega
      have hx : ∀ k, k < 9 → wr.cell? ⟨b, off + (j * 9 + k), none⟩ = some (.int .i64 (z j k)) := fun k hk => (hg.bl.cell (p := ⟨b, off + (j * 9 + k), none⟩) (by have := HB1.out.size; show b < w1.heap.size; omega)).trans ((HB1.out.cell (p := ⟨b, off + (j * 9 + k), none⟩) (by simp; omega)).trans (by simp [go_sem, hcz j (by omega) k hk]))
      have x0 : wr.cell? ⟨b, off + j * 9, none⟩ = some (.int .i64 (z j 0)) := hx 0 (by omega)
      have x1 : wr.cell? ⟨b, off + (j * 9 + 1), none⟩ = some (.int .i64 (z j 1)) := hx 1 (by omega)
      have x2 : wr.cell? ⟨b, off + (j * 9 + 2), none⟩ = some (.int .i64 (z j 2)) := hx 2 (by omega)
      have x3 : wr.cell? ⟨b, off + (j * 9 + 3), none⟩ = some (.int .i64 (z j 3)) := hx 3 (by omega)
      have x4 : wr.cell? ⟨b, off + (j * 9 + 4), none⟩ = some (.int .i64 (z j 4)) := hx 4 (by omega)
      have x5 : wr.cell? ⟨b, off + (j * 9 + 5), none⟩ = some (.int .i64 (z j 5)) := hx 5 (by omega)
      have x6 : wr.cell? ⟨b, off + (j * 9 + 6), none⟩ = some (.int .i64 (z j 6)) := hx 6 (by omega)
      have x7 : wr.cell? ⟨b, off + (j * 9 + 7), none⟩ = some (.int .i64 (z j 7)) := hx 7 (by omega)
      have x8 : wr.cell? ⟨b, off + (j * 9 + 8), none⟩ = some (.int .i64 (z j 8)) := hx 8 (by omega)
      have hblr : b < wr.heap.size := block_lt x0
      clear hx hcz
      obtain ⟨h00, h01⟩ := HZ.out j 0
      obtain ⟨h10, h11⟩ := HZ.out j 1
      obtain ⟨h20, h21⟩ := HZ.out j 2
      obtain ⟨h30, h31⟩ := HZ.out j 3
      have HT := Lib.hid (fun w => kind_any (z j 1) 2 w h10 h11 (by omega) (by omega))
      have HI := Lib.hid (fun w => kind_any (z j 2) 3 w h20 h21 (by omega) (by omega))
      have HF8 := Lib.hid (fun w => kind_any (z j 3) 8 w h30 h31 (by omega) (by omega))
      have HF4 := Lib.hid (fun w => kind_any (z j 3) 4 w h30 h31 (by omega) (by omega))
      have HKD := Lib.hid (fun w => kind_any (z j 0) 5 w h00 h01 (by omega) (by omega))
      obtain ⟨b0, b0'⟩ := kd_bd (z j 0) (show (0 : Int) < 5 by omega)
      clear h00 h01 h10 h11 h20 h21 h30 h31
      generalize kd (z j 0) 5 = kk at *
      generalize kd (z j 1) 2 = tt at *
      generalize kd (z j 2) 3 = ii at *
      generalize kd (z j 3) 8 = f8 at *
      generalize kd (z j 3) 4 = f4 at *
      generalize z j 0 = z0 at *
      generalize z j 1 = z1 at *
      generalize z j 2 = z2 at *
      generalize z j 3 = z3 at *
      generalize z j 4 = z4 at *
      generalize z j 5 = z5 at *
      generalize z j 6 = z6 at *
      generalize z j 7 = z7 at *
      generalize z j 8 = z8 at *
      have HG := Lib.hid (hg.new (.cells #[.int .i64 z0, .int .i64 z1, .int .i64 z2, .int .i64 z3, .int .i64 z4, .int .i64 z5, .int .i64 z6, .int .i64 z7, .int .i64 z8] 50))
      have HAL := Lib.hid (alloc_s HG.out tt f8 (by omega))
      have HWR := Lib.hid (write_s (HG.out.below (Below.refl _ _).drew).1 (by omega) tt ii f4 ⟨z5, z6⟩)
      have HDR := Lib.hid (drop_s HG.out tt)
      clear hg
      go_wp2_with fail
      refine (HT.out _).mono ?_
      rintro e w5 ⟨rfl, rfl⟩
      clear x0 x1 x2 x3 x4 x5 x6 x7 x8
      go_wp2_with fail
      refine (HKD.out _).mono ?_
      rintro e w5 ⟨rfl, rfl⟩
      rcases (show kk = 0 ∨ kk = 1 ∨ kk = 2 ∨ kk = 3 ∨ kk = 4 by omega) with rfl | rfl | rfl | rfl | rfl
      iterate 2
        · go_wp2_with fail
          refine (HF8.out _).mono ?_
          rintro e w5 ⟨rfl, rfl⟩
          go_wp2_with fail
          refine (HAL.out).mono ?_
          rintro e w5 ⟨rfl, hg, _⟩
          have HG2 := Lib.hid (hg.less (D := fun _ => False) (fun k hk => hk.elim))
          clear hg
          go_wp2_with fail
          go_roundw
          case rel =>
            have := alloc_len G tt f8
            exact ⟨j + 1, _, by omega, by go_num, by omega, by omega, HG2.out⟩
          case measure => simp [intOf]; omega
      iterate 2
        · go_wp2_with fail
          go_region_held3 (fun w' => w'.cell? ⟨wr.heap.size, 2, none⟩ = some (.int .i64 z2) ∧ w'.cell? ⟨wr.heap.size, 3, none⟩ = some (.int .i64 z3) ∧ w'.cell? ⟨wr.heap.size, 5, none⟩ = some (.int .i64 z5) ∧ w'.cell? ⟨wr.heap.size, 6, none⟩ = some (.int .i64 z6)) (go_simp)
            ((first | (go_at_call 29; first | (with_reducible refine (HI.out _).mono ?_; rintro e w5 ⟨rfl, rfl⟩) | (with_reducible refine (HF4.out _).mono ?_; rintro e w5 ⟨rfl, rfl⟩)) | (go_at_call 31; refine (HWR.out).mono ?_; rintro e w5 ⟨rfl, hg, hk⟩; have y2 := hk.cell (b := wr.heap.size) (i := 2) (.inr rfl); have y3 := hk.cell (b := wr.heap.size) (i := 3) (.inr rfl); have y5 := hk.cell (b := wr.heap.size) (i := 5) (.inr rfl); have y6 := hk.cell (b := wr.heap.size) (i := 6) (.inr rfl))))
          all_goals
            have HG2 := Lib.hid (hg.less (D := fun _ => False) (fun k hk => hk.elim))
            clear hg hk y2 y3 y5 y6
            go_wp2_with fail
            go_roundw
            case rel =>
              have := write_len G tt ii f4 ⟨z5, z6⟩
              exact ⟨j + 1, _, by omega, by go_num, by omega, by omega, HG2.out⟩
            case measure => simp [intOf]; omega
      · go_wp2_with fail
        refine (HDR.out).mono ?_
        rintro e w5 ⟨rfl, hg, _⟩
        have HG2 := Lib.hid (hg.less (D := fun _ => False) (fun k hk => hk.elim))
        clear hg
        go_wp2_with fail
        go_roundw
        case rel =>
          have := drop_len G tt
          exact ⟨j + 1, _, by omega, by go_num, by omega, by omega, HG2.out⟩
        case measure => simp [intOf]; omega
    · obtain rfl : j = K := by omega
      have hend : ((j : Int) < (n : Int) ∧ ¬ (j : Int) < 40) ∨ ¬ (j : Int) < (n : Int) := by
        have := HKK.out
        omega
      have HSH := Lib.hid (shape_s hg (by omega))
      clear hg
      rcases hend with ⟨hj1, hj2⟩ | hj2
      all_goals
        go_wp2_with fail
        refine (HSH.out).mono ?_
        rintro e w5 ⟨R, L, Rv, Lv, his, rfl, hrd, hld, hg, _, _⟩
        obtain ⟨hRl', MR, ML, hN⟩ := nums_of hg.ok his
        have HRD := Lib.hid (hrd.rd.below ((Below.refl _ _).alloc (Nat.le_refl _) (.cells #[Rv, Lv] 65)))
        have HLD := Lib.hid (hld.rd.below ((Below.refl _ _).alloc (Nat.le_refl _) (.cells #[Rv, Lv] 65)))
        obtain ⟨A1, c1, e1, _⟩ := hrd
        obtain ⟨A2, c2, e2, _⟩ := hld
        subst e1 e2
        obtain ⟨W, hW⟩ : ∃ W, W = w5.alloc (.cells #[.slice A1 R.length c1, .slice A2 L.length c2] 65) := ⟨_, rfl⟩
        rw [← hW] at HRD HLD
        have s0 : W.cell? ⟨w5.heap.size, 0, none⟩ = some (.slice A1 R.length c1) := by rw [hW]; simp [go_sem]
        have s1 : W.cell? ⟨w5.heap.size, 1, none⟩ = some (.slice A2 L.length c2) := by rw [hW]; simp [go_sem]
        have HS := Lib.hid (And.intro s0 s1)
        have HBL := Lib.hid (show Below w.heap.size w W by
          rw [hW]
          exact (HB1.out.trans (hg.bl.mono HB1.out.size)).alloc (Nat.le_trans HB1.out.size hg.bl.size) _)
        have HW := Lib.hid hW
        have hRl : R.length = 2 := by omega
        have HN := Lib.hid hN
        have hm40 : G.os.length ≤ 40 := by omega
        have hws : w5.heap.size < W.heap.size := block_lt s0
        clear hg his hN hW s0 s1 HSH
        have HRl := Lib.hid hRl
        have hR9 : R.length ≤ 9 := by omega
        have hL40 : L.length ≤ 40 := by have := HN.out.bl L.length 0; rw [HN.out.e] at this; omega
        clear hRl hRl'
        go_wp2_with fail
        rw [← HW.out]
        go_loopw [10, 11] (fun s10 s11 wr => ∃ t : Nat, t ≤ R.length ∧ s11 = .int .i64 t ∧ s10 = .int .i64 (MR t 0) ∧ Below W.heap.size W wr) (fun _ s11 _ => R.length - (intOf s11).toNat)
        case atStart => exact ⟨0, by omega, rfl, by rw [HN.out.z]; rfl, below_refl _⟩
        case round =>
          obtain ⟨t, ht, rfl, rfl, hb⟩ := hrel
          have HB := Lib.hid hb
          have p0 := (hb.cell (p := ⟨w5.heap.size, 0, none⟩) hws).trans HS.out.1
          by_cases htR : t < R.length
          · obtain ⟨_, _, e, hrow⟩ := HRD.out
            injection e with e1 _ e3
            subst e1 e3
            obtain ⟨bb, g, k', rfl, hbl, hcell, hgl, hlen, hrowc⟩ := hrow t htR
            have HX := Lib.hid (fun i => HN.out.r t i htR)
            have HXN := Lib.hid (HN.out.rn t htR)
            generalize R.getD t [] = row at hcell hlen hrowc HX HXN
            have q0 := (hb.cell (p := ⟨bb, t, none⟩) hbl).trans hcell
            have htR' : (t : Int) < (R.length : Int) := by omega
            have HRC := Lib.hid hrowc
            have HC := Lib.hid hcell
            clear hrowc hrow hcell hb
            go_wp2_with fail
            go_loopw [10, 12] (fun s10 s12 wx => ∃ i : Nat, i ≤ row.length ∧ s12 = .int .i64 i ∧ s10 = .int .i64 (MR t i) ∧ Below W.heap.size W wx) (fun _ s12 _ => row.length - (intOf s12).toNat)
            case atStart => exact ⟨0, by omega, rfl, rfl, HB.out⟩
            case round =>
              obtain ⟨i, hi, rfl, rfl, hb⟩ := hrel
              have HB2 := Lib.hid hb
              have p0 := (hb.cell (p := ⟨w5.heap.size, 0, none⟩) hws).trans HS.out.1
              have q0 := (hb.cell (p := ⟨bb, t, none⟩) hbl).trans HC.out
              by_cases hil : i < row.length
              · have r0 := (hb.cell (p := ⟨g, i, none⟩) hgl).trans (HRC.out i hil)
                obtain ⟨n0, n1, n2⟩ := HX.out i hil
                have hmb := HN.out.br t i
                generalize row.getD i 0 = x at r0 n0 n1 n2
                have HN2 := Lib.hid n2
                generalize MR t i = m at *
                have hil' : (i : Int) < (row.length : Int) := by omega
                clear n2 hb
                go_wp2_with fail
                go_roundw
                case rel => exact ⟨i + 1, by omega, by go_num, by rw [HN2.out]; congr 1; split <;> omega, HB2.out⟩
                case measure => simp [intOf]; omega
              · obtain rfl : i = row.length := by omega
                clear hb
                go_wp2_with fail
                go_roundw
                case rel => exact ⟨t + 1, by omega, by go_num, by rw [HXN.out], HB2.out⟩
                case measure => simp [intOf]; omega
          · obtain rfl : t = R.length := by omega
            clear hb
            have p1 := (HB.out.cell (p := ⟨w5.heap.size, 1, none⟩) hws).trans HS.out.2
            rw [HN.out.l]
            have HBW := Lib.hid (HBL.out.trans (HB.out.mono HBL.out.size))
            have HLD2 := Lib.hid (HLD.out.below HB.out)
            have hws2 : w5.heap.size < wr.heap.size := block_lt p1
            have HP := Lib.hid (And.intro p0 p1)
            clear HBL HLD HB HS hws HW HRD
            go_wp2_with fail
            clear p0 p1
            rename World => wo
            go_loopw [10, 14] (fun s10 s14 wx => ∃ k : Nat, k ≤ L.length ∧ s14 = .int .i64 k ∧ s10 = .int .i64 (ML k 0) ∧ Below wo.heap.size wo wx) (fun _ s14 _ => L.length - (intOf s14).toNat)
            case atStart => exact ⟨0, by omega, rfl, rfl, below_refl _⟩
            case round =>
              obtain ⟨k, hk, rfl, rfl, hb⟩ := hrel
              have HB := Lib.hid hb
              have p0 := (hb.cell (p := ⟨w5.heap.size, 0, none⟩) hws2).trans HP.out.1
              have p1 := (hb.cell (p := ⟨w5.heap.size, 1, none⟩) hws2).trans HP.out.2
              by_cases hkL : k < L.length
              · obtain ⟨_, _, e, hrow⟩ := HLD2.out
                injection e with e1 _ e3
                subst e1 e3
                obtain ⟨bb, g, k', rfl, hbl, hcell, hgl, hlen, hrowc⟩ := hrow k hkL
                have hkm := HN.out.k k hkL
                have HX := Lib.hid (fun f => HN.out.f k f hkL)
                have HXN := Lib.hid (HN.out.kn k hkL)
                generalize L.getD k [] = row at hcell hlen hrowc HX HXN
                have q0 := (hb.cell (p := ⟨bb, k, none⟩) hbl).trans hcell
                have hkL' : (k : Int) < (L.length : Int) := by omega
                have hkm' : ¬ (ML k 0 : Int) ≤ (k : Int) := by omega
                have HRC := Lib.hid hrowc
                have HC := Lib.hid hcell
                clear hrowc hrow hcell hb
                go_wp2_with fail
                go_loopw [10, 15] (fun s10 s15 wx => ∃ f : Nat, f ≤ row.length ∧ s15 = .int .i64 f ∧ s10 = .int .i64 (ML k f) ∧ Below wo.heap.size wo wx) (fun _ s15 _ => row.length - (intOf s15).toNat)
                case atStart => exact ⟨0, by omega, rfl, rfl, HB.out⟩
                case round =>
                  obtain ⟨f, hf, rfl, rfl, hb⟩ := hrel
                  have HB2 := Lib.hid hb
                  have p1 := (hb.cell (p := ⟨w5.heap.size, 1, none⟩) hws2).trans HP.out.2
                  have q0 := (hb.cell (p := ⟨bb, k, none⟩) hbl).trans HC.out
                  by_cases hfl : f < row.length
                  · have r0 := (hb.cell (p := ⟨g, f * 2, none⟩) hgl).trans (HRC.out f hfl).1
                    have r1 := (hb.cell (p := ⟨g, f * 2 + 1, none⟩) hgl).trans (HRC.out f hfl).2
                    obtain ⟨n0, n1⟩ := HX.out f hfl
                    have hmb := HN.out.bl k f
                    generalize row.getD f default = x at r0 r1 n0 n1
                    obtain ⟨xk, xn⟩ := x
                    simp only at r0 r1 n0 n1
                    have hfl' : (f : Int) < (row.length : Int) := by omega
                    by_cases hx : xk = 1
                    · subst hx
                      obtain ⟨n2, n3, n4⟩ := n0 rfl
                      have HN2 := Lib.hid n4
                      generalize ML k f = m at *
                      clear n0 n1 n4 hb
                      go_wp2_with fail
                      go_roundw
                      case rel => exact ⟨f + 1, by omega, by go_num, by rw [HN2.out]; congr 1; split <;> omega, HB2.out⟩
                      case measure => simp [intOf]; omega
                    · have hx' : (xk == 1) = false := by simpa using hx
                      have HN2 := Lib.hid (n1 hx)
                      clear n0 n1 hx hb
                      go_wp2_with fail
                      go_roundw
                      case rel => exact ⟨f + 1, by omega, by go_num, by rw [HN2.out], HB2.out⟩
                      case measure => simp [intOf]; omega
                  · obtain rfl : f = row.length := by omega
                    clear hb
                    go_wp2_with fail
                    go_roundw
                    case rel => exact ⟨k + 1, by omega, by go_num, by rw [HXN.out], HB2.out⟩
                    case measure => simp [intOf]; omega
              · obtain rfl : k = L.length := by omega
                clear hb
                have hRl := HRl.out
                have hLe := HN.out.e
                go_wp2_with fail
                go_ret
                exact ⟨rfl, HBW.out.trans (HB.out.mono HBW.out.size)⟩

end Go.Proofs.Ytlogojiphjpknaa
