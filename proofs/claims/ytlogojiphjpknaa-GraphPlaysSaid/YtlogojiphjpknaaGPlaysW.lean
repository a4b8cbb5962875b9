/- flitlaw07.GraphPlays comes to true, whatever it is handed, and writes nothing that was there. -/
import Derived.Test.YtlogojiphjpknaaRState
import Derived.Test.YtlogojiphjpknaaOpenOps
import Derived.Outline
import Derived.Deep.DeepCutAuto
import Derived.Deep.CutBlock
namespace Go.Proofs.Ytlogojiphjpknaa
open Go.RowKit
set_option linter.unusedVariables false

set_option maxRecDepth 100000 in
set_option maxHeartbeats 4000000 in
theorem plays_no (tt : Int) (htt : tt < 1 ∨ 64 < tt) (A : Option Addr) (n c : Nat) (w : World) : Calls Try.prog 14 #[.int .i64 tt, .slice A n c] w (YesP w) := by
  have HN1 := Lib.hid (fun w => gnew_no tt htt w)
  have HN2 := Lib.hid (fun w => rnew_no tt htt w)
  clear htt
  go_enter Try.func14, Try.ntmps14
  go_wp2_with fail
  refine (gshown_yes _).mono ?_
  rintro e w1 ⟨rfl, hb1⟩
  have HB1 := Lib.hid hb1
  clear hb1
  go_wp2_with fail
  refine (HN1.out _).mono ?_
  rintro e w2 ⟨rfl, hb2⟩
  have HB2 := Lib.hid hb2
  clear hb2
  go_wp2_with fail
  refine (HN2.out _).mono ?_
  rintro e w3 ⟨rfl, hb3⟩
  have HB3 := Lib.hid hb3
  clear hb3
  go_wp2_with fail
  go_loopw [10] (fun s10 wr => s10 = .int .i64 0 ∧ wr = w3) (fun _ _ => 0)
  case atStart => exact ⟨rfl, rfl⟩
  case round =>
    obtain ⟨rfl, rfl⟩ := hrel
    by_cases hn : n = 0
    · subst hn
      go_wp2_with fail
      go_ret
      exact ⟨rfl, (HB1.out.trans (HB2.out.mono HB1.out.size)).trans (HB3.out.mono (Nat.le_trans HB1.out.size HB2.out.size))⟩
    · have hn' : (0 : Int) < (n : Int) := by omega
      go_wp2_with fail
      go_ret
      exact ⟨rfl, (HB1.out.trans (HB2.out.mono HB1.out.size)).trans (HB3.out.mono (Nat.le_trans HB1.out.size HB2.out.size))⟩

set_option maxRecDepth 100000 in
set_option maxHeartbeats 8000000 in
theorem plays_yes (T : Nat) (h1 : 1 ≤ T) (h64 : T ≤ 64) (A : Option Addr) (n c : Nat) (z : Nat → Nat → Int) (w : World) (hA : Ops w A n z) (hz : ∀ i k, -9223372036854775808 ≤ z i k ∧ z i k ≤ 9223372036854775807) (hm : n ≤ 9223372036854775807) :
    Calls Try.prog 14 #[.int .i64 (T : Int), .slice A n c] w (YesP w) := by
  have HZ := Lib.hid hz
  have HA := Lib.hid hA
  clear hz hA
  go_enter Try.func14, Try.ntmps14
  go_wp2_with fail
  refine (gshown_yes _).mono ?_
  rintro e w1 ⟨rfl, hb1⟩
  have HB1 := Lib.hid hb1
  clear hb1
  go_wp2_with fail
  refine (gnew_yes T h1 h64 _).mono ?_
  rintro e w2 ⟨p, rfl, hb2, hg2⟩
  have H2 := Lib.hid (And.intro hb2 hg2)
  clear hb2 hg2
  go_wp2_with fail
  refine (rnew_yes T h1 h64 _).mono ?_
  rintro e w3 ⟨q, rfl, hb3, hg3⟩
  have HGS := Lib.hid (show Gs w1 w3 p q (Gd.new T) (Gd.new T) (fun _ => False) by
    obtain ⟨hb2, hg2⟩ := H2.out
    have hs2 := hb2.size
    have hs3 := hb3.size
    refine ⟨_, _, hg2.below hb3, hg3, fun k hk => ⟨hk.1, by have := hk.2; omega, fun h => h, fun h => by have := h.1; have := hk.2; omega⟩, fun k hk => ⟨by have := hk.1; omega, hk.2, fun h => h⟩, hb2.trans (hb3.mono hs2), fun k hk => hk.elim, Gd.ok_new T, Gd.ok_new T⟩)
  have hos : (Gd.new T).os.length = 0 := rfl
  obtain ⟨G0, hG0⟩ : ∃ G, G = Gd.new T := ⟨_, rfl⟩
  rw [← hG0] at HGS hos
  clear hb3 hg3 H2 hG0
  go_wp2_with fail
  obtain ⟨K, hK⟩ : ∃ k, k = min n 60 := ⟨_, rfl⟩
  have hK40 : K ≤ 60 := by omega
  have hKn : K ≤ n := by omega
  have HKK := Lib.hid hK
  clear hK
  go_loopw [6, 10] (fun s6 s10 wr => ∃ (j p : Nat) (G : Gd), j ≤ K ∧ s10 = .int .i64 j ∧ s6 = .pointer (some ⟨p, 0, none⟩) ∧ G.os.length ≤ j ∧ Gs w1 wr p q G G (fun _ => False)) (fun _ s10 _ => K - (intOf s10).toNat)
  case atStart => exact ⟨0, p, G0, by omega, rfl, rfl, by omega, HGS.out⟩
  case round =>
    clear HGS
    obtain ⟨j, p, G, hj, rfl, rfl, hos, hg⟩ := hrel
    by_cases hjK : j < K
    · have hjn : (j : Int) < (n : Int) := by omega
      have hj40 : (j : Int) < 60 := by omega
      rcases (HA.out) with h0 | ⟨b, off, rfl, hbl, hcz⟩
      · omega
      have hx : ∀ k, k < 9 → wr.cell? ⟨b, off + (j * 9 + k), none⟩ = some (.int .i64 (z j k)) := fun k hk => (hg.bl.cell (p := ⟨b, off + (j * 9 + k), none⟩) (by have := HB1.out.size; show b < w1.heap.size; omega)).trans ((HB1.out.cell (p := ⟨b, off + (j * 9 + k), none⟩) (by simp; omega)).trans (by simp [go_sem, hcz j (by omega) k hk]))
      have x0 : wr.cell? ⟨b, off + j * 9, none⟩ = some (.int .i64 (z j 0)) := hx 0 (by omega)
      have x1 : wr.cell? ⟨b, off + (j * 9 + 1), none⟩ = some (.int .i64 (z j 1)) := hx 1 (by omega)
      have x2 : wr.cell? ⟨b, off + (j * 9 + 2), none⟩ = some (.int .i64 (z j 2)) := hx 2 (by omega)
      have x3 : wr.cell? ⟨b, off + (j * 9 + 3), none⟩ = some (.int .i64 (z j 3)) := hx 3 (by omega)
      have x4 : wr.cell? ⟨b, off + (j * 9 + 4), none⟩ = some (.int .i64 (z j 4)) := hx 4 (by omega)
      have x5 : wr.cell? ⟨b, off + (j * 9 + 5), none⟩ = some (.int .i64 (z j 5)) := hx 5 (by omega)
      have x6 : wr.cell? ⟨b, off + (j * 9 + 6), none⟩ = some (.int .i64 (z j 6)) := hx 6 (by omega)
      have x7 : wr.cell? ⟨b, off + (j * 9 + 7), none⟩ = some (.int .i64 (z j 7)) := hx 7 (by omega)
      have x8 : wr.cell? ⟨b, off + (j * 9 + 8), none⟩ = some (.int .i64 (z j 8)) := hx 8 (by omega)
      have hblr : b < wr.heap.size := block_lt x0
      clear hx hcz
      obtain ⟨h00, h01⟩ := HZ.out j 0
      have HKD := Lib.hid (fun w => kind_any (z j 0) 12 w h00 h01 (by omega) (by omega))
      obtain ⟨b0, b0'⟩ := kd_bd (z j 0) (show (0 : Int) < 12 by omega)
      clear h00 h01
      generalize kd (z j 0) 12 = kk at *
      generalize z j 0 = z0 at *
      generalize z j 1 = z1 at *
      generalize z j 2 = z2 at *
      generalize z j 3 = z3 at *
      generalize z j 4 = z4 at *
      generalize z j 5 = z5 at *
      generalize z j 6 = z6 at *
      generalize z j 7 = z7 at *
      generalize z j 8 = z8 at *
      have hbA : Below wr.heap.size wr (wr.alloc (.cells #[.int .i64 z0, .int .i64 z1, .int .i64 z2, .int .i64 z3, .int .i64 z4, .int .i64 z5, .int .i64 z6, .int .i64 z7, .int .i64 z8] 50)) := (Below.refl _ _).alloc (Nat.le_refl _) _
      have HG := Lib.hid (((hg.also hbA).1).less (D := fun k => k = wr.heap.size) (fun k hk => .inr ⟨by omega, by simp; omega⟩))
      clear hg hbA
      go_upto_region 10 with fail
      clear x0 x1 x2 x3 x4 x5 x6 x7 x8
      obtain ⟨W, hW⟩ : ∃ W, W = wr.alloc (.cells #[.int .i64 z0, .int .i64 z1, .int .i64 z2, .int .i64 z3, .int .i64 z4, .int .i64 z5, .int .i64 z6, .int .i64 z7, .int .i64 z8] 50) := ⟨_, rfl⟩
      rw [← hW] at HG
      have k0 : W.cell? ⟨wr.heap.size, 0, none⟩ = some (.int .i64 z0) := by rw [hW]; simp [go_sem]
      have k1 : W.cell? ⟨wr.heap.size, 1, none⟩ = some (.int .i64 z1) := by rw [hW]; simp [go_sem]
      have k2 : W.cell? ⟨wr.heap.size, 2, none⟩ = some (.int .i64 z2) := by rw [hW]; simp [go_sem]
      have k3 : W.cell? ⟨wr.heap.size, 3, none⟩ = some (.int .i64 z3) := by rw [hW]; simp [go_sem]
      have k4 : W.cell? ⟨wr.heap.size, 4, none⟩ = some (.int .i64 z4) := by rw [hW]; simp [go_sem]
      have k5 : W.cell? ⟨wr.heap.size, 5, none⟩ = some (.int .i64 z5) := by rw [hW]; simp [go_sem]
      have k6 : W.cell? ⟨wr.heap.size, 6, none⟩ = some (.int .i64 z6) := by rw [hW]; simp [go_sem]
      have k7 : W.cell? ⟨wr.heap.size, 7, none⟩ = some (.int .i64 z7) := by rw [hW]; simp [go_sem]
      have k8 : W.cell? ⟨wr.heap.size, 8, none⟩ = some (.int .i64 z8) := by rw [hW]; simp [go_sem]
      rw [← hW]
      have hbo : wr.heap.size < W.heap.size := block_lt k0
      generalize wr.heap.size = bo at *
      clear hW hblr
      go_wp2_with fail
      refine (HKD.out _).mono ?_
      rintro e w5 ⟨rfl, rfl⟩
      clear HKD k0
      go_upto_block 2 with fail
      go_cut [6] (fun s6 wx => ∃ (p' : Nat) (G' : Gd), s6 = .pointer (some ⟨p', 0, none⟩) ∧ G'.os.length ≤ j + 1 ∧ Gs w1 wx p' q G' G' (fun _ => False))
      case first =>
        rcases (show kk = 0 ∨ kk = 1 ∨ kk = 2 ∨ kk = 3 ∨ kk = 4 ∨ kk = 5 ∨ kk = 6 ∨ kk = 7 ∨ kk = 8 ∨ kk = 9 ∨ kk = 10 ∨ kk = 11 by omega) with rfl | rfl | rfl | rfl | rfl | rfl | rfl | rfl | rfl | rfl | rfl | rfl
        · as_aux_lemma =>
            have HC1 := Lib.hid (alloc_g (HG.out.below (Below.refl _ _).drew).1 z1 z3 (by omega))
            go_wp2_with fail
            go_region_held3 (fun w' => w'.cell? ⟨bo, 1, none⟩ = some (.int .i64 z1) ∧ w'.cell? ⟨bo, 3, none⟩ = some (.int .i64 z3)) (go_simp)
              ((first | (go_at_call 28; refine (HC1.out).mono ?_; rintro e w6 ⟨rfl, hg1, hk1⟩; have m1 := (hk1.cell (b := bo) (i := 1) rfl).trans k1; have m3 := (hk1.cell (b := bo) (i := 3) rfl).trans k3) | (go_at_call 41; refine (alloc_y hg1 z1 z3 (by omega)).mono ?_; rintro e w7 ⟨rfl, hg2, hk2⟩; have n1 := (hk2.cell (b := bo) (i := 1) rfl).trans m1; have n3 := (hk2.cell (b := bo) (i := 3) rfl).trans m3)))
            all_goals
              have HG2 := Lib.hid (hg2.less (D := fun _ => False) (fun k hk => hk.elim))
              clear hg1 hk1 hg2 hk2 m1 n1 m3 n3
              go_wp2_with fail
              go_meet
              have := (alloc_len G z1 z3).1
              exact ⟨p, _, rfl, by omega, HG2.out⟩
        · as_aux_lemma =>
            have HC1 := Lib.hid (alloc_g (HG.out.below (Below.refl _ _).drew).1 z1 z3 (by omega))
            go_wp2_with fail
            go_region_held3 (fun w' => w'.cell? ⟨bo, 1, none⟩ = some (.int .i64 z1) ∧ w'.cell? ⟨bo, 3, none⟩ = some (.int .i64 z3)) (go_simp)
              ((first | (go_at_call 28; refine (HC1.out).mono ?_; rintro e w6 ⟨rfl, hg1, hk1⟩; have m1 := (hk1.cell (b := bo) (i := 1) rfl).trans k1; have m3 := (hk1.cell (b := bo) (i := 3) rfl).trans k3) | (go_at_call 41; refine (alloc_y hg1 z1 z3 (by omega)).mono ?_; rintro e w7 ⟨rfl, hg2, hk2⟩; have n1 := (hk2.cell (b := bo) (i := 1) rfl).trans m1; have n3 := (hk2.cell (b := bo) (i := 3) rfl).trans m3)))
            all_goals
              have HG2 := Lib.hid (hg2.less (D := fun _ => False) (fun k hk => hk.elim))
              clear hg1 hk1 hg2 hk2 m1 n1 m3 n3
              go_wp2_with fail
              go_meet
              have := (alloc_len G z1 z3).1
              exact ⟨p, _, rfl, by omega, HG2.out⟩
        · as_aux_lemma =>
            have HC1 := Lib.hid (look_g HG.out z1 z2 z3)
            go_wp2_with fail
            refine (HC1.out).mono ?_
            rintro e w6 ⟨rfl, hg1, hk1⟩
            have m1 := (hk1.cell (b := bo) (i := 1) rfl).trans k1
            have m2 := (hk1.cell (b := bo) (i := 2) rfl).trans k2
            have m3 := (hk1.cell (b := bo) (i := 3) rfl).trans k3
            have hbo6 := block_lt m1
            have hbA : Below w6.heap.size w6 (w6.alloc (.cells #[.int .i64 (G.look z1 z2 z3).1.k, .int .i64 (G.look z1 z2 z3).1.n] 46)) := (Below.refl _ _).alloc (Nat.le_refl _) _
            have hgA := ((hg1.also hbA).1).less (D := fun k => k = bo ∨ k = w6.heap.size) (fun k hk => by
              rcases hk with h1 | h1
              · exact .inl h1
              · exact .inr ⟨by omega, by simp; omega⟩)
            have HC2 := Lib.hid (look_y hgA z1 z2 z3)
            generalize (G.look z1 z2 z3) = X at *
            obtain ⟨⟨xk, xn⟩, xe⟩ := X
            clear hg1 hk1 HC1 hgA hbA
            go_wp2_with fail
            refine (HC2.out).mono ?_
            rintro e w7 ⟨rfl, hg2, hk2⟩
            have a0 : w7.cell? ⟨w6.heap.size, 0, none⟩ = some (.int .i64 xk) := (hk2.cell (b := w6.heap.size) (i := 0) (.inr rfl)).trans (by simp [go_sem])
            have a1 : w7.cell? ⟨w6.heap.size, 1, none⟩ = some (.int .i64 xn) := (hk2.cell (b := w6.heap.size) (i := 1) (.inr rfl)).trans (by simp [go_sem])
            have o1 : w7.cell? ⟨bo, 1, none⟩ = some (.int .i64 z1) := (hk2.cell (b := bo) (i := 1) (.inl rfl)).trans ((World.cell?_alloc_lt w6 _ ⟨bo, 1, none⟩ hbo6).trans m1)
            have hal := block_lt a0
            have hbo7 := block_lt o1
            have hbB : Below w7.heap.size w7 (w7.alloc (.cells #[.int .i64 xk, .int .i64 xn] 46)) := (Below.refl _ _).alloc (Nat.le_refl _) _
            have HG2 := Lib.hid (hg2.below hbB).1
            clear hg2 hk2 m1 m2 m3 HC2 hbB
            by_cases hxe : xe = 0
            · subst hxe
              by_cases hxk : xk = 1
              · as_aux_lemma =>
                subst hxk
                have HP := Lib.hid (put_g (HG2.out.below (Below.refl _ _).drew).1 z1 xn)
                go_wp2_with fail
                go_region_held3 (fun w' => w'.cell? ⟨w6.heap.size, 0, none⟩ = some (.int .i64 1) ∧ w'.cell? ⟨w6.heap.size, 1, none⟩ = some (.int .i64 xn) ∧ w'.cell? ⟨bo, 1, none⟩ = some (.int .i64 z1)) (go_simp)
                  ((first | (go_at_call 39; refine (HP.out).mono ?_; rintro e w8 ⟨rfl, hg1, hk1⟩; have e0 := (hk1.cell (b := w6.heap.size) (i := 0) (.inr rfl)).trans ((World.cell?_alloc_lt w7 (.cells #[.int .i64 1, .int .i64 xn] 46) ⟨w6.heap.size, 0, none⟩ hal).trans a0); have e1 := (hk1.cell (b := w6.heap.size) (i := 1) (.inr rfl)).trans ((World.cell?_alloc_lt w7 (.cells #[.int .i64 1, .int .i64 xn] 46) ⟨w6.heap.size, 1, none⟩ hal).trans a1); have e2 := (hk1.cell (b := bo) (i := 1) (.inl rfl)).trans ((World.cell?_alloc_lt w7 (.cells #[.int .i64 1, .int .i64 xn] 46) ⟨bo, 1, none⟩ hbo7).trans o1)) | (go_at_call 43; refine (put_y hg1 z1 xn).mono ?_; rintro e w9 ⟨rfl, hg3, hk3⟩; have g0 := (hk3.cell (b := w6.heap.size) (i := 0) (.inr rfl)).trans e0; have g1 := (hk3.cell (b := w6.heap.size) (i := 1) (.inr rfl)).trans e1; have g2 := (hk3.cell (b := bo) (i := 1) (.inl rfl)).trans e2)))
                all_goals
                  have HG3 := Lib.hid (hg3.less (D := fun _ => False) (fun k hk => hk.elim))
                  clear hg1 hk1 hg3 hk3 e0 e1 e2 g0 g1 g2
                  go_wp2_with fail
                  go_meet
                  have := Gd.put_len G z1 xn
                  exact ⟨p, _, rfl, by omega, HG3.out⟩
              · have hxk' : (xk == 1) = false := by simpa using hxk
                clear hxk
                go_wp2_with fail
                go_quiet (fail)
                go_wp2_with fail
                go_meet
                exact ⟨p, _, rfl, by omega, ((HG2.out.below (below_dn (Below.refl _ _) _)).1).less (fun k hk => hk.elim)⟩
            · have hxe' : (xe == 0) = false := by simpa using hxe
              clear hxe
              go_wp2_with fail
              go_quiet (fail)
              go_wp2_with fail
              go_meet
              exact ⟨p, _, rfl, by omega, ((HG2.out.below (below_dn (Below.refl _ _) _)).1).less (fun k hk => hk.elim)⟩
        · as_aux_lemma =>
            have HC1 := Lib.hid (put_g (HG.out.below (Below.refl _ _).drew).1 z1 z4)
            go_wp2_with fail
            go_region_held3 (fun w' => w'.cell? ⟨bo, 1, none⟩ = some (.int .i64 z1) ∧ w'.cell? ⟨bo, 4, none⟩ = some (.int .i64 z4)) (go_simp)
              ((first | (go_at_call 39; refine (HC1.out).mono ?_; rintro e w6 ⟨rfl, hg1, hk1⟩; have m1 := (hk1.cell (b := bo) (i := 1) rfl).trans k1; have m4 := (hk1.cell (b := bo) (i := 4) rfl).trans k4) | (go_at_call 43; refine (put_y hg1 z1 z4).mono ?_; rintro e w7 ⟨rfl, hg2, hk2⟩; have n1 := (hk2.cell (b := bo) (i := 1) rfl).trans m1; have n4 := (hk2.cell (b := bo) (i := 4) rfl).trans m4)))
            all_goals
              have HG2 := Lib.hid (hg2.less (D := fun _ => False) (fun k hk => hk.elim))
              clear hg1 hk1 hg2 hk2 m1 n1 m4 n4
              go_wp2_with fail
              go_meet
              have := Gd.put_len G z1 z4
              exact ⟨p, _, rfl, by omega, HG2.out⟩
        · as_aux_lemma =>
            have HC1 := Lib.hid (write_g (HG.out.below (Below.refl _ _).drew).1 (by omega) z1 z2 z3 ⟨z5, z6⟩)
            go_wp2_with fail
            go_region_held3 (fun w' => w'.cell? ⟨bo, 1, none⟩ = some (.int .i64 z1) ∧ w'.cell? ⟨bo, 2, none⟩ = some (.int .i64 z2) ∧ w'.cell? ⟨bo, 3, none⟩ = some (.int .i64 z3) ∧ w'.cell? ⟨bo, 5, none⟩ = some (.int .i64 z5) ∧ w'.cell? ⟨bo, 6, none⟩ = some (.int .i64 z6)) (go_simp)
              ((first | (go_at_call 31; refine (HC1.out).mono ?_; rintro e w6 ⟨rfl, hg1, hk1⟩; have m1 := (hk1.cell (b := bo) (i := 1) rfl).trans k1; have m2 := (hk1.cell (b := bo) (i := 2) rfl).trans k2; have m3 := (hk1.cell (b := bo) (i := 3) rfl).trans k3; have m5 := (hk1.cell (b := bo) (i := 5) rfl).trans k5; have m6 := (hk1.cell (b := bo) (i := 6) rfl).trans k6) | (go_at_call 44; refine (write_y hg1 (by omega) z1 z2 z3 ⟨z5, z6⟩).mono ?_; rintro e w7 ⟨rfl, hg2, hk2⟩; have n1 := (hk2.cell (b := bo) (i := 1) rfl).trans m1; have n2 := (hk2.cell (b := bo) (i := 2) rfl).trans m2; have n3 := (hk2.cell (b := bo) (i := 3) rfl).trans m3; have n5 := (hk2.cell (b := bo) (i := 5) rfl).trans m5; have n6 := (hk2.cell (b := bo) (i := 6) rfl).trans m6)))
            all_goals
              have HG2 := Lib.hid (hg2.less (D := fun _ => False) (fun k hk => hk.elim))
              clear hg1 hk1 hg2 hk2 m1 n1 m2 n2 m3 n3 m5 n5 m6 n6
              go_wp2_with fail
              go_meet
              have := (write_len G z1 z2 z3 ⟨z5, z6⟩).1
              exact ⟨p, _, rfl, by omega, HG2.out⟩
        · as_aux_lemma =>
            have HC1 := Lib.hid (write_g (HG.out.below (Below.refl _ _).drew).1 (by omega) z1 z2 z3 ⟨z5, z6⟩)
            go_wp2_with fail
            go_region_held3 (fun w' => w'.cell? ⟨bo, 1, none⟩ = some (.int .i64 z1) ∧ w'.cell? ⟨bo, 2, none⟩ = some (.int .i64 z2) ∧ w'.cell? ⟨bo, 3, none⟩ = some (.int .i64 z3) ∧ w'.cell? ⟨bo, 5, none⟩ = some (.int .i64 z5) ∧ w'.cell? ⟨bo, 6, none⟩ = some (.int .i64 z6)) (go_simp)
              ((first | (go_at_call 31; refine (HC1.out).mono ?_; rintro e w6 ⟨rfl, hg1, hk1⟩; have m1 := (hk1.cell (b := bo) (i := 1) rfl).trans k1; have m2 := (hk1.cell (b := bo) (i := 2) rfl).trans k2; have m3 := (hk1.cell (b := bo) (i := 3) rfl).trans k3; have m5 := (hk1.cell (b := bo) (i := 5) rfl).trans k5; have m6 := (hk1.cell (b := bo) (i := 6) rfl).trans k6) | (go_at_call 44; refine (write_y hg1 (by omega) z1 z2 z3 ⟨z5, z6⟩).mono ?_; rintro e w7 ⟨rfl, hg2, hk2⟩; have n1 := (hk2.cell (b := bo) (i := 1) rfl).trans m1; have n2 := (hk2.cell (b := bo) (i := 2) rfl).trans m2; have n3 := (hk2.cell (b := bo) (i := 3) rfl).trans m3; have n5 := (hk2.cell (b := bo) (i := 5) rfl).trans m5; have n6 := (hk2.cell (b := bo) (i := 6) rfl).trans m6)))
            all_goals
              have HG2 := Lib.hid (hg2.less (D := fun _ => False) (fun k hk => hk.elim))
              clear hg1 hk1 hg2 hk2 m1 n1 m2 n2 m3 n3 m5 n5 m6 n6
              go_wp2_with fail
              go_meet
              have := (write_len G z1 z2 z3 ⟨z5, z6⟩).1
              exact ⟨p, _, rfl, by omega, HG2.out⟩
        · as_aux_lemma =>
            have HC1 := Lib.hid (swap_g HG.out (by omega) z1 z2 z3 ⟨z5, z6⟩ ⟨z7, z8⟩)
            go_wp2_with fail
            refine (HC1.out).mono ?_
            rintro e w6 ⟨rfl, hg1, hk1⟩
            have m1 := (hk1.cell (b := bo) (i := 1) rfl).trans k1
            have m2 := (hk1.cell (b := bo) (i := 2) rfl).trans k2
            have m3 := (hk1.cell (b := bo) (i := 3) rfl).trans k3
            have m5 := (hk1.cell (b := bo) (i := 5) rfl).trans k5
            have m6 := (hk1.cell (b := bo) (i := 6) rfl).trans k6
            have m7 := (hk1.cell (b := bo) (i := 7) rfl).trans k7
            have m8 := (hk1.cell (b := bo) (i := 8) rfl).trans k8
            have hbo6 := block_lt m1
            have HC2 := Lib.hid (swap_y hg1 (by omega) z1 z2 z3 ⟨z5, z6⟩ ⟨z7, z8⟩)
            have hln := Gd.swap_len G z1 z2 z3 ⟨z5, z6⟩ ⟨z7, z8⟩
            generalize (G.swap z1 z2 z3 ⟨z5, z6⟩ ⟨z7, z8⟩) = X at *
            obtain ⟨G1, xb, xe⟩ := X
            simp only at hln
            clear hg1 hk1 HC1
            go_wp2_with fail
            refine (HC2.out).mono ?_
            rintro e w7 ⟨rfl, hg2, hk2⟩
            have HG2 := Lib.hid (hg2.less (D := fun _ => False) (fun k hk => hk.elim))
            clear hg2 hk2 m1 m2 m3 m5 m6 m7 m8 HC2
            go_wp2_with fail
            go_meet
            exact ⟨p, _, rfl, by omega, HG2.out⟩
        · as_aux_lemma =>
            have HC1 := Lib.hid (swap_g HG.out (by omega) z1 z2 z3 ⟨z5, z6⟩ ⟨z7, z8⟩)
            go_wp2_with fail
            refine (HC1.out).mono ?_
            rintro e w6 ⟨rfl, hg1, hk1⟩
            have m1 := (hk1.cell (b := bo) (i := 1) rfl).trans k1
            have m2 := (hk1.cell (b := bo) (i := 2) rfl).trans k2
            have m3 := (hk1.cell (b := bo) (i := 3) rfl).trans k3
            have m5 := (hk1.cell (b := bo) (i := 5) rfl).trans k5
            have m6 := (hk1.cell (b := bo) (i := 6) rfl).trans k6
            have m7 := (hk1.cell (b := bo) (i := 7) rfl).trans k7
            have m8 := (hk1.cell (b := bo) (i := 8) rfl).trans k8
            have hbo6 := block_lt m1
            have HC2 := Lib.hid (swap_y hg1 (by omega) z1 z2 z3 ⟨z5, z6⟩ ⟨z7, z8⟩)
            have hln := Gd.swap_len G z1 z2 z3 ⟨z5, z6⟩ ⟨z7, z8⟩
            generalize (G.swap z1 z2 z3 ⟨z5, z6⟩ ⟨z7, z8⟩) = X at *
            obtain ⟨G1, xb, xe⟩ := X
            simp only at hln
            clear hg1 hk1 HC1
            go_wp2_with fail
            refine (HC2.out).mono ?_
            rintro e w7 ⟨rfl, hg2, hk2⟩
            have HG2 := Lib.hid (hg2.less (D := fun _ => False) (fun k hk => hk.elim))
            clear hg2 hk2 m1 m2 m3 m5 m6 m7 m8 HC2
            go_wp2_with fail
            go_meet
            exact ⟨p, _, rfl, by omega, HG2.out⟩
        · as_aux_lemma =>
            have HC1 := Lib.hid (eq_g HG.out z1 z2 z3)
            go_wp2_with fail
            refine (HC1.out).mono ?_
            rintro e w6 ⟨rfl, hg1, hk1⟩
            have m1 := (hk1.cell (b := bo) (i := 1) rfl).trans k1
            have m2 := (hk1.cell (b := bo) (i := 2) rfl).trans k2
            have m3 := (hk1.cell (b := bo) (i := 3) rfl).trans k3
            have hbo6 := block_lt m1
            have HC2 := Lib.hid (eq_y hg1 z1 z2 z3)
            generalize (G.eq z1 z2 z3) = X at *
            obtain ⟨xb, xe⟩ := X
            clear hg1 hk1 HC1
            go_wp2_with fail
            refine (HC2.out).mono ?_
            rintro e w7 ⟨rfl, hg2, hk2⟩
            have HG2 := Lib.hid (hg2.less (D := fun _ => False) (fun k hk => hk.elim))
            clear hg2 hk2 m1 m2 m3 HC2
            go_wp2_with fail
            go_meet
            exact ⟨p, _, rfl, by omega, HG2.out⟩
        · as_aux_lemma =>
            have HC1 := Lib.hid (dup_g (HG.out.below (Below.refl _ _).drew).1 z1 z2)
            go_wp2_with fail
            go_region_held3 (fun w' => w'.cell? ⟨bo, 1, none⟩ = some (.int .i64 z1) ∧ w'.cell? ⟨bo, 2, none⟩ = some (.int .i64 z2)) (go_simp)
              ((first | (go_at_call 34; refine (HC1.out).mono ?_; rintro e w6 ⟨rfl, hg1, hk1⟩; have m1 := (hk1.cell (b := bo) (i := 1) rfl).trans k1; have m2 := (hk1.cell (b := bo) (i := 2) rfl).trans k2) | (go_at_call 47; refine (dup_y hg1 z1 z2).mono ?_; rintro e w7 ⟨rfl, hg2, hk2⟩; have n1 := (hk2.cell (b := bo) (i := 1) rfl).trans m1; have n2 := (hk2.cell (b := bo) (i := 2) rfl).trans m2)))
            all_goals
              have HG2 := Lib.hid (hg2.less (D := fun _ => False) (fun k hk => hk.elim))
              clear hg1 hk1 hg2 hk2 m1 n1 m2 n2
              go_wp2_with fail
              go_meet
              have := (dup_len G z1 z2).1
              exact ⟨p, _, rfl, by omega, HG2.out⟩
        · as_aux_lemma =>
            have HC1 := Lib.hid (drop_g (HG.out.below (Below.refl _ _).drew).1 z1)
            go_wp2_with fail
            go_region_held3 (fun w' => w'.cell? ⟨bo, 1, none⟩ = some (.int .i64 z1)) (go_simp)
              ((first | (go_at_call 36; refine (HC1.out).mono ?_; rintro e w6 ⟨rfl, hg1, hk1⟩; have m1 := (hk1.cell (b := bo) (i := 1) rfl).trans k1) | (go_at_call 48; refine (drop_y hg1 z1).mono ?_; rintro e w7 ⟨rfl, hg2, hk2⟩; have n1 := (hk2.cell (b := bo) (i := 1) rfl).trans m1)))
            all_goals
              have HG2 := Lib.hid (hg2.less (D := fun _ => False) (fun k hk => hk.elim))
              clear hg1 hk1 hg2 hk2 m1 n1
              go_wp2_with fail
              go_meet
              have := (drop_len G z1).1
              exact ⟨p, _, rfl, by omega, HG2.out⟩
        · as_aux_lemma =>
            have HC1 := Lib.hid (clone_g HG.out (by omega))
            go_wp2_with fail
            refine (HC1.out).mono ?_
            rintro e w6 ⟨p2, D, rfl, hgo, hk1, hback⟩
            have HBK := Lib.hid hback
            have HA1 := Lib.hid (alloc_s hgo 0 1 (by omega))
            have hl1 := (alloc_len G 0 1).1
            clear hgo hback HC1
            go_wp2_with fail
            refine (HA1.out).mono ?_
            rintro e w7 ⟨rfl, hg1, hk2⟩
            have HA2 := Lib.hid (write_s hg1 (by omega) 0 0 0 ⟨0, 9⟩)
            have HKP := Lib.hid hk2
            clear hg1 hk2 HA1
            go_wp2_with fail
            refine (HA2.out).mono ?_
            rintro e w8 ⟨rfl, hg1, hk2⟩
            have HA3 := Lib.hid (drop_s hg1 0)
            have HKP2 := Lib.hid (HKP.out.trans hk2)
            clear hg1 hk2 HA2 HKP
            go_wp2_with fail
            refine (HA3.out).mono ?_
            rintro e w9 ⟨rfl, hg1, hk2⟩
            have HG2 := Lib.hid ((HBK.out w9 (.inr hg1.bl) (HKP2.out.trans hk2)).1.less (D := fun _ => False) (fun k hk => hk.elim))
            clear hg1 hk2 HA3 HKP2 HBK
            go_wp2_with fail
            go_meet
            exact ⟨p2, _, rfl, by omega, HG2.out⟩
      case rest =>
        as_aux_lemma =>
          obtain ⟨p', G', rfl, hl, hg⟩ := hcut
          have HSG := Lib.hid (shape_g hg (by omega))
          clear hg HG k1 k2 k3 k4 k5 k6 k7 k8
          go_wp2_with fail
          refine (HSG.out).mono ?_
          rintro e w6 ⟨R, L, Rv, Lv, his, rfl, hrd, hld, hg6, _, hb6⟩
          have HIS := Lib.hid his
          have HLN := Lib.hid (hg6.len his)
          have HR := Lib.hid hrd
          have HL := Lib.hid hld
          have HSY := Lib.hid (shape_y hg6 (by omega))
          clear his hrd hld hg6 hb6 HSG
          go_wp2_with fail
          refine (HSY.out).mono ?_
          rintro e w7 ⟨R', L', Rv', Lv', his', rfl, hrd', hld', hg7, _, hb7⟩
          have hln := HLN.out
          have hln' := hg7.len his'
          have heq := Gd.is_unique HIS.out his'
          have HR1 := Lib.hid (HR.out.below hb7)
          have HL1 := Lib.hid (HL.out.below hb7)
          have HR2 := Lib.hid hrd'
          have HL2 := Lib.hid hld'
          have HG7 := Lib.hid hg7
          have HQ := Lib.hid heq
          clear his' hrd' hld' hg7 hb7 heq HIS HR HL HSY
          go_wp2_with fail
          refine (same_any _ _ _ _ _ _ _ _ _ HR1.out HL1.out HR2.out HL2.out (by omega) (by omega) (by omega) (by omega)).mono ?_
          rintro e w8 ⟨sb, rfl, hsb, hb8⟩
          obtain rfl : sb = true := hsb.2 HQ.out
          have HG8 := Lib.hid (HG7.out.below hb8).1
          clear hsb hb8 HR1 HL1 HR2 HL2 HG7
          go_wp2_with fail
          go_roundw
          case rel => exact ⟨j + 1, p', G', by omega, by go_num, rfl, by omega, HG8.out⟩
          case measure => simp [intOf]; omega
    · obtain rfl : j = K := by omega
      have hend : ((j : Int) < (n : Int) ∧ ¬ (j : Int) < 60) ∨ ¬ (j : Int) < (n : Int) := by
        have := HKK.out
        omega
      have HBL := Lib.hid hg.bl
      clear hg
      rcases hend with ⟨hj1, hj2⟩ | hj2
      all_goals
        go_wp2_with fail
        go_ret
        exact ⟨rfl, HB1.out.trans (HBL.out.mono HB1.out.size)⟩

theorem plays_walk (tt : Int) (A : Option Addr) (n c : Nat) (z : Nat → Nat → Int) (w : World) (htt : -9223372036854775808 ≤ tt ∧ tt ≤ 9223372036854775807) (hA : Ops w A n z) (hz : ∀ i k, -9223372036854775808 ≤ z i k ∧ z i k ≤ 9223372036854775807) (hm : n ≤ 9223372036854775807) :
    Calls Try.prog 14 #[.int .i64 tt, .slice A n c] w (YesP w) := by
  by_cases h : tt < 1 ∨ 64 < tt
  · exact plays_no tt h A n c w
  · obtain ⟨T, rfl⟩ : ∃ T : Nat, tt = (T : Int) := ⟨tt.toNat, by omega⟩
    exact plays_yes T (by omega) (by omega) A n c z w hA hz hm

end Go.Proofs.Ytlogojiphjpknaa
