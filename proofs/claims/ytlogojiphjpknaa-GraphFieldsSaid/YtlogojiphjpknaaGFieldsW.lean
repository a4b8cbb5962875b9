/- flitlaw07.GraphFields comes to true, whatever it is handed, and writes nothing that was there. -/
import Derived.Test.YtlogojiphjpknaaGShown
import Derived.Test.YtlogojiphjpknaaGNmd
import Derived.Test.YtlogojiphjpknaaOpenOps
import Derived.Outline
import Derived.Deep.DeepCutAuto
namespace Go.Proofs.Ytlogojiphjpknaa
open Go.RowKit
set_option linter.unusedVariables false

/-- the array's cells are the fields -/
def Want (w : World) (b : Nat) (fs : List V) : Prop := fs.length = 7 ∧ ∃ T, Blk w b T (vflat fs).toArray

theorem Want.keep {w w' : World} {b : Nat} {fs : List V} {C : Nat → Prop} (h : Want w b fs) (hk : Keep C w w') (hb : C b) : Want w' b fs := by
  obtain ⟨h1, T, h2⟩ := h
  exact ⟨h1, T, (hk.2 b hb).trans h2⟩
theorem Want.cell {w : World} {b : Nat} {fs : List V} (h : Want w b fs) {k : Nat} (hk : k < 7) : w.cell? ⟨b, k * 2, none⟩ = some (.int .i64 (fs.getD k default).k) ∧ w.cell? ⟨b, k * 2 + 1, none⟩ = some (.int .i64 (fs.getD k default).n) := by
  obtain ⟨h1, T, h2⟩ := h
  obtain ⟨e0, e1⟩ := vflat_at fs k (by omega)
  exact ⟨(h2.cell _).trans (by simpa using e0), (h2.cell _).trans (by simpa using e1)⟩
theorem Want.frozen {w : World} {b : Nat} {fs : List V} (h : Want w b fs) (i : Nat) : w.frozen? ⟨b, i, none⟩ = false := by
  obtain ⟨h1, T, h2⟩ := h
  exact h2.frozen i
theorem Want.set {w : World} {b : Nat} {fs : List V} (h : Want w b fs) {f : Nat} (hf : f < 7) (vk vn : Int) :
    Want ((w.setCell ⟨b, f * 2, none⟩ (.int .i64 vk)).setCell ⟨b, f * 2 + 1, none⟩ (.int .i64 vn)) b (fs.set f ⟨vk, vn⟩) := by
  obtain ⟨h1, T, h2⟩ := h
  refine ⟨by simp [h1], T, ?_⟩
  have := (h2.set_ (f * 2) (.int .i64 vk)).set_ (f * 2 + 1) (.int .i64 vn)
  rw [vflat_set fs f ⟨vk, vn⟩ (by omega)]
  simpa using this
theorem GS.keep_alloc {w0 w : World} {p : Nat} {G : Gd} {C : Nat → Prop} (h : GS w0 w p G C) (o : Obj) : Keep C w (w.alloc o) := (h.below ((Below.refl _ _).alloc (Nat.le_refl _) o)).2

set_option maxRecDepth 100000 in
set_option maxHeartbeats 4000000 in
theorem fields_walk (A : Option Addr) (n c : Nat) (z : Nat → Nat → Int) (w : World) (hA : Ops w A n z) (hz : ∀ i k, -9223372036854775808 ≤ z i k ∧ z i k ≤ 9223372036854775807) (hm : n ≤ 9223372036854775807) :
    Calls Try.prog 9 #[.slice A n c] w (YesP w) := by
  have HZ := Lib.hid hz
  have HA := Lib.hid hA
  clear hz hA
  go_enter Try.func9, Try.ntmps9
  go_wp2_with fail
  refine (gshown_yes _).mono ?_
  rintro e w1 ⟨rfl, hb1⟩
  have HB1 := Lib.hid hb1
  clear hb1
  go_wp2_with fail
  refine (new_s 1 (by omega) (by omega) _).mono ?_
  rintro e w2 ⟨p, rfl, hg⟩
  have HG1 := Lib.hid (alloc_s hg 0 7 (by decide))
  rw [gF_start1] at HG1
  clear hg
  go_wp2_with fail
  refine (HG1.out).mono ?_
  rintro e w3 ⟨rfl, hg, _⟩
  have HG2 := Lib.hid (alloc_s hg 0 0 (by decide))
  rw [gF_start2] at HG2
  clear hg HG1
  go_wp2_with fail
  refine (HG2.out).mono ?_
  rintro e w4 ⟨rfl, hg, _⟩
  have HG := Lib.hid hg
  clear hg HG2
  go_wp2_with fail
  obtain ⟨K, hK⟩ : ∃ k, k = min n 40 := ⟨_, rfl⟩
  have hK40 : K ≤ 40 := by omega
  have hKn : K ≤ n := by omega
  have HKK := Lib.hid hK
  have HB4 := Lib.hid (HG.out.bl.size)
  clear hK
  go_loopw [7] (fun s7 wr => ∃ (j : Nat) (fs : List V), j ≤ K ∧ s7 = .int .i64 j ∧ Want wr w4.heap.size fs ∧ GS w1 wr p (gF fs) (fun k => k = w4.heap.size)) (fun s7 _ => K - (intOf s7).toNat)
  case atStart =>
    refine ⟨0, List.replicate 7 default, by omega, rfl, ⟨by simp, _, Blk.new _ _ _⟩, ((HG.out).new _).less (fun k hk => .inr hk)⟩
  case round =>
    clear HG
    obtain ⟨j, fs, hj, rfl, hw, hg⟩ := hrel
    by_cases hjK : j < K
    · have hjn : (j : Int) < (n : Int) := by omega
      have hj40 : (j : Int) < 40 := by omega
      rcases (HA.out) with h0 | ⟨b, off, rfl, hbl, hcz⟩
      · omega
      have hx : ∀ k, k < 9 → wr.cell? ⟨b, off + (j * 9 + k), none⟩ = some (.int .i64 (z j k)) := fun k hk => (hg.bl.cell (p := ⟨b, off + (j * 9 + k), none⟩) (by have := HB1.out.size; show b < w1.heap.size; omega)).trans ((HB1.out.cell (p := ⟨b, off + (j * 9 + k), none⟩) (by simp; omega)).trans (by simp [go_sem, hcz j (by omega) k hk]))
      have x0 : wr.cell? ⟨b, off + j * 9, none⟩ = some (.int .i64 (z j 0)) := hx 0 (by omega)
      have x1 : wr.cell? ⟨b, off + (j * 9 + 1), none⟩ = some (.int .i64 (z j 1)) := hx 1 (by omega)
      have x2 : wr.cell? ⟨b, off + (j * 9 + 2), none⟩ = some (.int .i64 (z j 2)) := hx 2 (by omega)
      have x3 : wr.cell? ⟨b, off + (j * 9 + 3), none⟩ = some (.int .i64 (z j 3)) := hx 3 (by omega)
      have x4 : wr.cell? ⟨b, off + (j * 9 + 4), none⟩ = some (.int .i64 (z j 4)) := hx 4 (by omega)
      have x5 : wr.cell? ⟨b, off + (j * 9 + 5), none⟩ = some (.int .i64 (z j 5)) := hx 5 (by omega)
      have x6 : wr.cell? ⟨b, off + (j * 9 + 6), none⟩ = some (.int .i64 (z j 6)) := hx 6 (by omega)
      have x7 : wr.cell? ⟨b, off + (j * 9 + 7), none⟩ = some (.int .i64 (z j 7)) := hx 7 (by omega)
      have x8 : wr.cell? ⟨b, off + (j * 9 + 8), none⟩ = some (.int .i64 (z j 8)) := hx 8 (by omega)
      have HW := Lib.hid hw
      have HG := Lib.hid hg
      clear hx hcz hw hg
      obtain ⟨h00, h01⟩ := HZ.out j 0
      obtain ⟨h30, h31⟩ := HZ.out j 3
      obtain ⟨h50, h51⟩ := HZ.out j 5
      obtain ⟨h60, h61⟩ := HZ.out j 6
      obtain ⟨h70, h71⟩ := HZ.out j 7
      obtain ⟨h80, h81⟩ := HZ.out j 8
      have HF := Lib.hid (fun w => kind_any (z j 3) 7 w h30 h31 (by omega) (by omega))
      have HSK := Lib.hid (fun w => kind_any (z j 5) 3 w h50 h51 (by omega) (by omega))
      have HSN := Lib.hid (fun w => kind_any (z j 6) 2 w h60 h61 (by omega) (by omega))
      have HUK := Lib.hid (fun w => kind_any (z j 7) 3 w h70 h71 (by omega) (by omega))
      have HUN := Lib.hid (fun w => kind_any (z j 8) 2 w h80 h81 (by omega) (by omega))
      have HKD := Lib.hid (fun w => kind_any (z j 0) 2 w h00 h01 (by omega) (by omega))
      obtain ⟨b3, b3'⟩ := kd_bd (z j 3) (show (0 : Int) < 7 by omega)
      obtain ⟨b5, b5'⟩ := kd_bd (z j 5) (show (0 : Int) < 3 by omega)
      obtain ⟨b6, b6'⟩ := kd_bd (z j 6) (show (0 : Int) < 2 by omega)
      obtain ⟨b7, b7'⟩ := kd_bd (z j 7) (show (0 : Int) < 3 by omega)
      obtain ⟨b8, b8'⟩ := kd_bd (z j 8) (show (0 : Int) < 2 by omega)
      obtain ⟨b0, b0'⟩ := kd_bd (z j 0) (show (0 : Int) < 2 by omega)
      clear h00 h01 h30 h31 h50 h51 h60 h61 h70 h71 h80 h81
      obtain ⟨f, hf⟩ : ∃ f : Nat, kd (z j 3) 7 = f := ⟨(kd (z j 3) 7).toNat, by omega⟩
      generalize kd (z j 5) 3 = sk at *
      generalize kd (z j 6) 2 = sn at *
      generalize kd (z j 7) 3 = uk at *
      generalize kd (z j 8) 2 = un at *
      generalize kd (z j 0) 2 = kk at *
      rw [hf] at HF b3 b3'
      have hf7 : f < 7 := by omega
      clear hf b3 b3'
      generalize z j 0 = z0 at *
      generalize z j 1 = z1 at *
      generalize z j 2 = z2 at *
      generalize z j 3 = z3 at *
      generalize z j 4 = z4 at *
      generalize z j 5 = z5 at *
      generalize z j 6 = z6 at *
      generalize z j 7 = z7 at *
      generalize z j 8 = z8 at *
      go_wp2_with fail
      refine (HF.out _).mono ?_
      rintro e w5 ⟨rfl, rfl⟩
      go_upto_region 13 with fail
      clear x0 x1 x2 x3 x4 x5 x6 x7 x8
      go_cut [10] (fun s10 wx => s10 = .pointer (some ⟨wr.heap.size + 1, 0, none⟩) ∧ wx = ((wr.alloc (.cells #[.int .i64 z0, .int .i64 z1, .int .i64 z2, .int .i64 z3, .int .i64 z4, .int .i64 z5, .int .i64 z6, .int .i64 z7, .int .i64 z8] 50)).alloc (.cells #[.int .i64 sk, .int .i64 sn] 48)).drew)
      case first =>
        go_region_held3 (fun w' => w'.cell? ⟨wr.heap.size, 5, none⟩ = some (.int .i64 z5) ∧ w'.cell? ⟨wr.heap.size, 6, none⟩ = some (.int .i64 z6)) (go_simp)
          ((go_at_call 29; first | (with_reducible refine (HSK.out _).mono ?_; rintro e w5 ⟨rfl, rfl⟩) | (with_reducible refine (HSN.out _).mono ?_; rintro e w5 ⟨rfl, rfl⟩)))
        all_goals
          go_wp2_with fail
          go_meet
          exact ⟨rfl, rfl⟩
      case rest =>
      obtain ⟨rfl, rfl⟩ := hcut
      clear HSK HSN HF
      go_upto_region 14 with fail
      go_cut [11] (fun s11 wx => s11 = .pointer (some ⟨wr.heap.size + 2, 0, none⟩) ∧ wx = (((wr.alloc (.cells #[.int .i64 z0, .int .i64 z1, .int .i64 z2, .int .i64 z3, .int .i64 z4, .int .i64 z5, .int .i64 z6, .int .i64 z7, .int .i64 z8] 50)).alloc (.cells #[.int .i64 sk, .int .i64 sn] 48)).alloc (.cells #[.int .i64 uk, .int .i64 un] 48)).drew.drew)
      case first =>
        go_region_held3 (fun w' => w'.cell? ⟨wr.heap.size, 7, none⟩ = some (.int .i64 z7) ∧ w'.cell? ⟨wr.heap.size, 8, none⟩ = some (.int .i64 z8)) (go_simp)
          ((go_at_call 29; first | (with_reducible refine (HUK.out _).mono ?_; rintro e w5 ⟨rfl, rfl⟩) | (with_reducible refine (HUN.out _).mono ?_; rintro e w5 ⟨rfl, rfl⟩)))
        all_goals
          go_wp2_with fail
          go_meet
          exact ⟨rfl, rfl⟩
      case rest =>
      obtain ⟨rfl, rfl⟩ := hcut
      clear HUK HUN
      obtain ⟨bw, hbw⟩ : ∃ b, b = w4.heap.size := ⟨_, rfl⟩
      rw [← hbw] at HG HW
      have hBW : Below wr.heap.size wr (((wr.alloc (.cells #[.int .i64 z0, .int .i64 z1, .int .i64 z2, .int .i64 z3, .int .i64 z4, .int .i64 z5, .int .i64 z6, .int .i64 z7, .int .i64 z8] 50)).alloc (.cells #[.int .i64 sk, .int .i64 sn] 48)).alloc (.cells #[.int .i64 uk, .int .i64 un] 48)).drew.drew := by
        refine (((((Below.refl _ _).alloc (Nat.le_refl _) _).alloc (by simp) _).alloc (by simp; omega) _).drew).drew
      obtain ⟨hg, hk⟩ := HG.out.also hBW
      have hw := HW.out.keep hk rfl
      have HW0 := HW
      clear HG HW hk
      generalize hW : (((wr.alloc (.cells #[.int .i64 z0, .int .i64 z1, .int .i64 z2, .int .i64 z3, .int .i64 z4, .int .i64 z5, .int .i64 z6, .int .i64 z7, .int .i64 z8] 50)).alloc (.cells #[.int .i64 sk, .int .i64 sn] 48)).alloc (.cells #[.int .i64 uk, .int .i64 un] 48)).drew.drew = W at *
      have o0 : W.cell? ⟨wr.heap.size, 0, none⟩ = some (.int .i64 z0) := by rw [← hW]; simp [go_sem]
      have s0 : W.cell? ⟨wr.heap.size + 1, 0, none⟩ = some (.int .i64 sk) := by rw [← hW]; simp [go_sem]
      have s1 : W.cell? ⟨wr.heap.size + 1, 1, none⟩ = some (.int .i64 sn) := by rw [← hW]; simp [go_sem]
      have u0 : W.cell? ⟨wr.heap.size + 2, 0, none⟩ = some (.int .i64 uk) := by rw [← hW]; simp [go_sem]
      have u1 : W.cell? ⟨wr.heap.size + 2, 1, none⟩ = some (.int .i64 un) := by rw [← hW]; simp [go_sem]
      have hWs : W.heap.size = wr.heap.size + 3 := by rw [← hW]; simp [go_sem]
      have hg := hg.less (D := fun k => k = bw ∨ k = wr.heap.size ∨ k = wr.heap.size + 1 ∨ k = wr.heap.size + 2) (fun k hk => by
        rcases hk with h1 | h1 | h1 | h1
        · exact .inl h1
        all_goals exact .inr ⟨by omega, by omega⟩)
      rw [← hbw]
      have hwb : w1.heap.size ≤ bw := by rw [hbw]; exact HB4.out
      have hwo : bw < wr.heap.size := block_lt (HW0.out.cell (k := 0) (by omega)).1
      have HBE := Lib.hid hbw
      clear HW0 hbw
      generalize wr.heap.size = bo at *
      have HG := Lib.hid hg
      have HW := Lib.hid hw
      have hsn : sn = 0 ∨ sn = 1 := by omega
      have hun : un = 0 ∨ un = 1 := by omega
      have HSO := Lib.hid (show SrcOk ⟨sk, sn⟩ from ⟨by simp only; omega, hsn⟩)
      have HUO := Lib.hid (show SrcOk ⟨uk, un⟩ from ⟨by simp only; omega, hun⟩)
      have HN1 := Lib.hid (fun w => nmd_any sk sn hsn w)
      have HN2 := Lib.hid (fun w => nmd_any uk un hun w)
      obtain ⟨⟨vk, vn⟩, hv⟩ : ∃ v, v = nmd ⟨sk, sn⟩ := ⟨_, rfl⟩
      obtain ⟨⟨tk, tn⟩, ht⟩ : ∃ v, v = nmd ⟨uk, un⟩ := ⟨_, rfl⟩
      rw [← hv] at HN1
      rw [← ht] at HN2
      have HV := Lib.hid hv
      have HT := Lib.hid ht
      clear hg hw hBW hW hv ht hsn hun
      go_wp2_with fail
      refine (HN1.out _).mono ?_
      rintro e w5 ⟨rfl, hb5⟩
      have hs5 := hb5.size
      have o0 := (hb5.cell (p := ⟨bo, 0, none⟩) (by simp; omega)).trans o0
      have s0 := (hb5.cell (p := ⟨bo + 1, 0, none⟩) (by simp; omega)).trans s0
      have s1 := (hb5.cell (p := ⟨bo + 1, 1, none⟩) (by simp; omega)).trans s1
      have u0 := (hb5.cell (p := ⟨bo + 2, 0, none⟩) (by simp; omega)).trans u0
      have u1 := (hb5.cell (p := ⟨bo + 2, 1, none⟩) (by simp; omega)).trans u1
      obtain ⟨hg, hk⟩ := HG.out.below hb5
      have hw := HW.out.keep hk (.inl rfl)
      have HG := Lib.hid hg
      have HW := Lib.hid hw
      clear hg hw hk hb5
      have hW5 : bo < w5.heap.size := by omega
      have hW51 : bo + 1 < w5.heap.size := by omega
      have hW52 : bo + 2 < w5.heap.size := by omega
      have hW53 : bw < w5.heap.size := by omega
      clear hs5 hWs
      go_wp2_with fail
      refine (HKD.out _).mono ?_
      rintro e w6 ⟨rfl, rfl⟩
      have hg := HG.out.new (.cells #[.int .i64 vk, .int .i64 vn] 46)
      have hw := HW.out.keep (HG.out.keep_alloc (.cells #[.int .i64 vk, .int .i64 vn] 46)) (.inl rfl)
      have hl7 := HW.out.1
      have c0 : (w5.alloc (.cells #[.int .i64 vk, .int .i64 vn] 46)).cell? ⟨w5.heap.size, 0, none⟩ = some (.int .i64 vk) := by simp [go_sem]
      have c1 : (w5.alloc (.cells #[.int .i64 vk, .int .i64 vn] 46)).cell? ⟨w5.heap.size, 1, none⟩ = some (.int .i64 vn) := by simp [go_sem]
      have HWR := Lib.hid (write_s hg (by show 2 ≤ 1000; omega) 0 0 f ⟨sk, sn⟩)
      have HSW := Lib.hid (swap_s hg (by show 2 ≤ 1000; omega) 0 0 f ⟨sk, sn⟩ ⟨uk, un⟩)
      rw [gF_write hl7 hf7 HSO.out, ← HV.out] at HWR
      rw [gF_swap hl7 hf7 HSO.out HUO.out, ← HV.out, ← HT.out] at HSW
      have HC := Lib.hid (And.intro c0 c1)
      have v0 : (w5.alloc (.cells #[.int .i64 vk, .int .i64 vn] 46)).cell? ⟨bo + 2, 0, none⟩ = some (.int .i64 uk) := ((HG.out.keep_alloc _).cell (by simp)).trans u0
      have v1 : (w5.alloc (.cells #[.int .i64 vk, .int .i64 vn] 46)).cell? ⟨bo + 2, 1, none⟩ = some (.int .i64 un) := ((HG.out.keep_alloc _).cell (by simp)).trans u1
      have HU := Lib.hid (And.intro v0 v1)
      have HW := Lib.hid hw
      clear HG hg hw c0 c1 v0 v1
      go_upto_if 78 with fail
      go_cut [7] (fun s7 wx => s7 = .int .i64 j ∧ ∃ fs', GS w1 wx p (gF fs') (fun k => k = bw) ∧ Want wx bw fs')
      case first =>
        rcases (show kk = 0 ∨ kk = 1 by omega) with rfl | rfl
        · clear HSW
          go_wp2_with fail
          refine (HWR.out).mono ?_
          rintro e w7 ⟨rfl, hg, hk⟩
          have q0 := (hk.cell (.inr rfl)).trans HC.out.1
          have q1 := (hk.cell (.inr rfl)).trans HC.out.2
          have hw := HW.out.keep hk (.inl (.inl rfl))
          obtain ⟨y0, y1⟩ := hw.cell hf7
          have yf := hw.frozen
          have hg2 := ((hg.set_ (b := bw) (.inl (.inl rfl)) hwb (f * 2) (.int .i64 vk)).set_ (b := bw) (.inl (.inl rfl)) hwb (f * 2 + 1) (.int .i64 vn)).less (D := fun k => k = bw) (fun k hk => .inl (.inl hk))
          have HGN := Lib.hid (And.intro hg2 (hw.set hf7 vk vn))
          clear HWR hg hk hw HW HC hg2 hl7
          go_wp2_with fail
          go_meet
          exact ⟨rfl, _, HGN.out⟩
        · clear HWR
          obtain ⟨y0, y1⟩ := HW.out.cell hf7
          obtain ⟨⟨xk, xn⟩, hx⟩ : ∃ x, x = fs.getD f default := ⟨_, rfl⟩
          rw [← hx] at y0 y1 HSW
          by_cases hk : xk = vk
          · subst hk
            by_cases hn : xn = vn
            · subst hn
              rw [if_pos rfl] at HSW
              clear y0 y1
              go_wp2_with fail
              refine (HSW.out).mono ?_
              rintro e w7 ⟨rfl, hg, hk⟩
              have hw := HW.out.keep hk (.inl (.inl rfl))
              have q0 := (hk.cell (.inr rfl)).trans HC.out.1
              have q1 := (hk.cell (.inr rfl)).trans HC.out.2
              obtain ⟨y0, y1⟩ := hw.cell hf7
              have yf := hw.frozen
              rw [← hx] at y0 y1
              have v0 := (hk.cell (.inl (.inr (.inr (.inr rfl))))).trans HU.out.1
              have v1 := (hk.cell (.inl (.inr (.inr (.inr rfl))))).trans HU.out.2
              have HG := Lib.hid (And.intro hg hw)
              clear hg hk hw HW HC HSW
              go_wp2_with fail
              go_quiet (fail)
              go_wp2_with fail
              refine (HN2.out _).mono ?_
              rintro e w8 ⟨rfl, hb8⟩
              obtain ⟨hg, hk⟩ := (HG.out.1.drewN nq).below hb8
              have hw7 : Want (w7.drewN nq) bw _ := HG.out.2
              have hw := hw7.keep hk (.inl (.inl rfl))
              have hg := hg.less (D := fun k => k = bw) (fun k hk => .inl (.inl hk))
              obtain ⟨y0, y1⟩ := hw.cell hf7
              have yf := hw.frozen
              have HG := Lib.hid (And.intro hg hw)
              clear hg hk hw hw7 hb8
              go_wp2_with fail
              go_meet
              exact ⟨rfl, _, (HG.out.1.set_ rfl hwb _ _).set_ rfl hwb _ _, HG.out.2.set hf7 tk tn⟩
            · have hd : (xn == vn) = false := by simpa using hn
              rw [if_neg (fun e => hn (V.mk.inj e).2)] at HSW
              clear y0 y1 hn
              go_wp2_with fail
              refine (HSW.out).mono ?_
              rintro e w7 ⟨rfl, hg, hk⟩
              have hw := HW.out.keep hk (.inl (.inl rfl))
              have q0 := (hk.cell (.inr rfl)).trans HC.out.1
              have q1 := (hk.cell (.inr rfl)).trans HC.out.2
              obtain ⟨y0, y1⟩ := hw.cell hf7
              rw [← hx] at y0 y1
              have HG := Lib.hid (And.intro hg hw)
              clear hg hk hw HW HC HSW
              go_wp2_with fail
              go_quiet (fail)
              go_wp2_with fail
              go_meet
              exact ⟨rfl, _, (HG.out.1.drewN _).less (fun k hk => .inl (.inl hk)), HG.out.2⟩
          · have hd : (xk == vk) = false := by simpa using hk
            rw [if_neg (fun e => hk (V.mk.inj e).1)] at HSW
            clear y0 y1 hk
            go_wp2_with fail
            refine (HSW.out).mono ?_
            rintro e w7 ⟨rfl, hg, hk⟩
            have hw := HW.out.keep hk (.inl (.inl rfl))
            have q0 := (hk.cell (.inr rfl)).trans HC.out.1
            have q1 := (hk.cell (.inr rfl)).trans HC.out.2
            obtain ⟨y0, y1⟩ := hw.cell hf7
            rw [← hx] at y0 y1
            have HG := Lib.hid (And.intro hg hw)
            clear hg hk hw HW HC HSW
            go_wp2_with fail
            go_quiet (fail)
            go_wp2_with fail
            go_meet
            exact ⟨rfl, _, (HG.out.1.drewN _).less (fun k hk => .inl (.inl hk)), HG.out.2⟩
      case rest =>
      obtain ⟨rfl, fs', hg, hw⟩ := hcut
      have HG := Lib.hid (And.intro hg hw)
      clear hg hw HV HT HSO HUO HN1 HN2 HKD HWR HSW HW HC HU hl7
      go_wp2_with fail
      go_loopw [15] (fun s15 wx => ∃ k : Nat, k ≤ 7 ∧ s15 = .int .i64 k ∧ GS w1 wx p (gF fs') (fun k => k = bw) ∧ Want wx bw fs') (fun s15 _ => 7 - (intOf s15).toNat)
      case atStart => exact ⟨0, by omega, rfl, HG.out.1, HG.out.2⟩
      case round =>
        clear HG
        obtain ⟨k, hk, rfl, hg, hw⟩ := hrel
        by_cases hk7 : k < 7
        · have hk7' : (k : Int) < 7 := by omega
          have HL := Lib.hid (look_s hg 0 0 k)
          rw [gF_look hw.1 hk7] at HL
          have HW := Lib.hid hw
          clear hg hw
          obtain ⟨⟨xk, xn⟩, hx⟩ : ∃ x, x = fs'.getD k default := ⟨_, rfl⟩
          rw [← hx] at HL
          go_wp2_with fail
          refine (HL.out).mono ?_
          rintro e w9 ⟨rfl, hg, hk⟩
          have hw := HW.out.keep hk rfl
          obtain ⟨y0, y1⟩ := hw.cell hk7
          rw [← hx] at y0 y1
          have hbl9 := block_lt y0
          have HG := Lib.hid (And.intro hg hw)
          clear hg hk hw HW HL hx
          go_wp2_with fail
          go_quiet (fail)
          go_wp2_with fail
          go_roundw
          case rel => exact ⟨k + 1, by omega, by go_num, (HG.out.1.new _).drewN _ |>.less (fun k hk => .inl hk), HG.out.2.keep (HG.out.1.keep_alloc _) rfl⟩
          case measure => simp [intOf]; omega
        · obtain rfl : k = 7 := by omega
          have HG := Lib.hid (And.intro hg hw)
          clear hg hw
          obtain rfl := HBE.out
          go_wp2_with fail
          go_roundw
          case rel => exact ⟨j + 1, fs', by omega, by go_num, HG.out.2, HG.out.1⟩
          case measure => simp [intOf]; omega
    · obtain rfl : j = K := by omega
      have HBL := Lib.hid hg.bl
      clear hg hw
      have hend : ((j : Int) < (n : Int) ∧ ¬ (j : Int) < 40) ∨ ¬ (j : Int) < (n : Int) := by
        have := HKK.out
        omega
      rcases hend with ⟨hj1, hj2⟩ | hj2
      all_goals
        go_wp2_with fail
        go_ret
        refine ⟨rfl, ?_⟩
        have hb1 := HB1.out
        have hbl := HBL.out
        exact hb1.trans (hbl.mono hb1.size)

end Go.Proofs.Ytlogojiphjpknaa
