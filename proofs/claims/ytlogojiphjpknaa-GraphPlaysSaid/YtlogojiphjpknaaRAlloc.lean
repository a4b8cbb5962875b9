/- (*flitref07.Graph).Alloc. Condition: fewer than a hundred thousand objects. -/
import Derived.Test.YtlogojiphjpknaaRTurn
import Derived.Test.YtlogojiphjpknaaGAllocW
import Derived.Deep.RegionLaw
import Derived.Deep.DeepCutAuto
namespace Go.Proofs.Ytlogojiphjpknaa
open Go.RowKit
set_option linter.unusedVariables false

theorem c_alloc {B : Nat} {b w : World} (hB : B ≤ b.heap.size) (h : Below B b w) (o : Obj) : Below B b (w.alloc o) := h.alloc (Nat.le_trans hB h.size) o
theorem c_ext {B : Nat} {b w : World} (hB : B ≤ b.heap.size) (h : Below B b w) (os : Array Obj) (d : Nat) : Below B b (ext w os d) := below_ext h (Nat.le_trans hB h.size) os d

section
variable {F : Nat → Prop} {w : World} {p : Nat} {G : Gd} {bt ct : Nat} {ov : Value} {gs cs : List Nat}

set_option maxRecDepth 100000 in
set_option maxHeartbeats 1000000 in
theorem ralloc_not (h : Vw 91 F w p G bt ct ov gs cs) (t n : Int) (hn : G.not t) : Calls Try.prog 41 #[.pointer (some ⟨p, 0, none⟩), .int .i64 t, .int .i64 n] w (TurnT 91 F w p (G, 1)) := by
  have HG := Lib.hid (h.gr (below_refl w))
  have HIS := Lib.hid (fun w c0 => is_no p bt G.ts.length ct t w c0 hn)
  obtain ⟨c0, c1⟩ := h.pcell
  have hpl := h.plt
  clear h hn
  go_enter Try.func41, Try.ntmps41
  go_wp2_with fail
  refine (HIS.out _ (by simp [go_sem, c0])).mono ?_
  rintro e1 w1 ⟨rfl, rfl⟩
  go_wp2_with fail
  go_ret
  exact ⟨rfl, HG.out, Only.refl _ _⟩

set_option maxRecDepth 100000 in
set_option maxHeartbeats 1000000 in
theorem ralloc_bad (h : Vw 91 F w p G bt ct ov gs cs) (t : Nat) (ht : t < G.ts.length) (n : Int) (hn : n < 0 ∨ 7 < n) : Calls Try.prog 41 #[.pointer (some ⟨p, 0, none⟩), .int .i64 (t : Int), .int .i64 n] w (TurnT 91 F w p (G, 10)) := by
  have HG := Lib.hid (h.gr (below_refl w))
  have HIS := Lib.hid (fun w c0 => is_yes p bt G.ts.length ct t w c0 ht)
  obtain ⟨c0, c1⟩ := h.pcell
  have hpl := h.plt
  clear h
  by_cases h0 : n < 0
  · clear hn
    go_enter Try.func41, Try.ntmps41
    go_wp2_with fail
    refine (HIS.out _ (by simp [go_sem, c0])).mono ?_
    rintro e1 w1 ⟨rfl, rfl⟩
    go_wp2_with fail
    go_ret
    exact ⟨rfl, HG.out, Only.refl _ _⟩
  · have h1 : 7 < n := by omega
    clear hn
    go_enter Try.func41, Try.ntmps41
    go_wp2_with fail
    refine (HIS.out _ (by simp [go_sem, c0])).mono ?_
    rintro e1 w1 ⟨rfl, rfl⟩
    go_wp2_with fail
    go_ret
    exact ⟨rfl, HG.out, Only.refl _ _⟩

set_option maxRecDepth 100000 in
set_option maxHeartbeats 2000000 in
theorem ralloc_err (p bt : Nat) (A : Option Addr) (T ct M c t : Nat) (n : Int) (r : Rt) (w : World) (h : FPre w p bt A T ct M c t r) (ht : t < T) (hT : T ≤ 64) (hM : M < 100000) (hn0 : ¬ n < 0) (hn7 : ¬ 7 < n) (x : Rt) (y : Int)
    (hd : ∀ w, Calls Try.prog 20 #[rv r, .int .i64 ((M : Int) + 1)] w fun e w' => e = .returned (.tuple #[rv x, .int .i64 y]) ∧ Below w.heap.size w w') (hy : y ≠ 0) :
    Calls Try.prog 41 #[.pointer (some ⟨p, 0, none⟩), .int .i64 (t : Int), .int .i64 n] w fun e w' => e = .returned (.int .i64 y) ∧ Below w.heap.size w w' := by
  have HD := Lib.hid hd
  have HIS := Lib.hid (fun w c0 => is_yes p bt T ct t w c0 ht)
  obtain ⟨c0, c1, r0, r1, r2, r3, r4, r5, r6, r7, r8, hpl, hbl⟩ := h
  have ht0 : ¬ (t : Int) < 0 := by omega
  have ht1 : (t : Int) < (T : Int) := by omega
  have hs : IntKind.i64.wrap ((M : Int) + 1) = (M : Int) + 1 := IntWalk.i64_in _ (by omega)
  clear hd
  go_enter Try.func41, Try.ntmps41
  go_wp2_with fail
  refine (HIS.out _ (by simp [go_sem, c0])).mono ?_
  rintro e1 w1 ⟨rfl, rfl⟩
  go_upto_region 6 with fail
  go_region_held3 (fun w' => w'.cell? ⟨p, 0, none⟩ = some (.slice (some ⟨bt, 0, none⟩) T ct) ∧ w'.cell? ⟨p, 1, none⟩ = some (.slice A M c) ∧ w'.cell? ⟨bt, t * 9, none⟩ = some (.int .i64 r.n) ∧ w'.cell? ⟨bt, t * 9 + 1, none⟩ = some (.int .i64 r.a0) ∧ w'.cell? ⟨bt, t * 9 + 2, none⟩ = some (.int .i64 r.a1) ∧ w'.cell? ⟨bt, t * 9 + 3, none⟩ = some (.int .i64 r.a2) ∧ w'.cell? ⟨bt, t * 9 + 4, none⟩ = some (.int .i64 r.a3) ∧ w'.cell? ⟨bt, t * 9 + 5, none⟩ = some (.int .i64 r.a4) ∧ w'.cell? ⟨bt, t * 9 + 6, none⟩ = some (.int .i64 r.a5) ∧ w'.cell? ⟨bt, t * 9 + 7, none⟩ = some (.int .i64 r.a6) ∧ w'.cell? ⟨bt, t * 9 + 8, none⟩ = some (.int .i64 r.a7)) (go_simp)
    ((go_at_call 20; with_reducible refine (HD.out _).mono ?_; rintro e w2 ⟨rfl, hb2⟩; obtain ⟨os1, d1, rfl⟩ := ext_of hb2; clear hb2))
  all_goals
    go_wp2_with fail
    go_ret
    refine ⟨rfl, ?_⟩
    repeat (first | with_reducible exact Below.refl _ _ | with_reducible refine b_dn ?_ _ | with_reducible refine b_drew ?_ | with_reducible refine b_set ?_ | with_reducible refine b_set0 ?_ | with_reducible refine b_ext ?_ _ _ | with_reducible refine b_alloc ?_ _)

set_option maxRecDepth 100000 in
set_option maxHeartbeats 4000000 in
theorem ralloc_yes (h : Vw 91 F w p G bt ct ov gs cs) (t : Nat) (ht : t < G.ts.length) (hM : G.os.length < 100000) (m : Nat) (hm : m ≤ 7) (x : Rt)
    (hd : ∀ w, Calls Try.prog 20 #[rv (G.rt t), .int .i64 ((G.os.length : Int) + 1)] w fun e w' => e = .returned (.tuple #[rv x, .int .i64 0]) ∧ Below w.heap.size w w') :
    Calls Try.prog 41 #[.pointer (some ⟨p, 0, none⟩), .int .i64 (t : Int), .int .i64 (m : Int)] w (TurnT 91 F w p (⟨G.ts.set t x, G.os ++ [List.replicate m default]⟩, 0)) := by
  have HD := Lib.hid hd
  have HIS := Lib.hid (fun w c0 => is_yes p bt G.ts.length ct t w c0 ht)
  obtain ⟨A, c, hov, _⟩ := h.orow
  obtain ⟨c0, c1, r0, r1, r2, r3, r4, r5, r6, r7, r8, hpl, hbl⟩ := h.fpre hov ht
  have hfz : ∀ j, w.frozen? ⟨bt, j, none⟩ = false := World.ownsRow.frozenAt h.hts
  have h64 := h.h64
  have HW := Lib.hid h
  have ht0 : ¬ (t : Int) < 0 := by omega
  have htt : (t : Int) < (G.ts.length : Int) := by omega
  have hn0 : ¬ (m : Int) < 0 := by omega
  have hn7 : ¬ (7 : Int) < (m : Int) := by omega
  have hpb : p ≠ bt := h.p_bt
  have hs : IntKind.i64.wrap ((G.os.length : Int) + 1) = (G.os.length : Int) + 1 := IntWalk.i64_in _ (by omega)
  clear hd h
  subst hov
  obtain ⟨r, hr⟩ : ∃ r, r = G.rt t := ⟨_, rfl⟩
  rw [← hr] at r0 r1 r2 r3 r4 r5 r6 r7 r8 HD
  clear hr
  obtain ⟨y, y0, y1, y2, y3, y4, y5, y6, y7⟩ := x
  go_enter Try.func41, Try.ntmps41
  go_wp2_with fail
  refine (HIS.out _ (by simp [go_sem, c0])).mono ?_
  rintro e1 w1 ⟨rfl, rfl⟩
  go_upto_region 6 with fail
  go_region_held3 (fun w' => w'.cell? ⟨p, 0, none⟩ = some (.slice (some ⟨bt, 0, none⟩) G.ts.length ct) ∧ w'.cell? ⟨p, 1, none⟩ = some (.slice A G.os.length c) ∧ w'.cell? ⟨bt, t * 9, none⟩ = some (.int .i64 r.n) ∧ w'.cell? ⟨bt, t * 9 + 1, none⟩ = some (.int .i64 r.a0) ∧ w'.cell? ⟨bt, t * 9 + 2, none⟩ = some (.int .i64 r.a1) ∧ w'.cell? ⟨bt, t * 9 + 3, none⟩ = some (.int .i64 r.a2) ∧ w'.cell? ⟨bt, t * 9 + 4, none⟩ = some (.int .i64 r.a3) ∧ w'.cell? ⟨bt, t * 9 + 5, none⟩ = some (.int .i64 r.a4) ∧ w'.cell? ⟨bt, t * 9 + 6, none⟩ = some (.int .i64 r.a5) ∧ w'.cell? ⟨bt, t * 9 + 7, none⟩ = some (.int .i64 r.a6) ∧ w'.cell? ⟨bt, t * 9 + 8, none⟩ = some (.int .i64 r.a7)) (go_simp)
    ((go_at_call 20; with_reducible refine (HD.out _).mono ?_; rintro e w2 ⟨rfl, hb2⟩; obtain ⟨os1, d1, rfl⟩ := ext_of hb2; clear hb2))
  all_goals
    go_upto_region 9 with fail
    go_cut [] (fun wx => Gr 91 (Grow F w wx) wx p ⟨G.ts.set t ⟨y, y0, y1, y2, y3, y4, y5, y6, y7⟩, G.os⟩ ∧ Only F w wx)
    case first =>
      go_region
      all_goals (
        go_wp2_with fail
        go_meet
        exact turnT_end HW.out ht _ (by
          have hB : w.heap.size ≤ (setRt w bt t ⟨y, y0, y1, y2, y3, y4, y5, y6, y7⟩).heap.size := by rw [setRt_size]; exact Nat.le_refl _
          repeat (first | with_reducible exact Below.refl _ _ | with_reducible refine Below.drew ?_ | with_reducible refine c_ext hB ?_ _ _ | with_reducible refine c_alloc hB ?_ _)))
    case rest =>
    obtain ⟨⟨bt2, ct2, ov2, gs2, cs2, hv⟩, ho⟩ := hcut
    obtain ⟨A2, c2, hov2, _⟩ := hv.orow
    simp only at hov2
    subst hov2
    have HO := Lib.hid ho
    clear ho c0 c1 r0 r1 r2 r3 r4 r5 r6 r7 r8 hpl hbl hfz HW HD HIS hpb
    obtain ⟨Z, hZs, hZl, hmk'⟩ := zero_cells m
    have hmk := hmk' hm
    have c1 : wc.cell? ⟨p, 1, none⟩ = some (.slice A2 G.os.length c2) := hv.pcell.2
    have hfp : ∀ j, wc.frozen? ⟨p, j, none⟩ = false := hv.hp.frozen
    have hpl : p < wc.heap.size := hv.plt
    have HV := Lib.hid hv
    have HZ := Lib.hid (show Z.size = m * 2 ∧ Z.toList = vflat (List.replicate m default) from ⟨hZs, hZl⟩)
    clear hv hZs hZl hmk'
    have hpo : some p ≠ Value.ownBlock (.slice A2 G.os.length c2) := HV.out.p_ov.symm
    have HOWN := Lib.hid (show wc.ownsRow 0 67 1 (.slice A2 G.os.length c2) G.os.length (ovals gs2 cs2 G.os) from HV.out.hov)
    have HNEW := Lib.hid (show ∀ x : Value, ((wc.alloc (.cells Z 46)).alloc (.cells #[x] 67)).drew.heap[wc.heap.size + 1]? = some (.cells #[x] 67 (0, 0)) from fun x => by
      have := heap_alloc_new (wc.alloc (.cells Z 46)) (.cells #[x] 67)
      rw [show (wc.alloc (.cells Z 46)).heap.size = wc.heap.size + 1 by simp] at this
      exact this)
    have KEEP := Lib.hid (show ∀ (x : Value) (w2 : World), ((wc.alloc (.cells Z 46)).alloc (.cells #[x] 67)).drew.grownBy w2 (Value.slice A2 G.os.length c2).ownBlock → w2.cell? ⟨p, 1, none⟩ = some (.slice A2 G.os.length c2) by
      intro x w2 hg
      rw [hg.cell_far _ (by simp; omega) hpo]; simp [go_sem, c1, hpl])
    have FZ := Lib.hid (show ∀ (x : Value) (w2 : World), ((wc.alloc (.cells Z 46)).alloc (.cells #[x] 67)).drew.grownBy w2 (Value.slice A2 G.os.length c2).ownBlock → w2.frozen? ⟨p, 1, none⟩ = false by
      intro x w2 hg
      rw [hg.frozen_far _ (by simp; omega) hpo]; simp [go_sem, hfp, hpl])
    have HPO := Lib.hid hpo
    clear hpo
    obtain ⟨i67, hi, hz, hs67, hb⟩ := info_parts info67
    go_wp2_with fail
    go_region_law
      ((refine step_append_lies _ (by rfl) _ _ _ (by rfl) 0 67 i67 _ 1 24 Try.underlying63 hi hz hs67 hb rfl (by omega) (.slice A2 G.os.length c2) G.os.length (ovals gs2 cs2 G.os) (by rfl) (World.ownsRow.alloc (World.ownsRow.alloc HOWN.out _) _) ⟨wc.heap.size + 1, 0, none⟩ 1 1 [.slice (some ⟨wc.heap.size, 0, none⟩) m m] (by rfl) (by rfl) (World.news_of_block (cs := #[.slice (some ⟨wc.heap.size, 0, none⟩) m m]) (t := 67) (fr := (0, 0)) (HNEW.out _)) (by simp [Value.oneCell']) (by omega) (by unfold maxLen; omega) (by omega) (Nat.zero_le _) (wc.heap.size + 2) (by simp) ?_; intro gg cap w2 hown hgr hat hlt; have hfz2 := FZ.out _ _ hgr; have hc2 := KEEP.out _ _ hgr))
    all_goals (
      go_wp2_with fail
      go_ret
      have hW : Below wc.heap.size wc ((wc.alloc (.cells Z 46)).alloc (.cells #[.slice (some ⟨wc.heap.size, 0, none⟩) m m] 67)).drew := (((Below.refl _ _).alloc (Nat.le_refl _) _).alloc (by simp) _).drew
      have hz46 : ((wc.alloc (.cells Z 46)).alloc (.cells #[.slice (some ⟨wc.heap.size, 0, none⟩) m m] 67)).drew.heap[wc.heap.size]? = some (.cells Z 46 (0, 0)) :=
        (Below.heap_alloc (wc.alloc (.cells Z 46)) _ _ (by simp)).trans (heap_alloc_new wc _)
      have hvw := HV.out.snoc hW (n := m) (Nat.le_refl _) (by unfold maxLen; omega) HZ.out.1 (o := List.replicate m default) (by simp) (by rw [HZ.out.2]; exact List.take_of_length_le (by rw [vflat_length]; simp)) (Nat.le_refl _) (by simp; omega) hz46 hown hgr (hat.imp id (fun e => by omega)) hlt
      have hon := HV.out.snoc_only hW hgr (.slice (some ⟨gg, 0, none⟩) (G.os.length + 1) cap)
      exact ⟨rfl, Gr.mono ⟨_, _, _, _, _, hvw⟩ (fun k hk => by
        have hs1 := HO.out.size
        have hs2 := hgr.size
        simp at hs2
        rcases hk with (hk | hk) | hk
        · exact .inl hk
        · exact .inr ⟨hk.1, by have := hk.2; simp [World.setCell]; omega⟩
        · exact .inr ⟨by have := hk.1; omega, by simpa [World.setCell] using hk.2⟩), HO.out.trans hon⟩)
end

end Go.Proofs.Ytlogojiphjpknaa
