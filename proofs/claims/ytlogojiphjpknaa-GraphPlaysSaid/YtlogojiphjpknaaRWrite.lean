/- (*flitref07.Graph).Write. No condition. -/
import Derived.Test.YtlogojiphjpknaaRTurn
import Derived.Test.YtlogojiphjpknaaGWrite
import Derived.Deep.DeepCutAuto
namespace Go.Proofs.Ytlogojiphjpknaa
open Go.RowKit
set_option linter.unusedVariables false

section
variable {F : Nat → Prop} {w : World} {p : Nat} {G : Gd} {bt ct : Nat} {ov : Value} {gs cs : List Nat}

theorem writeT_end {T : TypeId} (h : Vw T F w p G bt ct ov gs cs) {w1 W : World} (hb : Below w.heap.size w w1) {k f : Nat} (hk : k < G.os.length) (hf : f < (G.os.getD k []).length) (v : V)
    (hW : Below ((w1.setCell ⟨gs.getD k 0, f * 2, none⟩ (.int .i64 v.k)).setCell ⟨gs.getD k 0, f * 2 + 1, none⟩ (.int .i64 v.n)).heap.size ((w1.setCell ⟨gs.getD k 0, f * 2, none⟩ (.int .i64 v.k)).setCell ⟨gs.getD k 0, f * 2 + 1, none⟩ (.int .i64 v.n)) W) :
    Gr T (Grow F w W) W p ⟨G.ts, G.os.set k ((G.os.getD k []).set f v)⟩ ∧ Only F w W := by
  have h1 := (h.below hb).put_field hk hf v
  refine ⟨⟨_, _, _, _, _, (h1.below hW).mono fun _ hx => .inl hx⟩, ?_⟩
  have hFg := (h.hos k hk).1
  refine Only.below (Only.setCell (Only.setCell (Only.of_below hb) (.inl hFg) _ _) (.inl hFg) _ _) hW ?_
  have := hb.size
  simpa [World.setCell] using this

set_option maxRecDepth 100000 in
set_option maxHeartbeats 1000000 in
theorem rwrite_not (h : Vw 91 F w p G bt ct ov gs cs) (t i f : Int) (s : V) (hn : G.not t) : Calls Try.prog 44 #[.pointer (some ⟨p, 0, none⟩), .int .i64 t, .int .i64 i, .int .i64 f, vv s] w (TurnT 91 F w p (G, 1)) := by
  have HIS := Lib.hid (fun w c0 => is_no p bt G.ts.length ct t w c0 hn)
  have HV := Lib.hid h
  obtain ⟨c0, c1⟩ := h.pcell
  have hpl := h.plt
  clear h hn
  obtain ⟨sk, sn⟩ := s
  go_enter Try.func44, Try.ntmps44
  go_wp2_with fail
  refine (HIS.out _ (by simp [go_sem, c0, hpl])).mono ?_
  rintro e1 w1 ⟨rfl, rfl⟩
  go_wp2_with fail
  go_ret
  have hb : Below w.heap.size w _ := (Below.refl _ _).alloc (Nat.le_refl _) (.cells #[.int .i64 sk, .int .i64 sn] 48)
  exact ⟨rfl, HV.out.gr hb, Only.of_below hb⟩

set_option maxRecDepth 100000 in
set_option maxHeartbeats 2000000 in
theorem rwrite_yes (h : Vw 91 F w p G bt ct ov gs cs) (hok : G.Ok) (t : Nat) (ht : t < G.ts.length) (i f : Int) (s : V) : Calls Try.prog 44 #[.pointer (some ⟨p, 0, none⟩), .int .i64 (t : Int), .int .i64 i, .int .i64 f, vv s] w (TurnT 91 F w p (G.write t i f s)) := by
  have hnot : ¬ G.not t := by unfold Gd.not; omega
  have HIS := Lib.hid (fun w c0 => is_yes p bt G.ts.length ct t w c0 ht)
  have HN := Lib.hid (show ∀ W, Below w.heap.size w W → Calls Try.prog 62 #[.pointer (some ⟨p, 0, none⟩), .int .i64 (t : Int), vv s] W (RNamedP W (G.rnamed t s)) from fun W hb => rnamed_any (h.below hb) t hnot s)
  have HL := Lib.hid (show ∀ W, Below w.heap.size w W → Calls Try.prog 42 #[.pointer (some ⟨p, 0, none⟩), .int .i64 (t : Int), .int .i64 i, .int .i64 f] W (LookP W G t i f) from fun W hb => rlook_any (h.below hb) hok t i f)
  have HV := Lib.hid h
  have HOK := Lib.hid hok
  obtain ⟨c0, c1⟩ := h.pcell
  have hpl := h.plt
  have h64 := h.h64
  have hsr : (G.rnamed t s).2 = G.serr t s := by
    unfold Gd.rnamed Gd.serr
    rw [if_neg hnot]
    split <;> rfl
  have hsv : G.serr t s = 0 → (G.rnamed t s).1 = (G.src t s).1 := by
    unfold Gd.rnamed Gd.serr
    rw [if_neg hnot]
    split
    · intro h; cases h
    · intro _; rfl
  obtain ⟨⟨⟨vk, vn⟩, x⟩, hx⟩ : ∃ q, q = G.rnamed t s := ⟨_, rfl⟩
  rw [← hx] at HN hsr hsv
  simp only at hsr hsv
  obtain ⟨⟨⟨lk, ln⟩, y⟩, hy⟩ : ∃ q, q = G.look t i f := ⟨_, rfl⟩
  have hyf : y = G.ferr t i f := by
    have : y = (G.look t i f).2 := by rw [← hy]
    rw [this]
    unfold Gd.look
    split
    · rename_i h0; exact h0.symm
    · rfl
  unfold LookP at HL
  rw [← hy] at HL
  clear h hok hx hy
  by_cases hs0 : x = 0
  · subst hs0
    have hsv' := hsv hsr.symm
    by_cases hf0 : y = 0
    · subst hf0
      have HE := Lib.hid (show G.write t i f s = (G.fset t i f ⟨vk, vn⟩, 0) by unfold Gd.write; rw [if_neg (by simp [← hsr]), if_neg (by simp [← hyf]), hsv'])
      obtain ⟨hn, hg, hk, hob, hff, hl, hvv⟩ := ferr_yes HOK.out hyf.symm
      have h7 : (G.os.getD (G.at_ t i) []).length ≤ 7 := by rw [← hob]; exact (HOK.out.ob _).2
      have HG := Lib.hid (fun w => getR_at (G.rt t) i hg w)
      have HFS := Lib.hid (fset_eq G t i f ⟨vk, vn⟩)
      clear hsr hsv hyf hvv hob hn hg hsv'
      obtain ⟨l, hl'⟩ : ∃ l, l = f.toNat := ⟨_, rfl⟩
      rw [← hl'] at hff hl HFS
      subst hff
      clear hl'
      obtain ⟨k, hk'⟩ : ∃ k, k = G.at_ t i := ⟨_, rfl⟩
      rw [← hk'] at hk hl HG HFS h7
      clear hk'
      obtain ⟨sk, sn⟩ := s
      go_enter Try.func44, Try.ntmps44
      go_wp2_with fail
      refine (HIS.out _ (by simp [go_sem, c0, hpl])).mono ?_
      rintro e1 w1 ⟨rfl, rfl⟩
      go_wp2_with fail
      refine (HN.out _ ((Below.refl _ _).alloc (Nat.le_refl _) _)).mono ?_
      rintro e1 w1 ⟨rfl, hb1⟩
      have hbw1 : Below w.heap.size w w1 := ((Below.refl _ _).alloc (Nat.le_refl _) _).trans (hb1.mono (by simp))
      have HBW := Lib.hid hbw1
      clear hb1 hbw1
      go_wp2_with fail
      refine (HL.out _ (HBW.out.alloc HBW.out.size _)).mono ?_
      rintro e1 w2 ⟨rfl, hb2⟩
      have v0 : w2.cell? ⟨w1.heap.size, 0, none⟩ = some (.int .i64 vk) := (hb2.cell (p := ⟨w1.heap.size, 0, none⟩) (by simp)).trans (by simp [go_sem])
      have v1 : w2.cell? ⟨w1.heap.size, 1, none⟩ = some (.int .i64 vn) := (hb2.cell (p := ⟨w1.heap.size, 1, none⟩) (by simp)).trans (by simp [go_sem])
      have hvl : w1.heap.size < w2.heap.size := block_lt v0
      have hbw2 : Below w.heap.size w w2 := (HBW.out.alloc HBW.out.size _).trans (hb2.mono (by have := HBW.out.size; simp; omega))
      have hv2 := HV.out.below hbw2
      obtain ⟨A, c, hov, hrow⟩ := hv2.orow
      obtain ⟨c0', c1', r0, r1, r2, r3, r4, r5, r6, r7, r8, hpl', hbl'⟩ := hv2.fpre hov ht
      obtain ⟨b, rfl, hbb, hcc⟩ := hrow k hk
      unfold oval at hcc
      obtain ⟨f0, f1⟩ := hv2.fcell hk hl
      have hgl := hv2.glt hk
      have hfz : ∀ j, w2.frozen? ⟨gs.getD k 0, j, none⟩ = false := fun j => World.ownsRow.frozenAt (hv2.hos _ hk).2 j
      have hpg : p ≠ gs.getD k 0 := hv2.p_g hk
      have hbg : b ≠ gs.getD k 0 := fun e => by
        have := hv2.ov_g hk
        rw [hov, e] at this
        exact this rfl
      have hvg : w1.heap.size ≠ gs.getD k 0 := by have := (HV.out).glt hk; have := HBW.out.size; omega
      have HB2 := Lib.hid hbw2
      have HK := Lib.hid hk
      have HLL := Lib.hid hl
      obtain ⟨g, hg⟩ : ∃ g, g = gs.getD k 0 := ⟨_, rfl⟩
      rw [← hg] at hcc f0 f1 hgl hfz hpg hbg hvg
      have HGE := Lib.hid hg
      obtain ⟨nl, hnl⟩ : ∃ n, n = (G.os.getD k []).length := ⟨_, rfl⟩
      rw [← hnl] at hcc hl h7
      obtain ⟨fk, hfk⟩ : ∃ n, n = ((G.os.getD k []).getD l default).k := ⟨_, rfl⟩
      obtain ⟨fn, hfn⟩ : ∃ n, n = ((G.os.getD k []).getD l default).n := ⟨_, rfl⟩
      rw [← hfk] at f0
      rw [← hfn] at f1
      obtain ⟨r, hr⟩ : ∃ r, r = G.rt t := ⟨_, rfl⟩
      rw [← hr] at r0 r1 r2 r3 r4 r5 r6 r7 r8 HG
      obtain ⟨M, hM⟩ : ∃ M, M = G.os.length := ⟨_, rfl⟩
      have hMx := HV.out.olen
      rw [← hM] at c1' hk hMx
      have hk1 : (k : Int) < (M : Int) := by omega
      have hl1 : (l : Int) < (nl : Int) := by omega
      have htt : (t : Int) < (G.ts.length : Int) := by omega
      have hw1 : IntKind.i64.wrap ((k : Int) + 1 - 1) = (k : Int) := by rw [show (k : Int) + 1 - 1 = (k : Int) by omega]; exact IntWalk.i64_in _ (by omega)
      have hw2 : IntKind.i64.wrap (k : Int) = (k : Int) := IntWalk.i64_in _ (by omega)
      clear hb2 hbw2 hv2 hov hrow hg hnl hfk hfn hr hM c0 c1 hpl HBW HIS HN HL HOK
      go_wp2_with fail
      refine (HG.out _).mono ?_
      rintro e1 w3 ⟨rfl, hb3⟩
      obtain ⟨os, d, rfl⟩ := ext_of hb3
      clear hb3
      go_upto_region 11 with fail
      go_region
      all_goals (
        go_wp2_with fail
        go_ret
        rw [HE.out, HFS.out]
        have hend := fun W => writeT_end HV.out HB2.out HK.out HLL.out ⟨vk, vn⟩ (W := W)
        rw [← HGE.out] at hend
        have h9 := hend _ (below_of_ext os d).drew
        exact ⟨rfl, h9.1, h9.2⟩)
    · have HE := Lib.hid (show G.write t i f s = (G, y) by unfold Gd.write; rw [if_neg (by simp [← hsr]), if_pos (by rw [← hyf]; exact hf0), ← hyf])
      clear hsr hsv hyf hsv'
      have htt : (t : Int) < (G.ts.length : Int) := by omega
      obtain ⟨sk, sn⟩ := s
      go_enter Try.func44, Try.ntmps44
      go_wp2_with fail
      refine (HIS.out _ (by simp [go_sem, c0, hpl])).mono ?_
      rintro e1 w1 ⟨rfl, rfl⟩
      go_wp2_with fail
      refine (HN.out _ ((Below.refl _ _).alloc (Nat.le_refl _) _)).mono ?_
      rintro e1 w1 ⟨rfl, hb1⟩
      have hbw1 : Below w.heap.size w w1 := ((Below.refl _ _).alloc (Nat.le_refl _) _).trans (hb1.mono (by simp))
      have HBW := Lib.hid hbw1
      clear hb1 hbw1
      go_wp2_with fail
      refine (HL.out _ (HBW.out.alloc HBW.out.size _)).mono ?_
      rintro e1 w2 ⟨rfl, hb2⟩
      have hbw2 : Below w.heap.size w w2 := (HBW.out.alloc HBW.out.size _).trans (hb2.mono (by have := HBW.out.size; simp; omega))
      have HB2 := Lib.hid hbw2
      clear hb2 hbw2
      go_wp2_with fail
      go_ret
      rw [HE.out]
      exact ⟨rfl, HV.out.gr HB2.out, Only.of_below HB2.out⟩
  · have HE := Lib.hid (show G.write t i f s = (G, x) by unfold Gd.write; rw [if_pos (by rw [← hsr]; exact hs0), ← hsr])
    clear hsr hsv hyf
    have htt : (t : Int) < (G.ts.length : Int) := by omega
    obtain ⟨sk, sn⟩ := s
    go_enter Try.func44, Try.ntmps44
    go_wp2_with fail
    refine (HIS.out _ (by simp [go_sem, c0, hpl])).mono ?_
    rintro e1 w1 ⟨rfl, rfl⟩
    go_wp2_with fail
    refine (HN.out _ ((Below.refl _ _).alloc (Nat.le_refl _) _)).mono ?_
    rintro e1 w1 ⟨rfl, hb1⟩
    have hbw1 : Below w.heap.size w w1 := ((Below.refl _ _).alloc (Nat.le_refl _) _).trans (hb1.mono (by simp))
    have HBW := Lib.hid hbw1
    clear hb1 hbw1
    go_wp2_with fail
    go_ret
    rw [HE.out]
    have hb9 := HBW.out.alloc HBW.out.size (.cells #[.int .i64 vk, .int .i64 vn] 46)
    exact ⟨rfl, HV.out.gr hb9, Only.of_below hb9⟩

theorem rwrite_any (h : Vw 91 F w p G bt ct ov gs cs) (hok : G.Ok) (t i f : Int) (s : V) : Calls Try.prog 44 #[.pointer (some ⟨p, 0, none⟩), .int .i64 t, .int .i64 i, .int .i64 f, vv s] w (TurnT 91 F w p (G.write t i f s)) := by
  by_cases hn : G.not t
  · have e : G.write t i f s = (G, 1) := by
      have : G.serr t s = 1 := by unfold Gd.serr; rw [if_pos hn]
      unfold Gd.write; rw [this, if_pos (by decide)]
    rw [e]
    exact rwrite_not h t i f s hn
  · have hn' := hn
    unfold Gd.not at hn'
    obtain ⟨t', rfl⟩ : ∃ t' : Nat, t = t' := ⟨t.toNat, by omega⟩
    exact rwrite_yes h hok t' (by omega) i f s
end

end Go.Proofs.Ytlogojiphjpknaa
