/- (*flitref07.Graph).Swap. No condition. -/
import Derived.Test.YtlogojiphjpknaaRWrite
import Derived.Test.YtlogojiphjpknaaREq
namespace Go.Proofs.Ytlogojiphjpknaa
open Go.RowKit
set_option linter.unusedVariables false

def SwapT (T : TypeId) (F : Nat → Prop) (w : World) (p : Nat) (X : Gd × Bool × Int) (e : Ending) (w' : World) : Prop :=
  e = .returned (.tuple #[.bool X.2.1, .int .i64 X.2.2]) ∧ Gr T (Grow F w w') w' p X.1 ∧ Only F w w'

theorem rnamed_err {G : Gd} (hok : G.Ok) (t : Int) (s : V) : ((G.rnamed t s).2 = 1 ∧ Gd.bad s) ∨ (¬ Gd.bad s ∧ G.rnamed t s = G.src t s ∧ ((G.rnamed t s).2 = 0 ∨ (G.rnamed t s).2 = 12)) := by
  unfold Gd.rnamed
  by_cases h : Gd.bad s
  · rw [if_pos h]; exact .inl ⟨rfl, h⟩
  · rw [if_neg h]
    refine .inr ⟨h, rfl, ?_⟩
    unfold Gd.src
    split
    · exact .inl rfl
    · split
      · have := get_err (hok.rt t).1 s.n
        split
        · rename_i h1; exact this
        · exact .inl rfl
      · exact .inl rfl

section
variable {F : Nat → Prop} {w : World} {p : Nat} {G : Gd} {bt ct : Nat} {ov : Value} {gs cs : List Nat}

set_option maxRecDepth 100000 in
set_option maxHeartbeats 1000000 in
theorem rswap_not (h : Vw 91 F w p G bt ct ov gs cs) (t i f : Int) (s u : V) (hn : G.not t) : Calls Try.prog 45 #[.pointer (some ⟨p, 0, none⟩), .int .i64 t, .int .i64 i, .int .i64 f, vv s, vv u] w (SwapT 91 F w p (G, false, 1)) := by
  have HIS := Lib.hid (fun w c0 => is_no p bt G.ts.length ct t w c0 hn)
  have HV := Lib.hid h
  obtain ⟨c0, c1⟩ := h.pcell
  have hpl := h.plt
  clear h hn
  obtain ⟨sk, sn⟩ := s
  obtain ⟨uk, un⟩ := u
  go_enter Try.func45, Try.ntmps45
  go_wp2_with fail
  refine (HIS.out _ (by simp [go_sem, c0, hpl])).mono ?_
  rintro e1 w1 ⟨rfl, rfl⟩
  go_wp2_with fail
  go_ret2
  have hb : Below w.heap.size w _ := ((Below.refl _ _).alloc (Nat.le_refl _) (.cells #[.int .i64 sk, .int .i64 sn] 48)).alloc (by simp) (.cells #[.int .i64 uk, .int .i64 un] 48)
  exact ⟨rfl, HV.out.gr hb, Only.of_below hb⟩

set_option maxRecDepth 100000 in
set_option maxHeartbeats 2000000 in
theorem rswap_yes (h : Vw 91 F w p G bt ct ov gs cs) (hok : G.Ok) (t : Nat) (ht : t < G.ts.length) (i f : Int) (s u : V) : Calls Try.prog 45 #[.pointer (some ⟨p, 0, none⟩), .int .i64 (t : Int), .int .i64 i, .int .i64 f, vv s, vv u] w (SwapT 91 F w p (G.swap t i f s u)) := by
  have hnot : ¬ G.not t := by unfold Gd.not; omega
  have HIS := Lib.hid (fun w c0 => is_yes p bt G.ts.length ct t w c0 ht)
  have HN := Lib.hid (show ∀ W, Below w.heap.size w W → Calls Try.prog 62 #[.pointer (some ⟨p, 0, none⟩), .int .i64 (t : Int), vv s] W (RNamedP W (G.rnamed t s)) from fun W hb => rnamed_any (h.below hb) t hnot s)
  have HM := Lib.hid (show ∀ W, Below w.heap.size w W → Calls Try.prog 62 #[.pointer (some ⟨p, 0, none⟩), .int .i64 (t : Int), vv u] W (RNamedP W (G.rnamed t u)) from fun W hb => rnamed_any (h.below hb) t hnot u)
  have HL := Lib.hid (show ∀ W, Below w.heap.size w W → Calls Try.prog 42 #[.pointer (some ⟨p, 0, none⟩), .int .i64 (t : Int), .int .i64 i, .int .i64 f] W (LookP W G t i f) from fun W hb => rlook_any (h.below hb) hok t i f)
  have HV := Lib.hid h
  have HOK := Lib.hid hok
  obtain ⟨c0, c1⟩ := h.pcell
  have hpl := h.plt
  have h64 := h.h64
  have hes := rnamed_err hok t s
  have heu := rnamed_err hok t u
  obtain ⟨⟨⟨vk, vn⟩, x⟩, hx⟩ : ∃ q, q = G.rnamed t s := ⟨_, rfl⟩
  obtain ⟨⟨⟨tk, tn⟩, x2⟩, hx2⟩ : ∃ q, q = G.rnamed t u := ⟨_, rfl⟩
  rw [← hx] at HN hes
  rw [← hx2] at HM heu
  simp only at hes heu
  obtain ⟨⟨⟨lk, ln⟩, y⟩, hy⟩ : ∃ q, q = G.look t i f := ⟨_, rfl⟩
  have hyf : y = G.ferr t i f := by
    have : y = (G.look t i f).2 := by rw [← hy]
    rw [this]
    unfold Gd.look
    split
    · rename_i h0; exact h0.symm
    · rfl
  have hyv : y = 0 → (⟨lk, ln⟩ : V) = G.fval t i f := fun h0 => by
    have h1 : (⟨lk, ln⟩ : V) = (G.look t i f).1 := by rw [← hy]
    rw [h1]
    unfold Gd.look
    rw [if_pos (by rw [← hyf]; exact h0)]
  unfold LookP at HL
  rw [← hy] at HL
  have htt : (t : Int) < (G.ts.length : Int) := by omega
  clear h hok hx hx2 hy
  have hbad : (x = 1 ∨ x2 = 1) → G.swap t i f s u = (G, false, 1) := fun hb => by
    have hb2 : Gd.bad s ∨ Gd.bad u := by
      rcases hb with hb | hb
      · rcases hes with h1 | ⟨_, _, h1⟩
        · exact .inl h1.2
        · omega
      · rcases heu with h1 | ⟨_, _, h1⟩
        · exact .inr h1.2
        · omega
    have : G.serr2 t s u = 1 := by unfold Gd.serr2; rw [if_neg hnot, if_pos hb2]
    unfold Gd.swap; rw [this, if_pos (by decide)]
  have herr : x ≠ 1 → x2 ≠ 1 → G.serr2 t s u = (if x ≠ 0 then x else x2) ∧ G.src t s = (⟨vk, vn⟩, x) ∧ G.src t u = (⟨tk, tn⟩, x2) := fun h1 h2 => by
    obtain ⟨b1, e1, _⟩ := hes.resolve_left (fun h => h1 h.1)
    obtain ⟨b2, e2, _⟩ := heu.resolve_left (fun h => h2 h.1)
    unfold Gd.serr2
    rw [if_neg hnot, if_neg (fun h => h.elim b1 b2), ← e1, ← e2]
    exact ⟨rfl, rfl, rfl⟩
  clear hes heu
  by_cases hA : x = 1 ∨ x2 = 1
  · have HE := Lib.hid (hbad hA)
    clear hbad herr hyf hyv
    obtain ⟨sk, sn⟩ := s
    obtain ⟨uk, un⟩ := u
    by_cases hx1 : x = 1
    · subst hx1
      clear hA
      go_enter Try.func45, Try.ntmps45
      go_wp2_with fail
      refine (HIS.out _ (by simp [go_sem, c0, hpl])).mono ?_
      rintro e1 w1 ⟨rfl, rfl⟩
      go_wp2_with fail
      refine (HN.out _ (((Below.refl _ _).alloc (Nat.le_refl _) _).alloc (by simp) _)).mono ?_
      rintro e1 w1 ⟨rfl, hb1⟩
      have hbw1 : Below w.heap.size w w1 := (((Below.refl _ _).alloc (Nat.le_refl _) _).alloc (by simp) _).trans (hb1.mono (by simp; omega))
      have ul : w.heap.size + 1 < w1.heap.size := by have := hb1.size; simp at this; omega
      have u0 : w1.cell? ⟨w.heap.size + 1, 0, none⟩ = some (.int .i64 uk) := (hb1.cell (p := ⟨w.heap.size + 1, 0, none⟩) (by simp)).trans (by simp [go_sem])
      have u1 : w1.cell? ⟨w.heap.size + 1, 1, none⟩ = some (.int .i64 un) := (hb1.cell (p := ⟨w.heap.size + 1, 1, none⟩) (by simp)).trans (by simp [go_sem])
      have HBW := Lib.hid hbw1
      clear hb1 hbw1
      go_wp2_with fail
      refine (HM.out _ (HBW.out.alloc HBW.out.size _)).mono ?_
      rintro e1 w2 ⟨rfl, hb2⟩
      have hbw2 : Below w.heap.size w w2 := (HBW.out.alloc HBW.out.size _).trans (hb2.mono (by have := HBW.out.size; simp; omega))
      have HB2 := Lib.hid hbw2
      clear hb2 hbw2 ul u0 u1
      go_wp2_with fail
      go_ret2
      rw [HE.out]
      have hb9 := HB2.out.alloc HB2.out.size (.cells #[.int .i64 tk, .int .i64 tn] 46)
      exact ⟨rfl, HV.out.gr hb9, Only.of_below hb9⟩
    · have hx2 : x2 = 1 := hA.resolve_left hx1
      subst hx2
      have hx1' : (x == 1) = false := by simpa using hx1
      clear hA hx1
      go_enter Try.func45, Try.ntmps45
      go_wp2_with fail
      refine (HIS.out _ (by simp [go_sem, c0, hpl])).mono ?_
      rintro e1 w1 ⟨rfl, rfl⟩
      go_wp2_with fail
      refine (HN.out _ (((Below.refl _ _).alloc (Nat.le_refl _) _).alloc (by simp) _)).mono ?_
      rintro e1 w1 ⟨rfl, hb1⟩
      have hbw1 : Below w.heap.size w w1 := (((Below.refl _ _).alloc (Nat.le_refl _) _).alloc (by simp) _).trans (hb1.mono (by simp; omega))
      have ul : w.heap.size + 1 < w1.heap.size := by have := hb1.size; simp at this; omega
      have u0 : w1.cell? ⟨w.heap.size + 1, 0, none⟩ = some (.int .i64 uk) := (hb1.cell (p := ⟨w.heap.size + 1, 0, none⟩) (by simp)).trans (by simp [go_sem])
      have u1 : w1.cell? ⟨w.heap.size + 1, 1, none⟩ = some (.int .i64 un) := (hb1.cell (p := ⟨w.heap.size + 1, 1, none⟩) (by simp)).trans (by simp [go_sem])
      have HBW := Lib.hid hbw1
      clear hb1 hbw1
      go_wp2_with fail
      refine (HM.out _ (HBW.out.alloc HBW.out.size _)).mono ?_
      rintro e1 w2 ⟨rfl, hb2⟩
      have hbw2 : Below w.heap.size w w2 := (HBW.out.alloc HBW.out.size _).trans (hb2.mono (by have := HBW.out.size; simp; omega))
      have HB2 := Lib.hid hbw2
      clear hb2 hbw2 ul u0 u1
      go_wp2_with fail
      go_ret2
      rw [HE.out]
      have hb9 := HB2.out.alloc HB2.out.size (.cells #[.int .i64 tk, .int .i64 tn] 46)
      exact ⟨rfl, HV.out.gr hb9, Only.of_below hb9⟩
  · have hx1 : x ≠ 1 := fun h => hA (.inl h)
    have hx2 : x2 ≠ 1 := fun h => hA (.inr h)
    obtain ⟨hse, hs1, hs2⟩ := herr hx1 hx2
    have hx1' : (x == 1) = false := by simpa using hx1
    have hx2' : (x2 == 1) = false := by simpa using hx2
    clear hA hbad herr
    by_cases hx0 : x = 0
    · subst hx0
      rw [if_neg (by simp)] at hse
      by_cases hx20 : x2 = 0
      · subst hx20
        by_cases hy0 : y = 0
        · subst hy0
          have hyv' := hyv rfl
          obtain ⟨sk, sn⟩ := s
          obtain ⟨uk, un⟩ := u
          by_cases hlv : lk = vk ∧ ln = vn
          · obtain ⟨rfl, rfl⟩ := hlv
            have HE := Lib.hid (show G.swap t i f ⟨sk, sn⟩ ⟨uk, un⟩ = (G.fset t i f ⟨tk, tn⟩, true, 0) by
              unfold Gd.swap; rw [if_neg (by simp [hse]), if_neg (by simp [← hyf]), hs1, hs2, if_pos hyv'.symm])
            obtain ⟨hn, hg, hk, hob, hff, hl, hvv⟩ := ferr_yes HOK.out hyf.symm
            have h7 : (G.os.getD (G.at_ t i) []).length ≤ 7 := by rw [← hob]; exact (HOK.out.ob _).2
            have HG := Lib.hid (fun w => getR_at (G.rt t) i hg w)
            have HFS := Lib.hid (fset_eq G t i f ⟨tk, tn⟩)
            clear hyf hvv hob hn hg hyv hyv' hse hs1 hs2 hx1 hx2 hx1' hx2'
            obtain ⟨l, hl'⟩ : ∃ l, l = f.toNat := ⟨_, rfl⟩
            rw [← hl'] at hff hl HFS
            subst hff
            clear hl'
            obtain ⟨k, hk'⟩ : ∃ k, k = G.at_ t i := ⟨_, rfl⟩
            rw [← hk'] at hk hl HG HFS h7
            clear hk'
            go_enter Try.func45, Try.ntmps45
            go_wp2_with fail
            refine (HIS.out _ (by simp [go_sem, c0, hpl])).mono ?_
            rintro e1 w1 ⟨rfl, rfl⟩
            go_wp2_with fail
            refine (HN.out _ (((Below.refl _ _).alloc (Nat.le_refl _) _).alloc (by simp) _)).mono ?_
            rintro e1 w1 ⟨rfl, hb1⟩
            have hbw1 : Below w.heap.size w w1 := (((Below.refl _ _).alloc (Nat.le_refl _) _).alloc (by simp) _).trans (hb1.mono (by simp; omega))
            have ul : w.heap.size + 1 < w1.heap.size := by have := hb1.size; simp at this; omega
            have u0 : w1.cell? ⟨w.heap.size + 1, 0, none⟩ = some (.int .i64 uk) := (hb1.cell (p := ⟨w.heap.size + 1, 0, none⟩) (by simp)).trans (by simp [go_sem])
            have u1 : w1.cell? ⟨w.heap.size + 1, 1, none⟩ = some (.int .i64 un) := (hb1.cell (p := ⟨w.heap.size + 1, 1, none⟩) (by simp)).trans (by simp [go_sem])
            have HBW := Lib.hid hbw1
            clear hb1 hbw1
            go_wp2_with fail
            refine (HM.out _ (HBW.out.alloc HBW.out.size _)).mono ?_
            rintro e1 w2 ⟨rfl, hb2⟩
            have hbw2 : Below w.heap.size w w2 := (HBW.out.alloc HBW.out.size _).trans (hb2.mono (by have := HBW.out.size; simp; omega))
            have v0 : w2.cell? ⟨w1.heap.size, 0, none⟩ = some (.int .i64 lk) := (hb2.cell (p := ⟨w1.heap.size, 0, none⟩) (by simp)).trans (by simp [go_sem])
            have v1 : w2.cell? ⟨w1.heap.size, 1, none⟩ = some (.int .i64 ln) := (hb2.cell (p := ⟨w1.heap.size, 1, none⟩) (by simp)).trans (by simp [go_sem])
            have hvl : w1.heap.size < w2.heap.size := block_lt v0
            have HB2 := Lib.hid hbw2
            clear hb2 hbw2 ul u0 u1
            go_wp2_with fail
            refine (HL.out _ (HB2.out.alloc HB2.out.size _)).mono ?_
            rintro e1 w3 ⟨rfl, hb3⟩
            have hbw3 : Below w.heap.size w w3 := (HB2.out.alloc HB2.out.size _).trans (hb3.mono (by have := HB2.out.size; simp; omega))
            have v0' := (hb3.cell (p := ⟨w1.heap.size, 0, none⟩) (by simp; omega)).trans ((World.cell?_alloc_lt w2 (.cells #[.int .i64 tk, .int .i64 tn] 46) ⟨w1.heap.size, 0, none⟩ hvl).trans v0)
            have v1' := (hb3.cell (p := ⟨w1.heap.size, 1, none⟩) (by simp; omega)).trans ((World.cell?_alloc_lt w2 (.cells #[.int .i64 tk, .int .i64 tn] 46) ⟨w1.heap.size, 1, none⟩ hvl).trans v1)
            have t0 : w3.cell? ⟨w2.heap.size, 0, none⟩ = some (.int .i64 tk) := (hb3.cell (p := ⟨w2.heap.size, 0, none⟩) (by simp)).trans (by simp [go_sem])
            have t1 : w3.cell? ⟨w2.heap.size, 1, none⟩ = some (.int .i64 tn) := (hb3.cell (p := ⟨w2.heap.size, 1, none⟩) (by simp)).trans (by simp [go_sem])
            have htl3 : w2.heap.size < w3.heap.size := block_lt t0
            have hvl3 : w1.heap.size < w3.heap.size := block_lt v0'
            have hv2 := HV.out.below hbw3
            obtain ⟨A, c, hov, hrow⟩ := hv2.orow
            obtain ⟨c0', c1', r0, r1, r2, r3, r4, r5, r6, r7, r8, hpl', hbl'⟩ := hv2.fpre hov ht
            obtain ⟨b, rfl, hbb, hcc⟩ := hrow k hk
            unfold oval at hcc
            obtain ⟨f0, f1⟩ := hv2.fcell hk hl
            have hgl := hv2.glt hk
            have hfz : ∀ j, w3.frozen? ⟨gs.getD k 0, j, none⟩ = false := fun j => World.ownsRow.frozenAt (hv2.hos _ hk).2 j
            have hpg : p ≠ gs.getD k 0 := hv2.p_g hk
            have hbg : b ≠ gs.getD k 0 := fun e => by
              have := hv2.ov_g hk
              rw [hov, e] at this
              exact this rfl
            have HB3 := Lib.hid hbw3
            have HK := Lib.hid hk
            have HLL := Lib.hid hl
            obtain ⟨g, hg⟩ : ∃ g, g = gs.getD k 0 := ⟨_, rfl⟩
            rw [← hg] at hcc f0 f1 hgl hfz hpg hbg
            have HGE := Lib.hid hg
            obtain ⟨nl, hnl⟩ : ∃ n, n = (G.os.getD k []).length := ⟨_, rfl⟩
            rw [← hnl] at hcc hl h7
            obtain ⟨fk, hfk⟩ : ∃ n, n = ((G.os.getD k []).getD l default).k := ⟨_, rfl⟩
            obtain ⟨fn, hfn⟩ : ∃ n, n = ((G.os.getD k []).getD l default).n := ⟨_, rfl⟩
            rw [← hfk] at f0
            rw [← hfn] at f1
            obtain ⟨r, hr⟩ : ∃ r, r = G.rt t := ⟨_, rfl⟩
            rw [← hr] at r0 r1 r2 r3 r4 r5 r6 r7 r8 HG
            obtain ⟨M, hM⟩ : ∃ M, M = G.os.length := ⟨_, rfl⟩
            have hMx := HV.out.olen
            rw [← hM] at c1' hk hMx
            have hk1 : (k : Int) < (M : Int) := by omega
            have hl1 : (l : Int) < (nl : Int) := by omega
            have hw1 : IntKind.i64.wrap ((k : Int) + 1 - 1) = (k : Int) := by rw [show (k : Int) + 1 - 1 = (k : Int) by omega]; exact IntWalk.i64_in _ (by omega)
            have hw2 : IntKind.i64.wrap (k : Int) = (k : Int) := IntWalk.i64_in _ (by omega)
            clear hb3 hbw3 hv2 hov hrow hg hnl hfk hfn hr hM c0 c1 hpl HBW HB2 HIS HN HM HL HOK v0 v1 hvl
            go_wp2_with fail
            refine (HG.out _).mono ?_
            rintro e1 w4 ⟨rfl, hb4⟩
            obtain ⟨os, d, rfl⟩ := ext_of hb4
            clear hb4
            go_upto_region 18 with fail
            go_region
            all_goals (
              go_wp2_with fail
              go_ret2
              rw [HE.out, HFS.out]
              have hend := fun w0 (hb : Below w.heap.size w w0) W => writeT_end HV.out hb HK.out HLL.out ⟨tk, tn⟩ (W := W)
              rw [← HGE.out] at hend
              have h9 := hend _ HB3.out _ (below_ext ((Below.refl _ _).alloc (Nat.le_refl _) (.cells #[.int .i64 lk, .int .i64 ln] 46)) (by simp) os (d + 1))
              exact ⟨rfl, h9.1, h9.2⟩)
          · have HE := Lib.hid (show G.swap t i f ⟨sk, sn⟩ ⟨uk, un⟩ = (G, false, 0) by
              unfold Gd.swap; rw [if_neg (by simp [hse]), if_neg (by simp [← hyf]), hs1, if_neg (by rw [← hyv']; exact fun e => hlv ⟨(V.mk.inj e).1, (V.mk.inj e).2⟩)])
            clear hyf hyv hyv' hse hs1 hs2 hx1 hx2 hx1' hx2'
            by_cases hk : lk = vk
            · subst hk
              have hn : ln ≠ vn := fun h => hlv ⟨rfl, h⟩
              have hd : (ln == vn) = false := by simpa using hn
              clear hlv hn
              go_enter Try.func45, Try.ntmps45
              go_wp2_with fail
              refine (HIS.out _ (by simp [go_sem, c0, hpl])).mono ?_
              rintro e1 w1 ⟨rfl, rfl⟩
              go_wp2_with fail
              refine (HN.out _ (((Below.refl _ _).alloc (Nat.le_refl _) _).alloc (by simp) _)).mono ?_
              rintro e1 w1 ⟨rfl, hb1⟩
              have hbw1 : Below w.heap.size w w1 := (((Below.refl _ _).alloc (Nat.le_refl _) _).alloc (by simp) _).trans (hb1.mono (by simp; omega))
              have ul : w.heap.size + 1 < w1.heap.size := by have := hb1.size; simp at this; omega
              have u0 : w1.cell? ⟨w.heap.size + 1, 0, none⟩ = some (.int .i64 uk) := (hb1.cell (p := ⟨w.heap.size + 1, 0, none⟩) (by simp)).trans (by simp [go_sem])
              have u1 : w1.cell? ⟨w.heap.size + 1, 1, none⟩ = some (.int .i64 un) := (hb1.cell (p := ⟨w.heap.size + 1, 1, none⟩) (by simp)).trans (by simp [go_sem])
              have HBW := Lib.hid hbw1
              clear hb1 hbw1
              go_wp2_with fail
              refine (HM.out _ (HBW.out.alloc HBW.out.size _)).mono ?_
              rintro e1 w2 ⟨rfl, hb2⟩
              have hbw2 : Below w.heap.size w w2 := (HBW.out.alloc HBW.out.size _).trans (hb2.mono (by have := HBW.out.size; simp; omega))
              have v0 : w2.cell? ⟨w1.heap.size, 0, none⟩ = some (.int .i64 lk) := (hb2.cell (p := ⟨w1.heap.size, 0, none⟩) (by simp)).trans (by simp [go_sem])
              have v1 : w2.cell? ⟨w1.heap.size, 1, none⟩ = some (.int .i64 vn) := (hb2.cell (p := ⟨w1.heap.size, 1, none⟩) (by simp)).trans (by simp [go_sem])
              have hvl : w1.heap.size < w2.heap.size := block_lt v0
              have HB2 := Lib.hid hbw2
              clear hb2 hbw2 ul u0 u1
              go_wp2_with fail
              refine (HL.out _ (HB2.out.alloc HB2.out.size _)).mono ?_
              rintro e1 w3 ⟨rfl, hb3⟩
              have hbw3 : Below w.heap.size w w3 := (HB2.out.alloc HB2.out.size _).trans (hb3.mono (by have := HB2.out.size; simp; omega))
              have v0' := (hb3.cell (p := ⟨w1.heap.size, 0, none⟩) (by simp; omega)).trans ((World.cell?_alloc_lt w2 (.cells #[.int .i64 tk, .int .i64 tn] 46) ⟨w1.heap.size, 0, none⟩ hvl).trans v0)
              have v1' := (hb3.cell (p := ⟨w1.heap.size, 1, none⟩) (by simp; omega)).trans ((World.cell?_alloc_lt w2 (.cells #[.int .i64 tk, .int .i64 tn] 46) ⟨w1.heap.size, 1, none⟩ hvl).trans v1)
              have t0 : w3.cell? ⟨w2.heap.size, 0, none⟩ = some (.int .i64 tk) := (hb3.cell (p := ⟨w2.heap.size, 0, none⟩) (by simp)).trans (by simp [go_sem])
              have t1 : w3.cell? ⟨w2.heap.size, 1, none⟩ = some (.int .i64 tn) := (hb3.cell (p := ⟨w2.heap.size, 1, none⟩) (by simp)).trans (by simp [go_sem])
              have htl3 : w2.heap.size < w3.heap.size := block_lt t0
              have hvl3 : w1.heap.size < w3.heap.size := block_lt v0'
              have HB3 := Lib.hid hbw3
              clear hb3 hbw3 v0 v1
              go_wp2_with fail
              go_ret2
              rw [HE.out]
              have hb9 := HB3.out.alloc HB3.out.size (.cells #[.int .i64 lk, .int .i64 ln] 46)
              exact ⟨rfl, HV.out.gr hb9, Only.of_below hb9⟩
            · have hd : (lk == vk) = false := by simpa using hk
              clear hlv hk
              go_enter Try.func45, Try.ntmps45
              go_wp2_with fail
              refine (HIS.out _ (by simp [go_sem, c0, hpl])).mono ?_
              rintro e1 w1 ⟨rfl, rfl⟩
              go_wp2_with fail
              refine (HN.out _ (((Below.refl _ _).alloc (Nat.le_refl _) _).alloc (by simp) _)).mono ?_
              rintro e1 w1 ⟨rfl, hb1⟩
              have hbw1 : Below w.heap.size w w1 := (((Below.refl _ _).alloc (Nat.le_refl _) _).alloc (by simp) _).trans (hb1.mono (by simp; omega))
              have ul : w.heap.size + 1 < w1.heap.size := by have := hb1.size; simp at this; omega
              have u0 : w1.cell? ⟨w.heap.size + 1, 0, none⟩ = some (.int .i64 uk) := (hb1.cell (p := ⟨w.heap.size + 1, 0, none⟩) (by simp)).trans (by simp [go_sem])
              have u1 : w1.cell? ⟨w.heap.size + 1, 1, none⟩ = some (.int .i64 un) := (hb1.cell (p := ⟨w.heap.size + 1, 1, none⟩) (by simp)).trans (by simp [go_sem])
              have HBW := Lib.hid hbw1
              clear hb1 hbw1
              go_wp2_with fail
              refine (HM.out _ (HBW.out.alloc HBW.out.size _)).mono ?_
              rintro e1 w2 ⟨rfl, hb2⟩
              have hbw2 : Below w.heap.size w w2 := (HBW.out.alloc HBW.out.size _).trans (hb2.mono (by have := HBW.out.size; simp; omega))
              have v0 : w2.cell? ⟨w1.heap.size, 0, none⟩ = some (.int .i64 vk) := (hb2.cell (p := ⟨w1.heap.size, 0, none⟩) (by simp)).trans (by simp [go_sem])
              have v1 : w2.cell? ⟨w1.heap.size, 1, none⟩ = some (.int .i64 vn) := (hb2.cell (p := ⟨w1.heap.size, 1, none⟩) (by simp)).trans (by simp [go_sem])
              have hvl : w1.heap.size < w2.heap.size := block_lt v0
              have HB2 := Lib.hid hbw2
              clear hb2 hbw2 ul u0 u1
              go_wp2_with fail
              refine (HL.out _ (HB2.out.alloc HB2.out.size _)).mono ?_
              rintro e1 w3 ⟨rfl, hb3⟩
              have hbw3 : Below w.heap.size w w3 := (HB2.out.alloc HB2.out.size _).trans (hb3.mono (by have := HB2.out.size; simp; omega))
              have v0' := (hb3.cell (p := ⟨w1.heap.size, 0, none⟩) (by simp; omega)).trans ((World.cell?_alloc_lt w2 (.cells #[.int .i64 tk, .int .i64 tn] 46) ⟨w1.heap.size, 0, none⟩ hvl).trans v0)
              have v1' := (hb3.cell (p := ⟨w1.heap.size, 1, none⟩) (by simp; omega)).trans ((World.cell?_alloc_lt w2 (.cells #[.int .i64 tk, .int .i64 tn] 46) ⟨w1.heap.size, 1, none⟩ hvl).trans v1)
              have t0 : w3.cell? ⟨w2.heap.size, 0, none⟩ = some (.int .i64 tk) := (hb3.cell (p := ⟨w2.heap.size, 0, none⟩) (by simp)).trans (by simp [go_sem])
              have t1 : w3.cell? ⟨w2.heap.size, 1, none⟩ = some (.int .i64 tn) := (hb3.cell (p := ⟨w2.heap.size, 1, none⟩) (by simp)).trans (by simp [go_sem])
              have htl3 : w2.heap.size < w3.heap.size := block_lt t0
              have hvl3 : w1.heap.size < w3.heap.size := block_lt v0'
              have HB3 := Lib.hid hbw3
              clear hb3 hbw3 v0 v1
              go_wp2_with fail
              go_ret2
              rw [HE.out]
              have hb9 := HB3.out.alloc HB3.out.size (.cells #[.int .i64 lk, .int .i64 ln] 46)
              exact ⟨rfl, HV.out.gr hb9, Only.of_below hb9⟩
        · have HE := Lib.hid (show G.swap t i f s u = (G, false, y) by
            unfold Gd.swap; rw [if_neg (by simp [hse]), if_pos (by rw [← hyf]; exact hy0), ← hyf])
          clear hyf hyv hse hs1 hs2 hx1 hx2 hx1' hx2'
          obtain ⟨sk, sn⟩ := s
          obtain ⟨uk, un⟩ := u
          go_enter Try.func45, Try.ntmps45
          go_wp2_with fail
          refine (HIS.out _ (by simp [go_sem, c0, hpl])).mono ?_
          rintro e1 w1 ⟨rfl, rfl⟩
          go_wp2_with fail
          refine (HN.out _ (((Below.refl _ _).alloc (Nat.le_refl _) _).alloc (by simp) _)).mono ?_
          rintro e1 w1 ⟨rfl, hb1⟩
          have hbw1 : Below w.heap.size w w1 := (((Below.refl _ _).alloc (Nat.le_refl _) _).alloc (by simp) _).trans (hb1.mono (by simp; omega))
          have ul : w.heap.size + 1 < w1.heap.size := by have := hb1.size; simp at this; omega
          have u0 : w1.cell? ⟨w.heap.size + 1, 0, none⟩ = some (.int .i64 uk) := (hb1.cell (p := ⟨w.heap.size + 1, 0, none⟩) (by simp)).trans (by simp [go_sem])
          have u1 : w1.cell? ⟨w.heap.size + 1, 1, none⟩ = some (.int .i64 un) := (hb1.cell (p := ⟨w.heap.size + 1, 1, none⟩) (by simp)).trans (by simp [go_sem])
          have HBW := Lib.hid hbw1
          clear hb1 hbw1
          go_wp2_with fail
          refine (HM.out _ (HBW.out.alloc HBW.out.size _)).mono ?_
          rintro e1 w2 ⟨rfl, hb2⟩
          have hbw2 : Below w.heap.size w w2 := (HBW.out.alloc HBW.out.size _).trans (hb2.mono (by have := HBW.out.size; simp; omega))
          have HB2 := Lib.hid hbw2
          clear hb2 hbw2 ul u0 u1
          go_wp2_with fail
          refine (HL.out _ (HB2.out.alloc HB2.out.size _)).mono ?_
          rintro e1 w3 ⟨rfl, hb3⟩
          have hbw3 : Below w.heap.size w w3 := (HB2.out.alloc HB2.out.size _).trans (hb3.mono (by have := HB2.out.size; simp; omega))
          have HB3 := Lib.hid hbw3
          clear hb3 hbw3
          go_wp2_with fail
          go_ret2
          rw [HE.out]
          have hb9 := HB3.out.alloc HB3.out.size (.cells #[.int .i64 lk, .int .i64 ln] 46)
          exact ⟨rfl, HV.out.gr hb9, Only.of_below hb9⟩
      · have HE := Lib.hid (show G.swap t i f s u = (G, false, x2) by
          unfold Gd.swap; rw [hse, if_pos hx20])
        clear hyf hyv hse hs1 hs2 hx1 hx2 hx1'
        obtain ⟨sk, sn⟩ := s
        obtain ⟨uk, un⟩ := u
        go_enter Try.func45, Try.ntmps45
        go_wp2_with fail
        refine (HIS.out _ (by simp [go_sem, c0, hpl])).mono ?_
        rintro e1 w1 ⟨rfl, rfl⟩
        go_wp2_with fail
        refine (HN.out _ (((Below.refl _ _).alloc (Nat.le_refl _) _).alloc (by simp) _)).mono ?_
        rintro e1 w1 ⟨rfl, hb1⟩
        have hbw1 : Below w.heap.size w w1 := (((Below.refl _ _).alloc (Nat.le_refl _) _).alloc (by simp) _).trans (hb1.mono (by simp; omega))
        have ul : w.heap.size + 1 < w1.heap.size := by have := hb1.size; simp at this; omega
        have u0 : w1.cell? ⟨w.heap.size + 1, 0, none⟩ = some (.int .i64 uk) := (hb1.cell (p := ⟨w.heap.size + 1, 0, none⟩) (by simp)).trans (by simp [go_sem])
        have u1 : w1.cell? ⟨w.heap.size + 1, 1, none⟩ = some (.int .i64 un) := (hb1.cell (p := ⟨w.heap.size + 1, 1, none⟩) (by simp)).trans (by simp [go_sem])
        have HBW := Lib.hid hbw1
        clear hb1 hbw1
        go_wp2_with fail
        refine (HM.out _ (HBW.out.alloc HBW.out.size _)).mono ?_
        rintro e1 w2 ⟨rfl, hb2⟩
        have hbw2 : Below w.heap.size w w2 := (HBW.out.alloc HBW.out.size _).trans (hb2.mono (by have := HBW.out.size; simp; omega))
        have HB2 := Lib.hid hbw2
        clear hb2 hbw2 ul u0 u1
        go_wp2_with fail
        go_ret2
        rw [HE.out]
        have hb9 := HB2.out.alloc HB2.out.size (.cells #[.int .i64 tk, .int .i64 tn] 46)
        exact ⟨rfl, HV.out.gr hb9, Only.of_below hb9⟩
    · rw [if_pos hx0] at hse
      have HE := Lib.hid (show G.swap t i f s u = (G, false, x) by
        unfold Gd.swap; rw [hse, if_pos hx0])
      clear hyf hyv hse hs1 hs2 hx1 hx2
      obtain ⟨sk, sn⟩ := s
      obtain ⟨uk, un⟩ := u
      go_enter Try.func45, Try.ntmps45
      go_wp2_with fail
      refine (HIS.out _ (by simp [go_sem, c0, hpl])).mono ?_
      rintro e1 w1 ⟨rfl, rfl⟩
      go_wp2_with fail
      refine (HN.out _ (((Below.refl _ _).alloc (Nat.le_refl _) _).alloc (by simp) _)).mono ?_
      rintro e1 w1 ⟨rfl, hb1⟩
      have hbw1 : Below w.heap.size w w1 := (((Below.refl _ _).alloc (Nat.le_refl _) _).alloc (by simp) _).trans (hb1.mono (by simp; omega))
      have ul : w.heap.size + 1 < w1.heap.size := by have := hb1.size; simp at this; omega
      have u0 : w1.cell? ⟨w.heap.size + 1, 0, none⟩ = some (.int .i64 uk) := (hb1.cell (p := ⟨w.heap.size + 1, 0, none⟩) (by simp)).trans (by simp [go_sem])
      have u1 : w1.cell? ⟨w.heap.size + 1, 1, none⟩ = some (.int .i64 un) := (hb1.cell (p := ⟨w.heap.size + 1, 1, none⟩) (by simp)).trans (by simp [go_sem])
      have HBW := Lib.hid hbw1
      clear hb1 hbw1
      go_wp2_with fail
      refine (HM.out _ (HBW.out.alloc HBW.out.size _)).mono ?_
      rintro e1 w2 ⟨rfl, hb2⟩
      have hbw2 : Below w.heap.size w w2 := (HBW.out.alloc HBW.out.size _).trans (hb2.mono (by have := HBW.out.size; simp; omega))
      have HB2 := Lib.hid hbw2
      clear hb2 hbw2 ul u0 u1
      go_wp2_with fail
      go_ret2
      rw [HE.out]
      have hb9 := HB2.out.alloc HB2.out.size (.cells #[.int .i64 tk, .int .i64 tn] 46)
      exact ⟨rfl, HV.out.gr hb9, Only.of_below hb9⟩

theorem rswap_any (h : Vw 91 F w p G bt ct ov gs cs) (hok : G.Ok) (t i f : Int) (s u : V) : Calls Try.prog 45 #[.pointer (some ⟨p, 0, none⟩), .int .i64 t, .int .i64 i, .int .i64 f, vv s, vv u] w (SwapT 91 F w p (G.swap t i f s u)) := by
  by_cases hn : G.not t
  · have e : G.swap t i f s u = (G, false, 1) := by
      have : G.serr2 t s u = 1 := by unfold Gd.serr2; rw [if_pos hn]
      unfold Gd.swap; rw [this, if_pos (by decide)]
    rw [e]
    exact rswap_not h t i f s u hn
  · have hn' := hn
    unfold Gd.not at hn'
    obtain ⟨t', rfl⟩ : ∃ t' : Nat, t = t' := ⟨t.toNat, by omega⟩
    exact rswap_yes h hok t' (by omega) i f s u
end

end Go.Proofs.Ytlogojiphjpknaa
