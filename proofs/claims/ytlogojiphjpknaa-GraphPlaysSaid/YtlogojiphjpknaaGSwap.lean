/- (*graph.Graph).Swap: a field written, if it has what is expected. No condition. -/
import Derived.Test.YtlogojiphjpknaaGWrite
namespace Go.Proofs.Ytlogojiphjpknaa
open Go.RowKit
set_option linter.unusedVariables false

def SwapP (F : Nat → Prop) (w : World) (p : Nat) (X : Gd × Bool × Int) (e : Ending) (w' : World) : Prop :=
  e = .returned (.tuple #[.bool X.2.1, .int .i64 X.2.2]) ∧ Gr 79 (Grow F w w') w' p X.1 ∧ Only F w w'

section
variable {F : Nat → Prop} {w : World} {p : Nat} {G : Gd} {bt ct : Nat} {ov : Value} {gs cs : List Nat}

set_option maxRecDepth 100000 in
set_option maxHeartbeats 4000000 in
theorem gswap_any (h : Vw 79 F w p G bt ct ov gs cs) (hok : G.Ok) (t i f : Int) (s u : V) : Calls Try.prog 32 #[.pointer (some ⟨p, 0, none⟩), .int .i64 t, .int .i64 i, .int .i64 f, vv s, vv u] w (SwapP F w p (G.swap t i f s u)) := by
  have HV := Lib.hid h
  have HN := Lib.hid (show ∀ W A c, Below w.heap.size w W → Pairs W A [s, u] → Calls Try.prog 55 #[.pointer (some ⟨p, 0, none⟩), .int .i64 t, .slice A 2 c] W (NamedP W (G.named t [s, u])) from fun W A c hb hA => gnamed_any (h.below hb) t A 2 c [s, u] rfl hA (by omega))
  rw [Gd.named_two] at HN
  have HOK := Lib.hid hok
  clear h hok
  obtain ⟨sk, sn⟩ := s
  obtain ⟨uk, un⟩ := u
  by_cases hs : G.serr2 t ⟨sk, sn⟩ ⟨uk, un⟩ = 0
  · rw [if_neg (by simp [hs])] at HN
    obtain ⟨v, hv⟩ : ∃ v, v = (G.src t ⟨sk, sn⟩).1 := ⟨_, rfl⟩
    obtain ⟨y, hy⟩ : ∃ y, y = (G.src t ⟨uk, un⟩).1 := ⟨_, rfl⟩
    rw [← hv, ← hy] at HN
    by_cases hf : G.ferr t i f = 0
    · obtain ⟨hn, hg, hk, hob, hff, hl, hvv⟩ := ferr_yes HOK.out hf
      have HFY := Lib.hid (show ∀ W, Below w.heap.size w W → Calls Try.prog 56 #[.pointer (some ⟨p, 0, none⟩), .int .i64 t, .int .i64 i, .int .i64 f] W (FieldYes W (gs.getD (G.at_ t i) 0) f.toNat) from fun W hb => field_yes (HV.out.below hb) HOK.out t i f hf)
      have HK := Lib.hid hk
      have HL := Lib.hid hl
      have HFC := Lib.hid (show ∀ W, Below w.heap.size w W → gs.getD (G.at_ t i) 0 < W.heap.size ∧ W.cell? ⟨gs.getD (G.at_ t i) 0, f.toNat * 2, none⟩ = some (.int .i64 (G.fval t i f).k) ∧ W.cell? ⟨gs.getD (G.at_ t i) 0, f.toNat * 2 + 1, none⟩ = some (.int .i64 (G.fval t i f).n) ∧ ∀ j, W.frozen? ⟨gs.getD (G.at_ t i) 0, j, none⟩ = false from fun W hb => by
        have hv := HV.out.below hb
        rw [hvv]
        exact ⟨hv.glt hk, (hv.fcell hk hl).1, (hv.fcell hk hl).2, fun j => World.ownsRow.frozenAt (hv.hos _ hk).2 j⟩)
      have HFS := Lib.hid (fset_eq G t i f y)
      obtain ⟨z, hz⟩ : ∃ z, z = G.fval t i f := ⟨_, rfl⟩
      rw [← hz] at HFC
      obtain ⟨g, hg'⟩ : ∃ g, g = gs.getD (G.at_ t i) 0 := ⟨_, rfl⟩
      obtain ⟨l, hl'⟩ : ∃ l, l = f.toNat := ⟨_, rfl⟩
      rw [← hg', ← hl'] at HFY HFC
      have HGG := Lib.hid hg'
      have HLL := Lib.hid hl'
      have HSW := Lib.hid (show G.swap t i f ⟨sk, sn⟩ ⟨uk, un⟩ = if z = v then (G.fset t i f y, true, 0) else (G, false, 0) by unfold Gd.swap; rw [if_neg (by simp [hs]), if_neg (by simp [hf]), hv, hy, hz])
      clear hn hg hk hob hff hl hvv hg' hl' hs hf hv hy hz
      obtain ⟨vk, vn⟩ := v
      obtain ⟨yk, yn⟩ := y
      obtain ⟨zk, zn⟩ := z
      go_enter Try.func32, Try.ntmps32
      go_wp2_with fail
      refine (HN.out _ _ _ ((((Below.refl _ _).alloc (Nat.le_refl _) _).alloc (by simp) _).alloc (by simp; omega) _) (.inr ⟨w.heap.size + 2, rfl, by simp, fun j hj => ?_⟩)).mono ?_
      · rcases (show j = 0 ∨ j = 1 by simp at hj; omega) with rfl | rfl <;> simp [go_sem]
      rintro e1 w1 ⟨A, c, rfl, hp, hb1⟩
      rcases hp with h0 | ⟨g1, rfl, hg1, hc1⟩
      · cases h0
      obtain ⟨d0, d1⟩ := hc1 0 (by simp)
      obtain ⟨d2, d3⟩ := hc1 1 (by simp)
      simp only [List.getD_cons_zero, List.getD_cons_succ, Nat.zero_mul, Nat.one_mul, Nat.zero_add] at d0 d1 d2 d3
      have hbw : Below w.heap.size w w1 := ((((Below.refl _ _).alloc (Nat.le_refl _) _).alloc (by simp) _).alloc (by simp; omega) _).trans (hb1.mono (by simp; omega))
      have HBW := Lib.hid hbw
      clear hc1 hb1 hbw
      go_wp2_with fail
      refine (HFY.out _ HBW.out).mono ?_
      rintro e2 w2 ⟨rfl, hb2⟩
      obtain ⟨os, d, rfl⟩ := ext_of hb2
      obtain ⟨hgl, hx0, hx1, hfz⟩ := HFC.out _ HBW.out
      clear hb2
      by_cases hkk : zk = vk
      · subst hkk
        by_cases hnn : zn = vn
        · subst hnn
          have HE := Lib.hid (HSW.out.trans (if_pos rfl))
          go_wp2_with fail
          go_quiet (fail)
          go_wp2_with fail
          go_ret2
          rw [HE.out, HFS.out]
          have e1 := HGG.out
          have e2 := HLL.out
          subst e1 e2
          have hend := fun nq => write_end HV.out (below_dn (HBW.out.trans ((below_of_ext os d).mono HBW.out.size)) nq) HK.out HL.out ⟨yk, yn⟩ (Below.refl _ _)
          exact ⟨rfl, (hend _).1, (hend _).2⟩
        · have hd : (zn == vn) = false := by simpa using hnn
          have HE := Lib.hid (HSW.out.trans (if_neg (fun e => hnn (V.mk.inj e).2)))
          clear hnn
          go_wp2_with fail
          go_quiet (fail)
          go_wp2_with fail
          go_ret2
          rw [HE.out]
          have hb := below_dn (HBW.out.trans ((below_of_ext os d).mono HBW.out.size))
          exact ⟨rfl, HV.out.gr (hb _), Only.of_below (hb _)⟩
      · have hd : (zk == vk) = false := by simpa using hkk
        have HE := Lib.hid (HSW.out.trans (if_neg (fun e => hkk (V.mk.inj e).1)))
        clear hkk
        go_wp2_with fail
        go_quiet (fail)
        go_wp2_with fail
        go_ret2
        rw [HE.out]
        have hb := below_dn (HBW.out.trans ((below_of_ext os d).mono HBW.out.size))
        exact ⟨rfl, HV.out.gr (hb _), Only.of_below (hb _)⟩
    · have HE := Lib.hid (show G.swap t i f ⟨sk, sn⟩ ⟨uk, un⟩ = (G, false, G.ferr t i f) by unfold Gd.swap; rw [if_neg (by simp [hs]), if_pos hf])
      have HFN := Lib.hid (show ∀ W, Below w.heap.size w W → Calls Try.prog 56 #[.pointer (some ⟨p, 0, none⟩), .int .i64 t, .int .i64 i, .int .i64 f] W (FieldNo W (G.ferr t i f)) from fun W hb => field_no (HV.out.below hb) HOK.out t i f hf)
      obtain ⟨x, hx⟩ : ∃ x, x = G.ferr t i f := ⟨_, rfl⟩
      rw [← hx] at HFN HE hf
      have hxd : (x == 0) = false := by simpa using hf
      clear hs hx hv hy
      go_enter Try.func32, Try.ntmps32
      go_wp2_with fail
      refine (HN.out _ _ _ ((((Below.refl _ _).alloc (Nat.le_refl _) _).alloc (by simp) _).alloc (by simp; omega) _) (.inr ⟨w.heap.size + 2, rfl, by simp, fun j hj => ?_⟩)).mono ?_
      · rcases (show j = 0 ∨ j = 1 by simp at hj; omega) with rfl | rfl <;> simp [go_sem]
      rintro e1 w1 ⟨A, c, rfl, hp, hb1⟩
      have hbw : Below w.heap.size w w1 := ((((Below.refl _ _).alloc (Nat.le_refl _) _).alloc (by simp) _).alloc (by simp; omega) _).trans (hb1.mono (by simp; omega))
      have HBW := Lib.hid hbw
      clear hp hb1 hbw
      go_wp2_with fail
      refine (HFN.out _ HBW.out).mono ?_
      rintro e2 w2 ⟨rfl, hb2⟩
      have HB2 := Lib.hid hb2
      clear hb2
      go_wp2_with fail
      go_quiet (fail)
      go_wp2_with fail
      go_ret2
      rw [HE.out]
      have hb := below_dn (HBW.out.trans (HB2.out.mono HBW.out.size)) 
      exact ⟨rfl, HV.out.gr (hb _), Only.of_below (hb _)⟩
  · rw [if_pos hs] at HN
    have HE := Lib.hid (show G.swap t i f ⟨sk, sn⟩ ⟨uk, un⟩ = (G, false, G.serr2 t ⟨sk, sn⟩ ⟨uk, un⟩) by unfold Gd.swap; rw [if_pos hs])
    obtain ⟨x, hx⟩ : ∃ x, x = G.serr2 t ⟨sk, sn⟩ ⟨uk, un⟩ := ⟨_, rfl⟩
    rw [← hx] at HN HE hs
    clear hx
    go_enter Try.func32, Try.ntmps32
    go_wp2_with fail
    refine (HN.out _ _ _ ((((Below.refl _ _).alloc (Nat.le_refl _) _).alloc (by simp) _).alloc (by simp; omega) _) (.inr ⟨w.heap.size + 2, rfl, by simp, fun j hj => ?_⟩)).mono ?_
    · rcases (show j = 0 ∨ j = 1 by simp at hj; omega) with rfl | rfl <;> simp [go_sem]
    rintro e1 w1 ⟨A, c, rfl, hp, hb1⟩
    have hbw : Below w.heap.size w w1 := ((((Below.refl _ _).alloc (Nat.le_refl _) _).alloc (by simp) _).alloc (by simp; omega) _).trans (hb1.mono (by simp; omega))
    have HBW := Lib.hid hbw
    clear hp hb1 hbw
    go_wp2_with fail
    go_ret2
    rw [HE.out]
    exact ⟨rfl, HV.out.gr HBW.out, Only.of_below HBW.out⟩
end

end Go.Proofs.Ytlogojiphjpknaa
