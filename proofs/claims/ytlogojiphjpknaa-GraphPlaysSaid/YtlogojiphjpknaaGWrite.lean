/- (*graph.Graph).Write and Swap: a field written. No condition. -/
import Derived.Test.YtlogojiphjpknaaGNamed
import Derived.Outline
namespace Go.Proofs.Ytlogojiphjpknaa
open Go.RowKit
set_option linter.unusedVariables false

section
variable {F : Nat → Prop} {w : World} {p : Nat} {G : Gd} {bt ct : Nat} {ov : Value} {gs cs : List Nat}

theorem getD_set {α : Type} {l : List α} {k j : Nat} {x d : α} (hk : k < l.length) : (l.set k x).getD j d = if j = k then x else l.getD j d := by
  rw [List.getD_eq_getElem?_getD, List.getD_eq_getElem?_getD, List.getElem?_set]
  by_cases h : k = j
  · subst h; simp [hk]
  · simp [h, Ne.symm h]

theorem Vw.put_field {T : TypeId} (h : Vw T F w p G bt ct ov gs cs) {k f : Nat} (hk : k < G.os.length) (hf : f < (G.os.getD k []).length) (v : V) :
    Vw T F ((w.setCell ⟨gs.getD k 0, f * 2, none⟩ (.int .i64 v.k)).setCell ⟨gs.getD k 0, f * 2 + 1, none⟩ (.int .i64 v.n)) p ⟨G.ts, G.os.set k ((G.os.getD k []).set f v)⟩ bt ct ov gs cs := by
  have ho : ∀ b, b ≠ gs.getD k 0 → ((w.setCell ⟨gs.getD k 0, f * 2, none⟩ (.int .i64 v.k)).setCell ⟨gs.getD k 0, f * 2 + 1, none⟩ (.int .i64 v.n)).heap[b]? = w.heap[b]? := fun b hb =>
    (Below.heap_setCell _ ⟨gs.getD k 0, f * 2 + 1, none⟩ _ b hb).trans (Below.heap_setCell w ⟨gs.getD k 0, f * 2, none⟩ _ b hb)
  have hgd : ∀ j, (G.os.set k ((G.os.getD k []).set f v)).getD j [] = if j = k then (G.os.getD k []).set f v else G.os.getD j [] := fun j => getD_set hk
  have hov : ∀ j, oval gs cs (G.os.set k ((G.os.getD k []).set f v)) j = oval gs cs G.os j := by
    intro j
    unfold oval
    rw [hgd]
    by_cases hj : j = k
    · rw [if_pos hj, List.length_set, hj]
    · rw [if_neg hj]
  have hovs : ovals gs cs (G.os.set k ((G.os.getD k []).set f v)) = ovals gs cs G.os := by
    unfold ovals
    rw [List.length_set]
    exact List.map_congr_left fun j _ => hov j
  refine ⟨h.hT, (ho p (h.p_g hk)).trans h.hp, h.fp, h.fbt, own_same h.hts (fun j hj => ?_), ?_, h.fov, by simpa using h.hgl, by simpa using h.hcl, h.hnd, fun j hj => ?_, h.h64⟩
  · injection hj with hj
    subst hj
    exact ho _ (h.bt_g hk)
  · simp only [List.length_set]
    rw [hovs]
    exact own_same h.hov (fun j hj => ho j (fun e => h.ov_g hk (e ▸ hj)))
  · simp only [List.length_set] at hj
    refine ⟨(h.hos j hj).1, ?_⟩
    simp only
    rw [hov j, hgd j]
    by_cases hjk : j = k
    · subst hjk
      rw [if_pos rfl, List.length_set, vflat_set _ _ _ hf]
      exact (World.ownsRow.stored (World.ownsRow.stored (h.hos j hj).2 _ _).1 _ _).1
    · rw [if_neg hjk]
      refine own_same (h.hos j hj).2 (fun b hb => ho b (fun e => ?_))
      injection hb with hb
      exact h.g_g hj hk hjk (hb.trans e)

theorem fset_eq (G : Gd) (t i f : Int) (v : V) : G.fset t i f v = ⟨G.ts, G.os.set (G.at_ t i) ((G.os.getD (G.at_ t i) []).set f.toNat v)⟩ := rfl

theorem gnamed_any (h : Vw 79 F w p G bt ct ov gs cs) (t : Int) (A : Option Addr) (n c : Nat) (ss : List V) (hn : ss.length = n) (hA : Pairs w A ss) (hs : n ≤ 1000) : Calls Try.prog 55 #[.pointer (some ⟨p, 0, none⟩), .int .i64 t, .slice A n c] w (NamedP w (G.named t ss)) := by
  subst hn
  by_cases hn : G.not t
  · exact gnamed_not h t A _ c ss hn
  · have hn' := hn
    unfold Gd.not at hn'
    obtain ⟨t', rfl⟩ : ∃ t' : Nat, t = t' := ⟨t.toNat, by omega⟩
    exact gnamed_walk h t' (by omega) A c ss hA hs

theorem only_put {k f : Nat} {v : V} (hk : F k) : Only F w ((w.setCell ⟨k, f * 2, none⟩ (.int .i64 v.k)).setCell ⟨k, f * 2 + 1, none⟩ (.int .i64 v.n)) := ((Only.refl F w).setCell (.inl hk) _ _).setCell (.inl hk) _ _

theorem write_end (h : Vw 79 F w p G bt ct ov gs cs) {w1 W : World} (hb : Below w.heap.size w w1) {k f : Nat} (hk : k < G.os.length) (hf : f < (G.os.getD k []).length) (v : V)
    (hW : Below ((w1.setCell ⟨gs.getD k 0, f * 2, none⟩ (.int .i64 v.k)).setCell ⟨gs.getD k 0, f * 2 + 1, none⟩ (.int .i64 v.n)).heap.size ((w1.setCell ⟨gs.getD k 0, f * 2, none⟩ (.int .i64 v.k)).setCell ⟨gs.getD k 0, f * 2 + 1, none⟩ (.int .i64 v.n)) W) :
    Gr 79 (Grow F w W) W p ⟨G.ts, G.os.set k ((G.os.getD k []).set f v)⟩ ∧ Only F w W := by
  have h1 := (h.below hb).put_field hk hf v
  refine ⟨⟨_, _, _, _, _, (h1.below hW).mono fun _ hx => .inl hx⟩, ?_⟩
  have hFg := (h.hos k hk).1
  refine Only.below (Only.setCell (Only.setCell (Only.of_below hb) (.inl hFg) _ _) (.inl hFg) _ _) hW ?_
  have := hb.size
  simpa [World.setCell] using this

set_option maxRecDepth 100000 in
set_option maxHeartbeats 2000000 in
theorem gwrite_any (h : Vw 79 F w p G bt ct ov gs cs) (hok : G.Ok) (t i f : Int) (s : V) : Calls Try.prog 31 #[.pointer (some ⟨p, 0, none⟩), .int .i64 t, .int .i64 i, .int .i64 f, vv s] w (TurnP F w p (G.write t i f s)) := by
  have HV := Lib.hid h
  have HN := Lib.hid (show ∀ W A c, Below w.heap.size w W → Pairs W A [s] → Calls Try.prog 55 #[.pointer (some ⟨p, 0, none⟩), .int .i64 t, .slice A 1 c] W (NamedP W (G.named t [s])) from fun W A c hb hA => gnamed_any (h.below hb) t A 1 c [s] rfl hA (by omega))
  rw [Gd.named_one] at HN
  have HOK := Lib.hid hok
  clear h hok
  obtain ⟨sk, sn⟩ := s
  by_cases hs : G.serr t ⟨sk, sn⟩ = 0
  · rw [if_neg (by simp [hs])] at HN
    obtain ⟨v, hv⟩ : ∃ v, v = (G.src t ⟨sk, sn⟩).1 := ⟨_, rfl⟩
    rw [← hv] at HN
    by_cases hf : G.ferr t i f = 0
    · have HE := Lib.hid (show G.write t i f ⟨sk, sn⟩ = (G.fset t i f v, 0) by unfold Gd.write; rw [if_neg (by simp [hs]), if_neg (by simp [hf]), hv])
      obtain ⟨hn, hg, hk, hob, hff, hl, hvv⟩ := ferr_yes HOK.out hf
      have HFY := Lib.hid (show ∀ W, Below w.heap.size w W → Calls Try.prog 56 #[.pointer (some ⟨p, 0, none⟩), .int .i64 t, .int .i64 i, .int .i64 f] W (FieldYes W (gs.getD (G.at_ t i) 0) f.toNat) from fun W hb => field_yes (HV.out.below hb) HOK.out t i f hf)
      have HK := Lib.hid hk
      have HL := Lib.hid hl
      have HFC := Lib.hid (show ∀ W, Below w.heap.size w W → gs.getD (G.at_ t i) 0 < W.heap.size ∧ (∃ x, W.cell? ⟨gs.getD (G.at_ t i) 0, f.toNat * 2, none⟩ = some x) ∧ (∃ x, W.cell? ⟨gs.getD (G.at_ t i) 0, f.toNat * 2 + 1, none⟩ = some x) ∧ ∀ j, W.frozen? ⟨gs.getD (G.at_ t i) 0, j, none⟩ = false from fun W hb => by
        have hv := HV.out.below hb
        exact ⟨hv.glt hk, ⟨_, (hv.fcell hk hl).1⟩, ⟨_, (hv.fcell hk hl).2⟩, fun j => World.ownsRow.frozenAt (hv.hos _ hk).2 j⟩)
      have HFG := Lib.hid (show F (gs.getD (G.at_ t i) 0) from (HV.out.hos _ hk).1)
      have HFS := Lib.hid (fset_eq G t i f v)
      obtain ⟨g, hg'⟩ : ∃ g, g = gs.getD (G.at_ t i) 0 := ⟨_, rfl⟩
      obtain ⟨l, hl'⟩ : ∃ l, l = f.toNat := ⟨_, rfl⟩
      rw [← hg', ← hl'] at HFY HFC
      have HGG := Lib.hid hg'
      have HLL := Lib.hid hl'
      clear hn hg hk hob hff hl hvv hg' hl' hs hf hv
      obtain ⟨vk, vn⟩ := v
      go_enter Try.func31, Try.ntmps31
      go_wp2_with fail
      refine (HN.out _ _ _ (((Below.refl _ _).alloc (Nat.le_refl _) _).alloc (by simp) _) (.inr ⟨w.heap.size + 1, rfl, by simp, fun j hj => ?_⟩)).mono ?_
      · obtain rfl : j = 0 := by simp at hj; omega
        simp [go_sem]
      rintro e1 w1 ⟨A, c, rfl, hp, hb1⟩
      rcases hp with h0 | ⟨g1, rfl, hg1, hc1⟩
      · cases h0
      obtain ⟨d0, d1⟩ := hc1 0 (by simp)
      simp only [List.getD_cons_zero, Nat.zero_mul, Nat.zero_add] at d0 d1
      have hbw : Below w.heap.size w w1 := (((Below.refl _ _).alloc (Nat.le_refl _) _).alloc (by simp) _).trans (hb1.mono (by simp; omega))
      have HBW := Lib.hid hbw
      clear hc1 hb1 hbw
      go_wp2_with fail
      refine (HFY.out _ HBW.out).mono ?_
      rintro e2 w2 ⟨rfl, hb2⟩
      obtain ⟨os, d, rfl⟩ := ext_of hb2
      obtain ⟨hgl, ⟨x0, hx0⟩, ⟨x1, hx1⟩, hfz⟩ := HFC.out _ HBW.out
      clear hb2
      go_wp2_with fail
      go_ret
      rw [HE.out, HFS.out]
      have hend := write_end HV.out HBW.out HK.out HL.out ⟨vk, vn⟩ (below_of_ext os d)
      rw [← HGG.out, ← HLL.out] at hend
      rw [← HLL.out]
      exact ⟨rfl, hend.1, hend.2⟩
    · have HE := Lib.hid (show G.write t i f ⟨sk, sn⟩ = (G, G.ferr t i f) by unfold Gd.write; rw [if_neg (by simp [hs]), if_pos hf])
      have HFN := Lib.hid (show ∀ W, Below w.heap.size w W → Calls Try.prog 56 #[.pointer (some ⟨p, 0, none⟩), .int .i64 t, .int .i64 i, .int .i64 f] W (FieldNo W (G.ferr t i f)) from fun W hb => field_no (HV.out.below hb) HOK.out t i f hf)
      obtain ⟨x, hx⟩ : ∃ x, x = G.ferr t i f := ⟨_, rfl⟩
      rw [← hx] at HFN HE hf
      clear hs hx hv
      obtain ⟨vk, vn⟩ := v
      go_enter Try.func31, Try.ntmps31
      go_wp2_with fail
      refine (HN.out _ _ _ (((Below.refl _ _).alloc (Nat.le_refl _) _).alloc (by simp) _) (.inr ⟨w.heap.size + 1, rfl, by simp, fun j hj => ?_⟩)).mono ?_
      · obtain rfl : j = 0 := by simp at hj; omega
        simp [go_sem]
      rintro e1 w1 ⟨A, c, rfl, hp, hb1⟩
      have hbw : Below w.heap.size w w1 := (((Below.refl _ _).alloc (Nat.le_refl _) _).alloc (by simp) _).trans (hb1.mono (by simp; omega))
      have HBW := Lib.hid hbw
      clear hp hb1 hbw
      go_wp2_with fail
      refine (HFN.out _ HBW.out).mono ?_
      rintro e2 w2 ⟨rfl, hb2⟩
      have HB2 := Lib.hid hb2
      clear hb2
      go_wp2_with fail
      go_ret
      rw [HE.out]
      have hb := HBW.out.trans (HB2.out.mono HBW.out.size)
      exact ⟨rfl, HV.out.gr hb, Only.of_below hb⟩
  · rw [if_pos hs] at HN
    have HE := Lib.hid (show G.write t i f ⟨sk, sn⟩ = (G, G.serr t ⟨sk, sn⟩) by unfold Gd.write; rw [if_pos hs])
    obtain ⟨x, hx⟩ : ∃ x, x = G.serr t ⟨sk, sn⟩ := ⟨_, rfl⟩
    rw [← hx] at HN HE hs
    clear hx
    go_enter Try.func31, Try.ntmps31
    go_wp2_with fail
    refine (HN.out _ _ _ (((Below.refl _ _).alloc (Nat.le_refl _) _).alloc (by simp) _) (.inr ⟨w.heap.size + 1, rfl, by simp, fun j hj => ?_⟩)).mono ?_
    · obtain rfl : j = 0 := by simp at hj; omega
      simp [go_sem]
    rintro e1 w1 ⟨A, c, rfl, hp, hb1⟩
    have hbw : Below w.heap.size w w1 := (((Below.refl _ _).alloc (Nat.le_refl _) _).alloc (by simp) _).trans (hb1.mono (by simp; omega))
    have HBW := Lib.hid hbw
    clear hp hb1 hbw
    go_wp2_with fail
    go_ret
    rw [HE.out]
    exact ⟨rfl, HV.out.gr HBW.out, Only.of_below HBW.out⟩
end

end Go.Proofs.Ytlogojiphjpknaa
