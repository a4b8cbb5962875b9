/- The function number of Shape: a map and a slice of what was met. Condition: at most a hundred thousand. -/
import Derived.Test.YtlogojiphjpknaaGTurn
import Derived.Test.YtlogojiphjpknaaGShapeP
import Derived.Maps.OwnSet
import Derived.Maps.OwnOps
import Derived.Maps.Views
namespace Go.Proofs.Ytlogojiphjpknaa
open Go.RowKit Go.Maps
set_option linter.unusedVariables false

theorem info3 : (Try.prog.info? 3).map (fun i => (i.zero, i.size, i.bytes)) = some (some (.int .i64 0), 1, 8) := by kernel_rfl
theorem law3 : Keyed Try.prog 3 := int_keyed Try.underlying3
theorem zero3 (w : World) : (zeroValue 3).run Try.prog w = .ok (.int .i64 0) w := by kernel_rfl

/-- the map says what was met, and as which -/
def MapIs (D : DataW Unit) (met : List Int) : Prop :=
  IsMap D ∧ ∀ id : Int, (Lit.int .i64 id).wf = true → has D (.int .i64 id) = decide (id ∈ met) ∧ (id ∈ met → D.atKey (.int .i64 id) (.lit (.int .i64 0)) = .lit (.int .i64 ((met.idxOf id : Int) + 1)))

theorem mapIs_nil : MapIs (.map []) [] := ⟨isMap_empty, fun id _ => ⟨by simp [has_eq], fun h => by cases h⟩⟩

theorem key_lit (id : Int) : WideAt.IsKeyLit (.int .i64 id) := by simp [WideAt.IsKeyLit]

theorem mapIs_put {D : DataW Unit} {met : List Int} (h : MapIs D met) {id : Int} (hid : id ∉ met) : MapIs (D.put (.int .i64 id) (.lit (.int .i64 ((met.length : Int) + 1)))) (met ++ [id]) := by
  refine ⟨h.1.put _ _, fun x hx => ?_⟩
  by_cases hxi : x = id
  · subst hxi
    refine ⟨by rw [has_put_same h.1 (key_lit _)]; simp, fun _ => ?_⟩
    rw [atKey_put_same h.1 (key_lit _), List.idxOf_append, if_neg hid]
    simp
  · have hne : (Lit.int .i64 x) ≠ .int .i64 id := fun e => hxi (by injection e)
    obtain ⟨h1, h2⟩ := h.2 x hx
    refine ⟨by rw [has_put_other hne, h1]; simp [hxi], fun hm => ?_⟩
    have hm' : x ∈ met := by simpa [hxi] using hm
    rw [atKey_put_other hne, h2 hm', List.idxOf_append, if_pos hm']

theorem wf_len {met : List Int} (hl : met.length ≤ 100000) : (Lit.int .i64 ((met.length : Int) + 1)).wf = true := by
  simp only [Lit.wf, Bool.and_eq_true, decide_eq_true_eq]
  exact ⟨show (-9223372036854775808 : Int) ≤ (met.length : Int) + 1 by omega, show (met.length : Int) + 1 ≤ (9223372036854775807 : Int) by omega⟩

structure NumSt (F : Nat → Prop) (w : World) (b4 b5 : Nat) (met : List Int) (r : Nat) (D : DataW Unit) (v : Value) : Prop where
  h4 : Blk w b4 86 #[.map (some r)]
  hm : w.ownsMap Try.prog 3 (plainElem Try.prog 3) r met.length D
  is : MapIs D met
  h5 : Blk w b5 22 #[v]
  hv : w.ownsRow 0 3 1 v met.length (met.map (Value.int .i64))
  f4 : F b4
  f5 : F b5
  fr : F r
  fv : ∀ g, v.ownBlock = some g → F g

def NumS (F : Nat → Prop) (w : World) (b4 b5 : Nat) (met : List Int) : Prop := ∃ r D v, NumSt F w b4 b5 met r D v

theorem own_map_same {w w' : World} {r n : Nat} {D : DataW Unit} (h : w.ownsMap Try.prog 3 (plainElem Try.prog 3) r n D) (hs : w'.heap[r]? = w.heap[r]?) : w'.ownsMap Try.prog 3 (plainElem Try.prog 3) r n D := by
  obtain ⟨es, c, h1, h2⟩ := h
  exact ⟨es, c, hs.trans h1, h2⟩

theorem NumSt.same {F : Nat → Prop} {w w' : World} {b4 b5 : Nat} {met : List Int} {r : Nat} {D : DataW Unit} {v : Value} (h : NumSt F w b4 b5 met r D v) (hs : ∀ k, F k → k < w.heap.size → w'.heap[k]? = w.heap[k]?) : NumSt F w' b4 b5 met r D v :=
  { h with h4 := (hs _ h.f4 h.h4.lt).trans h.h4, hm := own_map_same h.hm (hs _ h.fr h.hm.lt), h5 := (hs _ h.f5 h.h5.lt).trans h.h5, hv := own_same h.hv (fun k hk => hs k (h.fv k hk) (h.hv.lt k hk).2) }
theorem NumSt.mono {F E : Nat → Prop} {w : World} {b4 b5 : Nat} {met : List Int} {r : Nat} {D : DataW Unit} {v : Value} (h : NumSt F w b4 b5 met r D v) (hE : ∀ k, F k → E k) : NumSt E w b4 b5 met r D v :=
  { h with f4 := hE _ h.f4, f5 := hE _ h.f5, fr := hE _ h.fr, fv := fun g hg => hE _ (h.fv g hg) }

theorem NumSt.put {F : Nat → Prop} {w : World} {b4 b5 : Nat} {met : List Int} {r : Nat} {D : DataW Unit} {v : Value} (h : NumSt F w b4 b5 met r D v) {w2 w3 : World} {id : Int} {gg cap : Nat}
    (hgr : (w.alloc (.cells #[.int .i64 id] 3)).grownBy w2 v.ownBlock) (hown : w2.ownsRow 0 3 1 (.slice (some ⟨gg, 0, none⟩) (met.length + 1) cap) (met.length + 1) (met.map (Value.int .i64) ++ [.int .i64 id]))
    (hat : v.ownBlock = some gg ∨ gg = w.heap.size + 1) (hlt : gg < w2.heap.size) (hgr3 : (w2.setCell ⟨b5, 0, none⟩ (.slice (some ⟨gg, 0, none⟩) (met.length + 1) cap)).grownBy w3 (some r))
    (hown3 : w3.ownsMap Try.prog 3 (plainElem Try.prog 3) r (met.length + 1) (D.put (.int .i64 id) (.lit (.int .i64 ((met.length : Int) + 1))))) (hid : id ∉ met) :
    NumSt (Grow F w w3) w3 b4 b5 (met ++ [id]) r (D.put (.int .i64 id) (.lit (.int .i64 ((met.length : Int) + 1)))) (.slice (some ⟨gg, 0, none⟩) (met.length + 1) cap) ∧ Only F w w3 := by
  have hl : (met ++ [id]).length = met.length + 1 := by simp
  have n4 : some b4 ≠ v.ownBlock := fun e => by obtain ⟨_, hb⟩ := own_typ h.hv e.symm; exact typ_ne hb h.h4 (by decide) rfl
  have n5 : some b5 ≠ v.ownBlock := fun e => by obtain ⟨_, hb⟩ := own_typ h.hv e.symm; exact typ_ne hb h.h5 (by decide) rfl
  have n45 : b4 ≠ b5 := typ_ne h.h4 h.h5 (by decide)
  obtain ⟨es, cl, hrh, _⟩ := h.hm
  have n5r : b5 ≠ r := fun e => by
    have h5 : w.heap[b5]? = _ := h.h5
    rw [e, hrh] at h5
    cases h5
  have n4r : b4 ≠ r := fun e => by
    have h5 : w.heap[b4]? = _ := h.h4
    rw [e, hrh] at h5
    cases h5
  have l4 := h.h4.lt
  have l5 := h.h5.lt
  have hs2 := hgr.size
  have hs3 := hgr3.size
  simp [World.setCell] at hs2 hs3
  have hb2 : ∀ k, k < w.heap.size → some k ≠ v.ownBlock → w2.heap[k]? = w.heap[k]? := fun k hk hn => (hgr.block k (by simp; omega) hn).trans (Below.heap_alloc w _ k hk)
  have hb3 : ∀ k, k < w2.heap.size → k ≠ b5 → k ≠ r → w3.heap[k]? = w2.heap[k]? := fun k hk h1 h2 => (hgr3.block k (by simpa [World.setCell] using hk) (by simpa using h2)).trans (Below.heap_setCell w2 ⟨b5, 0, none⟩ _ k h1)
  have h52 : Blk w2 b5 22 #[v] := (hb2 _ l5 n5).trans h.h5
  obtain ⟨_, hgt⟩ := own_typ hown rfl
  have ngb5 : gg ≠ b5 := typ_ne hgt h52 (by decide)
  have ngr : gg ≠ r := fun e => by
    rcases hat with h1 | h1
    · have := own_typ h.hv (e ▸ h1)
      obtain ⟨_, hq⟩ := this
      rw [hrh] at hq
      cases hq
    · have : r < w.heap.size := by
        rcases Nat.lt_or_ge r w.heap.size with hx | hx
        · exact hx
        · rw [Array.getElem?_eq_none hx] at hrh; cases hrh
      omega
  refine ⟨⟨?_, by rw [hl]; exact hown3, mapIs_put h.is hid, ?_, ?_, .inl h.f4, .inl h.f5, .inl h.fr, fun g hg => ?_⟩, ?_⟩
  · exact (hb3 _ (by omega) n45 n4r).trans ((hb2 _ l4 n4).trans h.h4)
  · refine (hgr3.block b5 (by simp [World.setCell]; omega) (by simpa using n5r)).trans ?_
    exact h52.set_ 0 _
  · rw [hl, List.map_append]
    refine own_same hown (fun k hk => ?_)
    injection hk with hk
    subst hk
    exact hb3 _ hlt ngb5 ngr
  · injection hg with hg
    subst hg
    rcases hat with h1 | h1
    · exact .inl (h.fv _ h1)
    · have hlt' := hlt
      refine Or.inr ⟨?_, ?_⟩
      · rw [h1]; exact Nat.le_succ _
      · exact Nat.lt_of_lt_of_le hlt' hs3
  · refine Only.grown (Only.setCell (Only.grown ((Only.refl F w).alloc _) hgr (fun g hg => .inl (h.fv g hg))) (.inl h.f5) _ _) hgr3 (fun g hg => ?_)
    injection hg with hg
    exact .inl (hg ▸ h.fr)

def NumP (F : Nat → Prop) (w : World) (b4 b5 : Nat) (X : List Int × Int) (e : Ending) (w' : World) : Prop :=
  e = .returned (.int .i64 X.2) ∧ NumS (Grow F w w') w' b4 b5 X.1 ∧ Only F w w'

set_option maxRecDepth 100000 in
set_option maxHeartbeats 2000000 in
theorem num_any {F : Nat → Prop} {w : World} {b4 b5 : Nat} {met : List Int} (h : NumS F w b4 b5 met) (id : Int) (hid : 0 ≤ id ∧ id ≤ 1000000) (hl : met.length ≤ 100000) :
    Calls Try.prog 58 #[.int .i64 id, .pointer (some ⟨b4, 0, none⟩), .pointer (some ⟨b5, 0, none⟩)] w (NumP F w b4 b5 (Gd.num met id)) := by
  obtain ⟨r, D, v, h⟩ := h
  have HN := Lib.hid h
  have hwf : (Lit.int .i64 id).wf = true := by simp only [Lit.wf, Bool.and_eq_true, decide_eq_true_eq]; exact ⟨show (-9223372036854775808 : Int) ≤ id by omega, show id ≤ (9223372036854775807 : Int) by omega⟩
  have HKEY := Lib.hid (show keyOf Try.prog 3 (.int .i64 id) = some (.int .i64 id) from keyOf_int_mk Try.underlying3 hwf)
  have c4 : w.cell? ⟨b4, 0, none⟩ = some (.map (some r)) := h.h4.cell 0
  have c5 : w.cell? ⟨b5, 0, none⟩ = some v := h.h5.cell 0
  obtain ⟨his, hat0⟩ := h.is.2 id hwf
  have HIS := Lib.hid his
  have HAT := Lib.hid hat0
  have HWF := Lib.hid hwf
  clear h his hat0 hwf
  by_cases h0 : id = 0
  · subst h0
    have HX := Lib.hid (show Gd.num met 0 = (met, 0) from rfl)
    go_enter Try.func58, Try.ntmps58
    go_wp2_with fail
    go_ret
    rw [HX.out]
    exact ⟨rfl, ⟨r, D, v, HN.out.mono fun _ h => .inl h⟩, Only.refl _ _⟩
  · by_cases hm : id ∈ met
    · have HX := Lib.hid (show Gd.num met id = (met, (met.idxOf id : Int) + 1) by unfold Gd.num; rw [if_neg h0, if_pos hm])
      have HH := Lib.hid (show has D (.int .i64 id) = true by rw [HIS.out]; simpa using hm)
      have HA := Lib.hid (HAT.out hm)
      clear hm
      go_enter Try.func58, Try.ntmps58
      go_wp2_with (at_lookup; refine wpList_lookup_own_ok_int _ rfl _ _ 86 rfl 3 3 .i64 law3 Try.underlying86 Try.underlying3 (zero3 _) r met.length D rfl HN.out.hm _ _ rfl HKEY.out ?_; intro c hat hwc; go_must (rw [HH.out]))
      have hc : c = (met.idxOf id : Int) + 1 := by
        have := hat.symm.trans HA.out
        injection this with this
        injection this
      go_ret
      rw [HX.out, hc]
      exact ⟨rfl, ⟨r, D, v, HN.out.mono fun _ h => .inl h⟩, Only.refl _ _⟩
    · have HX := Lib.hid (show Gd.num met id = (met ++ [id], (met.length : Int) + 1) by unfold Gd.num; rw [if_neg h0, if_neg hm])
      have HH := Lib.hid (show has D (.int .i64 id) = false by rw [HIS.out]; simpa using hm)
      have HM := Lib.hid hm
      clear hm
      obtain ⟨i3, hi3, hz3, hs3, hb3⟩ := info_parts info3
      have n4 : some b4 ≠ v.ownBlock := fun e => by obtain ⟨_, hb⟩ := own_typ HN.out.hv e.symm; exact typ_ne hb HN.out.h4 (by decide) rfl
      have n5 : some b5 ≠ v.ownBlock := fun e => by obtain ⟨_, hb⟩ := own_typ HN.out.hv e.symm; exact typ_ne hb HN.out.h5 (by decide) rfl
      have nr : some r ≠ v.ownBlock := fun e => by
        obtain ⟨_, hb⟩ := own_typ HN.out.hv e.symm
        obtain ⟨es, cl, hh, _⟩ := HN.out.hm
        rw [hh] at hb
        cases hb
      have n45 : b4 ≠ b5 := typ_ne HN.out.h4 HN.out.h5 (by decide)
      have hl4 := HN.out.h4.lt
      have hl5 := HN.out.h5.lt
      have hlr := HN.out.hm.lt
      have HFAR := Lib.hid (show ∀ (x : Value) (w2 : World), (w.alloc (.cells #[x] 3)).grownBy w2 v.ownBlock → w2.cell? ⟨b5, 0, none⟩ = some v ∧ w2.frozen? ⟨b5, 0, none⟩ = false ∧ w2.cell? ⟨b4, 0, none⟩ = some (.map (some r)) ∧ w2.heap[r]? = w.heap[r]? from fun x w2 hg =>
        ⟨by rw [hg.cell_far _ (by simp; omega) n5]; simp [go_sem, c5, hl5], by rw [hg.frozen_far _ (by simp; omega) n5]; simp [go_sem, hl5, HN.out.h5.frozen], by rw [hg.cell_far _ (by simp; omega) n4]; simp [go_sem, c4, hl4],
          (hg.block r (by simp; omega) nr).trans (Below.heap_alloc w _ r hlr)⟩)
      have N45 := Lib.hid n45
      have n54 : ¬ b4 = b5 := n45
      have NR5 := Lib.hid (show b5 ≠ r from fun e => by
        obtain ⟨es, cl, hh, _⟩ := HN.out.hm
        have h5 : w.heap[b5]? = _ := HN.out.h5
        rw [e, hh] at h5
        cases h5)
      have hidx := World.ownsRow.alloc HN.out.hv
      have HOWN := Lib.hid hidx
      have HNEW := Lib.hid (show ∀ x : Value, (w.alloc (.cells #[x] 3)).heap[w.heap.size]? = some (.cells #[x] 3 (0, 0)) from fun x => heap_alloc_new w _)
      clear n4 n5 nr n45 hidx
      go_enter Try.func58, Try.ntmps58
      go_wp2_with (first
        | (at_lookup; refine wpList_lookup_own_ok_int _ rfl _ _ 86 rfl 3 3 .i64 law3 Try.underlying86 Try.underlying3 (zero3 _) r met.length D rfl HN.out.hm _ _ rfl HKEY.out ?_; intro c hat hwc; go_must (rw [HH.out]))
        | (at_builtin; refine wpList_append_lies _ rfl (.tmp 17) (.tmp 19) _ rfl 0 3 i3 _ 1 8 Try.underlying22 hi3 hz3 hs3 hb3 rfl (by omega) v met.length (met.map (Value.int .i64)) (by rfl) (HOWN.out _) ⟨w.heap.size, 0, none⟩ 1 1 [.int .i64 id] (by rfl) (by rfl) (World.news_of_block (cs := #[.int .i64 id]) (t := 3) (fr := (0, 0)) (HNEW.out _)) (by simp [Value.oneCell']) (by omega) (by unfold maxLen; omega) (by omega) (Nat.zero_le _) (w.heap.size + 1) (by simp) ?_; intro gg cap w2 hown hgr hat2 hlt; go_must (obtain ⟨e5, f5, e4, er⟩ := HFAR.out _ _ hgr; have HOWN2 := Lib.hid hown; have HGR := Lib.hid hgr; have HAT2 := Lib.hid hat2; clear hown hgr hat2))
        | (at_mapUpdate; refine wpList_mapUpdate_own _ rfl _ _ _ 86 rfl 3 3 law3 Try.underlying86 _ r met.length D rfl (own_map_same HN.out.hm ((Below.heap_setCell w2 ⟨b5, 0, none⟩ _ r (Ne.symm NR5.out)).trans er)) (by unfold maxLen; omega) _ _ _ rfl rfl HKEY.out _ [] (plainElem_int Try.underlying3 (wf_len hl)) ?_; intro w3 hown3 hgr3; go_must (have HGR3 := Lib.hid hgr3; have HOWN3 := Lib.hid hown3; have hl25 : b5 < w2.heap.size := (by have := HGR.out.size; simp at this; omega); have e53 : w3.cell? ⟨b5, 0, none⟩ = some (.slice (some ⟨gg, 0, none⟩) (met.length + 1) cap) := ((HGR3.out.cell_far ⟨b5, 0, none⟩ (by simp [World.setCell]; exact hl25) (by simp; exact NR5.out)).trans (by simp [go_sem, e5])); clear hgr3 hown3)))
      go_ret
      rw [HX.out]
      obtain ⟨q1, q2⟩ := HN.out.put HGR.out HOWN2.out HAT2.out hlt HGR3.out HOWN3.out HM.out
      exact ⟨rfl, ⟨_, _, _, q1⟩, q2⟩

end Go.Proofs.Ytlogojiphjpknaa
