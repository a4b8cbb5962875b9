/- The parts of Shape's second loop: an object's fields as a row, numbered. No condition. -/
import Derived.Test.YtlogojiphjpknaaGShapeN
namespace Go.Proofs.Ytlogojiphjpknaa
open Go.RowKit Go.Maps
set_option linter.unusedVariables false

theorem own_base {w : World} {base b n size : Nat} {e : TypeId} {v : Value} {xs : List Value} (h : w.ownsRow base e size v n xs) (hb : b ≤ base) : w.ownsRow b e size v n xs := by
  refine ⟨h.1, ?_⟩
  rcases h.2 with h0 | ⟨g, cap, cur, hv, h2, h3⟩
  · exact .inl h0
  · exact .inr ⟨g, cap, cur, hv, Nat.le_trans hb h2, h3⟩

section
variable {B : Nat} {P : Nat → Prop} {w w' w0 : World} {b2 b3 b4 b5 : Nat} {met met' : List Int} {R : List (List Int)} {L : List (List V)}

/-- within an object: its row at g -/
structure InL (B : Nat) (w0 w : World) (b2 b3 b4 b5 g c n : Nat) (met : List Int) (row : List V) (R : List (List Int)) (L : List (List V)) (P : Nat → Prop) : Prop where
  ps : PartS B P (fun k => k = b2 ∨ k = g) w b3 b4 b5 met R L
  np : ¬ P b2
  ng : ¬ P g
  b2 : Two w b2
  len : row.length = n
  row : w.ownsRow 0 46 2 (.slice (some ⟨g, 0, none⟩) n c) n (vflat row)
  bl : Below B w0 w

theorem OutSt.startL (h : OutSt B w0 w b2 b3 b4 b5 met R L P) {w2 : World} (hb : Below w.heap.size w w2) {g c n : Nat} {o : List V} (hn : o.length = n) (hg : w.heap.size ≤ g) (hrow : w2.ownsRow 0 46 2 (.slice (some ⟨g, 0, none⟩) n c) n (vflat o)) :
    InL B w0 w2 b2 b3 b4 b5 g c n met o R L P := by
  have hl2 := h.b2.lt
  have hgl := (hrow.lt g rfl).2
  have hs := hb.size
  refine ⟨h.ps.turn hs (fun k hk _ _ => hb.block k hk) (h.ps.sh.same (fun k _ hk => hb.block k hk)) (fun k hk => ⟨.inl hk, by have := (h.ps.pb k hk).2; omega⟩) (fun k hk => ?_), h.np, fun hp => by have := (h.ps.pb _ hp).2; omega,
    (hb.block _ hl2).trans h.b2, hn, hrow, h.bl.trans (hb.mono h.ps.hB)⟩
  rcases hk with rfl | rfl
  · exact ⟨.inr (.inl rfl), by omega⟩
  · exact ⟨.inr (.inr hg), hgl⟩

theorem InL.asked {g c n : Nat} {row : List V} (h : InL B w0 w b2 b3 b4 b5 g c n met row R L P) (hn : NumS (Grow (Apart B P (fun k => k = b2 ∨ k = g)) w w') w' b4 b5 met') (ho : Only (Apart B P (fun k => k = b2 ∨ k = g)) w w') :
    InL B w0 w' b2 b3 b4 b5 g c n met' row R L P := by
  obtain ⟨h1, h2, h3⟩ := h.ps.left ho
  exact ⟨h.ps.asked hn ho, h.np, h.ng, (h1 _ (.inl rfl)).trans h.b2, h.len, own_same h.row (fun k hk => h1 k (by injection hk with hk; exact .inr hk.symm)), h.bl.trans h3⟩

/-- new blocks beside -/
theorem InL.alloc {g c n : Nat} {row : List V} (h : InL B w0 w b2 b3 b4 b5 g c n met row R L P) (o : Obj) : InL B w0 (w.alloc o) b2 b3 b4 b5 g c n met row R L P := by
  have hsame : ∀ k, k < w.heap.size → (w.alloc o).heap[k]? = w.heap[k]? := fun k hk => Below.heap_alloc w o k hk
  refine ⟨h.ps.turn (by simp) (fun k hk _ _ => hsame k hk) (h.ps.sh.same (fun k _ hk => hsame k hk)) (fun k hk => ⟨.inl hk, by have := (h.ps.pb k hk).2; simp; omega⟩) (fun k hk => ⟨.inr (.inl hk), by have := (h.ps.cb k hk).2; simp; omega⟩), h.np, h.ng, (hsame _ h.b2.lt).trans h.b2, h.len, h.row.alloc o, h.bl.alloc h.ps.hB o⟩

/-- a field's number written -/
theorem InL.put {g c n : Nat} {row : List V} (h : InL B w0 w b2 b3 b4 b5 g c n met row R L P) {j : Nat} (hj : j < n) {x : Int} :
    InL B w0 (w.setCell ⟨g, j * 2 + 1, none⟩ (.int .i64 x)) b2 b3 b4 b5 g c n met (row.set j ⟨(row.getD j default).k, x⟩) R L P := by
  obtain ⟨_, hgt⟩ := own_typ h.row rfl
  have hsame : ∀ k, k ≠ g → (w.setCell ⟨g, j * 2 + 1, none⟩ (.int .i64 x)).heap[k]? = w.heap[k]? := fun k hk => Below.heap_setCell w ⟨g, j * 2 + 1, none⟩ _ k hk
  have hz : (w.setCell ⟨g, j * 2 + 1, none⟩ (.int .i64 x)).heap.size = w.heap.size := by simp [World.setCell]
  have n2 : b2 ≠ g := typ_ne h.b2 hgt (by decide)
  have hl := h.len
  refine ⟨h.ps.turn (by omega) (fun k _ _ hc => hsame k (fun e => hc (.inr e))) (h.ps.sh.same (fun k hp _ => hsame k (fun e => h.ng (e ▸ hp)))) (fun k hk => ⟨.inl hk, by rw [hz]; exact (h.ps.pb k hk).2⟩) (fun k hk => ⟨.inr (.inl hk), by rw [hz]; exact (h.ps.cb k hk).2⟩), h.np, h.ng, (hsame _ n2).trans h.b2, by simpa using hl, ?_,
    h.bl.setCell (p := ⟨g, j * 2 + 1, none⟩) (h.ps.cb g (.inr rfl)).1 _⟩
  have h1 := (World.ownsRow.stored h.row (j * 2 + 1) (.int .i64 x)).1
  have e : vflat (row.set j ⟨(row.getD j default).k, x⟩) = (vflat row).set (j * 2 + 1) (.int .i64 x) := by
    rw [vflat_set _ _ _ (by omega)]
    congr 1
    apply List.ext_getElem?
    intro i
    rw [List.getElem?_set]
    by_cases hi : j * 2 = i
    · subst hi
      have hlen : j * 2 < (vflat row).length := by rw [vflat_length]; omega
      rw [if_pos rfl, if_pos hlen, (vflat_at row j (by omega)).1]
    · rw [if_neg hi]
  rw [e]
  exact h1

theorem InL.stop {g c n : Nat} {row : List V} (h : InL B w0 w b2 b3 b4 b5 g c n met row R L P) {Rv Lv : Value} {rg rc lg lc : List Nat} (hsh : ShR P w b3 R L Rv Lv rg rc lg lc) {w2 : World} {gg cap : Nat}
    (hown : w2.ownsRow 0 67 1 (.slice (some ⟨gg, 0, none⟩) (L.length + 1) cap) (L.length + 1) (ovals lg lc L ++ [.slice (some ⟨g, 0, none⟩) n c])) (hgr : (w.alloc (.cells #[.slice (some ⟨g, 0, none⟩) n c] 67)).grownBy w2 Lv.ownBlock)
    (hat : Lv.ownBlock = some gg ∨ gg = w.heap.size + 1) (hlt : gg < w2.heap.size) :
    ∃ P', OutSt B w0 (w2.setCell ⟨b3, 1, none⟩ (.slice (some ⟨gg, 0, none⟩) (L.length + 1) cap)) b2 b3 b4 b5 met R (L ++ [row]) P' := by
  have hs2 := hgr.size
  simp at hs2
  have hlen := h.len
  subst hlen
  have hsh' := hsh.addL rfl h.row hown hgr hat hlt
  have hpb3 := h.ps.pb b3 hsh.pb
  have n23 : b2 ≠ b3 := fun e => h.np (e ▸ hsh.pb)
  have n2L : some b2 ≠ Lv.ownBlock := fun e => h.np (hsh.pL _ e.symm)
  have hset : ∀ k, k ≠ b3 → (w2.setCell ⟨b3, 1, none⟩ (.slice (some ⟨gg, 0, none⟩) (L.length + 1) cap)).heap[k]? = w2.heap[k]? := fun k hk => Below.heap_setCell w2 ⟨b3, 1, none⟩ _ k hk
  have hb2 : ∀ k, k < w.heap.size → some k ≠ Lv.ownBlock → w2.heap[k]? = w.heap[k]? := fun k hk hn => (hgr.block k (by simp; omega) hn).trans (Below.heap_alloc w _ k hk)
  have hz : (w2.setCell ⟨b3, 1, none⟩ (.slice (some ⟨gg, 0, none⟩) (L.length + 1) cap)).heap.size = w2.heap.size := by simp [World.setCell]
  have hl2 := h.b2.lt
  refine ⟨_, h.ps.turn (P' := fun k => P k ∨ k = g ∨ (w.heap.size ≤ k ∧ k < w2.heap.size)) (by omega) (fun k hk hp hc => ?_) ⟨_, _, _, _, _, _, hsh'⟩ (fun k hk => ?_) (fun k hk => ?_), ?_, ?_, ?_⟩
  · exact (hset k (fun e => hp (e ▸ hsh.pb))).trans (hb2 k hk (fun e => hp (hsh.pL _ e.symm)))
  · rw [hz]
    rcases hk with hk | rfl | hk
    · exact ⟨.inl hk, by have := (h.ps.pb k hk).2; omega⟩
    · exact ⟨.inr (.inl (.inr rfl)), by have := (h.row.lt k rfl).2; omega⟩
    · exact ⟨.inr (.inr hk.1), hk.2⟩
  · rw [hz]
    subst hk
    exact ⟨.inr (.inl (.inl rfl)), by omega⟩
  · rintro (hk | hk | hk)
    · exact h.np hk
    · obtain ⟨_, hgt⟩ := own_typ h.row rfl
      exact typ_ne h.b2 hgt (by decide) hk
    · omega
  · exact ((hset _ n23).trans (hb2 _ hl2 n2L)).trans h.b2
  · refine Below.setCell ((h.bl.alloc h.ps.hB _).grown hgr (by simp; exact Nat.le_succ_of_le h.ps.hB) (fun k hk => (h.ps.pb k (hsh.pL _ hk)).1)) (p := ⟨b3, 1, none⟩) hpb3.1 _
end

/-- a row in part numbered: one more -/
theorem part_row (o : List V) (met : List Int) {j : Nat} (hj : j < o.length) :
    Gd.numVs met (o.take (j + 1)) = ((Gd.numV (Gd.numVs met (o.take j)).1 (o.getD j default)).1, (Gd.numVs met (o.take j)).2 ++ [(Gd.numV (Gd.numVs met (o.take j)).1 (o.getD j default)).2]) ∧
    ((Gd.numVs met (o.take j)).2 ++ o.drop j).getD j default = o.getD j default ∧
    (∀ v, (Gd.numVs met (o.take j)).2 ++ [v] ++ o.drop (j + 1) = ((Gd.numVs met (o.take j)).2 ++ o.drop j).set j v) := by
  have hl : (Gd.numVs met (o.take j)).2.length = j := by rw [numVs_length, List.length_take]; omega
  have hd : o.drop j = o[j] :: o.drop (j + 1) := List.drop_eq_getElem_cons hj
  have hg : o.getD j default = o[j] := by rw [List.getD_eq_getElem?_getD, List.getElem?_eq_getElem hj]; rfl
  refine ⟨?_, ?_, fun v => ?_⟩
  · rw [List.take_succ_eq_append_getElem hj, numVs_snoc, hg]
  · rw [hd, hg, List.getD_eq_getElem?_getD, List.getElem?_append_right (by omega)]
    simp [hl, List.getElem?_eq_getElem hj]
  · generalize (Gd.numVs met (o.take j)).2 = a at *
    subst hl
    rw [hd]
    simp only [List.append_assoc, List.singleton_append, List.set_append_right _ _ (Nat.le_refl _), Nat.sub_self, List.set_cons_zero]

end Go.Proofs.Ytlogojiphjpknaa
