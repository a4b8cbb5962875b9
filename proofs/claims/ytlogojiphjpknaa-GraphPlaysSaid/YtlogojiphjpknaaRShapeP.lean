/- Where the reference's shape lies in memory while it is made. No condition. -/
import Derived.Test.YtlogojiphjpknaaRNumber
namespace Go.Proofs.Ytlogojiphjpknaa
open Go.RowKit
set_option linter.unusedVariables false

/-- between rows -/
structure ROut (B : Nat) (w0 w : World) (b2 b3 : Nat) (mv : Value) (met : List Int) (R : List (List Int)) (L : List (List V)) (P : Nat → Prop) : Prop where
  sh : ShS P w b3 R L
  pb : ∀ k, P k → B ≤ k ∧ k < w.heap.size
  mm : MetV w mv met
  mp : ∀ k, mv.ownBlock = some k → ¬ P k
  bl : Below B w0 w
  hB : B ≤ w.heap.size
  tw : Two w b2
  np : ¬ P b2

/-- within a row, which lies at g so far -/
structure RIn (B : Nat) (w0 w : World) (b2 b3 : Nat) (mv : Value) (met : List Int) (e : TypeId) (size g c n : Nat) (xs : List Value) (R : List (List Int)) (L : List (List V)) (P : Nat → Prop) : Prop where
  sh : ShS P w b3 R L
  pb : ∀ k, P k → B ≤ k ∧ k < w.heap.size
  mm : MetV w mv met
  mp : ∀ k, mv.ownBlock = some k → ¬ P k ∧ k ≠ g
  row : w.ownsRow 0 e size (.slice (some ⟨g, 0, none⟩) n c) n xs
  gp : B ≤ g ∧ ¬ P g
  bl : Below B w0 w
  hB : B ≤ w.heap.size
  tw : Two w b2
  np : ¬ P b2

section
variable {B : Nat} {w0 w w' : World} {b2 b3 : Nat} {mv mv' : Value} {met met' : List Int} {e : TypeId} {size g c n : Nat} {xs : List Value} {R : List (List Int)} {L : List (List V)} {P : Nat → Prop}

theorem ROut.below (h : ROut B w0 w b2 b3 mv met R L P) (hb : Below w.heap.size w w') : ROut B w0 w' b2 b3 mv met R L P :=
  ⟨h.sh.same (fun k _ hk => hb.block k hk), fun k hk => ⟨(h.pb k hk).1, Nat.lt_of_lt_of_le (h.pb k hk).2 hb.size⟩, h.mm.below hb, h.mp, h.bl.trans (hb.mono h.hB), Nat.le_trans h.hB hb.size, (hb.block _ h.tw.lt).trans h.tw, h.np⟩
theorem RIn.below (h : RIn B w0 w b2 b3 mv met e size g c n xs R L P) (hb : Below w.heap.size w w') : RIn B w0 w' b2 b3 mv met e size g c n xs R L P :=
  ⟨h.sh.same (fun k _ hk => hb.block k hk), fun k hk => ⟨(h.pb k hk).1, Nat.lt_of_lt_of_le (h.pb k hk).2 hb.size⟩, h.mm.below hb, h.mp, own_same h.row (fun k hk => hb.block k (h.row.lt k hk).2), h.gp, h.bl.trans (hb.mono h.hB), Nat.le_trans h.hB hb.size, (hb.block _ h.tw.lt).trans h.tw, h.np⟩

/-- a number was asked for -/
theorem RIn.asked (h : RIn B w0 w b2 b3 mv met e size g c n xs R L P) (hb : Below w.heap.size w w') (hm : MetV w' mv' met') (ho : mv' = mv ∨ ∀ k, mv'.ownBlock = some k → w.heap.size ≤ k) : RIn B w0 w' b2 b3 mv' met' e size g c n xs R L P := by
  have h1 := h.below hb
  refine ⟨h1.sh, h1.pb, hm, fun k hk => ?_, h1.row, h1.gp, h1.bl, h1.hB, h1.tw, h1.np⟩
  rcases ho with rfl | ho
  · exact h.mp k hk
  · have hk1 := ho k hk
    have hg := (h.row.lt g rfl).2
    exact ⟨fun hp => by have := (h.pb k hp).2; omega, by omega⟩

/-- an empty row -/
theorem ROut.start (h : ROut B w0 w b2 b3 mv met R L P) (e : TypeId) (size : Nat) : RIn B w0 (w.alloc (.cells #[] e)) b2 b3 mv met e size w.heap.size 0 0 [] R L P := by
  have hb : Below w.heap.size w (w.alloc (.cells #[] e)) := (Below.refl _ _).alloc (Nat.le_refl _) _
  have h1 := h.below hb
  refine ⟨h1.sh, h1.pb, h1.mm, fun k hk => ⟨h.mp k hk, ?_⟩, ?_, ⟨h.hB, fun hp => by have := (h.pb _ hp).2; omega⟩, h1.bl, h1.hB, h1.tw, h1.np⟩
  · have := (h.mm.lt k hk).2; omega
  · refine ⟨by simp, .inr ⟨w.heap.size, 0, #[], rfl, Nat.zero_le _, heap_alloc_new w _, Nat.le_refl _, by unfold maxLen; omega, by simp, by simp⟩⟩

/-- one more put behind a row -/
theorem RIn.push (h : RIn B w0 w b2 b3 mv met e size g c n xs R L P) {o : Obj} {w2 : World} {gg cap m : Nat} {news : List Value} (hown : w2.ownsRow 0 e size (.slice (some ⟨gg, 0, none⟩) (n + m) cap) (n + m) (xs ++ news)) (hgr : (w.alloc o).grownBy w2 (some g)) (hat : some g = some gg ∨ gg = w.heap.size + 1) (he : e ≠ 65) :
    RIn B w0 w2 b2 b3 mv met e size gg cap (n + m) (xs ++ news) R L P := by
  have hs := hgr.size
  simp at hs
  have hsame : ∀ k, k < w.heap.size → k ≠ g → w2.heap[k]? = w.heap[k]? := fun k hk hn => (hgr.block k (by simp; omega) (fun e => hn (by injection e))).trans (Below.heap_alloc w o k hk)
  have hb : Below B w0 w2 := (h.bl.alloc h.hB o).grown hgr (by have := h.hB; simp; omega) (fun k hk => by injection hk with hk; rw [← hk]; exact h.gp.1)
  have hgg : gg = g ∨ gg = w.heap.size + 1 := hat.imp (fun e => by injection e with e; exact e.symm) id
  refine ⟨h.sh.same (fun k hp hk => hsame k hk (fun e => h.gp.2 (e ▸ hp))), fun k hk => ⟨(h.pb k hk).1, by have := (h.pb k hk).2; omega⟩, own_same h.mm (fun k hk => hsame k (h.mm.lt k hk).2 (h.mp k hk).2), fun k hk => ⟨(h.mp k hk).1, ?_⟩, hown, ?_, hb, by have := h.hB; omega, (hsame _ h.tw.lt (fun e' => by obtain ⟨_, hc⟩ := own_typ h.row rfl; exact typ_ne hc h.tw he e'.symm)).trans h.tw, h.np⟩
  · rcases hgg with rfl | rfl
    · exact (h.mp k hk).2
    · have := (h.mm.lt k hk).2; omega
  · rcases hgg with rfl | rfl
    · exact h.gp
    · exact ⟨by have := h.hB; omega, fun hp => by have := (h.pb _ hp).2; omega⟩

theorem RIn.stopR {row : List Int} (h : RIn B w0 w b2 b3 mv met 3 1 g c row.length (ints row) R L P) {Rv Lv : Value} {rg rc lg lc : List Nat} (hsh : ShR P w b3 R L Rv Lv rg rc lg lc) {w2 : World} {gg cap : Nat}
    (hown : w2.ownsRow 0 22 1 (.slice (some ⟨gg, 0, none⟩) (R.length + 1) cap) (R.length + 1) (gvals rg rc R ++ [.slice (some ⟨g, 0, none⟩) row.length c])) (hgr : (w.alloc (.cells #[.slice (some ⟨g, 0, none⟩) row.length c] 22)).grownBy w2 Rv.ownBlock)
    (hat : Rv.ownBlock = some gg ∨ gg = w.heap.size + 1) (hlt : gg < w2.heap.size) :
    ∃ P', ROut B w0 (w2.setCell ⟨b3, 0, none⟩ (.slice (some ⟨gg, 0, none⟩) (R.length + 1) cap)) b2 b3 mv met (R ++ [row]) L P' := by
  have hs2 := hgr.size
  simp at hs2
  have hsh' := hsh.addR rfl h.row hown hgr hat hlt
  have hpb3 := h.pb b3 hsh.pb
  have hgl := (h.row.lt g rfl).2
  have hset : ∀ k, k ≠ b3 → (w2.setCell ⟨b3, 0, none⟩ (.slice (some ⟨gg, 0, none⟩) (R.length + 1) cap)).heap[k]? = w2.heap[k]? := fun k hk => Below.heap_setCell w2 ⟨b3, 0, none⟩ _ k hk
  have hb2 : ∀ k, k < w.heap.size → some k ≠ Rv.ownBlock → w2.heap[k]? = w.heap[k]? := fun k hk hn => (hgr.block k (by simp; omega) hn).trans (Below.heap_alloc w _ k hk)
  have hz : (w2.setCell ⟨b3, 0, none⟩ (.slice (some ⟨gg, 0, none⟩) (R.length + 1) cap)).heap.size = w2.heap.size := by simp [World.setCell]
  refine ⟨fun k => P k ∨ k = g ∨ (w.heap.size ≤ k ∧ k < w2.heap.size), ⟨⟨_, _, _, _, _, _, hsh'⟩, fun k hk => ?_, ?_, fun k hk => ?_, ?_, by rw [hz]; have := h.hB; omega, ?_, ?_⟩⟩
  · rw [hz]
    rcases hk with hk | rfl | hk
    · exact ⟨(h.pb k hk).1, by have := (h.pb k hk).2; omega⟩
    · exact ⟨h.gp.1, by omega⟩
    · exact ⟨Nat.le_trans h.hB hk.1, hk.2⟩
  · refine own_same h.mm (fun k hk => ?_)
    have hm := h.mp k hk
    exact (hset k (fun e => hm.1 (e ▸ hsh.pb))).trans (hb2 k (h.mm.lt k hk).2 (fun e => hm.1 (hsh.pR k e.symm)))
  · have hm := h.mp k hk
    have := (h.mm.lt k hk).2
    rintro (h1 | h1 | h1)
    · exact hm.1 h1
    · exact hm.2 h1
    · omega
  · exact Below.setCell ((h.bl.alloc h.hB _).grown hgr (by have := h.hB; simp; omega) (fun k hk => (h.pb k (hsh.pR k hk)).1)) (p := ⟨b3, 0, none⟩) hpb3.1 _
  · exact (hset b2 (fun e => h.np (e ▸ hsh.pb))).trans ((hb2 _ h.tw.lt (fun e => h.np (hsh.pR _ e.symm))).trans h.tw)
  · rintro (h1 | h1 | h1)
    · exact h.np h1
    · obtain ⟨_, hc⟩ := own_typ h.row rfl
      exact typ_ne hc h.tw (by decide) h1.symm
    · have := h.tw.lt; omega

theorem RIn.stopL {row : List V} (h : RIn B w0 w b2 b3 mv met 46 2 g c row.length (vflat row) R L P) {Rv Lv : Value} {rg rc lg lc : List Nat} (hsh : ShR P w b3 R L Rv Lv rg rc lg lc) {w2 : World} {gg cap : Nat}
    (hown : w2.ownsRow 0 67 1 (.slice (some ⟨gg, 0, none⟩) (L.length + 1) cap) (L.length + 1) (ovals lg lc L ++ [.slice (some ⟨g, 0, none⟩) row.length c])) (hgr : (w.alloc (.cells #[.slice (some ⟨g, 0, none⟩) row.length c] 67)).grownBy w2 Lv.ownBlock)
    (hat : Lv.ownBlock = some gg ∨ gg = w.heap.size + 1) (hlt : gg < w2.heap.size) :
    ∃ P', ROut B w0 (w2.setCell ⟨b3, 1, none⟩ (.slice (some ⟨gg, 0, none⟩) (L.length + 1) cap)) b2 b3 mv met R (L ++ [row]) P' := by
  have hs2 := hgr.size
  simp at hs2
  have hsh' := hsh.addL rfl h.row hown hgr hat hlt
  have hpb3 := h.pb b3 hsh.pb
  have hgl := (h.row.lt g rfl).2
  have hset : ∀ k, k ≠ b3 → (w2.setCell ⟨b3, 1, none⟩ (.slice (some ⟨gg, 0, none⟩) (L.length + 1) cap)).heap[k]? = w2.heap[k]? := fun k hk => Below.heap_setCell w2 ⟨b3, 1, none⟩ _ k hk
  have hb2 : ∀ k, k < w.heap.size → some k ≠ Lv.ownBlock → w2.heap[k]? = w.heap[k]? := fun k hk hn => (hgr.block k (by simp; omega) hn).trans (Below.heap_alloc w _ k hk)
  have hz : (w2.setCell ⟨b3, 1, none⟩ (.slice (some ⟨gg, 0, none⟩) (L.length + 1) cap)).heap.size = w2.heap.size := by simp [World.setCell]
  refine ⟨fun k => P k ∨ k = g ∨ (w.heap.size ≤ k ∧ k < w2.heap.size), ⟨⟨_, _, _, _, _, _, hsh'⟩, fun k hk => ?_, ?_, fun k hk => ?_, ?_, by rw [hz]; have := h.hB; omega, ?_, ?_⟩⟩
  · rw [hz]
    rcases hk with hk | rfl | hk
    · exact ⟨(h.pb k hk).1, by have := (h.pb k hk).2; omega⟩
    · exact ⟨h.gp.1, by omega⟩
    · exact ⟨Nat.le_trans h.hB hk.1, hk.2⟩
  · refine own_same h.mm (fun k hk => ?_)
    have hm := h.mp k hk
    exact (hset k (fun e => hm.1 (e ▸ hsh.pb))).trans (hb2 k (h.mm.lt k hk).2 (fun e => hm.1 (hsh.pL k e.symm)))
  · have hm := h.mp k hk
    have := (h.mm.lt k hk).2
    rintro (h1 | h1 | h1)
    · exact hm.1 h1
    · exact hm.2 h1
    · omega
  · exact Below.setCell ((h.bl.alloc h.hB _).grown hgr (by have := h.hB; simp; omega) (fun k hk => (h.pb k (hsh.pL k hk)).1)) (p := ⟨b3, 1, none⟩) hpb3.1 _
  · exact (hset b2 (fun e => h.np (e ▸ hsh.pb))).trans ((hb2 _ h.tw.lt (fun e => h.np (hsh.pL _ e.symm))).trans h.tw)
  · rintro (h1 | h1 | h1)
    · exact h.np h1
    · obtain ⟨_, hc⟩ := own_typ h.row rfl
      exact typ_ne hc h.tw (by decide) h1.symm
    · have := h.tw.lt; omega
end

end Go.Proofs.Ytlogojiphjpknaa
