/- Where a shape lies in memory while it is made: rows of numbers, rows of fields, each left alone once it is made. No condition. -/
import Derived.Test.YtlogojiphjpknaaGClone
import Derived.Test.YtlogojiphjpknaaGNumber
import Derived.Test.YtlogojiphjpknaaGAlloc
namespace Go.Proofs.Ytlogojiphjpknaa
open Go.RowKit
set_option linter.unusedVariables false

/-- the k-th row of numbers as a slice -/
def gval (gs cs : List Nat) (R : List (List Int)) (k : Nat) : Value := .slice (some ⟨gs.getD k 0, 0, none⟩) (R.getD k []).length (cs.getD k 0)
def gvals (gs cs : List Nat) (R : List (List Int)) : List Value := (List.range R.length).map (gval gs cs R)
def ints (l : List Int) : List Value := l.map (Value.int .i64)

theorem gvals_at (gs cs : List Nat) (R : List (List Int)) {k : Nat} (hk : k < R.length) : (gvals gs cs R)[k]? = some (gval gs cs R k) := by
  unfold gvals
  rw [List.getElem?_map, List.getElem?_range hk]
  rfl

theorem gvals_snoc {gs cs : List Nat} {R : List (List Int)} (hg : gs.length = R.length) (hc : cs.length = R.length) (g c : Nat) (o : List Int) :
    gvals (gs ++ [g]) (cs ++ [c]) (R ++ [o]) = gvals gs cs R ++ [.slice (some ⟨g, 0, none⟩) o.length c] := by
  unfold gvals
  rw [List.length_append, List.length_singleton, List.range_succ, List.map_append]
  congr 1
  · apply List.map_congr_left
    intro k hk
    have hk' : k < R.length := List.mem_range.1 hk
    unfold gval
    rw [getD_app (l := gs) (by omega), getD_app (l := R) hk', getD_app (l := cs) (by omega)]
  · simp only [List.map_cons, List.map_nil, gval]
    rw [getD_last (l := gs) (by omega), getD_last (l := R) rfl, getD_last (l := cs) (by omega)]

/-- rows of numbers, in blocks of P -/
def RRows (P : Nat → Prop) (w : World) (gs cs : List Nat) (R : List (List Int)) : Prop :=
  gs.length = R.length ∧ cs.length = R.length ∧ ∀ i, i < R.length → P (gs.getD i 0) ∧ w.ownsRow 0 3 1 (gval gs cs R i) (R.getD i []).length (ints (R.getD i []))
/-- rows of fields, in blocks of P -/
def LRows (P : Nat → Prop) (w : World) (gs cs : List Nat) (L : List (List V)) : Prop :=
  gs.length = L.length ∧ cs.length = L.length ∧ ∀ i, i < L.length → P (gs.getD i 0) ∧ w.ownsRow 0 46 2 (oval gs cs L i) (L.getD i []).length (vflat (L.getD i []))

theorem RRows.nil (P : Nat → Prop) (w : World) : RRows P w [] [] [] := ⟨rfl, rfl, fun i hi => by cases hi⟩
theorem LRows.nil (P : Nat → Prop) (w : World) : LRows P w [] [] [] := ⟨rfl, rfl, fun i hi => by cases hi⟩
theorem RRows.same {P Q : Nat → Prop} {w w' : World} {gs cs : List Nat} {R : List (List Int)} (h : RRows P w gs cs R) (hs : ∀ k, P k → k < w.heap.size → (∃ cur, w.heap[k]? = some (.cells cur 3 (0, 0))) → w'.heap[k]? = w.heap[k]?) (hQ : ∀ k, P k → Q k) : RRows Q w' gs cs R :=
  ⟨h.1, h.2.1, fun i hi => by
    obtain ⟨h1, h2⟩ := h.2.2 i hi
    refine ⟨hQ _ h1, own_same h2 (fun k hk => ?_)⟩
    have ht := own_typ h2 hk
    injection hk with hk'
    subst hk'
    exact hs _ h1 (h2.lt _ rfl).2 ht⟩
theorem LRows.same {P Q : Nat → Prop} {w w' : World} {gs cs : List Nat} {L : List (List V)} (h : LRows P w gs cs L) (hs : ∀ k, P k → k < w.heap.size → (∃ cur, w.heap[k]? = some (.cells cur 46 (0, 0))) → w'.heap[k]? = w.heap[k]?) (hQ : ∀ k, P k → Q k) : LRows Q w' gs cs L :=
  ⟨h.1, h.2.1, fun i hi => by
    obtain ⟨h1, h2⟩ := h.2.2 i hi
    refine ⟨hQ _ h1, own_same h2 (fun k hk => ?_)⟩
    have ht := own_typ h2 hk
    injection hk with hk'
    subst hk'
    exact hs _ h1 (h2.lt _ rfl).2 ht⟩
theorem RRows.snoc {P : Nat → Prop} {w : World} {gs cs : List Nat} {R : List (List Int)} (h : RRows P w gs cs R) {g c : Nat} {o : List Int} (hg : P g) (ho : w.ownsRow 0 3 1 (.slice (some ⟨g, 0, none⟩) o.length c) o.length (ints o)) : RRows P w (gs ++ [g]) (cs ++ [c]) (R ++ [o]) := by
  refine ⟨by simp [h.1], by simp [h.2.1], fun i hi => ?_⟩
  simp only [List.length_append, List.length_singleton] at hi
  unfold gval
  by_cases hil : i < R.length
  · rw [getD_app (l := gs) (by rw [h.1]; exact hil), getD_app (l := R) hil, getD_app (l := cs) (by rw [h.2.1]; exact hil)]
    exact h.2.2 i hil
  · obtain rfl : i = R.length := by omega
    rw [getD_last (l := gs) h.1.symm, getD_last (l := R) rfl, getD_last (l := cs) h.2.1.symm]
    exact ⟨hg, ho⟩
theorem LRows.snoc {P : Nat → Prop} {w : World} {gs cs : List Nat} {L : List (List V)} (h : LRows P w gs cs L) {g c : Nat} {o : List V} (hg : P g) (ho : w.ownsRow 0 46 2 (.slice (some ⟨g, 0, none⟩) o.length c) o.length (vflat o)) : LRows P w (gs ++ [g]) (cs ++ [c]) (L ++ [o]) := by
  refine ⟨by simp [h.1], by simp [h.2.1], fun i hi => ?_⟩
  simp only [List.length_append, List.length_singleton] at hi
  unfold oval
  by_cases hil : i < L.length
  · rw [getD_app (l := gs) (by rw [h.1]; exact hil), getD_app (l := L) hil, getD_app (l := cs) (by rw [h.2.1]; exact hil)]
    exact h.2.2 i hil
  · obtain rfl : i = L.length := by omega
    rw [getD_last (l := gs) h.1.symm, getD_last (l := L) rfl, getD_last (l := cs) h.2.1.symm]
    exact ⟨hg, ho⟩

/-- the shape so far, in blocks of P -/
structure ShR (P : Nat → Prop) (w : World) (b3 : Nat) (R : List (List Int)) (L : List (List V)) (Rv Lv : Value) (rg rc lg lc : List Nat) : Prop where
  hb : Blk w b3 65 #[Rv, Lv]
  pb : P b3
  hR : w.ownsRow 0 22 1 Rv R.length (gvals rg rc R)
  pR : ∀ g, Rv.ownBlock = some g → P g
  hL : w.ownsRow 0 67 1 Lv L.length (ovals lg lc L)
  pL : ∀ g, Lv.ownBlock = some g → P g
  rr : RRows P w rg rc R
  lr : LRows P w lg lc L

def ShS (P : Nat → Prop) (w : World) (b3 : Nat) (R : List (List Int)) (L : List (List V)) : Prop := ∃ Rv Lv rg rc lg lc, ShR P w b3 R L Rv Lv rg rc lg lc

section
variable {P : Nat → Prop} {w : World} {b3 : Nat} {R : List (List Int)} {L : List (List V)} {Rv Lv : Value} {rg rc lg lc : List Nat}

theorem ShR.same (h : ShR P w b3 R L Rv Lv rg rc lg lc) {w' : World} (hs : ∀ k, P k → k < w.heap.size → w'.heap[k]? = w.heap[k]?) : ShR P w' b3 R L Rv Lv rg rc lg lc :=
  ⟨(hs _ h.pb h.hb.lt).trans h.hb, h.pb, own_same h.hR (fun k hk => hs k (h.pR k hk) (h.hR.lt k hk).2), h.pR, own_same h.hL (fun k hk => hs k (h.pL k hk) (h.hL.lt k hk).2), h.pL,
    h.rr.same (fun k hp hk _ => hs k hp hk) (fun _ h => h), h.lr.same (fun k hp hk _ => hs k hp hk) (fun _ h => h)⟩
theorem ShS.same (h : ShS P w b3 R L) {w' : World} (hs : ∀ k, P k → k < w.heap.size → w'.heap[k]? = w.heap[k]?) : ShS P w' b3 R L := by
  obtain ⟨Rv, Lv, rg, rc, lg, lc, h⟩ := h
  exact ⟨Rv, Lv, rg, rc, lg, lc, h.same hs⟩

theorem ShR.ne (h : ShR P w b3 R L Rv Lv rg rc lg lc) : some b3 ≠ Rv.ownBlock ∧ some b3 ≠ Lv.ownBlock := by
  refine ⟨fun e => ?_, fun e => ?_⟩
  · obtain ⟨_, hb⟩ := own_typ h.hR e.symm; exact typ_ne hb h.hb (by decide) rfl
  · obtain ⟨_, hb⟩ := own_typ h.hL e.symm; exact typ_ne hb h.hb (by decide) rfl

/-- a row of numbers put behind the others -/
theorem ShR.addR (h : ShR P w b3 R L Rv Lv rg rc lg lc) {w2 : World} {u : Value} {gr cr : Nat} {o : List Int} (hu : u = .slice (some ⟨gr, 0, none⟩) o.length cr) (ho : w.ownsRow 0 3 1 u o.length (ints o)) {gg cap : Nat}
    (hown : w2.ownsRow 0 22 1 (.slice (some ⟨gg, 0, none⟩) (R.length + 1) cap) (R.length + 1) (gvals rg rc R ++ [u])) (hgr : (w.alloc (.cells #[u] 22)).grownBy w2 Rv.ownBlock) (hat : Rv.ownBlock = some gg ∨ gg = w.heap.size + 1) (hlt : gg < w2.heap.size) :
    ShR (fun k => P k ∨ k = gr ∨ (w.heap.size ≤ k ∧ k < w2.heap.size)) (w2.setCell ⟨b3, 0, none⟩ (.slice (some ⟨gg, 0, none⟩) (R.length + 1) cap)) b3 (R ++ [o]) L (.slice (some ⟨gg, 0, none⟩) (R.length + 1) cap) Lv (rg ++ [gr]) (rc ++ [cr]) lg lc := by
  subst hu
  obtain ⟨n1, n2⟩ := h.ne
  have hb2 : ∀ k, k < w.heap.size → some k ≠ Rv.ownBlock → w2.heap[k]? = w.heap[k]? := fun k hk hn => (hgr.block k (by simp; omega) hn).trans (Below.heap_alloc w _ k hk)
  have hset : ∀ k, k ≠ b3 → ∀ x, (w2.setCell ⟨b3, 0, none⟩ x).heap[k]? = w2.heap[k]? := fun k hk x => Below.heap_setCell w2 ⟨b3, 0, none⟩ x k hk
  have h32 : Blk w2 b3 65 #[Rv, Lv] := (hb2 _ h.hb.lt n1).trans h.hb
  have hty : ∀ k e, e ≠ 65 → e ≠ 22 → k < w.heap.size → (∃ cur, w.heap[k]? = some (.cells cur e (0, 0))) → k ≠ b3 ∧ some k ≠ Rv.ownBlock := fun k e he1 he2 hk ⟨cur, hc⟩ =>
    ⟨typ_ne hc h.hb he1, fun hr => by obtain ⟨_, hb⟩ := own_typ h.hR hr.symm; exact typ_ne hc hb he2 rfl⟩
  have hsame : ∀ k e, e ≠ 65 → e ≠ 22 → k < w.heap.size → (∃ cur, w.heap[k]? = some (.cells cur e (0, 0))) → ∀ x, (w2.setCell ⟨b3, 0, none⟩ x).heap[k]? = w.heap[k]? := fun k e he1 he2 hk hc x => by
    obtain ⟨q1, q2⟩ := hty k e he1 he2 hk hc
    exact (hset k q1 x).trans (hb2 k hk q2)
  obtain ⟨_, hgt⟩ := own_typ hown rfl
  have ngb : gg ≠ b3 := typ_ne hgt h32 (by decide)
  refine ⟨h32.set_ 0 _, .inl h.pb, ?_, ?_, ?_, fun g hg => .inl (h.pL g hg), ?_, ?_⟩
  · rw [List.length_append, List.length_singleton, gvals_snoc h.rr.1 h.rr.2.1]
    refine own_same hown (fun k hk => ?_)
    injection hk with hk
    subst hk
    exact hset _ ngb _
  · intro g hg
    injection hg with hg
    subst hg
    rcases hat with h1 | h1
    · exact .inl (h.pR _ h1)
    · exact .inr (.inr ⟨by rw [h1]; exact Nat.le_succ _, hlt⟩)
  · exact own_same h.hL (fun k hk => hsame k 67 (by decide) (by decide) (h.hL.lt k hk).2 (own_typ h.hL hk) _)
  · refine (h.rr.same (fun k _ hk hc => hsame k 3 (by decide) (by decide) hk hc _) (fun _ hp => .inl hp)).snoc (.inr (.inl rfl)) ?_
    exact own_same ho (fun k hk => hsame k 3 (by decide) (by decide) (ho.lt k hk).2 (own_typ ho hk) _)
  · exact h.lr.same (fun k _ hk hc => hsame k 46 (by decide) (by decide) hk hc _) (fun _ hp => .inl hp)

/-- a row of fields put behind the others -/
theorem ShR.addL (h : ShR P w b3 R L Rv Lv rg rc lg lc) {w2 : World} {u : Value} {gr cr : Nat} {o : List V} (hu : u = .slice (some ⟨gr, 0, none⟩) o.length cr) (ho : w.ownsRow 0 46 2 u o.length (vflat o)) {gg cap : Nat}
    (hown : w2.ownsRow 0 67 1 (.slice (some ⟨gg, 0, none⟩) (L.length + 1) cap) (L.length + 1) (ovals lg lc L ++ [u])) (hgr : (w.alloc (.cells #[u] 67)).grownBy w2 Lv.ownBlock) (hat : Lv.ownBlock = some gg ∨ gg = w.heap.size + 1) (hlt : gg < w2.heap.size) :
    ShR (fun k => P k ∨ k = gr ∨ (w.heap.size ≤ k ∧ k < w2.heap.size)) (w2.setCell ⟨b3, 1, none⟩ (.slice (some ⟨gg, 0, none⟩) (L.length + 1) cap)) b3 R (L ++ [o]) Rv (.slice (some ⟨gg, 0, none⟩) (L.length + 1) cap) rg rc (lg ++ [gr]) (lc ++ [cr]) := by
  subst hu
  obtain ⟨n1, n2⟩ := h.ne
  have hb2 : ∀ k, k < w.heap.size → some k ≠ Lv.ownBlock → w2.heap[k]? = w.heap[k]? := fun k hk hn => (hgr.block k (by simp; omega) hn).trans (Below.heap_alloc w _ k hk)
  have hset : ∀ k, k ≠ b3 → ∀ x, (w2.setCell ⟨b3, 1, none⟩ x).heap[k]? = w2.heap[k]? := fun k hk x => Below.heap_setCell w2 ⟨b3, 1, none⟩ x k hk
  have h32 : Blk w2 b3 65 #[Rv, Lv] := (hb2 _ h.hb.lt n2).trans h.hb
  have hsame : ∀ k e, e ≠ 65 → e ≠ 67 → k < w.heap.size → (∃ cur, w.heap[k]? = some (.cells cur e (0, 0))) → ∀ x, (w2.setCell ⟨b3, 1, none⟩ x).heap[k]? = w.heap[k]? := fun k e he1 he2 hk ⟨cur, hc⟩ x =>
    (hset k (typ_ne hc h.hb he1) x).trans (hb2 k hk (fun hr => by obtain ⟨_, hb⟩ := own_typ h.hL hr.symm; exact typ_ne hc hb he2 rfl))
  obtain ⟨_, hgt⟩ := own_typ hown rfl
  have ngb : gg ≠ b3 := typ_ne hgt h32 (by decide)
  refine ⟨h32.set_ 1 _, .inl h.pb, ?_, fun g hg => .inl (h.pR g hg), ?_, ?_, ?_, ?_⟩
  · exact own_same h.hR (fun k hk => hsame k 22 (by decide) (by decide) (h.hR.lt k hk).2 (own_typ h.hR hk) _)
  · rw [List.length_append, List.length_singleton, ovals_snoc h.lr.1 h.lr.2.1]
    refine own_same hown (fun k hk => ?_)
    injection hk with hk
    subst hk
    exact hset _ ngb _
  · intro g hg
    injection hg with hg
    subst hg
    rcases hat with h1 | h1
    · exact .inl (h.pL _ h1)
    · exact .inr (.inr ⟨by rw [h1]; exact Nat.le_succ _, hlt⟩)
  · exact h.rr.same (fun k _ hk hc => hsame k 3 (by decide) (by decide) hk hc _) (fun _ hp => .inl hp)
  · refine (h.lr.same (fun k _ hk hc => hsame k 46 (by decide) (by decide) hk hc _) (fun _ hp => .inl hp)).snoc (.inr (.inl rfl)) ?_
    exact own_same ho (fun k hk => hsame k 46 (by decide) (by decide) (ho.lt k hk).2 (own_typ ho hk) _)
end

/-- what Shape has so far: numbers in blocks of the call's own, apart from the shape's (P) and from others that are left alone (C) -/
def Apart (B : Nat) (P C : Nat → Prop) : Nat → Prop := fun k => B ≤ k ∧ ¬ P k ∧ ¬ C k

structure PartS (B : Nat) (P C : Nat → Prop) (w : World) (b3 b4 b5 : Nat) (met : List Int) (R : List (List Int)) (L : List (List V)) : Prop where
  num : NumS (Apart B P C) w b4 b5 met
  sh : ShS P w b3 R L
  pb : ∀ k, P k → B ≤ k ∧ k < w.heap.size
  cb : ∀ k, C k → B ≤ k ∧ k < w.heap.size
  hB : B ≤ w.heap.size

theorem NumS.kept {F E : Nat → Prop} {w w' : World} {b4 b5 : Nat} {met : List Int} (h : NumS F w b4 b5 met) (hs : ∀ k, F k → k < w.heap.size → w'.heap[k]? = w.heap[k]?) (hE : ∀ k, F k → k < w.heap.size → E k) : NumS E w' b4 b5 met := by
  obtain ⟨r, D, v, h⟩ := h
  refine ⟨r, D, v, ?_⟩
  have h1 := h.same hs
  exact { h1 with f4 := hE _ h.f4 h.h4.lt, f5 := hE _ h.f5 h.h5.lt, fr := hE _ h.fr h.hm.lt, fv := fun g hg => hE _ (h.fv g hg) (h.hv.lt g hg).2 }

section
variable {B : Nat} {P C : Nat → Prop} {w w' : World} {b3 b4 b5 : Nat} {met met' : List Int} {R : List (List Int)} {L : List (List V)}

/-- a number was asked for -/
theorem PartS.asked (h : PartS B P C w b3 b4 b5 met R L) (hn : NumS (Grow (Apart B P C) w w') w' b4 b5 met') (ho : Only (Apart B P C) w w') : PartS B P C w' b3 b4 b5 met' R L := by
  have hsz := ho.size
  refine ⟨hn.kept (fun _ _ _ => rfl) (fun k hk _ => ?_), h.sh.same (fun k hp hk => ho.block k hk (fun ha => ha.2.1 hp)), fun k hk => ⟨(h.pb k hk).1, Nat.lt_of_lt_of_le (h.pb k hk).2 hsz⟩, fun k hk => ⟨(h.cb k hk).1, Nat.lt_of_lt_of_le (h.cb k hk).2 hsz⟩, Nat.le_trans h.hB hsz⟩
  rcases hk with hk | hk
  · exact hk
  · exact ⟨Nat.le_trans h.hB hk.1, fun hp => by have := (h.pb k hp).2; omega, fun hc => by have := (h.cb k hc).2; omega⟩
/-- what was left alone is as it was -/
theorem PartS.left (h : PartS B P C w b3 b4 b5 met R L) (ho : Only (Apart B P C) w w') : (∀ k, C k → w'.heap[k]? = w.heap[k]?) ∧ (∀ k, P k → w'.heap[k]? = w.heap[k]?) ∧ Below B w w' :=
  ⟨fun k hk => ho.block k (h.cb k hk).2 (fun ha => ha.2.2 hk), fun k hk => ho.block k (h.pb k hk).2 (fun ha => ha.2.1 hk), ⟨ho.os, ho.tape, ho.output, ho.size, fun k hk => ho.block k (Nat.lt_of_lt_of_le hk h.hB) (fun ha => by have := ha.1; omega)⟩⟩

/-- something else was done: what is left alone has turned, or new blocks -/
theorem PartS.else_ (h : PartS B P C w b3 b4 b5 met R L) {C' : Nat → Prop} (hsz : w.heap.size ≤ w'.heap.size) (hs : ∀ k, k < w.heap.size → ¬ C k → w'.heap[k]? = w.heap[k]?) (hdis : ∀ k, C k → ¬ P k)
    (hC : ∀ k, C' k → (C k ∨ w.heap.size ≤ k) ∧ k < w'.heap.size) : PartS B P C' w' b3 b4 b5 met R L := by
  refine ⟨h.num.kept (fun k hf hk => hs k hk hf.2.2) (fun k hf hk => ⟨hf.1, hf.2.1, fun hc => ?_⟩), h.sh.same (fun k hp hk => hs k hk (fun hc => hdis k hc hp)), fun k hk => ⟨(h.pb k hk).1, Nat.lt_of_lt_of_le (h.pb k hk).2 hsz⟩, fun k hk => ?_, Nat.le_trans h.hB hsz⟩
  · rcases (hC k hc).1 with h1 | h1
    · exact hf.2.2 h1
    · omega
  · rcases (hC k hk).1 with h1 | h1
    · exact ⟨(h.cb k h1).1, (hC k hk).2⟩
    · exact ⟨Nat.le_trans h.hB h1, (hC k hk).2⟩
end

theorem nums_snoc : ∀ (l : List Int) (met : List Int) (id : Int), Gd.nums met (l ++ [id]) = ((Gd.num (Gd.nums met l).1 id).1, (Gd.nums met l).2 ++ [(Gd.num (Gd.nums met l).1 id).2])
  | [], _, _ => rfl
  | x :: l, met, id => by simp only [List.cons_append, Gd.nums, nums_snoc l]
theorem numRs_snoc : ∀ (l : List Rt) (met : List Int) (r : Rt), Gd.numRs met (l ++ [r]) = ((Gd.nums (Gd.numRs met l).1 (Gd.ids r)).1, (Gd.numRs met l).2 ++ [(Gd.nums (Gd.numRs met l).1 (Gd.ids r)).2])
  | [], _, _ => rfl
  | x :: l, met, r => by simp only [List.cons_append, Gd.numRs, numRs_snoc l]
theorem numVs_snoc : ∀ (l : List V) (met : List Int) (v : V), Gd.numVs met (l ++ [v]) = ((Gd.numV (Gd.numVs met l).1 v).1, (Gd.numVs met l).2 ++ [(Gd.numV (Gd.numVs met l).1 v).2])
  | [], _, _ => rfl
  | x :: l, met, v => by simp only [List.cons_append, Gd.numVs, numVs_snoc l]
theorem nums_length : ∀ (l : List Int) (met : List Int), (Gd.nums met l).2.length = l.length
  | [], _ => rfl
  | x :: l, met => by simp [Gd.nums, nums_length l]
theorem numRs_length : ∀ (l : List Rt) (met : List Int), (Gd.numRs met l).2.length = l.length
  | [], _ => rfl
  | x :: l, met => by simp [Gd.numRs, numRs_length l]
theorem numVs_length : ∀ (l : List V) (met : List Int), (Gd.numVs met l).2.length = l.length
  | [], _ => rfl
  | x :: l, met => by simp [Gd.numVs, numVs_length l]

end Go.Proofs.Ytlogojiphjpknaa
