/- Where a graph lies in memory: the struct, the threads' roots, the objects, each object's fields. No condition. -/
import Derived.Test.YtlogojiphjpknaaGPure
import Derived.Test.YtlogojiphjpknaaRoots
import Derived.Test.YtlogojiphjpknaaWords
namespace Go.Proofs.Ytlogojiphjpknaa
open Go.RowKit

/-- roots as cells -/
def rcells (r : Rt) : List Value := [.int .i64 r.n, .int .i64 r.a0, .int .i64 r.a1, .int .i64 r.a2, .int .i64 r.a3, .int .i64 r.a4, .int .i64 r.a5, .int .i64 r.a6, .int .i64 r.a7]
def tflat : List Rt → List Value
  | [] => []
  | r :: l => .int .i64 r.n :: .int .i64 r.a0 :: .int .i64 r.a1 :: .int .i64 r.a2 :: .int .i64 r.a3 :: .int .i64 r.a4 :: .int .i64 r.a5 :: .int .i64 r.a6 :: .int .i64 r.a7 :: tflat l
def vflat : List V → List Value
  | [] => []
  | v :: l => .int .i64 v.k :: .int .i64 v.n :: vflat l

theorem tflat_length : ∀ l : List Rt, (tflat l).length = l.length * 9
  | [] => rfl
  | r :: l => by simp [tflat, tflat_length l]; omega
theorem vflat_length : ∀ l : List V, (vflat l).length = l.length * 2
  | [] => rfl
  | v :: l => by simp [vflat, vflat_length l]; omega
theorem vflat_append (h k : List V) : vflat (h ++ k) = vflat h ++ vflat k := by
  induction h with
  | nil => rfl
  | cons x h ih => simp [vflat, ih]
theorem vflat_one : ∀ h : List V, ∀ u ∈ vflat h, u.oneCell' = true
  | [], _, hu => by cases hu
  | x :: h, u, hu => by
    unfold vflat at hu
    rcases List.mem_cons.1 hu with rfl | hu
    · rfl
    · rcases List.mem_cons.1 hu with rfl | hu
      · rfl
      · exact vflat_one h u hu
theorem tflat_at : ∀ (l : List Rt) (i : Nat), i < l.length → ∀ j, j < 9 → (tflat l)[i * 9 + j]? = (rcells (l.getD i Rt.zero))[j]?
  | [], i, hi, _, _ => by simp at hi
  | r :: l, 0, _, j, hj => by
    rcases (show j = 0 ∨ j = 1 ∨ j = 2 ∨ j = 3 ∨ j = 4 ∨ j = 5 ∨ j = 6 ∨ j = 7 ∨ j = 8 by omega) with rfl | rfl | rfl | rfl | rfl | rfl | rfl | rfl | rfl <;> rfl
  | r :: l, i + 1, hi, j, hj => by
    have := tflat_at l i (by simpa using hi) j hj
    rw [show (i + 1) * 9 + j = i * 9 + j + 9 by omega]
    simpa [tflat] using this
theorem vflat_at : ∀ (l : List V) (i : Nat), i < l.length → (vflat l)[i * 2]? = some (.int .i64 (l.getD i default).k) ∧ (vflat l)[i * 2 + 1]? = some (.int .i64 (l.getD i default).n)
  | [], i, hi => by simp at hi
  | v :: l, 0, _ => ⟨rfl, rfl⟩
  | v :: l, i + 1, hi => by
    have := vflat_at l i (by simpa using hi)
    simpa [vflat, Nat.add_mul] using this
theorem vflat_set : ∀ (l : List V) (i : Nat) (v : V), i < l.length → vflat (l.set i v) = ((vflat l).set (i * 2) (.int .i64 v.k)).set (i * 2 + 1) (.int .i64 v.n)
  | [], i, _, hi => by simp at hi
  | u :: l, 0, v, _ => rfl
  | u :: l, i + 1, v, hi => by
    have := vflat_set l i v (by simpa using hi)
    simp [vflat, this, Nat.add_mul]
theorem tflat_set : ∀ (l : List Rt) (i : Nat) (r : Rt), i < l.length → tflat (l.set i r) =
    (((((((((tflat l).set (i * 9) (.int .i64 r.n)).set (i * 9 + 1) (.int .i64 r.a0)).set (i * 9 + 2) (.int .i64 r.a1)).set (i * 9 + 3) (.int .i64 r.a2)).set (i * 9 + 4) (.int .i64 r.a3)).set (i * 9 + 5) (.int .i64 r.a4)).set (i * 9 + 6) (.int .i64 r.a5)).set (i * 9 + 7) (.int .i64 r.a6)).set (i * 9 + 8) (.int .i64 r.a7)
  | [], i, _, hi => by simp at hi
  | u :: l, 0, r, _ => rfl
  | u :: l, i + 1, r, hi => by
    have := tflat_set l i r (by simpa using hi)
    simp [tflat, this, Nat.add_mul]
theorem tflat_one : ∀ h : List Rt, ∀ u ∈ tflat h, u.oneCell' = true
  | [], _, hu => by cases hu
  | x :: h, u, hu => by
    unfold tflat at hu
    simp only [List.mem_cons] at hu
    rcases hu with rfl | rfl | rfl | rfl | rfl | rfl | rfl | rfl | rfl | hu <;> first | rfl | exact tflat_one h u hu

/-- the k-th object as a slice -/
def oval (gs cs : List Nat) (os : List (List V)) (k : Nat) : Value := .slice (some ⟨gs.getD k 0, 0, none⟩) (os.getD k []).length (cs.getD k 0)
def ovals (gs cs : List Nat) (os : List (List V)) : List Value := (List.range os.length).map (oval gs cs os)

theorem ovals_length (gs cs : List Nat) (os : List (List V)) : (ovals gs cs os).length = os.length := by simp [ovals]
theorem ovals_at (gs cs : List Nat) (os : List (List V)) {k : Nat} (hk : k < os.length) : (ovals gs cs os)[k]? = some (oval gs cs os k) := by
  unfold ovals
  rw [List.getElem?_map, List.getElem?_range hk]
  rfl

structure Vw (T : TypeId) (F : Nat → Prop) (w : World) (p : Nat) (G : Gd) (bt ct : Nat) (ov : Value) (gs cs : List Nat) : Prop where
  hT : T = 79 ∨ T = 91
  hp : Blk w p T #[.slice (some ⟨bt, 0, none⟩) G.ts.length ct, ov]
  fp : F p
  fbt : F bt
  hts : w.ownsRow 0 26 9 (.slice (some ⟨bt, 0, none⟩) G.ts.length ct) G.ts.length (tflat G.ts)
  hov : w.ownsRow 0 67 1 ov G.os.length (ovals gs cs G.os)
  fov : ∀ g, ov.ownBlock = some g → F g
  hgl : gs.length = G.os.length
  hcl : cs.length = G.os.length
  hnd : gs.Nodup
  hos : ∀ k, k < G.os.length → F (gs.getD k 0) ∧ w.ownsRow 0 46 2 (oval gs cs G.os k) (G.os.getD k []).length (vflat (G.os.getD k []))
  h64 : G.ts.length ≤ 64

def Gr (T : TypeId) (F : Nat → Prop) (w : World) (p : Nat) (G : Gd) : Prop := ∃ bt ct ov gs cs, Vw T F w p G bt ct ov gs cs

/-- nothing else has turned -/
structure Only (F : Nat → Prop) (w w' : World) : Prop where
  os : w'.os = w.os
  tape : w'.tape = w.tape
  output : w'.output = w.output
  size : w.heap.size ≤ w'.heap.size
  block : ∀ k, k < w.heap.size → ¬ F k → w'.heap[k]? = w.heap[k]?

def Grow (F : Nat → Prop) (w w' : World) : Nat → Prop := fun k => F k ∨ (w.heap.size ≤ k ∧ k < w'.heap.size)

theorem Only.refl (F : Nat → Prop) (w : World) : Only F w w := ⟨rfl, rfl, rfl, Nat.le_refl _, fun _ _ _ => rfl⟩
theorem Only.of_below {F : Nat → Prop} {w w' : World} (h : Below w.heap.size w w') : Only F w w' := ⟨h.os, h.tape, h.output, h.size, fun k hk _ => h.block k hk⟩
theorem Only.trans {F : Nat → Prop} {a b c : World} (h : Only F a b) (k : Only (Grow F a b) b c) : Only F a c :=
  ⟨k.os.trans h.os, k.tape.trans h.tape, k.output.trans h.output, Nat.le_trans h.size k.size, fun i hi hn => (k.block i (Nat.lt_of_lt_of_le hi h.size) (by
    rintro (h1 | ⟨h1, _⟩)
    · exact hn h1
    · omega)).trans (h.block i hi hn)⟩
theorem Only.setCell {F : Nat → Prop} {a w : World} (h : Only F a w) {g : Nat} (hg : F g ∨ a.heap.size ≤ g) (i : Nat) (u : Value) : Only F a (w.setCell ⟨g, i, none⟩ u) :=
  ⟨h.os, h.tape, h.output, by simpa [World.setCell] using h.size, fun k hk hn => (Below.heap_setCell w _ u k (fun e => by have e' : k = g := e; rcases hg with h1 | h1; exact hn (e' ▸ h1); omega)).trans (h.block k hk hn)⟩
theorem Only.drew {F : Nat → Prop} {a w : World} (h : Only F a w) : Only F a w.drew := ⟨h.os, h.tape, h.output, h.size, h.block⟩
theorem Only.drewN {F : Nat → Prop} {a w : World} (h : Only F a w) (n : Nat) : Only F a (w.drewN n) := ⟨h.os, h.tape, h.output, h.size, h.block⟩
theorem Only.alloc {F : Nat → Prop} {a w : World} (h : Only F a w) (o : Obj) : Only F a (w.alloc o) :=
  ⟨h.os, h.tape, h.output, by simp; exact Nat.le_succ_of_le h.size, fun k hk hn => (Below.heap_alloc w o k (Nat.lt_of_lt_of_le hk h.size)).trans (h.block k hk hn)⟩
theorem Only.grown {F : Nat → Prop} {a w w' : World} {row : Option Nat} (h : Only F a w) (hg : w.grownBy w' row) (hr : ∀ g, row = some g → F g ∨ a.heap.size ≤ g) : Only F a w' :=
  ⟨hg.os.trans h.os, hg.tape.trans h.tape, hg.output.trans h.output, Nat.le_trans h.size hg.size, fun k hk hn => (hg.block k (Nat.lt_of_lt_of_le hk h.size) (fun he => by
    rcases hr k he.symm with h1 | h1
    · exact hn h1
    · omega)).trans (h.block k hk hn)⟩
theorem Only.below {F : Nat → Prop} {a w w' : World} (h : Only F a w) {B : Nat} (hb : Below B w w') (hB : a.heap.size ≤ B) : Only F a w' :=
  ⟨hb.os.trans h.os, hb.tape.trans h.tape, hb.output.trans h.output, Nat.le_trans h.size hb.size, fun k hk hn => (hb.block k (by omega)).trans (h.block k hk hn)⟩

theorem own_same {w w' : World} {base n size : Nat} {e : TypeId} {v : Value} {xs : List Value} (h : w.ownsRow base e size v n xs) (hs : ∀ k, v.ownBlock = some k → w'.heap[k]? = w.heap[k]?) : w'.ownsRow base e size v n xs := by
  refine ⟨h.1, ?_⟩
  rcases h.2 with h0 | ⟨g, cap, cur, rfl, h2, h3, h4⟩
  · exact .inl h0
  · exact .inr ⟨g, cap, cur, rfl, h2, (hs g rfl).trans h3, h4⟩

theorem own_typ {w : World} {base n size : Nat} {e : TypeId} {v : Value} {xs : List Value} (h : w.ownsRow base e size v n xs) {k : Nat} (hk : v.ownBlock = some k) : ∃ cur, w.heap[k]? = some (.cells cur e (0, 0)) := by
  rcases h.2 with ⟨rfl, _⟩ | ⟨g, cap, cur, rfl, h2, h3, h4⟩
  · cases hk
  · simp only [Value.ownBlock, Option.some.injEq] at hk
    subst hk
    exact ⟨cur, h3⟩

theorem typ_ne {w : World} {a b : Nat} {x y : Array Value} {e f : TypeId} (h : w.heap[a]? = some (.cells x e (0, 0))) (k : w.heap[b]? = some (.cells y f (0, 0))) (hne : e ≠ f) : a ≠ b := by
  rintro rfl
  rw [h] at k
  injection k with k
  injection k with _ k
  exact hne k

section
variable {T : TypeId} {F : Nat → Prop} {w : World} {p : Nat} {G : Gd} {bt ct : Nat} {ov : Value} {gs cs : List Nat}

theorem Vw.T1 (h : Vw T F w p G bt ct ov gs cs) : T ≠ 26 ∧ T ≠ 67 ∧ T ≠ 46 := by rcases h.hT with rfl | rfl <;> decide

theorem Vw.btyp (h : Vw T F w p G bt ct ov gs cs) : ∃ cur, w.heap[bt]? = some (.cells cur 26 (0, 0)) := own_typ h.hts rfl
theorem Vw.gtyp (h : Vw T F w p G bt ct ov gs cs) {k : Nat} (hk : k < G.os.length) : ∃ cur, w.heap[gs.getD k 0]? = some (.cells cur 46 (0, 0)) := own_typ (h.hos k hk).2 rfl

theorem Vw.p_bt (h : Vw T F w p G bt ct ov gs cs) : p ≠ bt := by obtain ⟨_, hb⟩ := h.btyp; exact typ_ne h.hp hb h.T1.1
theorem Vw.p_ov (h : Vw T F w p G bt ct ov gs cs) : ov.ownBlock ≠ some p := fun e => by obtain ⟨_, hb⟩ := own_typ h.hov e; exact typ_ne h.hp hb h.T1.2.1 rfl
theorem Vw.p_g (h : Vw T F w p G bt ct ov gs cs) {k : Nat} (hk : k < G.os.length) : p ≠ gs.getD k 0 := by obtain ⟨_, hb⟩ := h.gtyp hk; exact typ_ne h.hp hb h.T1.2.2
theorem Vw.bt_ov (h : Vw T F w p G bt ct ov gs cs) : ov.ownBlock ≠ some bt := fun e => by obtain ⟨_, hb⟩ := own_typ h.hov e; obtain ⟨_, hc⟩ := h.btyp; exact typ_ne hb hc (by decide) rfl
theorem Vw.bt_g (h : Vw T F w p G bt ct ov gs cs) {k : Nat} (hk : k < G.os.length) : bt ≠ gs.getD k 0 := by obtain ⟨_, hb⟩ := h.gtyp hk; obtain ⟨_, hc⟩ := h.btyp; exact typ_ne hc hb (by decide)
theorem Vw.ov_g (h : Vw T F w p G bt ct ov gs cs) {k : Nat} (hk : k < G.os.length) : ov.ownBlock ≠ some (gs.getD k 0) := fun e => by obtain ⟨_, hb⟩ := own_typ h.hov e; obtain ⟨_, hc⟩ := h.gtyp hk; exact typ_ne hb hc (by decide) rfl
theorem Vw.g_g (h : Vw T F w p G bt ct ov gs cs) {k l : Nat} (hk : k < G.os.length) (hl : l < G.os.length) (hne : k ≠ l) : gs.getD k 0 ≠ gs.getD l 0 := by
  intro e
  have h1 : k < gs.length := by rw [h.hgl]; exact hk
  have h2 : l < gs.length := by rw [h.hgl]; exact hl
  rw [List.getD_eq_getElem?_getD, List.getD_eq_getElem?_getD, List.getElem?_eq_getElem h1, List.getElem?_eq_getElem h2] at e
  have hp := List.pairwise_iff_getElem.1 h.hnd
  rcases Nat.lt_or_gt_of_ne hne with hl' | hl'
  · exact hp k l h1 h2 hl' e
  · exact hp l k h2 h1 hl' e.symm

theorem Vw.plt (h : Vw T F w p G bt ct ov gs cs) : p < w.heap.size := h.hp.lt
theorem Vw.btlt (h : Vw T F w p G bt ct ov gs cs) : bt < w.heap.size := (h.hts.lt bt rfl).2
theorem Vw.glt (h : Vw T F w p G bt ct ov gs cs) {k : Nat} (hk : k < G.os.length) : gs.getD k 0 < w.heap.size := ((h.hos k hk).2.lt _ rfl).2

/-- what did not turn in its own blocks is as it was -/
theorem Vw.same (h : Vw T F w p G bt ct ov gs cs) {w' : World} (hs : ∀ k, F k → k < w.heap.size → w'.heap[k]? = w.heap[k]?) : Vw T F w' p G bt ct ov gs cs :=
  { h with
    hp := (hs p h.fp h.plt).trans h.hp
    hts := own_same h.hts (fun k hk => hs k (by injection hk with hk; exact hk ▸ h.fbt) (h.hts.lt k hk).2)
    hov := own_same h.hov (fun k hk => hs k (h.fov k hk) (h.hov.lt k hk).2)
    hos := fun k hk => ⟨(h.hos k hk).1, own_same (h.hos k hk).2 (fun j hj => hs j (by injection hj with hj; exact hj ▸ (h.hos k hk).1) ((h.hos k hk).2.lt j hj).2)⟩ }

theorem Vw.below (h : Vw T F w p G bt ct ov gs cs) {w' : World} (hb : Below w.heap.size w w') : Vw T F w' p G bt ct ov gs cs := h.same fun k _ hk => hb.block k hk
theorem Vw.only (h : Vw T F w p G bt ct ov gs cs) {w' : World} {E : Nat → Prop} (hb : Only E w w') (hd : ∀ k, F k → ¬ E k) : Vw T F w' p G bt ct ov gs cs := h.same fun k hf hk => hb.block k hk (hd k hf)
theorem Vw.mono (h : Vw T F w p G bt ct ov gs cs) {E : Nat → Prop} (hE : ∀ k, F k → E k) : Vw T E w p G bt ct ov gs cs :=
  { h with fp := hE _ h.fp, fbt := hE _ h.fbt, fov := fun g hg => hE _ (h.fov g hg), hos := fun k hk => ⟨hE _ (h.hos k hk).1, (h.hos k hk).2⟩ }

theorem Gr.below (h : Gr T F w p G) {w' : World} (hb : Below w.heap.size w w') : Gr T F w' p G := by obtain ⟨bt, ct, ov, gs, cs, h⟩ := h; exact ⟨bt, ct, ov, gs, cs, h.below hb⟩
theorem Gr.only (h : Gr T F w p G) {w' : World} {E : Nat → Prop} (hb : Only E w w') (hd : ∀ k, F k → ¬ E k) : Gr T F w' p G := by obtain ⟨bt, ct, ov, gs, cs, h⟩ := h; exact ⟨bt, ct, ov, gs, cs, h.only hb hd⟩
theorem Gr.mono (h : Gr T F w p G) {E : Nat → Prop} (hE : ∀ k, F k → E k) : Gr T E w p G := by obtain ⟨bt, ct, ov, gs, cs, h⟩ := h; exact ⟨bt, ct, ov, gs, cs, h.mono hE⟩

/-- the cells of a thread's roots -/
theorem Vw.rcell (h : Vw T F w p G bt ct ov gs cs) {t : Nat} (ht : t < G.ts.length) :
    w.cell? ⟨bt, t * 9, none⟩ = some (.int .i64 (G.rt t).n) ∧ w.cell? ⟨bt, t * 9 + 1, none⟩ = some (.int .i64 (G.rt t).a0) ∧ w.cell? ⟨bt, t * 9 + 2, none⟩ = some (.int .i64 (G.rt t).a1) ∧
    w.cell? ⟨bt, t * 9 + 3, none⟩ = some (.int .i64 (G.rt t).a2) ∧ w.cell? ⟨bt, t * 9 + 4, none⟩ = some (.int .i64 (G.rt t).a3) ∧ w.cell? ⟨bt, t * 9 + 5, none⟩ = some (.int .i64 (G.rt t).a4) ∧
    w.cell? ⟨bt, t * 9 + 6, none⟩ = some (.int .i64 (G.rt t).a5) ∧ w.cell? ⟨bt, t * 9 + 7, none⟩ = some (.int .i64 (G.rt t).a6) ∧ w.cell? ⟨bt, t * 9 + 8, none⟩ = some (.int .i64 (G.rt t).a7) := by
  have key : ∀ j, j < 9 → w.cell? ⟨bt, t * 9 + j, none⟩ = (rcells (G.rt t))[j]? := fun j hj => (World.ownsRow.cellAt h.hts _ (by omega)).trans (by rw [tflat_at G.ts t ht j hj]; rfl)
  exact ⟨key 0 (by omega), key 1 (by omega), key 2 (by omega), key 3 (by omega), key 4 (by omega), key 5 (by omega), key 6 (by omega), key 7 (by omega), key 8 (by omega)⟩

/-- the objects' row -/
theorem Vw.orow (h : Vw T F w p G bt ct ov gs cs) : ∃ A c, ov = .slice A G.os.length c ∧ ∀ k, k < G.os.length → ∃ b, A = some ⟨b, 0, none⟩ ∧ b < w.heap.size ∧ w.cell? ⟨b, k, none⟩ = some (oval gs cs G.os k) := by
  rcases h.hov.2 with ⟨h1, h2⟩ | ⟨g, cap, cur, hv, hb, hg, hn, hm, hs, ht⟩
  · exact ⟨none, 0, by rw [h1, h2], fun k hk => by omega⟩
  · refine ⟨some ⟨g, 0, none⟩, cap, hv, fun k hk => ⟨g, rfl, ?_, ?_⟩⟩
    · rcases Nat.lt_or_ge g w.heap.size with h1 | h1
      · exact h1
      · rw [Array.getElem?_eq_none h1] at hg; cases hg
    · have h1 := h.hov
      rw [hv] at h1
      exact (World.ownsRow.cellAt h1 k (by omega)).trans (ovals_at gs cs G.os hk)

/-- a field -/
theorem Vw.fcell (h : Vw T F w p G bt ct ov gs cs) {k f : Nat} (hk : k < G.os.length) (hf : f < (G.os.getD k []).length) :
    w.cell? ⟨gs.getD k 0, f * 2, none⟩ = some (.int .i64 ((G.os.getD k []).getD f default).k) ∧ w.cell? ⟨gs.getD k 0, f * 2 + 1, none⟩ = some (.int .i64 ((G.os.getD k []).getD f default).n) := by
  obtain ⟨h1, h2⟩ := vflat_at _ f hf
  exact ⟨(World.ownsRow.cellAt (h.hos k hk).2 _ (by omega)).trans h1, (World.ownsRow.cellAt (h.hos k hk).2 _ (by omega)).trans h2⟩
end

end Go.Proofs.Ytlogojiphjpknaa
