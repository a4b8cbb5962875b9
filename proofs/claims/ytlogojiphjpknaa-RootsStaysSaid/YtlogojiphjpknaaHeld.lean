/- A region that draws its order, in which no slot is written twice and whose operations give the same in whatever order: shown once for each operation, at the frame behind the region. -/
import Derived.Test.YtlogojiphjpknaaExt
import Derived.Orders
namespace Go.Proofs.Ytlogojiphjpknaa
open Go.RowKit

def dstAt (ops : Array Oper) (j : Nat) : Option Tmp := (ops[j]?).bind Oper.dst
theorem dst_lt {ops : Array Oper} {j : Nat} {t : Tmp} (h : dstAt ops j = some t) : j < ops.size := by
  rcases Nat.lt_or_ge j ops.size with h1 | h1
  · exact h1
  · simp [dstAt, Array.getElem?_eq_none h1] at h
theorem dst_of {ops : Array Oper} {j : Nat} {o : Oper} (h : ops[j]? = some o) : dstAt ops j = o.dst := by simp [dstAt, h]

def bound (o : Oper) (j : Nat) : Bool := o.after.any fun e => Region.binds .any e && e.on == j
def wrote (ops : Array Oper) (j : Nat) (t : Tmp) : Bool := dstAt ops j == some t

def opOk (ops : Array Oper) (i : Nat) (o : Oper) : Bool :=
  (o.after.all fun e => !Region.binds .any e || decide (e.on < i)) &&
  ((o.looksAt ops).all fun t => (List.range ops.size).all fun j => !wrote ops j t || bound o j) &&
  (match o.dst with
   | none => true
   | some d => (List.range ops.size).all fun j => j == i || !wrote ops j d) &&
  (match o.op with
   | .select _ _ => false
   | _ => true)

def regionOk (ops : Array Oper) : Bool := (List.range ops.size).all fun i => match ops[i]? with
  | none => true
  | some o => opOk ops i o

structure OpFacts (ops : Array Oper) (i : Nat) (o : Oper) : Prop where
  early : ∀ e ∈ o.after, Region.binds .any e = true → e.on < i
  looks : ∀ t ∈ o.looksAt ops, ∀ j, dstAt ops j = some t → ∃ e ∈ o.after, Region.binds .any e = true ∧ e.on = j
  once : ∀ d, o.dst = some d → ∀ j, dstAt ops j = some d → j = i
  plain : ∀ cs b, o.op ≠ .select cs b

theorem opFacts {ops : Array Oper} (h : regionOk ops = true) {i : Nat} {o : Oper} (ho : ops[i]? = some o) : OpFacts ops i o := by
  have hi : i < ops.size := by
    rcases Nat.lt_or_ge i ops.size with h1 | h1
    · exact h1
    · rw [Array.getElem?_eq_none h1] at ho; cases ho
  unfold regionOk at h
  have := List.all_eq_true.1 h i (List.mem_range.2 hi)
  rw [ho] at this
  simp only [opOk, Bool.and_eq_true] at this
  obtain ⟨⟨⟨h1, h2⟩, h3⟩, h4⟩ := this
  refine ⟨fun e he hb => ?_, fun t ht j hj => ?_, fun d hd j hj => ?_, fun cs b hs => ?_⟩
  · obtain ⟨q, hq, rfl⟩ := Array.mem_iff_getElem.1 he
    have := Array.all_eq_true.1 h1 q hq
    simpa [hb] using this
  · have := List.all_eq_true.1 (List.all_eq_true.1 h2 t ht) j (List.mem_range.2 (dst_lt hj))
    simp only [wrote, hj, beq_self_eq_true, Bool.not_true, Bool.false_or, bound] at this
    obtain ⟨q, hq, he⟩ := Array.any_eq_true.1 this
    simp only [Bool.and_eq_true, beq_iff_eq] at he
    exact ⟨_, Array.getElem_mem hq, he.1, he.2⟩
  · rw [hd] at h3
    have := List.all_eq_true.1 h3 j (List.mem_range.2 (dst_lt hj))
    simp only [wrote, hj, beq_self_eq_true, Bool.not_true, Bool.or_false, beq_iff_eq] at this
    exact this
  · rw [hs] at h4; cases h4

/-- which operations have come up, and what the frame then holds -/
structure At (ops : Array Oper) (a aF : Act) (l : Array Bool) (b : Act) : Prop where
  defers : b.defers = a.defers
  size : l.size = ops.size
  done : ∀ t : Tmp, (∃ j, l.getD j false = true ∧ dstAt ops j = some t) → b.tmps[t]? = aF.tmps[t]?
  left : ∀ t : Tmp, (¬ ∃ j, l.getD j false = true ∧ dstAt ops j = some t) → b.tmps[t]? = a.tmps[t]?
  deps : ∀ i o, l.getD i false = true → ops[i]? = some o → ∀ e ∈ o.after, Region.binds .any e = true → l.getD e.on false = true

theorem getD_set {l : Array Bool} {i j : Nat} (hi : i < l.size) : (l.setIfInBounds i true).getD j false = (if i = j then true else l.getD j false) := by
  simp only [Array.getD_eq_getD_getElem?, Array.getElem?_setIfInBounds]
  by_cases h : i = j
  · subst h; simp [hi]
  · simp [h]

section
variable {P : Program} {ops : Array Oper} {a aF : Act}

/-- the frame at an operation's turn agrees with the last one in all that the operation looks at -/
theorem At.looks (hout : ∀ t : Tmp, (¬ ∃ j, dstAt ops j = some t) → aF.tmps[t]? = a.tmps[t]?) {l : Array Bool} {b : Act} (h : At ops a aF l b) {i : Nat} {o : Oper} (hf : OpFacts ops i o)
    (hready : ∀ e ∈ o.after, Region.binds .any e = true → l.getD e.on false = true) {t : Tmp} (ht : t ∈ o.looksAt ops) : b.tmps[t]? = aF.tmps[t]? := by
  by_cases hw : ∃ j, dstAt ops j = some t
  · obtain ⟨j, hj⟩ := hw
    obtain ⟨e, he, hb, rfl⟩ := hf.looks t ht j hj
    exact h.done t ⟨e.on, hready e he hb, hj⟩
  · rw [h.left t (fun ⟨j, _, hj⟩ => hw ⟨j, hj⟩), hout t hw]

theorem At.put {l : Array Bool} {b : Act} (h : At ops a aF l b) {i : Nat} {o : Oper} (ho : ops[i]? = some o) (hi : i < ops.size) (hsz : aF.tmps.size = a.tmps.size)
    (hready : ∀ e ∈ o.after, Region.binds .any e = true → l.getD e.on false = true) {v : Value} (hput : aF.put o.dst v = aF) : At ops a aF (l.setIfInBounds i true) (b.put o.dst v) := by
  have hb : b.tmps.size = a.tmps.size := by
    rcases Nat.lt_trichotomy b.tmps.size a.tmps.size with hlt | heq | hgt
    · exfalso
      have h1 : b.tmps[b.tmps.size]? = none := Array.getElem?_eq_none (Nat.le_refl _)
      by_cases hx : ∃ j, l.getD j false = true ∧ dstAt ops j = some b.tmps.size
      · have := h.done _ hx
        rw [h1, Array.getElem?_eq_getElem (by omega)] at this
        cases this
      · have := h.left _ hx
        rw [h1, Array.getElem?_eq_getElem (by omega)] at this
        cases this
    · exact heq
    · exfalso
      have h1 : b.tmps[a.tmps.size]? = some (b.tmps[a.tmps.size]) := Array.getElem?_eq_getElem hgt
      by_cases hx : ∃ j, l.getD j false = true ∧ dstAt ops j = some a.tmps.size
      · have := h.done _ hx
        rw [h1, Array.getElem?_eq_none (by omega)] at this
        cases this
      · have := h.left _ hx
        rw [h1, Array.getElem?_eq_none (by omega)] at this
        cases this
  have hl : i < l.size := by rw [h.size]; exact hi
  refine ⟨?_, by rw [Array.size_setIfInBounds]; exact h.size, fun t ht => ?_, fun t ht => ?_, fun k ok hk hok e he hbe => ?_⟩
  · cases hd : o.dst <;> simp [Act.put, h.defers]
  · cases hd : o.dst with
    | none =>
      simp only [Act.put]
      obtain ⟨j, hj, hjt⟩ := ht
      rw [getD_set hl] at hj
      by_cases hij : i = j
      · subst hij; rw [dst_of ho, hd] at hjt; cases hjt
      · rw [if_neg hij] at hj; exact h.done t ⟨j, hj, hjt⟩
    | some d =>
      have hv : aF.tmps.setIfInBounds d v = aF.tmps := by
        have := congrArg Act.tmps hput
        simpa [Act.put, hd] using this
      simp only [Act.put, Array.getElem?_setIfInBounds]
      by_cases hdt : d = t
      · subst hdt
        rw [if_pos rfl]
        by_cases hs : d < b.tmps.size
        · rw [if_pos hs]
          have h2 : (aF.tmps.setIfInBounds d v)[d]? = some v := by simp [show d < aF.tmps.size by rw [hsz, ← hb]; exact hs]
          rw [hv] at h2
          exact h2.symm
        · rw [if_neg hs, Array.getElem?_eq_none (by rw [hsz, ← hb]; exact Nat.le_of_not_lt hs)]
      · rw [if_neg hdt]
        obtain ⟨j, hj, hjt⟩ := ht
        rw [getD_set hl] at hj
        by_cases hij : i = j
        · subst hij; rw [dst_of ho, hd] at hjt; injection hjt with hjt; exact absurd hjt hdt
        · rw [if_neg hij] at hj; exact h.done t ⟨j, hj, hjt⟩
  · have hnot : ¬ ∃ j, l.getD j false = true ∧ dstAt ops j = some t := fun ⟨j, hj, hjt⟩ => ht ⟨j, by rw [getD_set hl]; split <;> simp_all, hjt⟩
    cases hd : o.dst with
    | none => simp only [Act.put]; exact h.left t hnot
    | some d =>
      simp only [Act.put, Array.getElem?_setIfInBounds]
      have hdt : d ≠ t := fun e => ht ⟨i, by rw [getD_set hl]; simp, by rw [dst_of ho, hd, e]⟩
      rw [if_neg hdt]
      exact h.left t hnot
  · rw [getD_set hl] at hk ⊢
    by_cases hik : i = k
    · subst hik
      rw [ho] at hok
      cases hok
      split
      · rfl
      · exact hready e he hbe
    · rw [if_neg hik] at hk
      split
      · rfl
      · exact h.deps k ok hk hok e he hbe

def Still (aF : Act) (R : World → Prop) (b : Act) (w : World) : Prop := b = aF ∧ R w

theorem no_defer {d : Deferred} {l : List Deferred} : d :: l ≠ l := fun h => by
  have := congrArg List.length h
  simp at this

/-- one operation, carried over from the last frame to the one at its turn -/
theorem upon_carry {Q : Exit → Act → World → Prop} {K : Act → World → Prop} {R : World → Prop} {o : Oper} {b : Act} {r : Result Next}
    (h : o.upon P aF (Still aF R) (fun _ _ _ => False) r)
    (hK : ∀ v w, aF.put o.dst v = aF → R w → K (b.put o.dst v) w) : o.upon P b K Q r := by
  have hlets : ¬ LetsOut (fun _ _ _ => False) := fun ⟨_, _, h⟩ => h
  cases r with
  | ok n w' =>
    cases n with
    | value v => exact hK v w' h.1 h.2
    | skip => exact hK undef w' h.1 h.2
    | defer d =>
      exfalso
      have := congrArg Act.defers h.1
      cases hd : o.dst <;> simp [Act.put, hd] at this
    | enter f args =>
      refine Calls.mono h fun e w'' he => ?_
      cases e with
      | returned v => exact hK v w'' he.1 he.2
      | panicked c => exact he.elim
      | outgrown => exact (hlets he).elim
    | row row args => exact Rows.mono h fun v w'' he => hK v w'' he.1 he.2
    | _ => exact h
  | halt x w' => cases x <;> exact (h : False).elim

theorem wpOp_carry {Q : Exit → Act → World → Prop} {K : Act → World → Prop} {R : World → Prop} {i : Nat} {o : Oper} {b : Act} {w : World} (ho : ops[i]? = some o) (hf : OpFacts ops i o)
    (hlook : ∀ t ∈ o.looksAt ops, b.tmps[t]? = aF.tmps[t]?)
    (hyes : Region.wanted o (yielded ops aF.tmps) = true → o.wp P aF w (Still aF R) (fun _ _ _ => False))
    (hno : Region.wanted o (yielded ops aF.tmps) = false → aF.put o.dst undef = aF ∧ R w)
    (hK : ∀ v w, aF.put o.dst v = aF → R w → K (b.put o.dst v) w) : wpOp P ops Q i K b w := by
  have hw : Region.wanted o (yielded ops b.tmps) = Region.wanted o (yielded ops aF.tmps) := by
    unfold Region.wanted
    cases hg : o.guard with
    | none => rfl
    | some g =>
      obtain ⟨j, want⟩ := g
      simp only
      unfold yielded
      cases hd : (ops[j]?).bind (fun x : Oper => x.dst) with
      | none => rfl
      | some t =>
        have : b.tmps[t]? = aF.tmps[t]? := hlook t (by unfold Oper.looksAt; rw [hg]; simp [hd])
        simp only [Option.bind_some, this]
  unfold wpOp
  rw [ho]
  simp only [hw]
  cases hc : Region.wanted o (yielded ops aF.tmps) with
  | false =>
    simp only [Bool.false_eq_true, if_false]
    exact hK undef w (hno hc).1 (hno hc).2
  | true =>
    simp only [if_true]
    refine .inl ?_
    have h := hyes hc
    unfold Oper.wp at h ⊢
    have he : execOp b.eval o = execOp aF.eval o := execOp_congr o hf.plain fun x hx => by
      cases x with
      | tmp t =>
        have : b.tmps[t]? = aF.tmps[t]? := hlook t (by
          unfold Oper.looksAt
          refine List.mem_append_left _ (List.mem_filterMap.2 ⟨.tmp t, by simpa using hx, rfl⟩))
        simp only [Act.eval, Array.getD_eq_getD_getElem?, this]
      | _ => rfl
    rw [he]
    exact upon_carry h hK

/-- A region that draws its order: each operation shown once. -/
theorem region_held {Q : Exit → Act → World → Prop} {id : Nat} {w : World} (aF : Act) (S : Array Bool → World → Prop) (hm : P.follows .mixedOrders = true) (hok : regionOk ops = true)
    (hd : aF.defers = a.defers) (hsz : aF.tmps.size = a.tmps.size) (hout : ∀ t : Tmp, (¬ ∃ j, dstAt ops j = some t) → aF.tmps[t]? = a.tmps[t]?)
    (h0 : S (Array.replicate ops.size false) w.drew)
    (hops : ∀ i o, ops[i]? = some o → ∀ l w, l.getD i false = false → (∀ e ∈ o.after, Region.binds .any e = true → l.getD e.on false = true) → S l w →
      (Region.wanted o (yielded ops aF.tmps) = true → o.wp P aF w (Still aF (S (l.setIfInBounds i true))) (fun _ _ _ => False)) ∧
      (Region.wanted o (yielded ops aF.tmps) = false → aF.put o.dst undef = aF ∧ S (l.setIfInBounds i true) w))
    (hfin : ∀ l w, (∀ i, i < ops.size → l.getD i false = true) → S l w → Q .normal aF w) : (Code.region id ops true).wp P Q a w := by
  refine wp_region_any hm ?_
  have key : ∀ (fuel : Nat) (l : Array Bool) (b : Act) (w : World), At ops a aF l b → S l w → (l.toList.filter (!·)).length ≤ fuel → wpAny P .any ops Q fuel l b w := by
    have hfull : ∀ (l : Array Bool) (b : Act) (w : World), At ops a aF l b → S l w → Region.ready .any ops l = [] → Q .normal b w := by
      intro l b w hA hS hr
      have hall : ∀ n i, i ≤ n → i < ops.size → l.getD i false = true := by
        intro n
        induction n with
        | zero =>
          intro i hi hlt
          obtain rfl : i = 0 := by omega
          rcases hb : l.getD 0 false with _ | _
          · exfalso
            have : (0 : Nat) ∈ Region.ready .any ops l := by
              rw [mem_ready]
              refine ⟨?_, ops[0], Array.getElem?_eq_getElem hlt, ?_⟩
              · have hls := hA.size
                simp only [Array.getD_eq_getD_getElem?] at hb ⊢
                rw [Array.getElem?_eq_getElem (by omega)] at hb ⊢
                simpa using hb
              · intro e he hbe
                have := (opFacts hok (Array.getElem?_eq_getElem hlt)).early e he hbe
                omega
            rw [hr] at this
            cases this
          · rfl
        | succ n ih =>
          intro i hi hlt
          rcases Nat.lt_or_ge i (n + 1) with h1 | h1
          · exact ih i (by omega) hlt
          rcases hb : l.getD i false with _ | _
          · exfalso
            have : i ∈ Region.ready .any ops l := by
              rw [mem_ready]
              refine ⟨?_, ops[i], Array.getElem?_eq_getElem hlt, ?_⟩
              · have hls := hA.size
                simp only [Array.getD_eq_getD_getElem?] at hb ⊢
                rw [Array.getElem?_eq_getElem (by omega)] at hb ⊢
                simpa using hb
              · intro e he hbe
                have := (opFacts hok (Array.getElem?_eq_getElem hlt)).early e he hbe
                exact ih e.on (by omega) (by omega)
            rw [hr] at this
            cases this
          · rfl
      have hb : b = aF := by
        have ht : b.tmps = aF.tmps := by
          apply Array.ext_getElem?
          intro t
          by_cases hw : ∃ j, dstAt ops j = some t
          · obtain ⟨j, hj⟩ := hw
            exact hA.done t ⟨j, hall j j (Nat.le_refl _) (dst_lt hj), hj⟩
          · rw [hA.left t (fun ⟨j, _, hj⟩ => hw ⟨j, hj⟩), hout t hw]
        have hdf := hA.defers.trans hd.symm
        cases b; cases aF
        simp_all
      subst hb
      exact hfin l w (fun i hi => hall i i (Nat.le_refl _) hi) hS
    intro fuel
    induction fuel with
    | zero =>
      intro l b w hA hS hlen
      have hr : Region.ready .any ops l = [] := by
        rw [List.eq_nil_iff_forall_not_mem]
        intro i hi
        obtain ⟨hun, o, ho, _⟩ := mem_ready.1 hi
        have hlt : i < ops.size := by
          rcases Nat.lt_or_ge i ops.size with h1 | h1
          · exact h1
          · rw [Array.getElem?_eq_none h1] at ho; cases ho
        have hls := hA.size
        have : false ∈ l.toList.filter (!·) := by
          simp only [Array.getD_eq_getD_getElem?] at hun
          rw [Array.getElem?_eq_getElem (by omega)] at hun
          simp only [Option.getD_some] at hun
          refine List.mem_filter.2 ⟨?_, rfl⟩
          rw [← hun]
          exact Array.mem_toList_iff.2 (Array.getElem_mem _)
        have h0 : l.toList.filter (!·) = [] := List.eq_nil_of_length_eq_zero (Nat.le_zero.1 hlen)
        rw [h0] at this
        cases this
      exact ⟨hr, hfull l b w hA hS hr⟩
    | succ fuel ih =>
      intro l b w hA hS hlen
      refine ⟨hfull l b w hA hS, fun i hi => ?_⟩
      obtain ⟨hun, o, ho, hre⟩ := mem_ready.1 hi
      have hlt : i < ops.size := by
        rcases Nat.lt_or_ge i ops.size with h1 | h1
        · exact h1
        · rw [Array.getElem?_eq_none h1] at ho; cases ho
      have hls := hA.size
      have hun' : l[i]? = some false := by
        simp only [Array.getD_eq_getD_getElem?] at hun
        rw [Array.getElem?_eq_getElem (by omega)] at hun ⊢
        simpa using hun
      have hf := opFacts hok ho
      have h := hops i o ho l w (by simp [Array.getD_eq_getD_getElem?, hun']) hre hS
      refine wpOp_carry (R := S (l.setIfInBounds i true)) ho hf (fun t ht => hA.looks hout hf hre ht) h.1 h.2 fun v w' hv hR => ?_
      refine ih _ _ _ (hA.put ho hlt hsz hre hv) hR ?_
      have : (l.setIfInBounds i true).toList.filter (!·) = (l.toList.eraseIdx i).filter (!·) := by
        rw [Array.toList_setIfInBounds]
        have hi' : i < l.toList.length := by simp; omega
        rw [List.set_eq_take_append_cons_drop, if_pos hi', List.eraseIdx_eq_take_drop_succ]
        simp
      rw [this]
      have h2 : (l.toList.filter (!·)).length = ((l.toList.eraseIdx i).filter (!·)).length + 1 := by
        have hi' : i < l.toList.length := by simp; omega
        conv => lhs; rw [← List.take_append_drop i l.toList, List.drop_eq_getElem_cons hi']
        have hx : l.toList[i] = false := by
          have := hun'
          rw [Array.getElem?_eq_getElem (by omega)] at this
          simpa using this
        rw [List.eraseIdx_eq_take_drop_succ]
        simp [List.filter_append, hx]
        omega
      omega
  refine key ops.size _ a _ ⟨rfl, by simp, fun t ⟨j, hj, _⟩ => ?_, fun t _ => rfl, fun i o hi => ?_⟩ h0 ?_
  · simp [Array.getD_eq_getD_getElem?, Array.getElem?_replicate] at hj
    split at hj <;> simp_all
  · simp [Array.getD_eq_getD_getElem?, Array.getElem?_replicate] at hi
    split at hi <;> simp_all
  · simp

/-- the frame with some slots written -/
def puts (l : List (Tmp × Value)) (a : Act) : Act := l.foldl (fun b p => b.put (some p.1) p.2) a

theorem puts_defers (l : List (Tmp × Value)) : ∀ a : Act, (puts l a).defers = a.defers := by
  induction l with
  | nil => exact fun _ => rfl
  | cons p l ih => exact fun a => ih _
theorem puts_size (l : List (Tmp × Value)) : ∀ a : Act, (puts l a).tmps.size = a.tmps.size := by
  induction l with
  | nil => exact fun _ => rfl
  | cons p l ih => exact fun a => (ih _).trans (by simp [Act.put])
theorem puts_other (l : List (Tmp × Value)) (t : Tmp) (h : ∀ p ∈ l, p.1 ≠ t) : ∀ a : Act, (puts l a).tmps[t]? = a.tmps[t]? := by
  induction l with
  | nil => exact fun _ => rfl
  | cons p l ih =>
    exact fun a => (ih (fun q hq => h q (List.mem_cons_of_mem _ hq)) _).trans (by simp [Act.put, h p List.mem_cons_self])

def EachOp (C : Nat → Oper → Prop) : Nat → List Oper → Prop
  | _, [] => True
  | k, o :: r => C k o ∧ EachOp C (k + 1) r

theorem eachOp {C : Nat → Oper → Prop} : ∀ (l : List Oper) (k : Nat), EachOp C k l → ∀ i o, l[i]? = some o → C (k + i) o
  | [], _, _, i, o, h => by simp at h
  | x :: r, k, h, 0, o, ho => by simp at ho; subst ho; exact h.1
  | x :: r, k, h, i + 1, o, ho => by
    have := eachOp r (k + 1) h.2 i o (by simpa using ho)
    rwa [show k + 1 + i = k + (i + 1) by omega] at this

/-- what is to be shown of an operation -/
def OpHeld (P : Program) (ops : Array Oper) (aF : Act) (S : Array Bool → World → Prop) (i : Nat) (o : Oper) : Prop :=
  ∀ l w, l.getD i false = false → (∀ e ∈ o.after, Region.binds .any e = true → l.getD e.on false = true) → S l w →
    (Region.wanted o (yielded ops aF.tmps) = true → o.wp P aF w (Still aF (S (l.setIfInBounds i true))) (fun _ _ _ => False)) ∧
    (Region.wanted o (yielded ops aF.tmps) = false → aF.put o.dst undef = aF ∧ S (l.setIfInBounds i true) w)

/-- 'region_held', the frame behind the region given by the slots that the region writes -/
theorem region_puts {Q : Exit → Act → World → Prop} {id : Nat} {w : World} (ps : List (Tmp × Value)) (S : Array Bool → World → Prop) (hm : P.follows .mixedOrders = true) (hok : regionOk ops = true)
    (hps : (ps.all fun p => (List.range ops.size).any fun j => dstAt ops j == some p.1) = true)
    (h0 : S (Array.replicate ops.size false) w.drew)
    (hops : EachOp (OpHeld P ops (puts ps a) S) 0 ops.toList)
    (hfin : ∀ l w, (∀ i, i < ops.size → l.getD i false = true) → S l w → Q .normal (puts ps a) w) : (Code.region id ops true).wp P Q a w := by
  refine region_held (puts ps a) S hm hok (puts_defers _ _) (puts_size _ _) (fun t ht => puts_other _ _ (fun p hp hpt => ht ?_) _) h0 (fun i o ho => ?_) hfin
  · have := List.all_eq_true.1 hps p hp
    obtain ⟨j, _, hj⟩ := List.any_eq_true.1 this
    exact ⟨j, by rw [← hpt]; simpa using hj⟩
  · have := eachOp ops.toList 0 hops i o (by simpa using ho)
    rwa [Nat.zero_add] at this
end

end Go.Proofs.Ytlogojiphjpknaa
