/- A shape's numbers are those of its objects, each met ahead of what has a greater one. No program in sight. -/
import Derived.Test.YtlogojiphjpknaaGShapeP
namespace Go.Proofs.Ytlogojiphjpknaa
namespace Gd

theorem num_met (met : List Int) (id : Int) : 0 ≤ (num met id).2 ∧ (num met id).2 ≤ met.length + 1 ∧ ((num met id).1.length : Int) = max (met.length : Int) (num met id).2 := by
  unfold num
  split
  · exact ⟨Int.le_refl _, by simp only; omega, by simp only; omega⟩
  · split
    · rename_i h
      have := List.idxOf_lt_length_iff.2 h
      refine ⟨by simp only; omega, by simp only; omega, by simp only; omega⟩
    · refine ⟨by simp only; omega, by simp only; omega, ?_⟩
      simp only [List.length_append, List.length_singleton]
      omega

theorem nums_at : ∀ (l : List Int) (met : List Int) (i : Nat), i < l.length →
    (nums met l).2.getD i 0 = (num (nums met (l.take i)).1 (l.getD i 0)).2 ∧ (nums met (l.take (i + 1))).1 = (num (nums met (l.take i)).1 (l.getD i 0)).1
  | [], _, i, h => by cases h
  | x :: l, met, 0, _ => ⟨rfl, rfl⟩
  | x :: l, met, i + 1, h => nums_at l (num met x).1 i (by simpa using h)
theorem numVs_at : ∀ (l : List V) (met : List Int) (i : Nat), i < l.length →
    (numVs met l).2.getD i default = (numV (numVs met (l.take i)).1 (l.getD i default)).2 ∧ (numVs met (l.take (i + 1))).1 = (numV (numVs met (l.take i)).1 (l.getD i default)).1
  | [], _, i, h => by cases h
  | x :: l, met, 0, _ => ⟨rfl, rfl⟩
  | x :: l, met, i + 1, h => numVs_at l (numV met x).1 i (by simpa using h)
theorem numRs_at : ∀ (l : List Rt) (met : List Int) (i : Nat), i < l.length →
    (numRs met l).2.getD i [] = (nums (numRs met (l.take i)).1 (ids (l.getD i Rt.zero))).2 ∧ (numRs met (l.take (i + 1))).1 = (nums (numRs met (l.take i)).1 (ids (l.getD i Rt.zero))).1
  | [], _, i, h => by cases h
  | x :: l, met, 0, _ => ⟨rfl, rfl⟩
  | x :: l, met, i + 1, h => numRs_at l (nums met (ids x)).1 i (by simpa using h)
theorem nums_len : ∀ (l : List Int) (met : List Int), (nums met l).2.length = l.length
  | [], _ => rfl
  | x :: l, met => by simp [nums, nums_len l]
theorem numVs_len : ∀ (l : List V) (met : List Int), (numVs met l).2.length = l.length
  | [], _ => rfl
  | x :: l, met => by simp [numVs, numVs_len l]
theorem numRs_len : ∀ (l : List Rt) (met : List Int), (numRs met l).2.length = l.length
  | [], _ => rfl
  | x :: l, met => by simp [numRs, numRs_len l]

theorem run_row (G : Gd) : ∀ (j i : Nat), i < j → (G.run j).2.getD i [] = (numVs (G.run i).1 (G.ob ((G.run i).1.getD i 0))).2
  | 0, i, h => by cases h
  | j + 1, i, h => by
    have e : (G.run (j + 1)).2 = (G.run j).2 ++ [(numVs (G.run j).1 (G.ob ((G.run j).1.getD (G.run j).2.length 0))).2] := rfl
    rw [e, List.getD_eq_getElem?_getD]
    by_cases hi : i < j
    · rw [List.getElem?_append_left (by rw [run_length]; exact hi), ← List.getD_eq_getElem?_getD]
      exact run_row G j i hi
    · obtain rfl : i = j := by omega
      rw [List.getElem?_append_right (by rw [run_length]; exact Nat.le_refl _), run_length, Nat.sub_self]
      rfl
theorem run_met (G : Gd) (j : Nat) : (G.run (j + 1)).1 = (numVs (G.run j).1 (G.ob ((G.run j).1.getD j 0))).1 := by
  have e : (G.run (j + 1)).1 = (numVs (G.run j).1 (G.ob ((G.run j).1.getD (G.run j).2.length 0))).1 := rfl
  rw [e, run_length]
end Gd

/-- how many were met ahead of the i-th number of the t-th row of roots, ahead of the f-th field of the k-th object -/
structure Nums (m : Nat) (R : List (List Int)) (L : List (List V)) (MR ML : Nat → Nat → Nat) : Prop where
  br : ∀ t i, MR t i ≤ m
  bl : ∀ k f, ML k f ≤ m
  z : MR 0 0 = 0
  r : ∀ t i, t < R.length → i < (R.getD t []).length → 0 ≤ (R.getD t []).getD i 0 ∧ (R.getD t []).getD i 0 ≤ MR t i + 1 ∧ (MR t (i + 1) : Int) = max (MR t i : Int) ((R.getD t []).getD i 0)
  rn : ∀ t, t < R.length → MR (t + 1) 0 = MR t (R.getD t []).length
  l : MR R.length 0 = ML 0 0
  k : ∀ k, k < L.length → k < ML k 0
  f : ∀ k f, k < L.length → f < (L.getD k []).length → (((L.getD k []).getD f default).k = 1 → 0 ≤ ((L.getD k []).getD f default).n ∧ ((L.getD k []).getD f default).n ≤ ML k f + 1 ∧ (ML k (f + 1) : Int) = max (ML k f : Int) ((L.getD k []).getD f default).n) ∧
    (((L.getD k []).getD f default).k ≠ 1 → ML k (f + 1) = ML k f)
  kn : ∀ k, k < L.length → ML (k + 1) 0 = ML k (L.getD k []).length
  e : ML L.length 0 = L.length

theorem nums_of {G : Gd} {R : List (List Int)} {L : List (List V)} (hok : G.Ok) (h : G.Is R L) : R.length = G.ts.length ∧ ∃ MR ML, Nums G.os.length R L MR ML := by
  obtain ⟨rfl, j, rfl, hj, hi⟩ := h
  refine ⟨Gd.numRs_len _ _, fun t i => (Gd.nums (Gd.numRs [] (G.ts.take t)).1 ((Gd.ids (G.ts.getD t Rt.zero)).take i)).1.length,
    fun k f => (Gd.numVs (G.run k).1 ((G.ob ((G.run k).1.getD k 0)).take f)).1.length, ?_, ?_, ?_, ?_, ?_, ?_, ?_, ?_, ?_, ?_⟩
  · intro t i
    refine (Gd.nums_ok _ (Gd.numRs_ok _ ⟨List.Pairwise.nil, fun _ hx => by cases hx⟩ (fun r hr => hok.rs r (List.mem_of_mem_take hr))) (fun x hx => Gd.ids_ok (r := G.ts.getD t Rt.zero) ?_ x (List.mem_of_mem_take hx))).length
    exact hok.rt (t : Int)
  · intro k f
    exact (Gd.numVs_ok _ (Gd.run_ok hok k) (fun v hv => (hok.ob _).1 v (List.mem_of_mem_take hv))).length
  · rfl
  · intro t i ht hit
    rw [Gd.numRs_len] at ht
    obtain ⟨e1, e2⟩ := Gd.numRs_at G.ts [] t ht
    rw [e1] at hit ⊢
    rw [Gd.nums_len] at hit
    obtain ⟨e3, e4⟩ := Gd.nums_at _ (Gd.numRs [] (G.ts.take t)).1 i hit
    rw [e3, e4]
    exact Gd.num_met _ _
  · intro t ht
    rw [Gd.numRs_len] at ht
    obtain ⟨e1, e2⟩ := Gd.numRs_at G.ts [] t ht
    show (Gd.nums (Gd.numRs [] (G.ts.take (t + 1))).1 ((Gd.ids _).take 0)).1.length = _
    rw [List.take_zero, e1, Gd.nums_len, List.take_length, e2]
    rfl
  · show (Gd.nums (Gd.numRs [] (G.ts.take _)).1 ((Gd.ids _).take 0)).1.length = (Gd.numVs (G.run 0).1 ((G.ob _).take 0)).1.length
    rw [Gd.numRs_len, List.take_zero, List.take_length, List.take_zero]
    rfl
  · intro k hk
    rw [Gd.run_length] at hk
    show k < (Gd.numVs (G.run k).1 ((G.ob _).take 0)).1.length
    rw [List.take_zero]
    exact hi k hk
  · intro k f hk hf
    rw [Gd.run_length] at hk
    rw [Gd.run_row G j k hk] at hf ⊢
    rw [Gd.numVs_len] at hf
    obtain ⟨e3, e4⟩ := Gd.numVs_at _ (G.run k).1 f hf
    rw [e3, e4]
    generalize (Gd.numVs (G.run k).1 ((G.ob ((G.run k).1.getD k 0)).take f)).1 = m
    generalize (G.ob ((G.run k).1.getD k 0)).getD f default = v
    unfold Gd.numV
    by_cases hv : v.k = 1
    · rw [if_pos hv]
      exact ⟨fun _ => Gd.num_met _ _, fun h => absurd hv h⟩
    · rw [if_neg hv]
      exact ⟨fun h => absurd h hv, fun _ => rfl⟩
  · intro k hk
    rw [Gd.run_length] at hk
    show (Gd.numVs (G.run (k + 1)).1 ((G.ob _).take 0)).1.length = _
    rw [List.take_zero, Gd.run_row G j k hk, Gd.numVs_len, List.take_length, Gd.run_met]
    rfl
  · rw [Gd.run_length]
    show (Gd.numVs (G.run j).1 ((G.ob _).take 0)).1.length = j
    rw [List.take_zero]
    exact hj

end Go.Proofs.Ytlogojiphjpknaa
