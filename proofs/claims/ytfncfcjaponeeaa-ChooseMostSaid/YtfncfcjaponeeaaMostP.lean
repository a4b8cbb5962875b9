/- Those that are picked fit, and one more would not. No program in sight. -/
import Derived.Test.YtfncfcjaponeeaaTurnP
import Derived.Test.YtfncfcjaponeeaaOrderP
import Derived.Test.YtfncfcjaponeeaaRefW
namespace Go.Proofs.Ytfncfcjaponeeaa

def sumL : List C → Int
  | [] => 0
  | x :: s => x.l + sumL s
theorem sumL_append (s t : List C) : sumL (s ++ t) = sumL s + sumL t := by
  induction s with
  | nil => simp [sumL]
  | cons x s ih => simp [sumL, ih]; omega

theorem greedy_sum : ∀ (s : List C) (m : Int), 0 ≤ m →
    sumL (s.take (greedy s m).length) ≤ m ∧ ((greedy s m).length < s.length → m < sumL (s.take (greedy s m).length) + (at_ s (greedy s m).length).l)
  | [], m, hm => by simp [greedy, sumL]; exact hm
  | x :: s, m, hm => by
    unfold greedy
    by_cases h : x.l ≤ m
    · rw [if_pos h]
      obtain ⟨h1, h2⟩ := greedy_sum s (m - x.l) (by omega)
      simp only [List.length_cons, List.take_succ_cons, sumL]
      refine ⟨by omega, fun hl => ?_⟩
      have h3 := h2 (by omega)
      have e : at_ (x :: s) ((greedy s (m - x.l)).length + 1) = at_ s (greedy s (m - x.l)).length := rfl
      rw [e]
      omega
    · rw [if_neg h]
      refine ⟨by simp [sumL]; exact hm, fun _ => ?_⟩
      have e : at_ (x :: s) ([] : List Int).length = x := rfl
      rw [e]
      simp [sumL]
      omega

theorem take_snoc_at {s : List C} {i : Nat} (hi : i < s.length) : s.take (i + 1) = s.take i ++ [at_ s i] := by
  rw [List.take_succ_eq_append_getElem hi]
  congr 2
  unfold at_
  rw [List.getD_eq_getElem?_getD, List.getElem?_eq_getElem hi]
  rfl

def cz (zs : List Int) (j : Nat) : C := ⟨j, zs.getD j 0, j⟩

theorem la_get (zs : List Int) {K j : Nat} (hj : j < K) : (la zs K).getD j (0, 0) = ((j : Int), zs.getD j 0) := by
  unfold la
  rw [List.getD_eq_getElem?_getD, List.getElem?_map, List.getElem?_range hj]
  rfl

theorem mem_la {zs : List Int} {K : Nat} {x : C} : x ∈ cands (la zs K) 0 ↔ ∃ j, j < K ∧ x = cz zs j ∧ 1 ≤ zs.getD j 0 := by
  rw [mem_cands0]
  constructor
  · rintro ⟨j, hj, hx, h1⟩
    rw [la_length] at hj
    have : cAt (la zs K) j = cz zs j := by unfold cAt cz; rw [la_get zs hj]
    rw [this] at hx
    refine ⟨j, hj, hx, ?_⟩
    rw [hx] at h1
    exact h1
  · rintro ⟨j, hj, hx, h1⟩
    have : cAt (la zs K) j = cz zs j := by unfold cAt cz; rw [la_get zs hj]
    exact ⟨j, by rw [la_length]; exact hj, by rw [this]; exact hx, by rw [hx]; exact h1⟩

section
variable {zs : List Int} {K : Nat} {s : List C}
theorem most_idx (hs : IsSort s (cands (la zs K) 0)) {i : Nat} (hi : i < s.length) : ∃ t, t < K ∧ at_ s i = cz zs t ∧ 1 ≤ zs.getD t 0 ∧ gone (s.take i) t = false := by
  obtain ⟨t, ht, hx, h1⟩ := mem_la.1 (hs.2.mem_iff.1 (at_mem hi))
  refine ⟨t, ht, hx, h1, ?_⟩
  cases hg : gone (s.take i) t with
  | false => rfl
  | true =>
    exfalso
    obtain ⟨y, hy, hya⟩ := List.any_eq_true.1 hg
    simp only [beq_iff_eq] at hya
    obtain ⟨j, hj, hjy⟩ := List.mem_take_iff_getElem.1 hy
    obtain ⟨u, _, hyu, _⟩ := mem_la.1 (hs.2.mem_iff.1 (List.mem_of_mem_take hy))
    have hu : u = t := by rw [hyu] at hya; simp only [cz] at hya; omega
    subst hu
    have hjl : j < s.length := by omega
    have h2 := at_pairwise hs.1 (show j < i by omega) hi
    have h3 : at_ s j = y := by unfold at_; rw [List.getD_eq_getElem?_getD, List.getElem?_eq_getElem hjl]; exact hjy
    rw [h3, hx, hyu] at h2
    exact lt_irrefl _ h2

theorem most_taken (hs : IsSort s (cands (la zs K) 0)) {n j : Nat} (hg : gone (s.take n) j = true) : ∃ q, q < n ∧ q < s.length ∧ at_ s q = cz zs j := by
  obtain ⟨y, hy, hya⟩ := List.any_eq_true.1 hg
  simp only [beq_iff_eq] at hya
  obtain ⟨q, hq, hqy⟩ := List.mem_take_iff_getElem.1 hy
  obtain ⟨u, _, hyu, _⟩ := mem_la.1 (hs.2.mem_iff.1 (List.mem_of_mem_take hy))
  have hu : u = j := by rw [hyu] at hya; simp only [cz] at hya; omega
  subst hu
  refine ⟨q, by omega, by omega, ?_⟩
  unfold at_
  rw [List.getD_eq_getElem?_getD, List.getElem?_eq_getElem (by omega)]
  exact hqy.trans hyu

theorem most_left (hs : IsSort s (cands (la zs K) 0)) {n j : Nat} (hj : j < K) (hg : gone (s.take n) j = false) (h1 : 1 ≤ zs.getD j 0) : ∃ q, n ≤ q ∧ q < s.length ∧ at_ s q = cz zs j := by
  obtain ⟨q, hq, hx⟩ := mem_at (hs.2.mem_iff.2 (mem_la.2 ⟨j, hj, rfl, h1⟩))
  refine ⟨q, ?_, hq, hx⟩
  rcases Nat.lt_or_ge q n with h | h
  · exfalso
    have : gone (s.take n) j = true := List.any_eq_true.2 ⟨at_ s q, ?_, by rw [hx]; simp [cz]⟩
    · rw [hg] at this; cases this
    · refine List.mem_take_iff_getElem.2 ⟨q, by omega, ?_⟩
      unfold at_
      rw [List.getD_eq_getElem?_getD, List.getElem?_eq_getElem hq]
      rfl
  · exact h

theorem most_full (hs : IsSort s (cands (la zs K) 0)) {m : Int} (hm : 0 ≤ m) {j : Nat} (hj : j < K) (hg : gone (s.take (greedy s m).length) j = false) (h1 : 1 ≤ zs.getD j 0) :
    m < sumL (s.take (greedy s m).length) + zs.getD j 0 := by
  obtain ⟨q, hq, hqs, hx⟩ := most_left hs hj hg h1
  have h2 := (greedy_sum s m hm).2 (by omega)
  have h3 : (at_ s (greedy s m).length).l ≤ zs.getD j 0 := by
    rcases Nat.lt_or_ge (greedy s m).length q with h | h
    · have := at_pairwise hs.1 h hqs
      rw [hx] at this
      unfold lt cz at this
      simp only at this
      omega
    · have e : q = (greedy s m).length := by omega
      rw [← e, hx]
      exact Int.le_refl _
  omega

theorem most_order (hs : IsSort s (cands (la zs K) 0)) {n i j : Nat} (hj : j < K) (hi : gone (s.take n) i = true) (hg : gone (s.take n) j = false) (h1 : 1 ≤ zs.getD j 0) : zs.getD i 0 ≤ zs.getD j 0 := by
  obtain ⟨q, hq, hqs, hx⟩ := most_left hs hj hg h1
  obtain ⟨r, hr, hrs, hy⟩ := most_taken hs hi
  have := at_pairwise hs.1 (show r < q by omega) hqs
  rw [hx, hy] at this
  unfold lt cz at this
  simp only at this
  omega
end

theorem sum_bd : ∀ (s : List C), (∀ x ∈ s, 0 ≤ x.l ∧ x.l ≤ 8) → 0 ≤ sumL s ∧ sumL s ≤ 8 * s.length
  | [], _ => by simp [sumL]
  | x :: s, h => by
    have h1 := sum_bd s (fun y hy => h y (List.mem_cons_of_mem _ hy))
    have h2 := h x List.mem_cons_self
    simp only [sumL, List.length_cons]
    omega

/-- modulo 9, without sign -/
def f9 (z : Int) : Int := if z.tmod 9 < 0 then - z.tmod 9 else z.tmod 9
theorem tmod_cases (z : Int) {k : Int} (hk : 0 < k) : -k < z.tmod k ∧ z.tmod k < k := by
  rcases Int.le_total 0 z with h | h
  · rw [Int.tmod_eq_emod_of_nonneg h]
    have h1 := Int.emod_nonneg z (show k ≠ 0 by omega)
    have h2 := Int.emod_lt_of_pos z hk
    omega
  · have e : z.tmod k = -((-z).tmod k) := by rw [Int.neg_tmod]; omega
    rw [e, Int.tmod_eq_emod_of_nonneg (by omega)]
    have h1 := Int.emod_nonneg (-z) (show k ≠ 0 by omega)
    have h2 := Int.emod_lt_of_pos (-z) hk
    omega
theorem f9_bd (z : Int) : 0 ≤ f9 z ∧ f9 z ≤ 8 := by
  unfold f9
  have h1 := tmod_cases z (show (0 : Int) < 9 by omega)
  split <;> omega

end Go.Proofs.Ytfncfcjaponeeaa
