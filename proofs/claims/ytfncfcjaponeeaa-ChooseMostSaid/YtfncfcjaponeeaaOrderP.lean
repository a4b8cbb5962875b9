/- Those that are picked, each found again behind the last one. No program in sight. -/
import Derived.Test.YtfncfcjaponeeaaRefP
namespace Go.Proofs.Ytfncfcjaponeeaa

theorem greedy_at : ∀ (s : List C) (m : Int), (greedy s m).length ≤ s.length ∧ ∀ i, i < (greedy s m).length → (greedy s m).getD i 0 = (at_ s i).b
  | [], m => ⟨Nat.le_refl _, fun i hi => by simp [greedy] at hi⟩
  | x :: s, m => by
    obtain ⟨h1, h2⟩ := greedy_at s (m - x.l)
    unfold greedy
    split
    · refine ⟨by simpa using h1, fun i hi => ?_⟩
      cases i with
      | zero => rfl
      | succ i =>
        have := h2 i (by simpa using hi)
        simpa [at_] using this
    · exact ⟨by simp, fun i hi => by simp at hi⟩

/-- not behind, by Live and then Block -/
def lex (p q : Int × Int) : Prop := p.2 < q.2 ∨ (p.2 = q.2 ∧ p.1 ≤ q.1)

theorem at_pairwise {s : List C} (h : List.Pairwise lt s) {i j : Nat} (hij : i < j) (hj : j < s.length) : lt (at_ s i) (at_ s j) := by
  have := List.pairwise_iff_getElem.1 h i j (by omega) hj hij
  unfold at_
  rw [List.getD_eq_getElem?_getD, List.getD_eq_getElem?_getD, List.getElem?_eq_getElem (by omega), List.getElem?_eq_getElem hj]
  exact this

/-- that may be found behind the last one -/
def Fits (ls : List (Int × Int)) (b : Int) (last : Int × Int) (j : Nat) : Prop :=
  (ls.getD j (0, 0)).1 = b ∧ 1 ≤ (ls.getD j (0, 0)).2 ∧ lex last (ls.getD j (0, 0))

/-- how far it was looked for -/
def Found (ls : List (Int × Int)) (b : Int) (last : Int × Int) (k : Nat) (yes : Bool) (best : Int × Int) : Prop :=
  (yes = false ∧ ∀ j, j < k → ¬ Fits ls b last j) ∨
  (yes = true ∧ best.1 = b ∧ lex last best ∧ ∀ j, j < k → Fits ls b last j → best.2 ≤ (ls.getD j (0, 0)).2)

theorem found_zero (ls : List (Int × Int)) (b : Int) (last best : Int × Int) : Found ls b last 0 false best := .inl ⟨rfl, fun j hj => by omega⟩

theorem found_skip {ls : List (Int × Int)} {b : Int} {last best : Int × Int} {k : Nat} {yes : Bool} (h : Found ls b last k yes best) (hn : ¬ (Fits ls b last k ∧ (yes = false ∨ (ls.getD k (0, 0)).2 < best.2))) :
    Found ls b last (k + 1) yes best := by
  rcases h with ⟨hy, h⟩ | ⟨hy, h1, h2, h3⟩
  · refine .inl ⟨hy, fun j hj hf => ?_⟩
    by_cases hjk : j = k
    · subst hjk; exact hn ⟨hf, .inl hy⟩
    · exact h j (by omega) hf
  · refine .inr ⟨hy, h1, h2, fun j hj hf => ?_⟩
    by_cases hjk : j = k
    · subst hjk
      rcases Int.lt_or_le (ls.getD j (0, 0)).2 best.2 with h4 | h4
      · exact absurd ⟨hf, .inr h4⟩ hn
      · exact h4
    · exact h3 j (by omega) hf

theorem found_take {ls : List (Int × Int)} {b : Int} {last best : Int × Int} {k : Nat} {yes : Bool} (h : Found ls b last k yes best) (hf : Fits ls b last k) (ho : yes = false ∨ (ls.getD k (0, 0)).2 < best.2) :
    Found ls b last (k + 1) true (ls.getD k (0, 0)) := by
  refine .inr ⟨rfl, hf.1, hf.2.2, fun j hj hfj => ?_⟩
  by_cases hjk : j = k
  · subst hjk; exact Int.le_refl _
  · rcases h with ⟨_, h⟩ | ⟨hy, h1, h2, h3⟩
    · exact absurd hfj (h j (by omega))
    · have h4 := h3 j (by omega) hfj
      rcases ho with ho | ho
      · rw [hy] at ho; cases ho
      · omega

/-- the last one is not behind what is left -/
def Behind (s : List C) (i : Nat) (last : Int × Int) : Prop := ∀ j, i ≤ j → j < s.length → lex last ((at_ s j).b, (at_ s j).l)

theorem behind_zero {ls : List (Int × Int)} {s : List C} (hs : IsSort s (cands ls 0)) : Behind s 0 (0, 0) := fun j _ hj => by
  have := cands_live (hs.2.mem_iff.1 (at_mem hj))
  exact .inl (by simp only; omega)

theorem found_end {ls : List (Int × Int)} {s : List C} {i : Nat} {last best : Int × Int} {yes : Bool} (hs : IsSort s (cands ls 0)) (hi : i < s.length) (hb : Behind s i last) (h : Found ls (at_ s i).b last ls.length yes best) :
    yes = true ∧ Behind s (i + 1) best := by
  obtain ⟨j, hj, hx, h1⟩ := mem_cands0.1 (hs.2.mem_iff.1 (at_mem hi))
  have hg : ls.getD j (0, 0) = ((at_ s i).b, (at_ s i).l) := by rw [hx]; rfl
  have hf : Fits ls (at_ s i).b last j := ⟨by rw [hg], by rw [hg]; exact h1, by rw [hg]; exact hb i (Nat.le_refl _) hi⟩
  rcases h with ⟨_, h⟩ | ⟨hy, e1, h2, h3⟩
  · exact absurd hf (h j hj)
  · refine ⟨hy, fun j' hj' hjs => ?_⟩
    have h4 := h3 j hj hf
    rw [hg] at h4
    have h5 := at_pairwise hs.1 (show i < j' by omega) hjs
    unfold lt at h5
    unfold lex
    simp only at h4 ⊢
    omega

end Go.Proofs.Ytfncfcjaponeeaa
