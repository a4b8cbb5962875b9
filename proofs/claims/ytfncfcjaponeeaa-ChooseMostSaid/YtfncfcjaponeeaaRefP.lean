/- The reference's choosing by definition, as lists: the next one is the first of what is left. No program in sight. -/
import Derived.Test.YtfncfcjaponeeaaRef
namespace Go.Proofs.Ytfncfcjaponeeaa

/-- it was picked already -/
def gone (p : List C) (j : Nat) : Bool := p.any fun x => x.a == (j : Int)

theorem gone_snoc (p : List C) (x : C) (j : Nat) : gone (p ++ [x]) j = (gone p j || x.a == (j : Int)) := by simp [gone]

/-- it may be picked still -/
def Elig (ls : List (Int × Int)) (p : List C) (j : Nat) : Prop := gone p j = false ∧ 1 ≤ (cAt ls j).l

/-- the best of the first i: none (below 0), or which -/
def Best (ls : List (Int × Int)) (p : List C) (i : Nat) (at' : Int) : Prop :=
  (at' = -1 ∧ ∀ j, j < i → ¬ Elig ls p j) ∨ ∃ k : Nat, at' = k ∧ k < i ∧ Elig ls p k ∧ ∀ j, j < i → Elig ls p j → ¬ lt (cAt ls j) (cAt ls k)

theorem best_zero (ls : List (Int × Int)) (p : List C) : Best ls p 0 (-1) := .inl ⟨rfl, fun j hj => by omega⟩

theorem best_skip {ls : List (Int × Int)} {p : List C} {i : Nat} {t : Int} (h : Best ls p i t) (he : ¬ Elig ls p i) : Best ls p (i + 1) t := by
  rcases h with ⟨ht, h⟩ | ⟨k, ht, hk, hek, h⟩
  · refine .inl ⟨ht, fun j hj => ?_⟩
    by_cases hji : j = i
    · subst hji; exact he
    · exact h j (by omega)
  · refine .inr ⟨k, ht, by omega, hek, fun j hj hej => ?_⟩
    by_cases hji : j = i
    · subst hji; exact absurd hej he
    · exact h j (by omega) hej

theorem best_first {ls : List (Int × Int)} {p : List C} {i : Nat} (h : ∀ j, j < i → ¬ Elig ls p j) (he : Elig ls p i) : Best ls p (i + 1) i := by
  refine .inr ⟨i, rfl, by omega, he, fun j hj hej => ?_⟩
  by_cases hji : j = i
  · subst hji; exact lt_irrefl _
  · exact absurd hej (h j (by omega))

theorem best_new {ls : List (Int × Int)} {p : List C} {i k : Nat} (h : ∀ j, j < i → Elig ls p j → ¬ lt (cAt ls j) (cAt ls k)) (he : Elig ls p i) (hl : lt (cAt ls i) (cAt ls k)) : Best ls p (i + 1) i := by
  refine .inr ⟨i, rfl, by omega, he, fun j hj hej => ?_⟩
  by_cases hji : j = i
  · subst hji; exact lt_irrefl _
  · exact fun hx => h j (by omega) hej (lt_trans hx hl)

theorem best_old {ls : List (Int × Int)} {p : List C} {i k : Nat} (hk : k < i) (hek : Elig ls p k) (h : ∀ j, j < i → Elig ls p j → ¬ lt (cAt ls j) (cAt ls k)) (hl : ¬ lt (cAt ls i) (cAt ls k)) : Best ls p (i + 1) k := by
  refine .inr ⟨k, rfl, by omega, hek, fun j hj hej => ?_⟩
  by_cases hji : j = i
  · subst hji; exact hl
  · exact h j (by omega) hej

theorem mem_cands : ∀ {r : List (Int × Int)} {i : Nat} {x : C}, x ∈ cands r i ↔ ∃ j, j < r.length ∧ x = ⟨(r.getD j (0, 0)).1, (r.getD j (0, 0)).2, (i + j : Nat)⟩ ∧ 1 ≤ x.l
  | [], i, x => by simp [cands]
  | (b, l) :: r, i, x => by
    have ih := mem_cands (r := r) (i := i + 1) (x := x)
    have key : (∃ j, j < ((b, l) :: r).length ∧ x = ⟨(((b, l) :: r).getD j (0, 0)).1, (((b, l) :: r).getD j (0, 0)).2, (i + j : Nat)⟩ ∧ 1 ≤ x.l) ↔ (x = ⟨b, l, i⟩ ∧ 1 ≤ x.l) ∨ x ∈ cands r (i + 1) := by
      rw [ih]
      constructor
      · rintro ⟨j, hj, hx, h1⟩
        cases j with
        | zero => exact .inl ⟨hx, h1⟩
        | succ j => exact .inr ⟨j, by simpa using hj, by rw [hx]; simp; omega, h1⟩
      · rintro (⟨hx, h1⟩ | ⟨j, hj, hx, h1⟩)
        · exact ⟨0, by simp, hx, h1⟩
        · exact ⟨j + 1, by simpa using hj, by rw [hx]; simp; omega, h1⟩
    rw [key]
    have hc : cands ((b, l) :: r) i = if 1 ≤ l then ⟨b, l, i⟩ :: cands r (i + 1) else cands r (i + 1) := rfl
    rw [hc]
    split
    · rename_i h1
      rw [List.mem_cons]
      constructor
      · rintro (rfl | h)
        · exact .inl ⟨rfl, h1⟩
        · exact .inr h
      · rintro (⟨rfl, _⟩ | h)
        · exact .inl rfl
        · exact .inr h
    · rename_i h1
      constructor
      · exact .inr
      · rintro (⟨rfl, h2⟩ | h)
        · exact absurd h2 h1
        · exact h

theorem mem_cands0 {ls : List (Int × Int)} {x : C} : x ∈ cands ls 0 ↔ ∃ j, j < ls.length ∧ x = cAt ls j ∧ 1 ≤ x.l := by
  rw [mem_cands]
  constructor
  · rintro ⟨j, h1, h2, h3⟩; exact ⟨j, h1, by rw [h2]; simp [cAt], h3⟩
  · rintro ⟨j, h1, h2, h3⟩; exact ⟨j, h1, by rw [h2]; simp [cAt], h3⟩

/-- how far it has come: picked, and left -/
def Left (ls : List (Int × Int)) (p q : List C) : Prop := IsSort (p ++ q) (cands ls 0)

theorem left_elig {ls : List (Int × Int)} {p q : List C} (h : Left ls p q) {x : C} : x ∈ q ↔ ∃ j, j < ls.length ∧ x = cAt ls j ∧ Elig ls p j := by
  have hm : ∀ y, y ∈ p ++ q ↔ y ∈ cands ls 0 := fun y => h.2.mem_iff
  have hpw := List.pairwise_append.1 h.1
  constructor
  · intro hx
    obtain ⟨j, hj, rfl, h1⟩ := mem_cands0.1 ((hm x).1 (List.mem_append_right _ hx))
    refine ⟨j, hj, rfl, ?_, h1⟩
    cases hg : gone p j with
    | false => rfl
    | true =>
      exfalso
      obtain ⟨y, hy, hya⟩ := List.any_eq_true.1 hg
      simp only [beq_iff_eq] at hya
      obtain ⟨k, hk, rfl, _⟩ := mem_cands0.1 ((hm y).1 (List.mem_append_left _ hy))
      have : k = j := by
        have h3 : ((k : Int)) = (j : Int) := by simpa [cAt] using hya
        omega
      subst this
      exact lt_irrefl _ (hpw.2.2 _ hy _ hx)
  · rintro ⟨j, hj, rfl, hg, h1⟩
    rcases List.mem_append.1 ((hm _).2 (mem_cands0.2 ⟨j, hj, rfl, h1⟩)) with h2 | h2
    · exfalso
      have : gone p j = true := List.any_eq_true.2 ⟨_, h2, by simp [cAt]⟩
      rw [hg] at this
      cases this
    · exact h2

theorem left_none {ls : List (Int × Int)} {p q : List C} (h : Left ls p q) (hb : ∀ j, j < ls.length → ¬ Elig ls p j) : q = [] := by
  cases q with
  | nil => rfl
  | cons x q =>
    obtain ⟨j, hj, _, he⟩ := (left_elig h).1 (List.mem_cons_self (a := x) (l := q))
    exact absurd he (hb j hj)

theorem left_some {ls : List (Int × Int)} {p q : List C} {k : Nat} (h : Left ls p q) (hk : k < ls.length) (he : Elig ls p k) (hb : ∀ j, j < ls.length → Elig ls p j → ¬ lt (cAt ls j) (cAt ls k)) :
    ∃ t, q = cAt ls k :: t ∧ Left ls (p ++ [cAt ls k]) t := by
  have hm := (left_elig h).2 ⟨k, hk, rfl, he⟩
  cases q with
  | nil => cases hm
  | cons x t =>
    obtain ⟨j, hj, rfl, hej⟩ := (left_elig h).1 (List.mem_cons_self (a := x) (l := t))
    have hx : cAt ls k = cAt ls j := by
      rcases List.mem_cons.1 hm with hm | hm
      · exact hm
      · exact absurd ((List.pairwise_cons.1 (List.pairwise_append.1 h.1).2.1).1 _ hm) (hb j hj hej)
    refine ⟨t, by rw [hx], ?_⟩
    unfold Left
    rw [hx, List.append_assoc]
    exact h

theorem left_full {ls : List (Int × Int)} {p q : List C} (h : Left ls p q) (hp : ls.length ≤ p.length) : q = [] := by
  have h1 := h.2.length_eq
  have h2 := cands_length ls 0
  rw [List.length_append] at h1
  exact List.eq_nil_of_length_eq_zero (by omega)

end Go.Proofs.Ytfncfcjaponeeaa
