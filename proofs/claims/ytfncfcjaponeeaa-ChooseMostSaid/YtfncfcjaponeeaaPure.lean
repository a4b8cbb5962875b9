/- Candidates, their order, and the heap of them as a list: what container/heap's up and down make of it. No program in sight. -/
namespace Go.Proofs.Ytfncfcjaponeeaa

structure C where
  b : Int
  l : Int
  a : Int

instance : Inhabited C := ⟨⟨0, 0, 0⟩⟩

/-- ahead of -/
def lt (x y : C) : Prop := x.l < y.l ∨ (x.l = y.l ∧ (x.b < y.b ∨ (x.b = y.b ∧ x.a < y.a)))
instance (x y : C) : Decidable (lt x y) := by unfold lt; infer_instance

theorem lt_irrefl (x : C) : ¬ lt x x := by unfold lt; omega
theorem lt_trans {x y z : C} (h : lt x y) (k : lt y z) : lt x z := by unfold lt at *; omega
theorem lt_total {x y : C} (h : ¬ lt x y) (k : ¬ lt y x) : x = y := by
  cases x; cases y
  unfold lt at *
  simp only at h k
  have h1 : _ = _ := Int.le_antisymm (Int.not_lt.1 fun h2 => k (.inl h2)) (Int.not_lt.1 fun h2 => h (.inl h2))
  subst h1
  simp only [Int.lt_irrefl, true_and, false_or] at h k
  have h2 : _ = _ := Int.le_antisymm (Int.not_lt.1 fun h2 => k (.inl h2)) (Int.not_lt.1 fun h2 => h (.inl h2))
  subst h2
  simp only [Int.lt_irrefl, true_and, false_or] at h k
  have h3 : _ = _ := Int.le_antisymm (Int.not_lt.1 fun h2 => k h2) (Int.not_lt.1 fun h2 => h h2)
  subst h3
  rfl
theorem nlt_trans {x y z : C} (h : ¬ lt y x) (k : ¬ lt z y) : ¬ lt z x := by unfold lt at *; omega
theorem lt_asymm {x y : C} (h : lt x y) : ¬ lt y x := fun k => lt_irrefl _ (lt_trans h k)

def at_ (h : List C) (i : Nat) : C := h.getD i default

def swp (h : List C) (i j : Nat) : List C := (h.set i (at_ h j)).set j (at_ h i)

theorem swp_length (h : List C) (i j : Nat) : (swp h i j).length = h.length := by simp [swp]

theorem at_set (h : List C) (i k : Nat) (x : C) (hi : i < h.length) : at_ (h.set i x) k = if k = i then x else at_ h k := by
  unfold at_
  simp only [List.getD_eq_getElem?_getD, List.getElem?_set]
  by_cases hk : i = k
  · subst hk; simp [hi]
  · simp [hk, Ne.symm hk]

theorem at_swp {h : List C} {i j : Nat} (hi : i < h.length) (hj : j < h.length) (k : Nat) :
    at_ (swp h i j) k = if k = j then at_ h i else if k = i then at_ h j else at_ h k := by
  unfold swp
  rw [at_set _ _ _ _ (by simpa using hj), at_set _ _ _ _ hi]

theorem swp_perm {h : List C} {i j : Nat} (hi : i < h.length) (hj : j < h.length) : List.Perm (swp h i j) h := by
  have hp := (Array.swap_perm (xs := h.toArray) (i := i) (j := j) (by simpa using hi) (by simpa using hj)).toList
  have e : (h.toArray.swap i j (by simpa using hi) (by simpa using hj)).toList = swp h i j := by
    apply List.ext_getElem?
    intro k
    simp only [Array.swap, swp, at_]
    simp [List.getD_eq_getElem?_getD, List.getElem?_eq_getElem hi, List.getElem?_eq_getElem hj]
  rw [e] at hp
  simpa using hp

/-- container/heap.up -/
def up : Nat → List C → Nat → List C
  | 0, h, _ => h
  | f + 1, h, j => if j = 0 then h else if lt (at_ h j) (at_ h ((j - 1) / 2)) then up f (swp h ((j - 1) / 2) j) ((j - 1) / 2) else h

/-- the child that is first -/
def child (h : List C) (i n : Nat) : Nat := if 2 * i + 2 < n ∧ lt (at_ h (2 * i + 2)) (at_ h (2 * i + 1)) then 2 * i + 2 else 2 * i + 1

/-- container/heap.down, of the first n -/
def down : Nat → List C → Nat → Nat → List C
  | 0, h, _, _ => h
  | f + 1, h, i, n => if 2 * i + 1 < n then if lt (at_ h (child h i n)) (at_ h i) then down f (swp h i (child h i n)) (child h i n) n else h else h

def Hp (h : List C) (n : Nat) : Prop := ∀ k, 0 < k → k < n → ¬ lt (at_ h k) (at_ h ((k - 1) / 2))

/-- a heap but for the place j, which may be too far down -/
def HpUp (h : List C) (n j : Nat) : Prop :=
  (∀ k, 0 < k → k < n → k ≠ j → ¬ lt (at_ h k) (at_ h ((k - 1) / 2))) ∧
  (∀ k, 0 < k → k < n → (k - 1) / 2 = j → 0 < j → ¬ lt (at_ h k) (at_ h ((j - 1) / 2)))

/-- a heap but for the place i, which may be too far up -/
def HpDown (h : List C) (n i : Nat) : Prop :=
  (∀ k, 0 < k → k < n → (k - 1) / 2 ≠ i → ¬ lt (at_ h k) (at_ h ((k - 1) / 2))) ∧
  (∀ k, 0 < k → k < n → (k - 1) / 2 = i → 0 < i → ¬ lt (at_ h k) (at_ h ((i - 1) / 2)))

theorem up_length : ∀ (f : Nat) (h : List C) (j : Nat), (up f h j).length = h.length
  | 0, _, _ => rfl
  | f + 1, h, j => by
    unfold up
    split
    · rfl
    · split
      · rw [up_length f, swp_length]
      · rfl

theorem down_length : ∀ (f : Nat) (h : List C) (i n : Nat), (down f h i n).length = h.length
  | 0, _, _, _ => rfl
  | f + 1, h, i, n => by
    unfold down
    split
    · split
      · rw [down_length f, swp_length]
      · rfl
    · rfl

theorem child_lt {h : List C} {i n : Nat} (hi : 2 * i + 1 < n) : child h i n < n := by unfold child; split <;> omega
theorem child_gt (h : List C) (i n : Nat) : i < child h i n := by unfold child; split <;> omega
theorem child_par (h : List C) (i n : Nat) : (child h i n - 1) / 2 = i := by unfold child; split <;> omega

theorem up_perm : ∀ (f : Nat) (h : List C) (j : Nat), j < h.length → List.Perm (up f h j) h
  | 0, _, _, _ => .refl _
  | f + 1, h, j, hj => by
    unfold up
    split
    · exact .refl _
    · split
      · exact (up_perm f _ _ (by rw [swp_length]; omega)).trans (swp_perm (by omega) hj)
      · exact .refl _

theorem down_perm : ∀ (f : Nat) (h : List C) (i n : Nat), n ≤ h.length → List.Perm (down f h i n) h
  | 0, _, _, _, _ => .refl _
  | f + 1, h, i, n, hn => by
    unfold down
    split
    · rename_i h1
      split
      · have := child_lt (h := h) h1
        exact (down_perm f _ _ n (by rw [swp_length]; exact hn)).trans (swp_perm (by omega) (by omega))
      · exact .refl _
    · exact .refl _

theorem up_heap : ∀ (f : Nat) (h : List C) (n j : Nat), j < f → j < n → n ≤ h.length → HpUp h n j → Hp (up f h j) n
  | 0, _, _, _, hf, _, _, _ => by omega
  | f + 1, h, n, j, hf, hj, hn, ⟨h1, h2⟩ => by
    unfold up
    by_cases h0 : j = 0
    · subst h0
      rw [if_pos rfl]
      exact fun k hk hkn => h1 k hk hkn (by omega)
    rw [if_neg h0]
    by_cases hl : lt (at_ h j) (at_ h ((j - 1) / 2))
    · rw [if_pos hl]
      refine up_heap f _ n _ (by omega) (by omega) (by rw [swp_length]; exact hn) ⟨fun k hk hkn hne => ?_, fun k hk hkn hpar hp => ?_⟩
      · rw [at_swp (by omega) (by omega), at_swp (by omega) (by omega)]
        by_cases hkj : k = j
        · subst hkj
          rw [if_pos rfl, if_neg (by omega), if_pos rfl]
          exact lt_asymm hl
        · rw [if_neg hkj, if_neg hne]
          by_cases hpj : (k - 1) / 2 = j
          · rw [if_pos hpj]
            exact h2 k hk hkn hpj (by omega)
          · rw [if_neg hpj]
            by_cases hpp : (k - 1) / 2 = (j - 1) / 2
            · rw [if_pos hpp]
              have := h1 k hk hkn hkj
              rw [hpp] at this
              exact nlt_trans (lt_asymm hl) this
            · rw [if_neg hpp]
              exact h1 k hk hkn hkj
      · have hpn := h1 ((j - 1) / 2) hp (by omega) (by omega)
        rw [at_swp (by omega) (by omega), at_swp (by omega) (by omega)]
        rw [if_neg (show ((j - 1) / 2 - 1) / 2 ≠ j by omega), if_neg (show ((j - 1) / 2 - 1) / 2 ≠ (j - 1) / 2 by omega)]
        by_cases hkj : k = j
        · rw [if_pos hkj]
          exact hpn
        · rw [if_neg hkj, if_neg (by omega)]
          have := h1 k hk hkn hkj
          rw [hpar] at this
          exact nlt_trans hpn this
    · rw [if_neg hl]
      intro k hk hkn
      by_cases hkj : k = j
      · subst hkj; exact hl
      · exact h1 k hk hkn hkj

theorem down_heap : ∀ (f : Nat) (h : List C) (i n : Nat), n ≤ f + i → n ≤ h.length → HpDown h n i → Hp (down f h i n) n
  | 0, h, i, n, hf, _, ⟨h1, _⟩ => by
    unfold down
    exact fun k hk hkn => h1 k hk hkn (by omega)
  | f + 1, h, i, n, hf, hn, ⟨h1, h2⟩ => by
    unfold down
    by_cases hc : 2 * i + 1 < n
    · rw [if_pos hc]
      have c1 := child_lt (h := h) hc
      have c2 := child_gt h i n
      have c3 := child_par h i n
      have c4 : ∀ k, 0 < k → k < n → (k - 1) / 2 = i → ¬ lt (at_ h k) (at_ h (child h i n)) := by
        intro k hk hkn hp
        have hk2 : k = 2 * i + 1 ∨ k = 2 * i + 2 := by omega
        unfold child
        by_cases hx : 2 * i + 2 < n ∧ lt (at_ h (2 * i + 2)) (at_ h (2 * i + 1))
        · rw [if_pos hx]
          rcases hk2 with rfl | rfl
          · exact lt_asymm hx.2
          · exact lt_irrefl _
        · rw [if_neg hx]
          rcases hk2 with rfl | rfl
          · exact lt_irrefl _
          · exact fun h => hx ⟨hkn, h⟩
      generalize child h i n = c at *
      by_cases hl : lt (at_ h c) (at_ h i)
      · rw [if_pos hl]
        refine down_heap f _ c n (by omega) (by rw [swp_length]; exact hn) ⟨fun k hk hkn hne => ?_, fun k hk hkn hpar hp => ?_⟩
        · rw [at_swp (by omega) (by omega), at_swp (by omega) (by omega)]
          rw [if_neg hne]
          by_cases hpi : (k - 1) / 2 = i
          · rw [if_pos hpi]
            by_cases hkc : k = c
            · rw [if_pos hkc]; exact lt_asymm hl
            · rw [if_neg hkc, if_neg (by omega)]
              exact c4 k hk hkn hpi
          · rw [if_neg hpi]
            by_cases hkc : k = c
            · exact absurd (hkc ▸ c3) hpi
            · rw [if_neg hkc]
              by_cases hki : k = i
              · rw [if_pos hki]
                subst hki
                exact h2 c (by omega) c1 c3 hk
              · rw [if_neg hki]
                exact h1 k hk hkn hpi
        · rw [at_swp (by omega) (by omega), at_swp (by omega) (by omega)]
          rw [if_neg (show k ≠ c by omega), if_neg (show k ≠ i by omega), c3, if_neg (show i ≠ c by omega), if_pos rfl]
          have := h1 k hk hkn (by omega)
          rw [hpar] at this
          exact this
      · rw [if_neg hl]
        intro k hk hkn
        by_cases hpi : (k - 1) / 2 = i
        · rw [hpi]
          exact nlt_trans hl (c4 k hk hkn hpi)
        · exact h1 k hk hkn hpi
    · rw [if_neg hc]
      exact fun k hk hkn => h1 k hk hkn (by omega)

theorem root_min {h : List C} {n : Nat} (hh : Hp h n) : ∀ k, k < n → ¬ lt (at_ h k) (at_ h 0) := by
  intro k
  induction k using Nat.strongRecOn with
  | _ k ih =>
    intro hk
    by_cases h0 : k = 0
    · subst h0; exact lt_irrefl _
    · exact nlt_trans (ih ((k - 1) / 2) (by omega) (by omega)) (hh k (by omega) hk)

theorem at_append {h : List C} {x : C} (k : Nat) : at_ (h ++ [x]) k = if k = h.length then x else at_ h k := by
  unfold at_
  simp only [List.getD_eq_getElem?_getD, List.getElem?_append]
  by_cases h1 : k < h.length
  · rw [if_pos h1, if_neg (by omega)]
  · rw [if_neg h1]
    by_cases h2 : k = h.length
    · rw [if_pos h2]; subst h2; simp
    · rw [if_neg h2, List.getElem?_eq_none (by simp; omega), List.getElem?_eq_none (by omega)]

/-- container/heap.Push -/
def hpush (h : List C) (x : C) : List C := up (h.length + 1) (h ++ [x]) h.length

theorem hpush_perm (h : List C) (x : C) : List.Perm (hpush h x) (x :: h) :=
  (up_perm _ _ _ (by simp)).trans (List.perm_append_singleton x h)

theorem hpush_heap {h : List C} {x : C} (hh : Hp h h.length) : Hp (hpush h x) (hpush h x).length := by
  have hl : (hpush h x).length = h.length + 1 := by unfold hpush; rw [up_length]; simp
  rw [hl]
  refine up_heap _ _ _ _ (by omega) (by omega) (by simp) ⟨fun k hk hkn hne => ?_, fun k hk hkn hpar _ => by omega⟩
  rw [at_append, at_append, if_neg hne, if_neg (by omega)]
  exact hh k hk (by omega)

/-- container/heap.Pop: what is left -/
def hpop (h : List C) : List C := (down h.length (swp h 0 (h.length - 1)) 0 (h.length - 1)).take (h.length - 1)

theorem down_last : ∀ (f : Nat) (h : List C) (i n k : Nat), n ≤ k → i < n ∨ n = 0 → n ≤ h.length → at_ (down f h i n) k = at_ h k
  | 0, _, _, _, _, _, _, _ => rfl
  | f + 1, h, i, n, k, hk, hi, hn => by
    unfold down
    split
    · rename_i h1
      have c1 := child_lt (h := h) h1
      have c2 := child_gt h i n
      split
      · rw [down_last f _ _ _ k hk (by omega) (by rw [swp_length]; exact hn), at_swp (by omega) (by omega), if_neg (by omega), if_neg (by omega)]
      · rfl
    · rfl

theorem take_at {h : List C} {n k : Nat} (hk : k < n) : at_ (h.take n) k = at_ h k := by
  unfold at_
  simp only [List.getD_eq_getElem?_getD, List.getElem?_take_of_lt hk]

theorem at_mem {h : List C} {k : Nat} (hk : k < h.length) : at_ h k ∈ h := by
  unfold at_
  rw [List.getD_eq_getElem?_getD, List.getElem?_eq_getElem hk]
  exact List.getElem_mem hk

theorem take_last {h : List C} {n : Nat} (hn : h.length = n + 1) : h = h.take n ++ [at_ h n] := by
  have h1 : h.take n ++ h.drop n = h := List.take_append_drop n h
  rw [List.drop_eq_getElem_cons (by omega), List.drop_eq_nil_of_le (by omega)] at h1
  have : at_ h n = h[n] := by unfold at_; rw [List.getD_eq_getElem?_getD, List.getElem?_eq_getElem (by omega)]; rfl
  rw [this, h1]

theorem hpop_perm {h : List C} (hn : 0 < h.length) : List.Perm (at_ h 0 :: hpop h) h := by
  unfold hpop
  have hs : (swp h 0 (h.length - 1)).length = h.length := swp_length _ _ _
  have hp := down_perm h.length (swp h 0 (h.length - 1)) 0 (h.length - 1) (by rw [hs]; omega)
  have hl := down_length h.length (swp h 0 (h.length - 1)) 0 (h.length - 1)
  have hlast := down_last h.length (swp h 0 (h.length - 1)) 0 (h.length - 1) (h.length - 1) (Nat.le_refl _) (by omega) (by rw [hs]; omega)
  rw [at_swp hn (by omega), if_pos rfl] at hlast
  generalize down h.length (swp h 0 (h.length - 1)) 0 (h.length - 1) = d at *
  have h1 := take_last (h := d) (n := h.length - 1) (by rw [hl, hs]; omega)
  rw [hlast] at h1
  have h2 : List.Perm (at_ h 0 :: d.take (h.length - 1)) d := by
    conv => rhs; rw [h1]
    exact (List.perm_append_singleton _ _).symm
  exact h2.trans (hp.trans (swp_perm hn (by omega)))

theorem hpop_length {h : List C} : (hpop h).length = h.length - 1 := by
  unfold hpop
  rw [List.length_take, down_length, swp_length]
  omega

theorem hpop_heap {h : List C} (hh : Hp h h.length) : Hp (hpop h) (hpop h).length := by
  rw [hpop_length]
  by_cases hn : h.length = 0
  · intro k _ hk
    omega
  have hd : Hp (down h.length (swp h 0 (h.length - 1)) 0 (h.length - 1)) (h.length - 1) := by
    refine down_heap _ _ _ _ (by omega) (by rw [swp_length]; omega) ⟨fun k hk hkn hne => ?_, fun k hk hkn _ h0 => by omega⟩
    rw [at_swp (by omega) (by omega), at_swp (by omega) (by omega), if_neg (by omega), if_neg (by omega), if_neg (by omega), if_neg hne]
    exact hh k hk (by omega)
  intro k hk hkn
  unfold hpop
  rw [take_at hkn, take_at (by omega)]
  exact hd k hk hkn

end Go.Proofs.Ytfncfcjaponeeaa
