/- What is picked, as a list: the candidates in order, taken while they fit. No program in sight. -/
import Derived.Test.YtfncfcjaponeeaaPure
namespace Go.Proofs.Ytfncfcjaponeeaa

def greedy : List C → Int → List Int
  | [], _ => []
  | x :: s, m => if x.l ≤ m then x.b :: greedy s (m - x.l) else []

/-- what choose.Pick's second loop makes of a heap -/
def picks : Nat → List C → Int → List Int
  | 0, _, _ => []
  | f + 1, h, m => if 0 < h.length ∧ (at_ h 0).l ≤ m then (at_ h 0).b :: picks f (hpop h) (m - (at_ h 0).l) else []

def IsSort (s cs : List C) : Prop := List.Pairwise lt s ∧ List.Perm s cs

theorem mem_at {h : List C} {x : C} (hx : x ∈ h) : ∃ k, k < h.length ∧ at_ h k = x := by
  obtain ⟨k, hk, rfl⟩ := List.mem_iff_getElem.1 hx
  exact ⟨k, hk, by unfold at_; rw [List.getD_eq_getElem?_getD, List.getElem?_eq_getElem hk]; rfl⟩

theorem root_first {h s : List C} {x : C} (hh : Hp h h.length) (hs : IsSort (x :: s) h) : at_ h 0 = x ∧ IsSort s (hpop h) := by
  obtain ⟨h1, h2⟩ := hs
  have hlen : 0 < h.length := by have := h2.length_eq; simp at this; omega
  obtain ⟨h3, h4⟩ := List.pairwise_cons.1 h1
  have hr : at_ h 0 = x := by
    have hm : at_ h 0 ∈ x :: s := h2.mem_iff.2 (at_mem hlen)
    rcases List.mem_cons.1 hm with he | he
    · exact he
    · exfalso
      obtain ⟨k, hk, hkx⟩ := mem_at (h2.mem_iff.1 (List.mem_cons_self (a := x) (l := s)))
      have := root_min hh k hk
      rw [hkx] at this
      exact this (h3 _ he)
  refine ⟨hr, h4, ?_⟩
  have hp := hpop_perm hlen
  rw [hr] at hp
  exact (h2.trans hp.symm).cons_inv

theorem picks_greedy : ∀ (s : List C) (f : Nat) (h : List C) (m : Int), s.length ≤ f → Hp h h.length → IsSort s h → picks f h m = greedy s m
  | [], f, h, m, _, _, hs => by
    have : h = [] := hs.2.symm.eq_nil
    subst this
    cases f <;> simp [picks, greedy]
  | x :: s, 0, _, _, hf, _, _ => by simp at hf
  | x :: s, f + 1, h, m, hf, hh, hs => by
    obtain ⟨hr, hs'⟩ := root_first hh hs
    have hlen : 0 < h.length := by have := hs.2.length_eq; simp at this; omega
    unfold picks greedy
    rw [hr]
    by_cases hx : x.l ≤ m
    · rw [if_pos ⟨hlen, hx⟩, if_pos hx, picks_greedy s f (hpop h) _ (by simpa using hf) (hpop_heap hh) hs']
    · rw [if_neg (fun h => hx h.2), if_neg hx]

theorem sort_unique {s t cs : List C} (hs : IsSort s cs) (ht : IsSort t cs) : s = t := by
  have hp : List.Perm s t := hs.2.trans ht.2.symm
  exact List.Perm.eq_of_pairwise (fun a b _ _ h1 h2 => absurd h2 (lt_asymm h1)) hs.1 ht.1 hp

/-- the candidates that may be, each with the place where it stood -/
def cands : List (Int × Int) → Nat → List C
  | [], _ => []
  | (b, l) :: r, i => if 1 ≤ l then ⟨b, l, i⟩ :: cands r (i + 1) else cands r (i + 1)

theorem cands_ge {r : List (Int × Int)} : ∀ {i : Nat} {x : C}, x ∈ cands r i → (i : Int) ≤ x.a := by
  induction r with
  | nil => intro i x h; simp [cands] at h
  | cons p r ih =>
    intro i x h
    unfold cands at h
    split at h
    · rcases List.mem_cons.1 h with rfl | h
      · exact Int.le_refl _
      · have := ih h; omega
    · have := ih h; omega

theorem cands_nodup (r : List (Int × Int)) : ∀ i, List.Pairwise (fun x y : C => x.a ≠ y.a) (cands r i) := by
  induction r with
  | nil => intro i; simp [cands]
  | cons p r ih =>
    intro i
    unfold cands
    split
    · refine List.pairwise_cons.2 ⟨fun y hy => ?_, ih _⟩
      have := cands_ge hy
      show (i : Int) ≠ y.a
      omega
    · exact ih _

theorem cands_live {r : List (Int × Int)} : ∀ {i : Nat} {x : C}, x ∈ cands r i → 1 ≤ x.l := by
  induction r with
  | nil => intro i x h; simp [cands] at h
  | cons p r ih =>
    intro i x h
    unfold cands at h
    split at h
    · rename_i h1
      rcases List.mem_cons.1 h with rfl | h
      · exact h1
      · exact ih h
    · exact ih h

theorem cands_append (r q : List (Int × Int)) : ∀ i, cands (r ++ q) i = cands r i ++ cands q (i + r.length) := by
  induction r with
  | nil => intro i; simp [cands]
  | cons p r ih =>
    intro i
    simp only [List.cons_append, cands]
    split <;> simp [ih, Nat.add_comm, Nat.add_left_comm]

def le (x y : C) : Bool := decide (¬ lt y x)

theorem sort_exists {cs : List C} (hn : List.Pairwise (fun x y : C => x.a ≠ y.a) cs) : ∃ s, IsSort s cs := by
  refine ⟨cs.mergeSort le, ?_, List.mergeSort_perm cs le⟩
  have h1 : List.Pairwise (fun a b => le a b = true) (cs.mergeSort le) := List.pairwise_mergeSort (fun a b c h1 h2 => by
    simp only [le, decide_eq_true_eq] at *
    exact nlt_trans h1 h2) (fun a b => by
    simp only [le, Bool.or_eq_true, decide_eq_true_eq]
    by_cases h : lt b a
    · exact .inr (lt_asymm h)
    · exact .inl h) cs
  have h2 : List.Pairwise (fun x y : C => x.a ≠ y.a) (cs.mergeSort le) := (List.mergeSort_perm cs le).symm.pairwise hn (fun h => Ne.symm h)
  refine (h1.and h2).imp fun {a b} h => ?_
  by_cases hab : lt a b
  · exact hab
  · exfalso
    have h3 : ¬ lt b a := by simpa [le] using h.1
    exact h.2 (congrArg C.a (lt_total hab h3))

def heapOf : List C → List C := fun cs => cs.foldl hpush []

theorem heapOf_snoc (cs : List C) (x : C) : heapOf (cs ++ [x]) = hpush (heapOf cs) x := by simp [heapOf]

theorem heapOf_ok : ∀ cs : List C, Hp (heapOf cs) (heapOf cs).length ∧ List.Perm (heapOf cs) cs := by
  have key : ∀ (cs h : List C), Hp h h.length → Hp (cs.foldl hpush h) (cs.foldl hpush h).length ∧ List.Perm (cs.foldl hpush h) (h ++ cs) := by
    intro cs
    induction cs with
    | nil => intro h hh; exact ⟨hh, by simp⟩
    | cons x cs ih =>
      intro h hh
      obtain ⟨h1, h2⟩ := ih (hpush h x) (hpush_heap hh)
      refine ⟨h1, h2.trans ?_⟩
      refine ((hpush_perm h x).append_right cs).trans ?_
      exact (List.perm_middle (a := x) (l₁ := h) (l₂ := cs)).symm
  intro cs
  have := key cs [] (fun k _ hk => by simp at hk)
  simpa [heapOf] using this

/-- what is picked of these, at most so much -/
def Picked (l : List (Int × Int)) (m : Int) (out : List Int) : Prop := ∀ s, IsSort s (cands l 0) → out = greedy s m

theorem picked_heap (l : List (Int × Int)) (m : Int) : Picked l m (picks (cands l 0).length (heapOf (cands l 0)) m) := fun s hs => by
  obtain ⟨h1, h2⟩ := heapOf_ok (cands l 0)
  exact picks_greedy s _ _ _ (by rw [hs.2.length_eq]; exact Nat.le_refl _) h1 ⟨hs.1, hs.2.trans h2.symm⟩

theorem picked_unique {l : List (Int × Int)} {m : Int} {o p : List Int} (ho : Picked l m o) (hp : Picked l m p) : o = p := by
  obtain ⟨s, hs⟩ := sort_exists (cands_nodup l 0)
  rw [ho s hs, hp s hs]

end Go.Proofs.Ytfncfcjaponeeaa
