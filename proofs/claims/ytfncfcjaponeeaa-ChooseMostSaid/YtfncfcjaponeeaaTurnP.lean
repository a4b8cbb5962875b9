/- What is picked of candidates with unlike blocks is picked of the same ones turned about. No program in sight. -/
import Derived.Test.YtfncfcjaponeeaaPick
namespace Go.Proofs.Ytfncfcjaponeeaa

def pr (x : C) : Int × Int := (x.b, x.l)
def gr2 : List (Int × Int) → Int → List Int
  | [], _ => []
  | x :: s, m => if x.2 ≤ m then x.1 :: gr2 s (m - x.2) else []
theorem greedy_pr : ∀ (s : List C) (m : Int), greedy s m = gr2 (s.map pr) m
  | [], _ => rfl
  | x :: s, m => by
    simp only [greedy, List.map_cons, gr2, pr]
    rw [greedy_pr s (m - x.l)]

theorem cands_pr : ∀ (ls : List (Int × Int)) (i : Nat), (cands ls i).map pr = ls.filter (fun p => decide (1 ≤ p.2))
  | [], _ => rfl
  | (b, l) :: r, i => by
    unfold cands
    by_cases h : 1 ≤ l
    · rw [if_pos h, List.map_cons, cands_pr r (i + 1), List.filter_cons_of_pos (by simpa using h)]; rfl
    · rw [if_neg h, cands_pr r (i + 1), List.filter_cons_of_neg (by simpa using h)]

def lt2 (p q : Int × Int) : Prop := p.2 < q.2 ∨ (p.2 = q.2 ∧ p.1 < q.1)

theorem pr_sorted {s : List C} {ls : List (Int × Int)} (hs : IsSort s (cands ls 0)) (hn : List.Pairwise (fun p q : Int × Int => p.1 ≠ q.1) ls) : List.Pairwise lt2 (s.map pr) := by
  have h1 : List.Pairwise (fun p q : Int × Int => p.1 ≠ q.1) ((cands ls 0).map pr) := by rw [cands_pr]; exact hn.filter _
  have h2 : List.Pairwise (fun x y : C => x.b ≠ y.b) (cands ls 0) := (List.pairwise_map.1 h1).imp fun h => h
  have h3 : List.Pairwise (fun x y : C => x.b ≠ y.b) s := hs.2.symm.pairwise h2 (fun h => Ne.symm h)
  rw [List.pairwise_map]
  refine (hs.1.and h3).imp fun {a b} h => ?_
  obtain ⟨ha, hb⟩ := h
  unfold lt at ha
  unfold lt2 pr
  simp only
  omega

theorem picked_turned {ls : List (Int × Int)} {m : Int} {o p : List Int} (hn : List.Pairwise (fun p q : Int × Int => p.1 ≠ q.1) ls) (ho : Picked ls m o) (hp : Picked ls.reverse m p) : o = p := by
  obtain ⟨s, hs⟩ := sort_exists (cands_nodup ls 0)
  obtain ⟨t, ht⟩ := sort_exists (cands_nodup ls.reverse 0)
  rw [ho s hs, hp t ht, greedy_pr, greedy_pr]
  have hn' : List.Pairwise (fun p q : Int × Int => p.1 ≠ q.1) ls.reverse := (List.reverse_perm ls).symm.pairwise hn (fun h => Ne.symm h)
  have h1 := pr_sorted hs hn
  have h2 := pr_sorted ht hn'
  have h3 : List.Perm (s.map pr) (t.map pr) := by
    refine (hs.2.map pr).trans (List.Perm.trans ?_ (ht.2.map pr).symm)
    rw [cands_pr, cands_pr]
    exact ((List.reverse_perm ls).filter _).symm
  have : s.map pr = t.map pr := List.Perm.eq_of_pairwise (fun a b _ _ h1 h2 => by
    unfold lt2 at h1 h2
    exfalso
    omega) h1 h2 h3
  rw [this]

/-- the blocks 0, 1 and so on, with their Live -/
def la (zs : List Int) (j : Nat) : List (Int × Int) := (List.range j).map fun i : Nat => ((i : Int), zs.getD i 0)
/-- the same ones from behind -/
def ra (zs : List Int) (n j : Nat) : List (Int × Int) := (List.range j).map fun i : Nat => (((n - 1 - i : Nat) : Int), zs.getD (n - 1 - i) 0)

theorem la_length (zs : List Int) (j : Nat) : (la zs j).length = j := by simp [la]
theorem ra_length (zs : List Int) (n j : Nat) : (ra zs n j).length = j := by simp [ra]
theorem la_succ (zs : List Int) (j : Nat) : la zs (j + 1) = la zs j ++ [((j : Int), zs.getD j 0)] := by simp [la, List.range_succ]
theorem ra_succ (zs : List Int) (n j : Nat) : ra zs n (j + 1) = ra zs n j ++ [(((n - 1 - j : Nat) : Int), zs.getD (n - 1 - j) 0)] := by simp [ra, List.range_succ]
theorem la_unlike (zs : List Int) (n : Nat) : List.Pairwise (fun p q : Int × Int => p.1 ≠ q.1) (la zs n) := by
  unfold la
  rw [List.pairwise_map]
  refine List.nodup_range.imp fun {a b} h => ?_
  simp only
  omega
theorem ra_reverse (zs : List Int) (n : Nat) : ra zs n n = (la zs n).reverse := by
  apply List.ext_getElem
  · simp [la, ra]
  · intro i h1 h2
    simp [la, ra] at h1 h2 ⊢

end Go.Proofs.Ytfncfcjaponeeaa
