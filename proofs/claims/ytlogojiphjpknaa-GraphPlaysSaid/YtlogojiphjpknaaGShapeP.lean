/- A graph's shape: what can be come to, with numbers. No program in sight. -/
import Derived.Test.YtlogojiphjpknaaGPure
namespace Go.Proofs.Ytlogojiphjpknaa
namespace Gd

/-- an object's number, met now if it was not -/
def num (met : List Int) (id : Int) : List Int × Int :=
  if id = 0 then (met, 0) else if id ∈ met then (met, (met.idxOf id : Int) + 1) else (met ++ [id], (met.length : Int) + 1)

def nums : List Int → List Int → List Int × List Int
  | met, [] => (met, [])
  | met, id :: l => ((nums (num met id).1 l).1, (num met id).2 :: (nums (num met id).1 l).2)

def numV (met : List Int) (v : V) : List Int × V := if v.k = 1 then ((num met v.n).1, ⟨v.k, (num met v.n).2⟩) else (met, v)

def numVs : List Int → List V → List Int × List V
  | met, [] => (met, [])
  | met, v :: l => ((numVs (numV met v).1 l).1, (numV met v).2 :: (numVs (numV met v).1 l).2)

/-- a thread's roots as a list -/
def ids (r : Rt) : List Int := [r.a0, r.a1, r.a2, r.a3, r.a4, r.a5, r.a6, r.a7].take r.n.toNat

def numRs : List Int → List Rt → List Int × List (List Int)
  | met, [] => (met, [])
  | met, r :: l => ((numRs (nums met (ids r)).1 l).1, (nums met (ids r)).2 :: (numRs (nums met (ids r)).1 l).2)

def step (G : Gd) (s : List Int × List (List V)) : List Int × List (List V) :=
  ((numVs s.1 (G.ob (s.1.getD s.2.length 0))).1, s.2 ++ [(numVs s.1 (G.ob (s.1.getD s.2.length 0))).2])

def run (G : Gd) : Nat → List Int × List (List V)
  | 0 => ((numRs [] G.ts).1, [])
  | j + 1 => G.step (G.run j)

/-- it is this shape: when all that was met was gone through -/
def Is (G : Gd) (R : List (List Int)) (L : List (List V)) : Prop :=
  R = (numRs [] G.ts).2 ∧ ∃ j, L = (G.run j).2 ∧ (G.run j).1.length = j ∧ ∀ i, i < j → i < (G.run i).1.length

theorem run_length (G : Gd) : ∀ j, (G.run j).2.length = j
  | 0 => rfl
  | j + 1 => by simp [run, step, run_length G j]

theorem is_unique {G : Gd} {R R' : List (List Int)} {L L' : List (List V)} (h : G.Is R L) (h' : G.Is R' L') : R = R' ∧ L = L' := by
  obtain ⟨h1, j, h2, h3, h4⟩ := h
  obtain ⟨h1', j', h2', h3', h4'⟩ := h'
  refine ⟨h1.trans h1'.symm, ?_⟩
  have : j = j' := by
    rcases Nat.lt_trichotomy j j' with hl | hl | hl
    · have := h4' j hl; omega
    · exact hl
    · have := h4 j' hl; omega
  subst this
  rw [h2, h2']

/-- what was met: unlike ones, each an object -/
def MOk (m : Nat) (met : List Int) : Prop := met.Nodup ∧ ∀ id ∈ met, 1 ≤ id ∧ id ≤ m

theorem MOk.length {m : Nat} {met : List Int} (h : MOk m met) : met.length ≤ m := by
  have h1 := List.Nodup.length_le_of_subset (l₂ := (List.range m).map fun i : Nat => (i : Int) + 1) h.1 (fun id hid => by
    have := h.2 id hid
    exact List.mem_map.2 ⟨(id - 1).toNat, List.mem_range.2 (by omega), by omega⟩)
  simpa using h1

theorem num_ok {m : Nat} {met : List Int} (h : MOk m met) {id : Int} (hid : idOk m id) : MOk m (num met id).1 := by
  unfold num
  split
  · exact h
  · split
    · exact h
    · rename_i h0 hm
      refine ⟨List.nodup_append.2 ⟨h.1, by simp, fun a ha b hb => ?_⟩, fun x hx => ?_⟩
      · obtain rfl := List.mem_singleton.1 hb
        exact fun e => hm (e ▸ ha)
      · rcases List.mem_append.1 hx with hx | hx
        · exact h.2 x hx
        · obtain rfl := List.mem_singleton.1 hx
          unfold idOk at hid
          omega
theorem nums_ok {m : Nat} : ∀ (l : List Int) {met : List Int}, MOk m met → (∀ id ∈ l, idOk m id) → MOk m (nums met l).1
  | [], _, h, _ => h
  | id :: l, _, h, hl => nums_ok l (num_ok h (hl id List.mem_cons_self)) (fun x hx => hl x (List.mem_cons_of_mem _ hx))
theorem numV_ok {m : Nat} {met : List Int} (h : MOk m met) {v : V} (hv : vOk m v) : MOk m (numV met v).1 := by
  unfold numV
  split
  · rename_i hk
    exact num_ok h ⟨hv.2.1, hv.2.2.2 hk⟩
  · exact h
theorem numVs_ok {m : Nat} : ∀ (l : List V) {met : List Int}, MOk m met → (∀ v ∈ l, vOk m v) → MOk m (numVs met l).1
  | [], _, h, _ => h
  | v :: l, _, h, hl => numVs_ok l (numV_ok h (hl v List.mem_cons_self)) (fun x hx => hl x (List.mem_cons_of_mem _ hx))
theorem ids_ok {m : Nat} {r : Rt} (h : rtOk m r) : ∀ id ∈ ids r, idOk m id := by
  intro id hid
  have := List.mem_of_mem_take hid
  obtain ⟨_, h0, h1, h2, h3, h4, h5, h6, h7⟩ := h
  simp only [List.mem_cons, List.not_mem_nil, or_false] at this
  rcases this with rfl | rfl | rfl | rfl | rfl | rfl | rfl | rfl <;> assumption
theorem numRs_ok {m : Nat} : ∀ (l : List Rt) {met : List Int}, MOk m met → (∀ r ∈ l, rtOk m r) → MOk m (numRs met l).1
  | [], _, h, _ => h
  | r :: l, _, h, hl => numRs_ok l (nums_ok _ h (ids_ok (hl r List.mem_cons_self))) (fun x hx => hl x (List.mem_cons_of_mem _ hx))
theorem run_ok {G : Gd} (h : G.Ok) : ∀ j, MOk G.os.length (G.run j).1
  | 0 => numRs_ok _ ⟨List.Pairwise.nil, fun _ hx => by cases hx⟩ h.rs
  | j + 1 => numVs_ok _ (run_ok h j) (h.ob _).1

end Gd
end Go.Proofs.Ytlogojiphjpknaa
