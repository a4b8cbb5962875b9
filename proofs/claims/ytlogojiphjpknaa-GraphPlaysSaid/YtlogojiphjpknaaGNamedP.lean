/- What some Srcs name, as a list. No program in sight. -/
import Derived.Test.YtlogojiphjpknaaGPure
namespace Go.Proofs.Ytlogojiphjpknaa
namespace Gd

def named (G : Gd) (t : Int) (ss : List V) : List V × Int :=
  if G.not t then ([], 1) else if ss.any (fun s => decide (bad s)) then ([], 1)
  else match ss.find? (fun s => decide ((G.src t s).2 ≠ 0)) with
    | some s => ([], (G.src t s).2)
    | none => (ss.map fun s => (G.src t s).1, 0)

theorem getD_mem {ss : List V} {k : Nat} (hk : k < ss.length) : ss.getD k default ∈ ss := by
  rw [List.getD_eq_getElem?_getD, List.getElem?_eq_getElem hk]
  exact List.getElem_mem hk

theorem named_not {G : Gd} {t : Int} {ss : List V} (h : G.not t) : G.named t ss = ([], 1) := by unfold named; rw [if_pos h]
theorem named_bad {G : Gd} {t : Int} {ss : List V} (h : ¬ G.not t) {k : Nat} (hk : k < ss.length) (hb : bad (ss.getD k default)) : G.named t ss = ([], 1) := by
  unfold named
  rw [if_neg h, if_pos]
  exact List.any_eq_true.2 ⟨_, getD_mem hk, by simpa using hb⟩

theorem find_first {α : Type} {d : α} {q : α → Bool} : ∀ (l : List α) (k : Nat), k < l.length → (∀ j, j < k → q (l.getD j d) = false) → q (l.getD k d) = true → l.find? q = some (l.getD k d)
  | [], k, hk, _, _ => by simp at hk
  | x :: l, 0, _, _, hq => by
    have : q x = true := hq
    simp [this]
  | x :: l, k + 1, hk, h, hq => by
    have h0 : q x = false := h 0 (by omega)
    rw [List.find?_cons, h0]
    exact find_first l k (by simpa using hk) (fun j hj => h (j + 1) (by omega)) hq

theorem getD_of_mem {ss : List V} {s : V} (h : s ∈ ss) : ∃ k, k < ss.length ∧ ss.getD k default = s := by
  obtain ⟨k, hk, rfl⟩ := List.mem_iff_getElem.1 h
  exact ⟨k, hk, by rw [List.getD_eq_getElem?_getD, List.getElem?_eq_getElem hk]; rfl⟩

theorem named_err {G : Gd} {t : Int} {ss : List V} (h : ¬ G.not t) (hb : ∀ j, j < ss.length → ¬ bad (ss.getD j default)) {k : Nat} (hk : k < ss.length) (hj : ∀ j, j < k → (G.src t (ss.getD j default)).2 = 0)
    (he : (G.src t (ss.getD k default)).2 ≠ 0) : G.named t ss = ([], (G.src t (ss.getD k default)).2) := by
  unfold named
  rw [if_neg h, if_neg]
  · rw [find_first ss k hk (fun j hj' => by simpa using hj j hj') (by simpa using he)]
  · intro ha
    obtain ⟨s, hs, hbs⟩ := List.any_eq_true.1 ha
    obtain ⟨j, hj', rfl⟩ := getD_of_mem hs
    exact hb j hj' (by simpa using hbs)
theorem named_yes {G : Gd} {t : Int} {ss : List V} (h : ¬ G.not t) (hb : ∀ j, j < ss.length → ¬ bad (ss.getD j default)) (hj : ∀ j, j < ss.length → (G.src t (ss.getD j default)).2 = 0) :
    G.named t ss = (ss.map fun s => (G.src t s).1, 0) := by
  unfold named
  rw [if_neg h, if_neg]
  · have : ss.find? (fun s => decide ((G.src t s).2 ≠ 0)) = none := by
      rw [List.find?_eq_none]
      intro s hs
      obtain ⟨j, hj', rfl⟩ := getD_of_mem hs
      simpa using hj j hj'
    rw [this]
  · intro ha
    obtain ⟨s, hs, hbs⟩ := List.any_eq_true.1 ha
    obtain ⟨j, hj', rfl⟩ := getD_of_mem hs
    exact hb j hj' (by simpa using hbs)

theorem named_one (G : Gd) (t : Int) (s : V) : G.named t [s] = if G.serr t s ≠ 0 then ([], G.serr t s) else ([(G.src t s).1], 0) := by
  unfold named serr
  by_cases h : G.not t
  · rw [if_pos h, if_pos h, if_pos (by decide)]
  · rw [if_neg h, if_neg h]
    by_cases hb : bad s
    · rw [if_pos (by simp [hb]), if_pos hb, if_pos (by decide)]
    · rw [if_neg (by simp [hb]), if_neg hb]
      by_cases h0 : (G.src t s).2 = 0
      · rw [if_neg (by simp [h0])]; simp [h0]
      · rw [if_pos h0]; simp [h0]
theorem named_two (G : Gd) (t : Int) (s u : V) : G.named t [s, u] = if G.serr2 t s u ≠ 0 then ([], G.serr2 t s u) else ([(G.src t s).1, (G.src t u).1], 0) := by
  unfold named serr2
  by_cases h : G.not t
  · rw [if_pos h, if_pos h, if_pos (by decide)]
  · rw [if_neg h, if_neg h]
    by_cases hb : bad s ∨ bad u
    · rw [if_pos (by simpa using hb), if_pos hb, if_pos (by decide)]
    · rw [if_neg (by simpa using hb), if_neg hb]
      by_cases h0 : (G.src t s).2 = 0
      · by_cases h1 : (G.src t u).2 = 0
        · simp [h0, h1]
        · simp [h0, h1]
      · simp [h0]

end Gd
end Go.Proofs.Ytlogojiphjpknaa
