/- A world that has grown: what it was, with new blocks behind, and draws. The walk's rules on it. No condition. -/
import Derived.Test.YtlogojiphjpknaaRows
import Derived.WalkKit
import Derived.WalkSpells
import Derived.WalkLawsBesides
import Derived.Lib.Hide
import Derived.Deep.RegionWith
import Derived.Deep.QuietTactic
import Derived.BigQuiet
import Derived.Deep.RegionHeld3
namespace Go.Proofs.Ytlogojiphjpknaa
open Go.RowKit

def ext (w : World) (os : Array Obj) (d : Nat) : World := { w with heap := w.heap ++ os, drawn := d }

section
variable (w : World) (os : Array Obj) (d : Nat)
@[go_sem] theorem ext_size : (ext w os d).heap.size = w.heap.size + os.size := by simp [ext]
theorem ext_get {n : Nat} (h : n < w.heap.size) : (ext w os d).heap[n]? = w.heap[n]? := by simp [ext, Array.getElem?_append, h]
@[go_sem] theorem ext_cell {n : Nat} (i : Nat) (h : n < w.heap.size) : (ext w os d).cell? ⟨n, i, none⟩ = w.cell? ⟨n, i, none⟩ := by
  simp [World.cell?, ext_get w os d h]
@[go_sem] theorem ext_frozen {n : Nat} (i : Nat) (h : n < w.heap.size) : (ext w os d).frozen? ⟨n, i, none⟩ = w.frozen? ⟨n, i, none⟩ := by
  simp [World.frozen?, ext_get w os d h]
@[go_sem] theorem ext_setCell {n : Nat} (i : Nat) (v : Value) (h : n < w.heap.size) : (ext w os d).setCell ⟨n, i, none⟩ v = ext (w.setCell ⟨n, i, none⟩ v) os d := by
  simp only [World.setCell, ext]
  congr 1
  apply Array.ext_getElem?
  intro j
  simp only [Array.getElem?_modify, Array.getElem?_append, Array.size_modify]
  by_cases hj : n = j
  · subst hj; simp [h]
  · simp [hj]
@[go_sem] theorem ext_drew : (ext w os d).drew = ext w os (d + 1) := rfl
@[go_sem] theorem ext_drew_in : ext w.drew os d = ext w os d := rfl
@[go_sem] theorem ext_drewN (n : Nat) : ext (w.drewN n) os d = ext w os d := rfl
theorem ext_zero : ext w #[] w.drawn = w := by simp [ext]
@[go_sem] theorem ext_ext (ps : Array Obj) (e : Nat) : ext (ext w os d) ps e = ext w (os ++ ps) e := by simp [ext, Array.append_assoc]
end

attribute [go_sem] Nat.add_assoc
@[go_sem] theorem pos_one_add (x : Nat) : (0 < 1 + x) = True := by simp; omega
@[go_sem] theorem pos_add (x y : Nat) : (0 < x + y) = (0 < x ∨ 0 < y) := by simp; omega

@[go_sem] theorem lt_add_of {a x y : Nat} (h : a < x) : (a < x + y) = True := by simp; omega

/-- a row of ints that came in: none, or at a block -/
def Ints (w : World) (A : Option Addr) (n : Nat) (zs : List Int) : Prop :=
  n = 0 ∨ ∃ b off, A = some ⟨b, off, none⟩ ∧ b < w.heap.size ∧ n ≤ zs.length ∧ ∀ j, j < n → w.cell? ⟨b, off + j, none⟩ = some (.int .i64 (zs.getD j 0))

theorem Ints.below {w w' : World} {A : Option Addr} {n : Nat} {zs : List Int} (h : Ints w A n zs) (hb : Below w.heap.size w w') : Ints w' A n zs := by
  rcases h with h | ⟨b, off, hA, hlt, hn, hc⟩
  · exact .inl h
  · exact .inr ⟨b, off, hA, Nat.lt_of_lt_of_le hlt hb.size, hn, fun j hj => (hb.cell (p := ⟨b, off + j, none⟩) hlt).trans (hc j hj)⟩

theorem block_lt {w : World} {a : Addr} {v : Value} (h : w.cell? a = some v) : a.block < w.heap.size := by
  rcases Nat.lt_or_ge a.block w.heap.size with hlt | hge
  · exact hlt
  · simp [World.cell?, Array.getElem?_eq_none hge] at h

theorem Ints.of {w : World} {A : Option Addr} {n m c : Nat} {zs : List Int}
    (h : (A = none ∧ n = 0 ∧ c = 0 ∧ zs = []) ∨ ∃ x, A = some x ∧ n ≤ c ∧ c ≤ m ∧ zs.length = c ∧ (∀ i, i < zs.length → w.cell? (x.add i) = some (.int .i64 (zs.getD i 0))) ∧ ∀ k ∈ zs, (Lit.int .i64 k).wf = true) : Ints w A n zs ∧ n ≤ zs.length ∧ (n ≤ m ∨ n = 0) := by
  rcases h with ⟨_, h, _, _⟩ | ⟨x, rfl, hn, hm, hl, hc, _⟩
  · subst h; exact ⟨.inl rfl, by omega, .inr rfl⟩
  · refine ⟨?_, by omega, .inl (by omega)⟩
    by_cases h0 : n = 0
    · exact .inl h0
    · obtain ⟨b, off, spot⟩ := x
      have hs : spot = none := by simpa [Addr.add] using World.cell?_spot (hc 0 (by omega))
      subst hs
      refine .inr ⟨b, off, rfl, block_lt (hc 0 (by omega)), by omega, fun j hj => ?_⟩
      have := hc j (by omega)
      unfold Addr.add at this
      split at this
      · rename_i h0; subst h0; exact this
      · exact this

theorem below_ext {B : Nat} {a w : World} (h : Below B a w) (hB : B ≤ w.heap.size) (os : Array Obj) (d : Nat) : Below B a (ext w os d) :=
  ⟨h.os, h.tape, h.output, Nat.le_trans h.size (by simp [ext]), fun k hk => (ext_get w os d (Nat.lt_of_lt_of_le hk hB)).trans (h.block k hk)⟩

theorem ext_of {W w : World} (h : Below W.heap.size W w) : ∃ os d, w = ext W os d := by
  refine ⟨w.heap.extract W.heap.size w.heap.size, w.drawn, ?_⟩
  have hh : w.heap = W.heap ++ w.heap.extract W.heap.size w.heap.size := by
    apply Array.ext_getElem?
    intro j
    rw [Array.getElem?_append]
    by_cases hj : j < W.heap.size
    · rw [if_pos hj]; exact h.block j hj
    · rw [if_neg hj, Array.getElem?_extract]
      have := h.size
      by_cases hj2 : j < w.heap.size
      · rw [if_pos (by omega)]; congr 1; omega
      · rw [if_neg (by omega), Array.getElem?_eq_none (by omega)]
  cases w
  cases W
  obtain ⟨h1, h2, h3, _, _⟩ := h
  simp only at h1 h2 h3 hh
  subst h1 h2 h3
  simp only [ext]
  rw [← hh]

end Go.Proofs.Ytlogojiphjpknaa
