/- An argument that is a slice of calls (nine ints each) reads as a table of ints, each within its bounds. No condition. -/
import Derived.Test.YtlogojiphjpknaaOpenI
namespace Go.Proofs.Ytlogojiphjpknaa
open Go.ChangeShapes Go.WideShapes Go.ChangeAt Go.RowKit Go.Deep

/-- n calls lie at A: the k-th int of the i-th one is z i k -/
def Ops (w : World) (A : Option Addr) (n : Nat) (z : Nat → Nat → Int) : Prop :=
  n = 0 ∨ ∃ b off, A = some ⟨b, off, none⟩ ∧ b < w.heap.size ∧ ∀ i, i < n → ∀ k, k < 9 → w.cell? ⟨b, off + (i * 9 + k), none⟩ = some (.int .i64 (z i k))

theorem cells48 : Try.prog.cellsOf 48 = 2 := by kernel_rfl
theorem cells50 : Try.prog.cellsOf 50 = 9 := by kernel_rfl

section
variable {H : Type} {enc : TypeId × Value → H} {w : World} {base : Nat} {spare : Nat → Bool} {held : Bool}
def InB (c : Value) : Prop := ∃ n : Int, c = .int .i64 n ∧ -9223372036854775808 ≤ n ∧ n ≤ 9223372036854775807
theorem src_ints {m : Nat} {a b : Value} {y : DataW H × List MemPlace} (h : DataW.trod enc Try.prog w base spare held m 48 [a, b] = some y) : InB a ∧ InB b := by
  obtain ⟨xs, n, _, _, _, hl, hg⟩ := DataW.trod_struct Try.underlying48 h
  have g0 : DataW.trod enc Try.prog w base spare held n 3 (([a, b].drop 0).take (Try.prog.cellsOf 3)) = xs[0]? := hg 0 _ rfl
  have g1 : DataW.trod enc Try.prog w base spare held n 3 (([a, b].drop 1).take (Try.prog.cellsOf 3)) = xs[1]? := hg 1 _ rfl
  rw [cells3] at g0 g1
  obtain ⟨y0, e0⟩ : ∃ y, xs[0]? = some y := ⟨_, List.getElem?_eq_getElem (by rw [hl]; decide)⟩
  obtain ⟨y1, e1⟩ : ∃ y, xs[1]? = some y := ⟨_, List.getElem?_eq_getElem (by rw [hl]; decide)⟩
  rw [e0] at g0
  rw [e1] at g1
  exact ⟨cell_intB g0, cell_intB g1⟩

theorem op_ints {m : Nat} {cs : List Value} {y : DataW H × List MemPlace} (h : DataW.trod enc Try.prog w base spare held m 50 cs = some y) : cs.length = 9 ∧ ∀ c ∈ cs, InB c := by
  obtain ⟨xs, n, _, _, hc, hl, hg⟩ := DataW.trod_struct Try.underlying50 h
  rw [cells50] at hc
  refine ⟨hc, ?_⟩
  match cs, hc with
  | [c0, c1, c2, c3, c4, c5, c6, c7, c8], _ =>
    have he : ∀ i, i < 7 → ∃ y, xs[i]? = some y := fun i hi => ⟨_, List.getElem?_eq_getElem (by rw [hl]; exact hi)⟩
    have g0 : DataW.trod enc Try.prog w base spare held n 3 (([c0, c1, c2, c3, c4, c5, c6, c7, c8].drop 0).take (Try.prog.cellsOf 3)) = xs[0]? := hg 0 _ rfl
    have g1 : DataW.trod enc Try.prog w base spare held n 3 (([c0, c1, c2, c3, c4, c5, c6, c7, c8].drop 1).take (Try.prog.cellsOf 3)) = xs[1]? := hg 1 _ rfl
    have g2 : DataW.trod enc Try.prog w base spare held n 3 (([c0, c1, c2, c3, c4, c5, c6, c7, c8].drop 2).take (Try.prog.cellsOf 3)) = xs[2]? := hg 2 _ rfl
    have g3 : DataW.trod enc Try.prog w base spare held n 3 (([c0, c1, c2, c3, c4, c5, c6, c7, c8].drop 3).take (Try.prog.cellsOf 3)) = xs[3]? := hg 3 _ rfl
    have g4 : DataW.trod enc Try.prog w base spare held n 3 (([c0, c1, c2, c3, c4, c5, c6, c7, c8].drop 4).take (Try.prog.cellsOf 3)) = xs[4]? := hg 4 _ rfl
    have g5 : DataW.trod enc Try.prog w base spare held n 48 (([c0, c1, c2, c3, c4, c5, c6, c7, c8].drop 5).take (Try.prog.cellsOf 48)) = xs[5]? := hg 5 _ rfl
    have g6 : DataW.trod enc Try.prog w base spare held n 48 (([c0, c1, c2, c3, c4, c5, c6, c7, c8].drop 7).take (Try.prog.cellsOf 48)) = xs[6]? := hg 6 _ rfl
    rw [cells3] at g0 g1 g2 g3 g4
    rw [cells48] at g5 g6
    obtain ⟨y0, e0⟩ := he 0 (by omega)
    obtain ⟨y1, e1⟩ := he 1 (by omega)
    obtain ⟨y2, e2⟩ := he 2 (by omega)
    obtain ⟨y3, e3⟩ := he 3 (by omega)
    obtain ⟨y4, e4⟩ := he 4 (by omega)
    obtain ⟨y5, e5⟩ := he 5 (by omega)
    obtain ⟨y6, e6⟩ := he 6 (by omega)
    rw [e0] at g0
    rw [e1] at g1
    rw [e2] at g2
    rw [e3] at g3
    rw [e4] at g4
    rw [e5] at g5
    rw [e6] at g6
    have s5 := src_ints g5
    have s6 := src_ints g6
    intro c hcm
    simp only [List.mem_cons, List.not_mem_nil, or_false] at hcm
    rcases hcm with rfl | rfl | rfl | rfl | rfl | rfl | rfl | rfl | rfl
    · exact cell_intB g0
    · exact cell_intB g1
    · exact cell_intB g2
    · exact cell_intB g3
    · exact cell_intB g4
    · exact s5.1
    · exact s5.2
    · exact s6.1
    · exact s6.2
end

section
variable {H : Type} {enc : TypeId × Value → H} {w : World}
theorem open_ops {v : Value} {d : DataW H} {ps : List MemPlace} {r : Reach} {b0 : Nat} (hval : Value.okWide Try.prog w r b0 40 v) (hd : DataW.Trod enc Try.prog w 0 (fun _ => true) true 40 v d ps) :
    ∃ A n c z, v = .slice A n c ∧ Ops w A n z ∧ (∀ i k, -9223372036854775808 ≤ z i k ∧ z i k ≤ 9223372036854775807) ∧ n ≤ 9223372036854775807 := by
  obtain ⟨A, n, c, rfl⟩ := okWide_slice Try.underlying40 hval
  obtain ⟨fuel, hf⟩ := hd
  rcases open_slice Try.underlying40 hf with ⟨hcs, _⟩ | ⟨a, len, cap, m, nf, D, Pl, hcs, _, hl, hm, hmm, _, hi⟩
  · simp [Value.cells] at hcs
    obtain ⟨rfl, rfl, rfl⟩ := hcs
    exact ⟨none, 0, 0, fun _ _ => 0, rfl, .inl rfl, fun _ _ => ⟨by show (-9223372036854775808 : Int) ≤ 0; omega, by show (0 : Int) ≤ 9223372036854775807; omega⟩, by omega⟩
  · simp [Value.cells] at hcs
    obtain ⟨rfl, rfl, rfl⟩ := hcs
    have hml : n ≤ m := by rw [hmm]; split <;> omega
    have hcell : ∀ q : Nat × Nat, ∃ x : Int, (q.1 < n → q.2 < 9 → w.cell? (a.add (q.1 * 9 + q.2)) = some (.int .i64 x)) ∧ -9223372036854775808 ≤ x ∧ x ≤ 9223372036854775807 := by
      rintro ⟨i, k⟩
      by_cases hq : i < n ∧ k < 9
      · obtain ⟨cs', hc', ht'⟩ := hi i (by omega)
        rw [cells50] at hc'
        obtain ⟨_, hcl, hat⟩ := World.cells?_some hc'
        obtain ⟨h9, hb⟩ := op_ints ht'
        have hk : k < cs'.length := by omega
        obtain ⟨x, hx, hx1, hx2⟩ := hb (cs'[k]'hk) (List.getElem_mem hk)
        refine ⟨x, fun _ _ => ?_, hx1, hx2⟩
        have hcell := hat k hq.2
        rw [← Go.Deep.add_add, hcell, List.getElem?_eq_getElem hk, hx]
      · exact ⟨0, fun h1 h2 => absurd ⟨h1, h2⟩ hq, by omega, by omega⟩
    obtain ⟨f, hf2⟩ := Classical.axiomOfChoice hcell
    refine ⟨some a, n, c, fun i k => f (i, k), rfl, ?_, fun i k => (hf2 (i, k)).2, by unfold maxLen at hm; omega⟩
    by_cases h0 : n = 0
    · exact .inl h0
    · have hx := (hf2 (0, 0)).1 (by omega) (by show 0 < 9; omega)
      obtain ⟨b, off, spot⟩ := a
      have hs : spot = none := by simpa [Addr.add] using World.cell?_spot hx
      subst hs
      have hadd : ∀ k, (⟨b, off, none⟩ : Addr).add k = ⟨b, off + k, none⟩ := fun k => by unfold Addr.add; split <;> simp_all
      refine .inr ⟨b, off, rfl, by have := block_lt hx; rw [hadd] at this; exact this, fun i hi' k hk => ?_⟩
      have := (hf2 (i, k)).1 hi' hk
      rw [hadd] at this
      exact this
end

end Go.Proofs.Ytlogojiphjpknaa
