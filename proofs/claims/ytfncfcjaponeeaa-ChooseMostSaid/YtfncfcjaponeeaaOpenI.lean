/- An argument that is a slice of ints reads as a list of ints. No condition. -/
import Derived.Test.YtfncfcjaponeeaaOpen
namespace Go.Proofs.Ytfncfcjaponeeaa
open Go.ChangeShapes Go.WideShapes Go.ChangeAt Go.RowKit Go.Deep

section
variable {H : Type} {enc : TypeId × Value → H} {w : World}
theorem open_row {v : Value} {d : DataW H} {ps : List MemPlace} {r : Reach} {b0 : Nat} (hval : Value.okWide Try.prog w r b0 25 v) (hd : DataW.Trod enc Try.prog w 0 (fun _ => true) true 25 v d ps) :
    ∃ A n c zs, v = .slice A n c ∧ Ints w A n zs ∧ n ≤ 9223372036854775807 := by
  obtain ⟨A, n, c, rfl⟩ := okWide_slice Try.underlying25 hval
  obtain ⟨fuel, hf⟩ := hd
  have key : ∃ zs : List Int, (A = none ∧ n = 0 ∧ c = 0 ∧ zs = []) ∨ ∃ x, A = some x ∧ n ≤ c ∧ c ≤ maxLen ∧ zs.length = c ∧ (∀ i, i < zs.length → w.cell? (x.add i) = some (.int .i64 (zs.getD i 0))) ∧ ∀ k ∈ zs, (Lit.int .i64 k).wf = true := by
    rcases open_ints Try.underlying25 Try.underlying3 (by kernel_rfl) hf with ⟨hcs, _⟩ | ⟨x, l, cc, zs, hcs, _, hl, hm, hz, _, hcell, hwz⟩
    · simp [Value.cells] at hcs
      obtain ⟨rfl, rfl, rfl⟩ := hcs
      exact ⟨[], .inl ⟨rfl, rfl, rfl, rfl⟩⟩
    · simp [Value.cells] at hcs
      obtain ⟨rfl, rfl, rfl⟩ := hcs
      exact ⟨zs, .inr ⟨_, rfl, hl, hm, by simpa using hz, hcell, hwz⟩⟩
  obtain ⟨zs, h⟩ := key
  obtain ⟨h1, h2, h3⟩ := Ints.of h
  exact ⟨A, n, c, zs, rfl, h1, by unfold maxLen at h3; omega⟩
end

end Go.Proofs.Ytfncfcjaponeeaa
