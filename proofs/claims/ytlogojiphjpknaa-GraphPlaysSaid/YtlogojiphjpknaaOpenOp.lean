/- An argument that is a call (nine ints) reads as ints, each within its bounds. No condition. -/
import Derived.Test.YtlogojiphjpknaaOpenOps
namespace Go.Proofs.Ytlogojiphjpknaa
open Go.ChangeShapes Go.WideShapes Go.ChangeAt Go.RowKit Go.Deep

section
variable {H : Type} {enc : TypeId × Value → H} {w : World}
theorem open_op {v : Value} {d : DataW H} {ps : List MemPlace} {r : Reach} {b0 : Nat} {base : Nat} {spare : Nat → Bool} {held : Bool} (hval : Value.okWide Try.prog w r b0 50 v) (hd : DataW.Trod enc Try.prog w base spare held 50 v d ps) :
    ∃ y : Nat → Int, v = .agg #[.int .i64 (y 0), .int .i64 (y 1), .int .i64 (y 2), .int .i64 (y 3), .int .i64 (y 4), .int .i64 (y 5), .int .i64 (y 6), .int .i64 (y 7), .int .i64 (y 8)] ∧ ∀ k, -9223372036854775808 ≤ y k ∧ y k ≤ 9223372036854775807 := by
  obtain ⟨cs, rfl, hsz, _⟩ : ∃ cs, v = .agg cs ∧ cs.size = Try.prog.cellsOf 50 ∧ Row.okWide Try.prog w r b0 50 cs := by
    simpa [Value.okWide, Try.underlying50] using hval
  obtain ⟨fuel, hf⟩ := hd
  obtain ⟨h9, hb⟩ := op_ints hf
  obtain ⟨l⟩ := cs
  have h9' : l.length = 9 := by simpa [Value.cells] using h9
  match l, h9' with
  | [c0, c1, c2, c3, c4, c5, c6, c7, c8], _ =>
    obtain ⟨x0, rfl, g0⟩ := hb c0 (by simp [Value.cells])
    obtain ⟨x1, rfl, g1⟩ := hb c1 (by simp [Value.cells])
    obtain ⟨x2, rfl, g2⟩ := hb c2 (by simp [Value.cells])
    obtain ⟨x3, rfl, g3⟩ := hb c3 (by simp [Value.cells])
    obtain ⟨x4, rfl, g4⟩ := hb c4 (by simp [Value.cells])
    obtain ⟨x5, rfl, g5⟩ := hb c5 (by simp [Value.cells])
    obtain ⟨x6, rfl, g6⟩ := hb c6 (by simp [Value.cells])
    obtain ⟨x7, rfl, g7⟩ := hb c7 (by simp [Value.cells])
    obtain ⟨x8, rfl, g8⟩ := hb c8 (by simp [Value.cells])
    refine ⟨fun k => [x0, x1, x2, x3, x4, x5, x6, x7, x8].getD k 0, rfl, fun k => ?_⟩
    rcases (show k = 0 ∨ k = 1 ∨ k = 2 ∨ k = 3 ∨ k = 4 ∨ k = 5 ∨ k = 6 ∨ k = 7 ∨ k = 8 ∨ 9 ≤ k by omega) with rfl | rfl | rfl | rfl | rfl | rfl | rfl | rfl | rfl | hk
    · exact g0
    · exact g1
    · exact g2
    · exact g3
    · exact g4
    · exact g5
    · exact g6
    · exact g7
    · exact g8
    · have : [x0, x1, x2, x3, x4, x5, x6, x7, x8].getD k 0 = 0 := by
        rw [List.getD_eq_getElem?_getD, List.getElem?_eq_none (by simpa using hk)]; rfl
      show -9223372036854775808 ≤ [x0, x1, x2, x3, x4, x5, x6, x7, x8].getD k 0 ∧ [x0, x1, x2, x3, x4, x5, x6, x7, x8].getD k 0 ≤ 9223372036854775807
      rw [this]
      omega
end

end Go.Proofs.Ytlogojiphjpknaa
