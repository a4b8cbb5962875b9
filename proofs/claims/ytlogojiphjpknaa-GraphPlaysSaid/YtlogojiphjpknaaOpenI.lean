/- An argument that is a slice of ints reads as a list of ints, each within its bounds. No condition. -/
import Derived.Test.YtlogojiphjpknaaOpen
import Derived.Test.YtlogojiphjpknaaExt
import Derived.Deep.Slices
namespace Go.Proofs.Ytlogojiphjpknaa
open Go.ChangeShapes Go.WideShapes Go.ChangeAt Go.RowKit Go.Deep

theorem wf_bd {x : Int} (h : (Lit.int .i64 x).wf = true) : -9223372036854775808 ≤ x ∧ x ≤ 9223372036854775807 := by
  simp [Lit.wf, IntKind.min, IntKind.max, IntKind.signed, IntKind.bits] at h
  omega

section
variable {H : Type} {enc : TypeId × Value → H} {w : World}
theorem open_rowB {v : Value} {d : DataW H} {ps : List MemPlace} {r : Reach} {b0 : Nat} (hval : Value.okWide Try.prog w r b0 22 v) (hd : DataW.Trod enc Try.prog w 0 (fun _ => true) true 22 v d ps) :
    ∃ A n c zs, v = .slice A n c ∧ Ints w A n zs ∧ (∀ j, j < n → -9223372036854775808 ≤ zs.getD j 0 ∧ zs.getD j 0 ≤ 9223372036854775807) ∧ n ≤ 9223372036854775807 := by
  obtain ⟨A, n, c, rfl⟩ := okWide_slice Try.underlying22 hval
  obtain ⟨fuel, hf⟩ := hd
  have key : ∃ zs : List Int, (A = none ∧ n = 0 ∧ c = 0 ∧ zs = []) ∨ ∃ x, A = some x ∧ n ≤ c ∧ c ≤ maxLen ∧ zs.length = c ∧ (∀ i, i < zs.length → w.cell? (x.add i) = some (.int .i64 (zs.getD i 0))) ∧ ∀ k ∈ zs, (Lit.int .i64 k).wf = true := by
    rcases open_ints Try.underlying22 Try.underlying3 (by kernel_rfl) hf with ⟨hcs, _⟩ | ⟨x, l, cc, zs, hcs, _, hl, hm, hz, _, hcell, hwz⟩
    · simp [Value.cells] at hcs
      obtain ⟨rfl, rfl, rfl⟩ := hcs
      exact ⟨[], .inl ⟨rfl, rfl, rfl, rfl⟩⟩
    · simp [Value.cells] at hcs
      obtain ⟨rfl, rfl, rfl⟩ := hcs
      exact ⟨zs, .inr ⟨_, rfl, hl, hm, by simpa using hz, hcell, hwz⟩⟩
  obtain ⟨zs, h⟩ := key
  obtain ⟨h1, h2, h3⟩ := Ints.of h
  refine ⟨A, n, c, zs, rfl, h1, fun j hj => ?_, by unfold maxLen at h3; omega⟩
  have hjl : j < zs.length := by omega
  rw [List.getD_eq_getElem?_getD, List.getElem?_eq_getElem hjl]
  rcases h with ⟨_, hn, _, _⟩ | ⟨x, _, _, _, _, _, hw⟩
  · omega
  · exact wf_bd (hw _ (List.getElem_mem hjl))

variable {base : Nat} {spare : Nat → Bool} {held : Bool}
theorem cell_intB {m : Nat} {c : Value} {y : DataW H × List MemPlace} (h : DataW.trod enc Try.prog w base spare held m 3 [c] = some y) : ∃ n : Int, c = .int .i64 n ∧ -9223372036854775808 ≤ n ∧ n ≤ 9223372036854775807 := by
  obtain ⟨n, e, _, hw⟩ := DataW.trod_int Try.underlying3 h
  exact ⟨n, by simpa using e, wf_bd hw⟩
theorem open_twoB {r : Reach} {b0 : Nat} {v : Value} {d : DataW H} {ps : List MemPlace} (hval : Value.okWide Try.prog w r b0 35 v) (hd : DataW.Trod enc Try.prog w base spare held 35 v d ps) : ∃ x y : Int, v = .agg #[.int .i64 x, .int .i64 y] ∧ (-9223372036854775808 ≤ x ∧ x ≤ 9223372036854775807) ∧ (-9223372036854775808 ≤ y ∧ y ≤ 9223372036854775807) := by
  obtain ⟨cs, rfl, hsz, _⟩ : ∃ cs, v = .agg cs ∧ cs.size = Try.prog.cellsOf 35 ∧ Row.okWide Try.prog w r b0 35 cs := by
    simpa [Value.okWide, Try.underlying35] using hval
  have h2 : Try.prog.cellsOf 35 = 2 := by kernel_rfl
  rw [h2] at hsz
  obtain ⟨fuel, hf⟩ := hd
  obtain ⟨zs, m, _, _, _, hzl, hz⟩ := DataW.trod_array Try.underlying35 hf
  rw [cells3] at hz
  obtain ⟨l⟩ := cs
  match l, hsz with
  | [c0, c1], _ =>
    have z0 := hz 0 (by omega)
    have z1 := hz 1 (by omega)
    obtain ⟨t0, e0⟩ : ∃ y, zs[0]? = some y := ⟨_, List.getElem?_eq_getElem (by omega)⟩
    obtain ⟨t1, e1⟩ : ∃ y, zs[1]? = some y := ⟨_, List.getElem?_eq_getElem (by omega)⟩
    rw [e0] at z0
    rw [e1] at z1
    obtain ⟨x, rfl, hx⟩ := cell_intB z0
    obtain ⟨y, rfl, hy⟩ := cell_intB z1
    exact ⟨x, y, rfl, hx, hy⟩
end

end Go.Proofs.Ytlogojiphjpknaa
