/- An argument of type Roots is nine ints, one of type [2]int is two. No condition. -/
import Derived.Test.YtlogojiphjpknaaMay
import Derived.ProofKit
import Derived.OpenShut
namespace Go.Proofs.Ytlogojiphjpknaa
open Go.ChangeShapes Go.WideShapes Go.ChangeAt Go.RowKit

section
variable {H : Type} {enc : TypeId × Value → H} {w : World} {base : Nat} {spare : Nat → Bool} {held : Bool}

theorem cell_int {m : Nat} {c : Value} {y : DataW H × List MemPlace} (h : DataW.trod enc Try.prog w base spare held m 3 [c] = some y) : ∃ n : Int, c = .int .i64 n := by
  obtain ⟨n, e, _, _⟩ := DataW.trod_int Try.underlying3 h
  exact ⟨n, by simpa using e⟩

theorem open_roots {r : Reach} {b0 : Nat} {v : Value} {d : DataW H} {ps : List MemPlace} (hval : Value.okWide Try.prog w r b0 26 v) (hd : DataW.Trod enc Try.prog w base spare held 26 v d ps) : ∃ x : Rt, v = rv x := by
  obtain ⟨cs, rfl, hsz⟩ := okWide_struct Try.underlying26 hval
  have h9 : Try.prog.cellsOf 26 = 9 := by kernel_rfl
  rw [h9] at hsz
  obtain ⟨fuel, hf⟩ := hd
  obtain ⟨xs, n, _, _, _, hl, hg⟩ := DataW.trod_struct Try.underlying26 hf
  obtain ⟨l⟩ := cs
  match l, hsz with
  | [c0, c1, c2, c3, c4, c5, c6, c7, c8], _ =>
    have g0 : DataW.trod enc Try.prog w base spare held n 3 (([c0, c1, c2, c3, c4, c5, c6, c7, c8].drop 0).take (Try.prog.cellsOf 3)) = xs[0]? := hg 0 _ rfl
    have g1 : DataW.trod enc Try.prog w base spare held n 24 (([c0, c1, c2, c3, c4, c5, c6, c7, c8].drop 1).take (Try.prog.cellsOf 24)) = xs[1]? := hg 1 _ rfl
    rw [cells3] at g0
    rw [cells24] at g1
    obtain ⟨y0, hy0⟩ : ∃ y, xs[0]? = some y := ⟨_, List.getElem?_eq_getElem (by rw [hl]; decide)⟩
    obtain ⟨y1, hy1⟩ : ∃ y, xs[1]? = some y := ⟨_, List.getElem?_eq_getElem (by rw [hl]; decide)⟩
    rw [hy0] at g0
    rw [hy1] at g1
    obtain ⟨n0, rfl⟩ := cell_int g0
    obtain ⟨zs, m, _, _, _, hzl, hz⟩ := DataW.trod_array Try.underlying24 g1
    rw [cells3] at hz
    have hc : ∀ i, i < 8 → ∃ y, zs[i]? = some y := fun i hi => ⟨_, List.getElem?_eq_getElem (by omega)⟩
    have z0 := hz 0 (by omega)
    have z1 := hz 1 (by omega)
    have z2 := hz 2 (by omega)
    have z3 := hz 3 (by omega)
    have z4 := hz 4 (by omega)
    have z5 := hz 5 (by omega)
    have z6 := hz 6 (by omega)
    have z7 := hz 7 (by omega)
    obtain ⟨t0, e0⟩ := hc 0 (by omega)
    obtain ⟨t1, e1⟩ := hc 1 (by omega)
    obtain ⟨t2, e2⟩ := hc 2 (by omega)
    obtain ⟨t3, e3⟩ := hc 3 (by omega)
    obtain ⟨t4, e4⟩ := hc 4 (by omega)
    obtain ⟨t5, e5⟩ := hc 5 (by omega)
    obtain ⟨t6, e6⟩ := hc 6 (by omega)
    obtain ⟨t7, e7⟩ := hc 7 (by omega)
    rw [e0] at z0
    rw [e1] at z1
    rw [e2] at z2
    rw [e3] at z3
    rw [e4] at z4
    rw [e5] at z5
    rw [e6] at z6
    rw [e7] at z7
    obtain ⟨b0, rfl⟩ := cell_int z0
    obtain ⟨b1, rfl⟩ := cell_int z1
    obtain ⟨b2, rfl⟩ := cell_int z2
    obtain ⟨b3, rfl⟩ := cell_int z3
    obtain ⟨b4, rfl⟩ := cell_int z4
    obtain ⟨b5, rfl⟩ := cell_int z5
    obtain ⟨b6, rfl⟩ := cell_int z6
    obtain ⟨b7, rfl⟩ := cell_int z7
    exact ⟨⟨n0, b0, b1, b2, b3, b4, b5, b6, b7⟩, rfl⟩

theorem open_two {r : Reach} {b0 : Nat} {v : Value} {d : DataW H} {ps : List MemPlace} (hval : Value.okWide Try.prog w r b0 35 v) (hd : DataW.Trod enc Try.prog w base spare held 35 v d ps) : ∃ x y : Int, v = .agg #[.int .i64 x, .int .i64 y] := by
  obtain ⟨cs, rfl, hsz, _⟩ : ∃ cs, v = .agg cs ∧ cs.size = Try.prog.cellsOf 35 ∧ Row.okWide Try.prog w r b0 35 cs := by
    simpa [Value.okWide, Try.underlying35] using hval
  have h2 : Try.prog.cellsOf 35 = 2 := by kernel_rfl
  rw [h2] at hsz
  obtain ⟨fuel, hf⟩ := hd
  obtain ⟨zs, m, _, _, _, hzl, hz⟩ := DataW.trod_array Try.underlying35 hf
  rw [cells3] at hz
  obtain ⟨l⟩ := cs
  match l, hsz with
  | [c0, c1], _ =>
    have z0 := hz 0 (by omega)
    have z1 := hz 1 (by omega)
    obtain ⟨t0, e0⟩ : ∃ y, zs[0]? = some y := ⟨_, List.getElem?_eq_getElem (by omega)⟩
    obtain ⟨t1, e1⟩ : ∃ y, zs[1]? = some y := ⟨_, List.getElem?_eq_getElem (by omega)⟩
    rw [e0] at z0
    rw [e1] at z1
    obtain ⟨x, rfl⟩ := cell_int z0
    obtain ⟨y, rfl⟩ := cell_int z1
    exact ⟨x, y, rfl⟩
end

end Go.Proofs.Ytlogojiphjpknaa
