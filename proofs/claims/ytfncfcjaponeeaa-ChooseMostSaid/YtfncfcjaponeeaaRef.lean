/- flitref18.ahead and flitref18.Pick: what they come to. Condition: at most a thousand candidates. -/
import Derived.Test.YtfncfcjaponeeaaShown
namespace Go.Proofs.Ytfncfcjaponeeaa
open Go.RowKit

def cAt (ls : List (Int × Int)) (i : Nat) : C := ⟨(ls.getD i (0, 0)).1, (ls.getD i (0, 0)).2, i⟩

set_option maxRecDepth 100000 in
set_option maxHeartbeats 1000000 in
theorem ahead_cells (b off n c i j : Nat) (x y : C) (w : World) (hi : i < n) (hj : j < n) (hx : x.a = i) (hy : y.a = j)
    (x0 : w.cell? ⟨b, off + i * 2, none⟩ = some (.int .i64 x.b)) (x1 : w.cell? ⟨b, off + (i * 2 + 1), none⟩ = some (.int .i64 x.l))
    (y0 : w.cell? ⟨b, off + j * 2, none⟩ = some (.int .i64 y.b)) (y1 : w.cell? ⟨b, off + (j * 2 + 1), none⟩ = some (.int .i64 y.l)) :
    Calls Try.prog 14 #[.slice (some ⟨b, off, none⟩) n c, .int .i64 i, .int .i64 j] w fun e w' => e = .returned (.bool (decide (lt x y))) ∧ Below w.heap.size w w' := by
  have hg : b < w.heap.size := block_lt x0
  have HX := Lib.hid hx
  have HY := Lib.hid hy
  have hi0 : (0 : Int) ≤ (i : Int) := by omega
  have hi1 : (i : Int) < (n : Int) := by omega
  have hj0 : (0 : Int) ≤ (j : Int) := by omega
  have hj1 : (j : Int) < (n : Int) := by omega
  clear hx hy
  go_enter Try.func14, Try.ntmps14
  go_wp2
  go_quiet (fail)
  go_wp2
  · go_quiet (fail)
    go_wp2
    go_ret
    refine ⟨less_end ?_, by repeat (first | with_reducible exact Below.refl _ _ | refine below_drewN ?_ _)⟩
    simp_all [lt]
  · go_quiet (fail)
    go_wp2
    · go_quiet (fail)
      go_wp2
      go_ret
      refine ⟨less_end ?_, by repeat (first | with_reducible exact Below.refl _ _ | refine below_drewN ?_ _)⟩
      simp_all [lt]
    · go_ret
      refine ⟨less_end ?_, by repeat (first | with_reducible exact Below.refl _ _ | refine below_drewN ?_ _)⟩
      have h1 := HX.out
      have h2 := HY.out
      simp_all [lt]

end Go.Proofs.Ytfncfcjaponeeaa
