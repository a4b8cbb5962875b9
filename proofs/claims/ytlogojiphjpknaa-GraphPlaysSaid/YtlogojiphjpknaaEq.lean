/- What Go's == says of two values of type Roots, and of two arrays of eight ints: that all their ints are the same. No condition. -/
import Derived.Test.YtlogojiphjpknaaRows
import Derived.WalkKit
import Derived.WalkSpells
import Derived.WalkLawsBesides
import Derived.ChangeKeysEq
namespace Go.Proofs.Ytlogojiphjpknaa
open Go.RowKit

theorem cells3 : Try.prog.cellsOf 3 = 1 := by kernel_rfl
theorem cells24 : Try.prog.cellsOf 24 = 8 := by kernel_rfl
theorem under24 : Try.prog.underlying 24 = some (.array 8 3) := by kernel_rfl
theorem under97 : Try.prog.underlying 97 = some (.array 8 3) := by kernel_rfl

theorem arr_in (d : Nat) (T : TypeId) (hT : Try.prog.underlying T = some (.array 8 3)) (a0 a1 a2 a3 a4 a5 a6 a7 b0 b1 b2 b3 b4 b5 b6 b7 : Int) (w : World) :
    (Op.equalIn (d + 2) T (.agg #[.int .i64 a0, .int .i64 a1, .int .i64 a2, .int .i64 a3, .int .i64 a4, .int .i64 a5, .int .i64 a6, .int .i64 a7])
      (.agg #[.int .i64 b0, .int .i64 b1, .int .i64 b2, .int .i64 b3, .int .i64 b4, .int .i64 b5, .int .i64 b6, .int .i64 b7])).run Try.prog w
    = .ok (decide (a0 = b0 ∧ a1 = b1 ∧ a2 = b2 ∧ a3 = b3 ∧ a4 = b4 ∧ a5 = b5 ∧ a6 = b6 ∧ a7 = b7)) w := by
  obtain ⟨i, hi⟩ : ∃ i, Try.prog.info? 3 = some i := Option.isSome_iff_exists.1 (by kernel_rfl)
  rw [run_equalIn_array (w := w) (d + 1) _ _ hT hi]
  simp only [show List.range 8 = [0, 1, 2, 3, 4, 5, 6, 7] from rfl]
  simp [Op.eqItems, part, cells3, go_sem]
  repeat (split <;> simp_all)

set_option maxRecDepth 100000 in
theorem eq26 (n m a0 a1 a2 a3 a4 a5 a6 a7 b0 b1 b2 b3 b4 b5 b6 b7 : Int) (w : World) :
    (Op.equalIn 10000 26 (.agg #[.int .i64 n, .int .i64 a0, .int .i64 a1, .int .i64 a2, .int .i64 a3, .int .i64 a4, .int .i64 a5, .int .i64 a6, .int .i64 a7])
      (.agg #[.int .i64 m, .int .i64 b0, .int .i64 b1, .int .i64 b2, .int .i64 b3, .int .i64 b4, .int .i64 b5, .int .i64 b6, .int .i64 b7])).run Try.prog w
    = .ok (decide (n = m ∧ a0 = b0 ∧ a1 = b1 ∧ a2 = b2 ∧ a3 = b3 ∧ a4 = b4 ∧ a5 = b5 ∧ a6 = b6 ∧ a7 = b7)) w := by
  have ha := fun w => arr_in 9997 24 under24 a0 a1 a2 a3 a4 a5 a6 a7 b0 b1 b2 b3 b4 b5 b6 b7 w
  simp [part, go_sem, ha]
  by_cases h : n = m <;> simp [h]
  split <;> simp_all

theorem eq97 (a0 a1 a2 a3 a4 a5 a6 a7 b0 b1 b2 b3 b4 b5 b6 b7 : Int) (w : World) :
    (Op.equalIn 10000 97 (.agg #[.int .i64 a0, .int .i64 a1, .int .i64 a2, .int .i64 a3, .int .i64 a4, .int .i64 a5, .int .i64 a6, .int .i64 a7])
      (.agg #[.int .i64 b0, .int .i64 b1, .int .i64 b2, .int .i64 b3, .int .i64 b4, .int .i64 b5, .int .i64 b6, .int .i64 b7])).run Try.prog w
    = .ok (decide (a0 = b0 ∧ a1 = b1 ∧ a2 = b2 ∧ a3 = b3 ∧ a4 = b4 ∧ a5 = b5 ∧ a6 = b6 ∧ a7 = b7)) w :=
  arr_in 9998 97 under97 a0 a1 a2 a3 a4 a5 a6 a7 b0 b1 b2 b3 b4 b5 b6 b7 w

end Go.Proofs.Ytlogojiphjpknaa
