/- An array of sixty-four bools, made. No condition. -/
import Derived.Test.YtfncfcjaponeeaaRefW
import Derived.Test.YtfncfcjaponeeaaBlk
import Derived.Laws.Tables
import Derived.Great.Walk
import Derived.Great.BuildSlice
namespace Go.Proofs.Ytfncfcjaponeeaa
open Go.RowKit

def falses : Array Value := Array.replicate 64 (.bool false)
theorem falses_marks : falses.toList = marks [] 64 := by kernel_rfl
theorem falses_one : falses.all (·.oneCell') = true := by kernel_rfl
theorem built30_is : Try.prog.built 30 [] = some falses := by kernel_rfl
theorem built30 : (Try.prog.built 30 []).getD #[] = falses := by kernel_rfl
theorem built30_some : (Try.prog.built 30 []).isSome = true := by kernel_rfl
theorem size30 : (Try.prog.info? 30).map (·.size) = some falses.size := by kernel_rfl
theorem alloc30 (ρ : Operand → Value) (o : Oper) (w : World) : (execOp ρ { o with op := .alloc 30 }).run Try.prog w = .ok (.value (.pointer (some ⟨w.heap.size, 0, none⟩))) (w.alloc (.cells falses 30)) := by kernel_rfl

end Go.Proofs.Ytfncfcjaponeeaa
