/- flitlaw07.kind: which of n kinds. Condition: numbers that a machine's word holds. -/
import Derived.Test.YtlogojiphjpknaaGState
namespace Go.Proofs.Ytlogojiphjpknaa
open Go.RowKit
set_option linter.unusedVariables false

def kd (c n : Int) : Int := (if c < 0 then -(c + 1) else c) % n
theorem kd_bd (c : Int) {n : Int} (hn : 0 < n) : 0 ≤ kd c n ∧ kd c n < n := ⟨Int.emod_nonneg _ (by omega), Int.emod_lt_of_pos _ hn⟩

set_option maxRecDepth 100000 in
set_option maxHeartbeats 1000000 in
theorem kind_any (c n : Int) (w : World) (hc : -9223372036854775808 ≤ c) (hc2 : c ≤ 9223372036854775807) (hn : 1 ≤ n) (hn2 : n ≤ 100000) : Calls Try.prog 29 #[.int .i64 c, .int .i64 n] w fun e w' => e = .returned (.int .i64 (kd c n)) ∧ w = w' := by
  by_cases h : c < 0
  · obtain ⟨d, hd⟩ : ∃ d, c = -d - 1 := ⟨-(c + 1), by omega⟩
    subst hd
    have hk : kd (-d - 1) n = d % n := by unfold kd; rw [if_pos h]; congr 1; omega
    have h1 : ¬ n = 0 := by omega
    have HK := Lib.hid hk
    have h0 : 0 ≤ d := by omega
    have hd2 : d ≤ 9223372036854775807 := by omega
    clear hk
    go_enter Try.func29, Try.ntmps29
    go_wp2_with fail
    go_ret
    rw [HK.out]
    exact ⟨rfl, rfl⟩
  · have hk : kd c n = c % n := by unfold kd; rw [if_neg h]
    have h1 : ¬ n = 0 := by omega
    have h0 : 0 ≤ c := by omega
    have HK := Lib.hid hk
    clear hk
    go_enter Try.func29, Try.ntmps29
    go_wp2_with fail
    go_ret
    rw [HK.out]
    exact ⟨rfl, rfl⟩

end Go.Proofs.Ytlogojiphjpknaa
