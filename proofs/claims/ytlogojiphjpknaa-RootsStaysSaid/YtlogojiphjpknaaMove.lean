/- What roots.Move and flitref06.Move come to: of any nine ints, any two numbers. No condition. -/
import Derived.Test.YtlogojiphjpknaaRoots
namespace Go.Proofs.Ytlogojiphjpknaa
open Go.RowKit

def mvAt (r : Rt) (f t : Int) (k j a : Int) : Value := .int .i64 (if j < k then r.mv f t j a else a)
def mvC (r : Rt) (f t : Int) (k : Int) : Array Value := #[.int .i64 r.n, mvAt r f t k 0 r.a0, mvAt r f t k 1 r.a1, mvAt r f t k 2 r.a2, mvAt r f t k 3 r.a3, mvAt r f t k 4 r.a4, mvAt r f t k 5 r.a5, mvAt r f t k 6 r.a6, mvAt r f t k 7 r.a7]

set_option maxRecDepth 100000 in
set_option maxHeartbeats 4000000 in
theorem move_any (r : Rt) (f t : Int) (w : World) : Calls Try.prog 24 #[rv r, .int .i64 f, .int .i64 t] w (MoveP r f t w) := by
  have i0 : ∀ (x0 x1 x2 x3 x4 x5 x6 x7 : Value) (w : World), (Instr.index 24 (.agg #[x0, x1, x2, x3, x4, x5, x6, x7]) (.int .i64 0)).run Try.prog w = .ok x0 w := fun _ _ _ _ _ _ _ _ _ => by kernel_rfl
  have i1 : ∀ (x0 x1 x2 x3 x4 x5 x6 x7 : Value) (w : World), (Instr.index 24 (.agg #[x0, x1, x2, x3, x4, x5, x6, x7]) (.int .i64 1)).run Try.prog w = .ok x1 w := fun _ _ _ _ _ _ _ _ _ => by kernel_rfl
  have i2 : ∀ (x0 x1 x2 x3 x4 x5 x6 x7 : Value) (w : World), (Instr.index 24 (.agg #[x0, x1, x2, x3, x4, x5, x6, x7]) (.int .i64 2)).run Try.prog w = .ok x2 w := fun _ _ _ _ _ _ _ _ _ => by kernel_rfl
  have i3 : ∀ (x0 x1 x2 x3 x4 x5 x6 x7 : Value) (w : World), (Instr.index 24 (.agg #[x0, x1, x2, x3, x4, x5, x6, x7]) (.int .i64 3)).run Try.prog w = .ok x3 w := fun _ _ _ _ _ _ _ _ _ => by kernel_rfl
  have i4 : ∀ (x0 x1 x2 x3 x4 x5 x6 x7 : Value) (w : World), (Instr.index 24 (.agg #[x0, x1, x2, x3, x4, x5, x6, x7]) (.int .i64 4)).run Try.prog w = .ok x4 w := fun _ _ _ _ _ _ _ _ _ => by kernel_rfl
  have i5 : ∀ (x0 x1 x2 x3 x4 x5 x6 x7 : Value) (w : World), (Instr.index 24 (.agg #[x0, x1, x2, x3, x4, x5, x6, x7]) (.int .i64 5)).run Try.prog w = .ok x5 w := fun _ _ _ _ _ _ _ _ _ => by kernel_rfl
  have i6 : ∀ (x0 x1 x2 x3 x4 x5 x6 x7 : Value) (w : World), (Instr.index 24 (.agg #[x0, x1, x2, x3, x4, x5, x6, x7]) (.int .i64 6)).run Try.prog w = .ok x6 w := fun _ _ _ _ _ _ _ _ _ => by kernel_rfl
  have i7 : ∀ (x0 x1 x2 x3 x4 x5 x6 x7 : Value) (w : World), (Instr.index 24 (.agg #[x0, x1, x2, x3, x4, x5, x6, x7]) (.int .i64 7)).run Try.prog w = .ok x7 w := fun _ _ _ _ _ _ _ _ _ => by kernel_rfl
  go_enter Try.func24, Try.ntmps24
  go_wp2
  go_loopw [11] (fun i wr => ∃ k : Nat, k ≤ 8 ∧ i = .int .i64 k ∧ wr = (w.alloc (.cells (mvC r f t k) 26)).alloc (.cells #[.int .i64 0, .int .i64 0, .int .i64 0, .int .i64 0, .int .i64 0, .int .i64 0, .int .i64 0, .int .i64 0, .int .i64 0] 26)) (fun i _ => 8 - (intOf i).toNat)
  case atStart => exact ⟨0, by omega, rfl, rfl⟩
  case round =>
    obtain ⟨k, hk, rfl, rfl⟩ := hrel
    by_cases h8 : k = 8
    · subst h8
      simp only [mvC, mvAt]
      go_wp2
      refine bodyPost_ret (v := rv (r.move f t)) (by simp [results, Try.results24, go_sem, Rt.move]) rfl ⟨rfl, ?_⟩
      exact (((Below.refl _ _).alloc (Nat.le_refl _) _).alloc (by simp) _)
    · have hk8 : k < 8 := by omega
      rcases Rt.cases8 hk8 with rfl | rfl | rfl | rfl | rfl | rfl | rfl | rfl
      · simp only [mvC, mvAt]
        by_cases hn : 0 < r.n
        · go_wp2
          all_goals
            go_roundw
            case rel => exact ⟨1, by omega, by go_num, by simp_all [Rt.mv]⟩
            case measure => simp [intOf]
        · go_wp2
          go_roundw
          case rel => exact ⟨1, by omega, by go_num, by simp [Rt.mv, hn]⟩
          case measure => simp [intOf]
      · simp only [mvC, mvAt]
        by_cases hn : 1 < r.n
        · go_wp2
          all_goals
            go_roundw
            case rel => exact ⟨2, by omega, by go_num, by simp_all [Rt.mv]⟩
            case measure => simp [intOf]
        · go_wp2
          go_roundw
          case rel => exact ⟨2, by omega, by go_num, by simp [Rt.mv, hn]⟩
          case measure => simp [intOf]
      · simp only [mvC, mvAt]
        by_cases hn : 2 < r.n
        · go_wp2
          all_goals
            go_roundw
            case rel => exact ⟨3, by omega, by go_num, by simp_all [Rt.mv]⟩
            case measure => simp [intOf]
        · go_wp2
          go_roundw
          case rel => exact ⟨3, by omega, by go_num, by simp [Rt.mv, hn]⟩
          case measure => simp [intOf]
      · simp only [mvC, mvAt]
        by_cases hn : 3 < r.n
        · go_wp2
          all_goals
            go_roundw
            case rel => exact ⟨4, by omega, by go_num, by simp_all [Rt.mv]⟩
            case measure => simp [intOf]
        · go_wp2
          go_roundw
          case rel => exact ⟨4, by omega, by go_num, by simp [Rt.mv, hn]⟩
          case measure => simp [intOf]
      · simp only [mvC, mvAt]
        by_cases hn : 4 < r.n
        · go_wp2
          all_goals
            go_roundw
            case rel => exact ⟨5, by omega, by go_num, by simp_all [Rt.mv]⟩
            case measure => simp [intOf]
        · go_wp2
          go_roundw
          case rel => exact ⟨5, by omega, by go_num, by simp [Rt.mv, hn]⟩
          case measure => simp [intOf]
      · simp only [mvC, mvAt]
        by_cases hn : 5 < r.n
        · go_wp2
          all_goals
            go_roundw
            case rel => exact ⟨6, by omega, by go_num, by simp_all [Rt.mv]⟩
            case measure => simp [intOf]
        · go_wp2
          go_roundw
          case rel => exact ⟨6, by omega, by go_num, by simp [Rt.mv, hn]⟩
          case measure => simp [intOf]
      · simp only [mvC, mvAt]
        by_cases hn : 6 < r.n
        · go_wp2
          all_goals
            go_roundw
            case rel => exact ⟨7, by omega, by go_num, by simp_all [Rt.mv]⟩
            case measure => simp [intOf]
        · go_wp2
          go_roundw
          case rel => exact ⟨7, by omega, by go_num, by simp [Rt.mv, hn]⟩
          case measure => simp [intOf]
      · simp only [mvC, mvAt]
        by_cases hn : 7 < r.n
        · go_wp2
          all_goals
            go_roundw
            case rel => exact ⟨8, by omega, by go_num, by simp_all [Rt.mv]⟩
            case measure => simp [intOf]
        · go_wp2
          go_roundw
          case rel => exact ⟨8, by omega, by go_num, by simp [Rt.mv, hn]⟩
          case measure => simp [intOf]

set_option maxRecDepth 100000 in
set_option maxHeartbeats 4000000 in
theorem moveR_any (r : Rt) (f t : Int) (w : World) : Calls Try.prog 25 #[rv r, .int .i64 f, .int .i64 t] w (MoveP r f t w) := by
  go_enter Try.func25, Try.ntmps25
  go_wp2
  go_loopw [7] (fun i wr => ∃ k : Nat, k ≤ 8 ∧ i = .int .i64 k ∧ wr = (w.alloc (.cells (mvC r f t k) 26)).alloc (.cells #[.int .i64 0, .int .i64 0, .int .i64 0, .int .i64 0, .int .i64 0, .int .i64 0, .int .i64 0, .int .i64 0, .int .i64 0] 26)) (fun i _ => 8 - (intOf i).toNat)
  case atStart => exact ⟨0, by omega, rfl, rfl⟩
  case round =>
    obtain ⟨k, hk, rfl, rfl⟩ := hrel
    by_cases h8 : k = 8
    · subst h8
      simp only [mvC, mvAt]
      go_wp2
      refine bodyPost_ret (v := rv (r.move f t)) (by simp [results, Try.results25, go_sem, Rt.move]) rfl ⟨rfl, ?_⟩
      exact (((Below.refl _ _).alloc (Nat.le_refl _) _).alloc (by simp) _)
    · have hk8 : k < 8 := by omega
      rcases Rt.cases8 hk8 with rfl | rfl | rfl | rfl | rfl | rfl | rfl | rfl
      · simp only [mvC, mvAt]
        by_cases hn : 0 < r.n
        · go_wp2
          all_goals
            go_roundw
            case rel => exact ⟨1, by omega, by go_num, by simp_all [Rt.mv]⟩
            case measure => simp [intOf]
        · have hd : decide (0 < r.n) = false := by simpa using hn
          go_wp2
          refine bodyPost_ret (v := rv (r.move f t)) (by simp [results, Try.results25, go_sem, Rt.move, Rt.mv, show ¬ 0 < r.n by omega, show ¬ 1 < r.n by omega, show ¬ 2 < r.n by omega, show ¬ 3 < r.n by omega, show ¬ 4 < r.n by omega, show ¬ 5 < r.n by omega, show ¬ 6 < r.n by omega, show ¬ 7 < r.n by omega]) rfl ⟨rfl, ?_⟩
          exact (((Below.refl _ _).alloc (Nat.le_refl _) _).alloc (by simp) _)
      · simp only [mvC, mvAt]
        by_cases hn : 1 < r.n
        · go_wp2
          all_goals
            go_roundw
            case rel => exact ⟨2, by omega, by go_num, by simp_all [Rt.mv]⟩
            case measure => simp [intOf]
        · have hd : decide (1 < r.n) = false := by simpa using hn
          go_wp2
          refine bodyPost_ret (v := rv (r.move f t)) (by simp [results, Try.results25, go_sem, Rt.move, Rt.mv, show ¬ 1 < r.n by omega, show ¬ 2 < r.n by omega, show ¬ 3 < r.n by omega, show ¬ 4 < r.n by omega, show ¬ 5 < r.n by omega, show ¬ 6 < r.n by omega, show ¬ 7 < r.n by omega]) rfl ⟨rfl, ?_⟩
          exact (((Below.refl _ _).alloc (Nat.le_refl _) _).alloc (by simp) _)
      · simp only [mvC, mvAt]
        by_cases hn : 2 < r.n
        · go_wp2
          all_goals
            go_roundw
            case rel => exact ⟨3, by omega, by go_num, by simp_all [Rt.mv]⟩
            case measure => simp [intOf]
        · have hd : decide (2 < r.n) = false := by simpa using hn
          go_wp2
          refine bodyPost_ret (v := rv (r.move f t)) (by simp [results, Try.results25, go_sem, Rt.move, Rt.mv, show ¬ 2 < r.n by omega, show ¬ 3 < r.n by omega, show ¬ 4 < r.n by omega, show ¬ 5 < r.n by omega, show ¬ 6 < r.n by omega, show ¬ 7 < r.n by omega]) rfl ⟨rfl, ?_⟩
          exact (((Below.refl _ _).alloc (Nat.le_refl _) _).alloc (by simp) _)
      · simp only [mvC, mvAt]
        by_cases hn : 3 < r.n
        · go_wp2
          all_goals
            go_roundw
            case rel => exact ⟨4, by omega, by go_num, by simp_all [Rt.mv]⟩
            case measure => simp [intOf]
        · have hd : decide (3 < r.n) = false := by simpa using hn
          go_wp2
          refine bodyPost_ret (v := rv (r.move f t)) (by simp [results, Try.results25, go_sem, Rt.move, Rt.mv, show ¬ 3 < r.n by omega, show ¬ 4 < r.n by omega, show ¬ 5 < r.n by omega, show ¬ 6 < r.n by omega, show ¬ 7 < r.n by omega]) rfl ⟨rfl, ?_⟩
          exact (((Below.refl _ _).alloc (Nat.le_refl _) _).alloc (by simp) _)
      · simp only [mvC, mvAt]
        by_cases hn : 4 < r.n
        · go_wp2
          all_goals
            go_roundw
            case rel => exact ⟨5, by omega, by go_num, by simp_all [Rt.mv]⟩
            case measure => simp [intOf]
        · have hd : decide (4 < r.n) = false := by simpa using hn
          go_wp2
          refine bodyPost_ret (v := rv (r.move f t)) (by simp [results, Try.results25, go_sem, Rt.move, Rt.mv, show ¬ 4 < r.n by omega, show ¬ 5 < r.n by omega, show ¬ 6 < r.n by omega, show ¬ 7 < r.n by omega]) rfl ⟨rfl, ?_⟩
          exact (((Below.refl _ _).alloc (Nat.le_refl _) _).alloc (by simp) _)
      · simp only [mvC, mvAt]
        by_cases hn : 5 < r.n
        · go_wp2
          all_goals
            go_roundw
            case rel => exact ⟨6, by omega, by go_num, by simp_all [Rt.mv]⟩
            case measure => simp [intOf]
        · have hd : decide (5 < r.n) = false := by simpa using hn
          go_wp2
          refine bodyPost_ret (v := rv (r.move f t)) (by simp [results, Try.results25, go_sem, Rt.move, Rt.mv, show ¬ 5 < r.n by omega, show ¬ 6 < r.n by omega, show ¬ 7 < r.n by omega]) rfl ⟨rfl, ?_⟩
          exact (((Below.refl _ _).alloc (Nat.le_refl _) _).alloc (by simp) _)
      · simp only [mvC, mvAt]
        by_cases hn : 6 < r.n
        · go_wp2
          all_goals
            go_roundw
            case rel => exact ⟨7, by omega, by go_num, by simp_all [Rt.mv]⟩
            case measure => simp [intOf]
        · have hd : decide (6 < r.n) = false := by simpa using hn
          go_wp2
          refine bodyPost_ret (v := rv (r.move f t)) (by simp [results, Try.results25, go_sem, Rt.move, Rt.mv, show ¬ 6 < r.n by omega, show ¬ 7 < r.n by omega]) rfl ⟨rfl, ?_⟩
          exact (((Below.refl _ _).alloc (Nat.le_refl _) _).alloc (by simp) _)
      · simp only [mvC, mvAt]
        by_cases hn : 7 < r.n
        · go_wp2
          all_goals
            go_roundw
            case rel => exact ⟨8, by omega, by go_num, by simp_all [Rt.mv]⟩
            case measure => simp [intOf]
        · have hd : decide (7 < r.n) = false := by simpa using hn
          go_wp2
          refine bodyPost_ret (v := rv (r.move f t)) (by simp [results, Try.results25, go_sem, Rt.move, Rt.mv, show ¬ 7 < r.n by omega]) rfl ⟨rfl, ?_⟩
          exact (((Below.refl _ _).alloc (Nat.le_refl _) _).alloc (by simp) _)

end Go.Proofs.Ytlogojiphjpknaa
