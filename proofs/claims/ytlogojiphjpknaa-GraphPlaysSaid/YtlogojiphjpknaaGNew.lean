/- graph.New and flitref07.New: a graph without objects. No condition. -/
import Derived.Test.YtlogojiphjpknaaGTurn
import Derived.Laws.OwnMore
namespace Go.Proofs.Ytlogojiphjpknaa
open Go.RowKit
set_option linter.unusedVariables false

theorem info26 : (Try.prog.info? 26).map (fun i => (i.zero, i.size, i.bytes)) = some (some (rv Rt.zero), 9, 72) := by kernel_rfl

theorem tzeros : ∀ n : Nat, tflat (List.replicate n Rt.zero) = List.replicate (n * 9) (.int .i64 0)
  | 0 => rfl
  | n + 1 => by
    rw [List.replicate_succ, show (n + 1) * 9 = n * 9 + 1 + 1 + 1 + 1 + 1 + 1 + 1 + 1 + 1 by omega]
    simp only [List.replicate_succ, tflat, tzeros n]
    rfl

theorem zero_rts (n : Nat) : ∃ Z : Array Value, Z.size = n * 9 ∧ Z.toList = tflat (List.replicate n Rt.zero) ∧
    (n ≤ 64 → ∀ w : World, (Instr.makeSlice 77 (.int .i64 (n : Int)) (.int .i64 (n : Int))).run Try.prog w = .ok (.slice (some ⟨w.heap.size, 0, none⟩) n n) (w.alloc (.cells Z 26))) := by
  obtain ⟨i, hi, hz, hs, hb⟩ := info_parts info26
  refine ⟨madeCells (rv Rt.zero).cells (n * 9), size_madeCells _ _, ?_, fun hn w => ?_⟩
  · rw [tzeros]
    apply List.ext_getElem
    · simp [size_madeCells]
    · intro j h1 h2
      simp only [madeCells, Array.getElem_toList, Array.getElem_map, Array.getElem_range, List.getElem_replicate]
      rcases (show j % 9 = 0 ∨ j % 9 = 1 ∨ j % 9 = 2 ∨ j % 9 = 3 ∨ j % 9 = 4 ∨ j % 9 = 5 ∨ j % 9 = 6 ∨ j % 9 = 7 ∨ j % 9 = 8 by omega) with e | e | e | e | e | e | e | e | e <;> simp [Value.cells, e, Rt.zero]
  · have hr := run_make (P := Try.prog) w 77 26 i _ Try.underlying77 hi hz .i64 .i64 n n (by omega) (Int.le_refl _) (by rw [hb]; omega) (by omega)
    rw [hs] at hr
    simpa only [Int.toNat_natCast] using hr

def NewNo (w : World) (e : Ending) (w' : World) : Prop := e = .returned (.tuple #[.pointer none, .int .i64 1]) ∧ Below w.heap.size w w'
def NewYes (T : TypeId) (n : Nat) (w : World) (e : Ending) (w' : World) : Prop :=
  ∃ p, e = .returned (.tuple #[.pointer (some ⟨p, 0, none⟩), .int .i64 0]) ∧ Below w.heap.size w w' ∧ Gr T (fun k => w.heap.size ≤ k ∧ k < w'.heap.size) w' p (Gd.new n)

theorem new_mem {T : TypeId} (hT : T = 79 ∨ T = 91) (w : World) {n : Nat} (h1 : 1 ≤ n) (hn : n ≤ 64) {Z : Array Value} (hZs : Z.size = n * 9) (hZl : Z.toList = tflat (List.replicate n Rt.zero)) :
    Gr T (fun k => w.heap.size ≤ k ∧ k < ((w.alloc (.cells Z 26)).alloc (.cells #[.slice (some ⟨w.heap.size, 0, none⟩) n n, .slice none 0 0] T)).heap.size)
      ((w.alloc (.cells Z 26)).alloc (.cells #[.slice (some ⟨w.heap.size, 0, none⟩) n n, .slice none 0 0] T)) (w.heap.size + 1) (Gd.new n) := by
  have hl : (Gd.new n).ts.length = n := by simp [Gd.new]
  refine ⟨w.heap.size, n, .slice none 0 0, [], [], ⟨hT, ?_, by simp, by simp; omega, ?_, World.ownsRow_nil _ _ _ _, (by intro g hg; cases hg), rfl, rfl, List.Pairwise.nil, (by intro k hk; cases hk), by rw [hl]; exact hn⟩⟩
  · rw [hl]
    have := Blk.new (w.alloc (.cells Z 26)) T #[.slice (some ⟨w.heap.size, 0, none⟩) n n, .slice none 0 0]
    simpa using this
  · rw [hl]
    refine World.ownsRow.alloc ⟨by rw [tflat_length, hl], .inr ⟨w.heap.size, n, Z, rfl, Nat.zero_le _, heap_alloc_new w _, Nat.le_refl _, by unfold maxLen; omega, hZs, ?_⟩⟩ _
    rw [hZl]
    exact List.take_of_length_le (by rw [tflat_length]; simp)

set_option maxRecDepth 100000 in
set_option maxHeartbeats 1000000 in
theorem gnew_no (n : Int) (hn : n < 1 ∨ 64 < n) (w : World) : Calls Try.prog 27 #[.int .i64 n] w (NewNo w) := by
  rcases hn with hn | hn
  · go_enter Try.func27, Try.ntmps27
    go_wp2_with fail
    go_ret2
    exact ⟨rfl, below_refl _⟩
  · have hn' : ¬ n < 1 := by omega
    go_enter Try.func27, Try.ntmps27
    go_wp2_with fail
    go_ret2
    exact ⟨rfl, below_refl _⟩

set_option maxRecDepth 100000 in
set_option maxHeartbeats 1000000 in
theorem gnew_yes (n : Nat) (h1 : 1 ≤ n) (hn : n ≤ 64) (w : World) : Calls Try.prog 27 #[.int .i64 n] w (NewYes 79 n w) := by
  obtain ⟨Z, hZs, hZl, hmk'⟩ := zero_rts n
  have hmk := hmk' hn
  have HZ := Lib.hid (new_mem (T := 79) (by decide) w h1 hn hZs hZl)
  have hn1 : ¬ (n : Int) < 1 := by omega
  have hn2 : ¬ (64 : Int) < n := by omega
  clear hmk' hZs hZl
  go_enter Try.func27, Try.ntmps27
  go_wp2_with fail
  go_ret2
  exact ⟨w.heap.size + 1, rfl, ((Below.refl _ _).alloc (Nat.le_refl _) _).alloc (by simp) _, HZ.out⟩

set_option maxRecDepth 100000 in
set_option maxHeartbeats 1000000 in
theorem rnew_no (n : Int) (hn : n < 1 ∨ 64 < n) (w : World) : Calls Try.prog 40 #[.int .i64 n] w (NewNo w) := by
  rcases hn with hn | hn
  · go_enter Try.func40, Try.ntmps40
    go_wp2_with fail
    go_ret2
    exact ⟨rfl, below_refl _⟩
  · have hn' : ¬ n < 1 := by omega
    go_enter Try.func40, Try.ntmps40
    go_wp2_with fail
    go_ret2
    exact ⟨rfl, below_refl _⟩

set_option maxRecDepth 100000 in
set_option maxHeartbeats 1000000 in
theorem rnew_yes (n : Nat) (h1 : 1 ≤ n) (hn : n ≤ 64) (w : World) : Calls Try.prog 40 #[.int .i64 n] w (NewYes 91 n w) := by
  obtain ⟨Z, hZs, hZl, hmk'⟩ := zero_rts n
  have hmk := hmk' hn
  have HZ := Lib.hid (new_mem (T := 91) (by decide) w h1 hn hZs hZl)
  have hn1 : ¬ (n : Int) < 1 := by omega
  have hn2 : ¬ (64 : Int) < n := by omega
  clear hmk' hZs hZl
  go_enter Try.func40, Try.ntmps40
  go_wp2_with fail
  go_ret2
  exact ⟨w.heap.size + 1, rfl, ((Below.refl _ _).alloc (Nat.le_refl _) _).alloc (by simp) _, HZ.out⟩

end Go.Proofs.Ytlogojiphjpknaa
