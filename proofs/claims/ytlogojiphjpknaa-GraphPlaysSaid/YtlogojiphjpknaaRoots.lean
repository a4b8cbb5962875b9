/- What roots.Push, Drop, Get, Dup and Move, and flitref06's, come to: of any nine ints. No condition. -/
import Derived.Test.YtlogojiphjpknaaMay
import Derived.Test.YtlogojiphjpknaaExt
namespace Go.Proofs.Ytlogojiphjpknaa
open Go.RowKit

def PushP (r : Rt) (a : Int) (w : World) (e : Ending) (w' : World) : Prop := e = .returned (.tuple #[rv (r.push a).1, .int .i64 (r.push a).2]) ∧ Below w.heap.size w w'
def DropP (r : Rt) (w : World) (e : Ending) (w' : World) : Prop := e = .returned (.tuple #[rv r.drop.1, .int .i64 r.drop.2]) ∧ Below w.heap.size w w'
def GetP (r : Rt) (i : Int) (w : World) (e : Ending) (w' : World) : Prop := e = .returned (.tuple #[.int .i64 (r.get i).1, .int .i64 (r.get i).2]) ∧ Below w.heap.size w w'
def DupP (r : Rt) (i : Int) (w : World) (e : Ending) (w' : World) : Prop := e = .returned (.tuple #[rv (r.dup i).1, .int .i64 (r.dup i).2]) ∧ Below w.heap.size w w'
def MoveP (r : Rt) (f t : Int) (w : World) (e : Ending) (w' : World) : Prop := e = .returned (rv (r.move f t)) ∧ Below w.heap.size w w'

theorem two_allocs {w : World} {x y : Obj} (os : Array Obj) (d : Nat) : Below w.heap.size w (ext ((w.alloc x).alloc y) os d) :=
  below_ext (((Below.refl _ _).alloc (Nat.le_refl _) _).alloc (by simp) _) (by simp; omega) _ _
theorem one_alloc {w : World} {x : Obj} (os : Array Obj) (d : Nat) : Below w.heap.size w (ext (w.alloc x) os d) :=
  below_ext ((Below.refl _ _).alloc (Nat.le_refl _) _) (by simp) _ _

theorem ok_of {r : Rt} (h : r.may = true) : r.ok := by simpa [Rt.may] using h
theorem not_ok {r : Rt} (h : r.may = false) : ¬ r.ok := by simpa [Rt.may] using h
theorem bad_push {r : Rt} {a : Int} (h : r.may = false) : r.push a = (Rt.zero, 1) := by unfold Rt.push; rw [if_neg (not_ok h)]
theorem bad_drop {r : Rt} (h : r.may = false) : r.drop = (Rt.zero, 1) := by unfold Rt.drop; rw [if_neg (not_ok h)]
theorem bad_get {r : Rt} {i : Int} (h : r.may = false) : r.get i = (0, 1) := by unfold Rt.get; rw [if_neg (not_ok h)]

set_option maxRecDepth 100000 in
set_option maxHeartbeats 1000000 in
theorem push_no (n a0 a1 a2 a3 a4 a5 a6 a7 a : Int) (w : World) (h : Rt.may ⟨n, a0, a1, a2, a3, a4, a5, a6, a7⟩ = false) : Calls Try.prog 16 #[rv ⟨n, a0, a1, a2, a3, a4, a5, a6, a7⟩, .int .i64 a] w (PushP ⟨n, a0, a1, a2, a3, a4, a5, a6, a7⟩ a w) := by
  have hz := Lib.hid (bad_push (a := a) h)
  go_enter Try.func16, Try.ntmps16
  go_wp2_with fail
  refine (may_any ⟨n, a0, a1, a2, a3, a4, a5, a6, a7⟩ _).mono ?_
  rintro e w1 ⟨rfl, hb⟩
  obtain ⟨os, d, rfl⟩ := ext_of hb
  clear hb
  go_wp2
  refine bodyPost_ret (v := .tuple #[rv Rt.zero, .int .i64 1]) (by simp [results, Try.results16, go_sem, Rt.zero]) rfl ⟨by rw [hz.out], ?_⟩
  exact two_allocs _ _

set_option maxRecDepth 100000 in
set_option maxHeartbeats 1000000 in
theorem push_8 (a0 a1 a2 a3 a4 a5 a6 a7 a : Int) (w : World) (h : Rt.may ⟨8, a0, a1, a2, a3, a4, a5, a6, a7⟩ = true) : Calls Try.prog 16 #[rv ⟨8, a0, a1, a2, a3, a4, a5, a6, a7⟩, .int .i64 a] w (PushP ⟨8, a0, a1, a2, a3, a4, a5, a6, a7⟩ a w) := by
  have hz := Lib.hid (show Rt.push ⟨8, a0, a1, a2, a3, a4, a5, a6, a7⟩ a = (Rt.zero, 13) by unfold Rt.push; rw [if_pos (ok_of h)]; rfl)
  go_enter Try.func16, Try.ntmps16
  go_wp2_with fail
  refine (may_any ⟨8, a0, a1, a2, a3, a4, a5, a6, a7⟩ _).mono ?_
  rintro e w1 ⟨rfl, hb⟩
  obtain ⟨os, d, rfl⟩ := ext_of hb
  clear hb
  go_wp2
  refine bodyPost_ret (v := .tuple #[rv Rt.zero, .int .i64 13]) (by simp [results, Try.results16, go_sem, Rt.zero]) rfl ⟨by rw [hz.out], ?_⟩
  exact two_allocs _ _

set_option maxRecDepth 100000 in
set_option maxHeartbeats 1000000 in
theorem push_0 (a0 a1 a2 a3 a4 a5 a6 a7 a : Int) (w : World) (h : Rt.may ⟨0, a0, a1, a2, a3, a4, a5, a6, a7⟩ = true) : Calls Try.prog 16 #[rv ⟨0, a0, a1, a2, a3, a4, a5, a6, a7⟩, .int .i64 a] w (PushP ⟨0, a0, a1, a2, a3, a4, a5, a6, a7⟩ a w) := by
  have hz := Lib.hid (show Rt.push ⟨0, a0, a1, a2, a3, a4, a5, a6, a7⟩ a = (⟨1, a, a1, a2, a3, a4, a5, a6, a7⟩, 0) by unfold Rt.push; rw [if_pos (ok_of h)]; rfl)
  go_enter Try.func16, Try.ntmps16
  go_wp2_with fail
  refine (may_any ⟨0, a0, a1, a2, a3, a4, a5, a6, a7⟩ _).mono ?_
  rintro e w1 ⟨rfl, hb⟩
  obtain ⟨os, d, rfl⟩ := ext_of hb
  clear hb
  go_wp2
  refine bodyPost_ret (v := .tuple #[rv ⟨1, a, a1, a2, a3, a4, a5, a6, a7⟩, .int .i64 0]) (by simp [results, Try.results16, go_sem]) rfl ⟨by rw [hz.out], ?_⟩
  exact two_allocs _ _

set_option maxRecDepth 100000 in
set_option maxHeartbeats 1000000 in
theorem push_1 (a0 a1 a2 a3 a4 a5 a6 a7 a : Int) (w : World) (h : Rt.may ⟨1, a0, a1, a2, a3, a4, a5, a6, a7⟩ = true) : Calls Try.prog 16 #[rv ⟨1, a0, a1, a2, a3, a4, a5, a6, a7⟩, .int .i64 a] w (PushP ⟨1, a0, a1, a2, a3, a4, a5, a6, a7⟩ a w) := by
  have hz := Lib.hid (show Rt.push ⟨1, a0, a1, a2, a3, a4, a5, a6, a7⟩ a = (⟨2, a0, a, a2, a3, a4, a5, a6, a7⟩, 0) by unfold Rt.push; rw [if_pos (ok_of h)]; rfl)
  go_enter Try.func16, Try.ntmps16
  go_wp2_with fail
  refine (may_any ⟨1, a0, a1, a2, a3, a4, a5, a6, a7⟩ _).mono ?_
  rintro e w1 ⟨rfl, hb⟩
  obtain ⟨os, d, rfl⟩ := ext_of hb
  clear hb
  go_wp2
  refine bodyPost_ret (v := .tuple #[rv ⟨2, a0, a, a2, a3, a4, a5, a6, a7⟩, .int .i64 0]) (by simp [results, Try.results16, go_sem]) rfl ⟨by rw [hz.out], ?_⟩
  exact two_allocs _ _

set_option maxRecDepth 100000 in
set_option maxHeartbeats 1000000 in
theorem push_2 (a0 a1 a2 a3 a4 a5 a6 a7 a : Int) (w : World) (h : Rt.may ⟨2, a0, a1, a2, a3, a4, a5, a6, a7⟩ = true) : Calls Try.prog 16 #[rv ⟨2, a0, a1, a2, a3, a4, a5, a6, a7⟩, .int .i64 a] w (PushP ⟨2, a0, a1, a2, a3, a4, a5, a6, a7⟩ a w) := by
  have hz := Lib.hid (show Rt.push ⟨2, a0, a1, a2, a3, a4, a5, a6, a7⟩ a = (⟨3, a0, a1, a, a3, a4, a5, a6, a7⟩, 0) by unfold Rt.push; rw [if_pos (ok_of h)]; rfl)
  go_enter Try.func16, Try.ntmps16
  go_wp2_with fail
  refine (may_any ⟨2, a0, a1, a2, a3, a4, a5, a6, a7⟩ _).mono ?_
  rintro e w1 ⟨rfl, hb⟩
  obtain ⟨os, d, rfl⟩ := ext_of hb
  clear hb
  go_wp2
  refine bodyPost_ret (v := .tuple #[rv ⟨3, a0, a1, a, a3, a4, a5, a6, a7⟩, .int .i64 0]) (by simp [results, Try.results16, go_sem]) rfl ⟨by rw [hz.out], ?_⟩
  exact two_allocs _ _

set_option maxRecDepth 100000 in
set_option maxHeartbeats 1000000 in
theorem push_3 (a0 a1 a2 a3 a4 a5 a6 a7 a : Int) (w : World) (h : Rt.may ⟨3, a0, a1, a2, a3, a4, a5, a6, a7⟩ = true) : Calls Try.prog 16 #[rv ⟨3, a0, a1, a2, a3, a4, a5, a6, a7⟩, .int .i64 a] w (PushP ⟨3, a0, a1, a2, a3, a4, a5, a6, a7⟩ a w) := by
  have hz := Lib.hid (show Rt.push ⟨3, a0, a1, a2, a3, a4, a5, a6, a7⟩ a = (⟨4, a0, a1, a2, a, a4, a5, a6, a7⟩, 0) by unfold Rt.push; rw [if_pos (ok_of h)]; rfl)
  go_enter Try.func16, Try.ntmps16
  go_wp2_with fail
  refine (may_any ⟨3, a0, a1, a2, a3, a4, a5, a6, a7⟩ _).mono ?_
  rintro e w1 ⟨rfl, hb⟩
  obtain ⟨os, d, rfl⟩ := ext_of hb
  clear hb
  go_wp2
  refine bodyPost_ret (v := .tuple #[rv ⟨4, a0, a1, a2, a, a4, a5, a6, a7⟩, .int .i64 0]) (by simp [results, Try.results16, go_sem]) rfl ⟨by rw [hz.out], ?_⟩
  exact two_allocs _ _

set_option maxRecDepth 100000 in
set_option maxHeartbeats 1000000 in
theorem push_4 (a0 a1 a2 a3 a4 a5 a6 a7 a : Int) (w : World) (h : Rt.may ⟨4, a0, a1, a2, a3, a4, a5, a6, a7⟩ = true) : Calls Try.prog 16 #[rv ⟨4, a0, a1, a2, a3, a4, a5, a6, a7⟩, .int .i64 a] w (PushP ⟨4, a0, a1, a2, a3, a4, a5, a6, a7⟩ a w) := by
  have hz := Lib.hid (show Rt.push ⟨4, a0, a1, a2, a3, a4, a5, a6, a7⟩ a = (⟨5, a0, a1, a2, a3, a, a5, a6, a7⟩, 0) by unfold Rt.push; rw [if_pos (ok_of h)]; rfl)
  go_enter Try.func16, Try.ntmps16
  go_wp2_with fail
  refine (may_any ⟨4, a0, a1, a2, a3, a4, a5, a6, a7⟩ _).mono ?_
  rintro e w1 ⟨rfl, hb⟩
  obtain ⟨os, d, rfl⟩ := ext_of hb
  clear hb
  go_wp2
  refine bodyPost_ret (v := .tuple #[rv ⟨5, a0, a1, a2, a3, a, a5, a6, a7⟩, .int .i64 0]) (by simp [results, Try.results16, go_sem]) rfl ⟨by rw [hz.out], ?_⟩
  exact two_allocs _ _

set_option maxRecDepth 100000 in
set_option maxHeartbeats 1000000 in
theorem push_5 (a0 a1 a2 a3 a4 a5 a6 a7 a : Int) (w : World) (h : Rt.may ⟨5, a0, a1, a2, a3, a4, a5, a6, a7⟩ = true) : Calls Try.prog 16 #[rv ⟨5, a0, a1, a2, a3, a4, a5, a6, a7⟩, .int .i64 a] w (PushP ⟨5, a0, a1, a2, a3, a4, a5, a6, a7⟩ a w) := by
  have hz := Lib.hid (show Rt.push ⟨5, a0, a1, a2, a3, a4, a5, a6, a7⟩ a = (⟨6, a0, a1, a2, a3, a4, a, a6, a7⟩, 0) by unfold Rt.push; rw [if_pos (ok_of h)]; rfl)
  go_enter Try.func16, Try.ntmps16
  go_wp2_with fail
  refine (may_any ⟨5, a0, a1, a2, a3, a4, a5, a6, a7⟩ _).mono ?_
  rintro e w1 ⟨rfl, hb⟩
  obtain ⟨os, d, rfl⟩ := ext_of hb
  clear hb
  go_wp2
  refine bodyPost_ret (v := .tuple #[rv ⟨6, a0, a1, a2, a3, a4, a, a6, a7⟩, .int .i64 0]) (by simp [results, Try.results16, go_sem]) rfl ⟨by rw [hz.out], ?_⟩
  exact two_allocs _ _

set_option maxRecDepth 100000 in
set_option maxHeartbeats 1000000 in
theorem push_6 (a0 a1 a2 a3 a4 a5 a6 a7 a : Int) (w : World) (h : Rt.may ⟨6, a0, a1, a2, a3, a4, a5, a6, a7⟩ = true) : Calls Try.prog 16 #[rv ⟨6, a0, a1, a2, a3, a4, a5, a6, a7⟩, .int .i64 a] w (PushP ⟨6, a0, a1, a2, a3, a4, a5, a6, a7⟩ a w) := by
  have hz := Lib.hid (show Rt.push ⟨6, a0, a1, a2, a3, a4, a5, a6, a7⟩ a = (⟨7, a0, a1, a2, a3, a4, a5, a, a7⟩, 0) by unfold Rt.push; rw [if_pos (ok_of h)]; rfl)
  go_enter Try.func16, Try.ntmps16
  go_wp2_with fail
  refine (may_any ⟨6, a0, a1, a2, a3, a4, a5, a6, a7⟩ _).mono ?_
  rintro e w1 ⟨rfl, hb⟩
  obtain ⟨os, d, rfl⟩ := ext_of hb
  clear hb
  go_wp2
  refine bodyPost_ret (v := .tuple #[rv ⟨7, a0, a1, a2, a3, a4, a5, a, a7⟩, .int .i64 0]) (by simp [results, Try.results16, go_sem]) rfl ⟨by rw [hz.out], ?_⟩
  exact two_allocs _ _

set_option maxRecDepth 100000 in
set_option maxHeartbeats 1000000 in
theorem push_7 (a0 a1 a2 a3 a4 a5 a6 a7 a : Int) (w : World) (h : Rt.may ⟨7, a0, a1, a2, a3, a4, a5, a6, a7⟩ = true) : Calls Try.prog 16 #[rv ⟨7, a0, a1, a2, a3, a4, a5, a6, a7⟩, .int .i64 a] w (PushP ⟨7, a0, a1, a2, a3, a4, a5, a6, a7⟩ a w) := by
  have hz := Lib.hid (show Rt.push ⟨7, a0, a1, a2, a3, a4, a5, a6, a7⟩ a = (⟨8, a0, a1, a2, a3, a4, a5, a6, a⟩, 0) by unfold Rt.push; rw [if_pos (ok_of h)]; rfl)
  go_enter Try.func16, Try.ntmps16
  go_wp2_with fail
  refine (may_any ⟨7, a0, a1, a2, a3, a4, a5, a6, a7⟩ _).mono ?_
  rintro e w1 ⟨rfl, hb⟩
  obtain ⟨os, d, rfl⟩ := ext_of hb
  clear hb
  go_wp2
  refine bodyPost_ret (v := .tuple #[rv ⟨8, a0, a1, a2, a3, a4, a5, a6, a⟩, .int .i64 0]) (by simp [results, Try.results16, go_sem]) rfl ⟨by rw [hz.out], ?_⟩
  exact two_allocs _ _

theorem push_any (r : Rt) (a : Int) (w : World) : Calls Try.prog 16 #[rv r, .int .i64 a] w (PushP r a w) := by
  obtain ⟨n, a0, a1, a2, a3, a4, a5, a6, a7⟩ := r
  cases h : Rt.may ⟨n, a0, a1, a2, a3, a4, a5, a6, a7⟩
  · exact push_no _ _ _ _ _ _ _ _ _ _ w h
  obtain ⟨h0, h8, _⟩ := ok_of h
  simp only at h0 h8
  have hn : n = 0 ∨ n = 1 ∨ n = 2 ∨ n = 3 ∨ n = 4 ∨ n = 5 ∨ n = 6 ∨ n = 7 ∨ n = 8 := by omega
  rcases hn with rfl | rfl | rfl | rfl | rfl | rfl | rfl | rfl | rfl
  · exact push_0 _ _ _ _ _ _ _ _ _ w h
  · exact push_1 _ _ _ _ _ _ _ _ _ w h
  · exact push_2 _ _ _ _ _ _ _ _ _ w h
  · exact push_3 _ _ _ _ _ _ _ _ _ w h
  · exact push_4 _ _ _ _ _ _ _ _ _ w h
  · exact push_5 _ _ _ _ _ _ _ _ _ w h
  · exact push_6 _ _ _ _ _ _ _ _ _ w h
  · exact push_7 _ _ _ _ _ _ _ _ _ w h
  · exact push_8 _ _ _ _ _ _ _ _ _ w h

set_option maxRecDepth 100000 in
set_option maxHeartbeats 1000000 in
theorem pushR_no (n a0 a1 a2 a3 a4 a5 a6 a7 a : Int) (w : World) (h : Rt.may ⟨n, a0, a1, a2, a3, a4, a5, a6, a7⟩ = false) : Calls Try.prog 20 #[rv ⟨n, a0, a1, a2, a3, a4, a5, a6, a7⟩, .int .i64 a] w (PushP ⟨n, a0, a1, a2, a3, a4, a5, a6, a7⟩ a w) := by
  have hz := Lib.hid (bad_push (a := a) h)
  go_enter Try.func20, Try.ntmps20
  go_wp2_with fail
  refine (May_any ⟨n, a0, a1, a2, a3, a4, a5, a6, a7⟩ _).mono ?_
  rintro e w1 ⟨rfl, hb⟩
  obtain ⟨os, d, rfl⟩ := ext_of hb
  clear hb
  go_wp2
  refine bodyPost_ret (v := .tuple #[rv Rt.zero, .int .i64 1]) (by simp [results, Try.results20, go_sem, Rt.zero]) rfl ⟨by rw [hz.out], ?_⟩
  exact two_allocs _ _

set_option maxRecDepth 100000 in
set_option maxHeartbeats 1000000 in
theorem pushR_8 (a0 a1 a2 a3 a4 a5 a6 a7 a : Int) (w : World) (h : Rt.may ⟨8, a0, a1, a2, a3, a4, a5, a6, a7⟩ = true) : Calls Try.prog 20 #[rv ⟨8, a0, a1, a2, a3, a4, a5, a6, a7⟩, .int .i64 a] w (PushP ⟨8, a0, a1, a2, a3, a4, a5, a6, a7⟩ a w) := by
  have hz := Lib.hid (show Rt.push ⟨8, a0, a1, a2, a3, a4, a5, a6, a7⟩ a = (Rt.zero, 13) by unfold Rt.push; rw [if_pos (ok_of h)]; rfl)
  go_enter Try.func20, Try.ntmps20
  go_wp2_with fail
  refine (May_any ⟨8, a0, a1, a2, a3, a4, a5, a6, a7⟩ _).mono ?_
  rintro e w1 ⟨rfl, hb⟩
  obtain ⟨os, d, rfl⟩ := ext_of hb
  clear hb
  go_wp2
  refine bodyPost_ret (v := .tuple #[rv Rt.zero, .int .i64 13]) (by simp [results, Try.results20, go_sem, Rt.zero]) rfl ⟨by rw [hz.out], ?_⟩
  exact two_allocs _ _

set_option maxRecDepth 100000 in
set_option maxHeartbeats 1000000 in
theorem pushR_0 (a0 a1 a2 a3 a4 a5 a6 a7 a : Int) (w : World) (h : Rt.may ⟨0, a0, a1, a2, a3, a4, a5, a6, a7⟩ = true) : Calls Try.prog 20 #[rv ⟨0, a0, a1, a2, a3, a4, a5, a6, a7⟩, .int .i64 a] w (PushP ⟨0, a0, a1, a2, a3, a4, a5, a6, a7⟩ a w) := by
  have hz := Lib.hid (show Rt.push ⟨0, a0, a1, a2, a3, a4, a5, a6, a7⟩ a = (⟨1, a, a1, a2, a3, a4, a5, a6, a7⟩, 0) by unfold Rt.push; rw [if_pos (ok_of h)]; rfl)
  go_enter Try.func20, Try.ntmps20
  go_wp2_with fail
  refine (May_any ⟨0, a0, a1, a2, a3, a4, a5, a6, a7⟩ _).mono ?_
  rintro e w1 ⟨rfl, hb⟩
  obtain ⟨os, d, rfl⟩ := ext_of hb
  clear hb
  go_wp2
  refine bodyPost_ret (v := .tuple #[rv ⟨1, a, a1, a2, a3, a4, a5, a6, a7⟩, .int .i64 0]) (by simp [results, Try.results20, go_sem]) rfl ⟨by rw [hz.out], ?_⟩
  exact two_allocs _ _

set_option maxRecDepth 100000 in
set_option maxHeartbeats 1000000 in
theorem pushR_1 (a0 a1 a2 a3 a4 a5 a6 a7 a : Int) (w : World) (h : Rt.may ⟨1, a0, a1, a2, a3, a4, a5, a6, a7⟩ = true) : Calls Try.prog 20 #[rv ⟨1, a0, a1, a2, a3, a4, a5, a6, a7⟩, .int .i64 a] w (PushP ⟨1, a0, a1, a2, a3, a4, a5, a6, a7⟩ a w) := by
  have hz := Lib.hid (show Rt.push ⟨1, a0, a1, a2, a3, a4, a5, a6, a7⟩ a = (⟨2, a0, a, a2, a3, a4, a5, a6, a7⟩, 0) by unfold Rt.push; rw [if_pos (ok_of h)]; rfl)
  go_enter Try.func20, Try.ntmps20
  go_wp2_with fail
  refine (May_any ⟨1, a0, a1, a2, a3, a4, a5, a6, a7⟩ _).mono ?_
  rintro e w1 ⟨rfl, hb⟩
  obtain ⟨os, d, rfl⟩ := ext_of hb
  clear hb
  go_wp2
  refine bodyPost_ret (v := .tuple #[rv ⟨2, a0, a, a2, a3, a4, a5, a6, a7⟩, .int .i64 0]) (by simp [results, Try.results20, go_sem]) rfl ⟨by rw [hz.out], ?_⟩
  exact two_allocs _ _

set_option maxRecDepth 100000 in
set_option maxHeartbeats 1000000 in
theorem pushR_2 (a0 a1 a2 a3 a4 a5 a6 a7 a : Int) (w : World) (h : Rt.may ⟨2, a0, a1, a2, a3, a4, a5, a6, a7⟩ = true) : Calls Try.prog 20 #[rv ⟨2, a0, a1, a2, a3, a4, a5, a6, a7⟩, .int .i64 a] w (PushP ⟨2, a0, a1, a2, a3, a4, a5, a6, a7⟩ a w) := by
  have hz := Lib.hid (show Rt.push ⟨2, a0, a1, a2, a3, a4, a5, a6, a7⟩ a = (⟨3, a0, a1, a, a3, a4, a5, a6, a7⟩, 0) by unfold Rt.push; rw [if_pos (ok_of h)]; rfl)
  go_enter Try.func20, Try.ntmps20
  go_wp2_with fail
  refine (May_any ⟨2, a0, a1, a2, a3, a4, a5, a6, a7⟩ _).mono ?_
  rintro e w1 ⟨rfl, hb⟩
  obtain ⟨os, d, rfl⟩ := ext_of hb
  clear hb
  go_wp2
  refine bodyPost_ret (v := .tuple #[rv ⟨3, a0, a1, a, a3, a4, a5, a6, a7⟩, .int .i64 0]) (by simp [results, Try.results20, go_sem]) rfl ⟨by rw [hz.out], ?_⟩
  exact two_allocs _ _

set_option maxRecDepth 100000 in
set_option maxHeartbeats 1000000 in
theorem pushR_3 (a0 a1 a2 a3 a4 a5 a6 a7 a : Int) (w : World) (h : Rt.may ⟨3, a0, a1, a2, a3, a4, a5, a6, a7⟩ = true) : Calls Try.prog 20 #[rv ⟨3, a0, a1, a2, a3, a4, a5, a6, a7⟩, .int .i64 a] w (PushP ⟨3, a0, a1, a2, a3, a4, a5, a6, a7⟩ a w) := by
  have hz := Lib.hid (show Rt.push ⟨3, a0, a1, a2, a3, a4, a5, a6, a7⟩ a = (⟨4, a0, a1, a2, a, a4, a5, a6, a7⟩, 0) by unfold Rt.push; rw [if_pos (ok_of h)]; rfl)
  go_enter Try.func20, Try.ntmps20
  go_wp2_with fail
  refine (May_any ⟨3, a0, a1, a2, a3, a4, a5, a6, a7⟩ _).mono ?_
  rintro e w1 ⟨rfl, hb⟩
  obtain ⟨os, d, rfl⟩ := ext_of hb
  clear hb
  go_wp2
  refine bodyPost_ret (v := .tuple #[rv ⟨4, a0, a1, a2, a, a4, a5, a6, a7⟩, .int .i64 0]) (by simp [results, Try.results20, go_sem]) rfl ⟨by rw [hz.out], ?_⟩
  exact two_allocs _ _

set_option maxRecDepth 100000 in
set_option maxHeartbeats 1000000 in
theorem pushR_4 (a0 a1 a2 a3 a4 a5 a6 a7 a : Int) (w : World) (h : Rt.may ⟨4, a0, a1, a2, a3, a4, a5, a6, a7⟩ = true) : Calls Try.prog 20 #[rv ⟨4, a0, a1, a2, a3, a4, a5, a6, a7⟩, .int .i64 a] w (PushP ⟨4, a0, a1, a2, a3, a4, a5, a6, a7⟩ a w) := by
  have hz := Lib.hid (show Rt.push ⟨4, a0, a1, a2, a3, a4, a5, a6, a7⟩ a = (⟨5, a0, a1, a2, a3, a, a5, a6, a7⟩, 0) by unfold Rt.push; rw [if_pos (ok_of h)]; rfl)
  go_enter Try.func20, Try.ntmps20
  go_wp2_with fail
  refine (May_any ⟨4, a0, a1, a2, a3, a4, a5, a6, a7⟩ _).mono ?_
  rintro e w1 ⟨rfl, hb⟩
  obtain ⟨os, d, rfl⟩ := ext_of hb
  clear hb
  go_wp2
  refine bodyPost_ret (v := .tuple #[rv ⟨5, a0, a1, a2, a3, a, a5, a6, a7⟩, .int .i64 0]) (by simp [results, Try.results20, go_sem]) rfl ⟨by rw [hz.out], ?_⟩
  exact two_allocs _ _

set_option maxRecDepth 100000 in
set_option maxHeartbeats 1000000 in
theorem pushR_5 (a0 a1 a2 a3 a4 a5 a6 a7 a : Int) (w : World) (h : Rt.may ⟨5, a0, a1, a2, a3, a4, a5, a6, a7⟩ = true) : Calls Try.prog 20 #[rv ⟨5, a0, a1, a2, a3, a4, a5, a6, a7⟩, .int .i64 a] w (PushP ⟨5, a0, a1, a2, a3, a4, a5, a6, a7⟩ a w) := by
  have hz := Lib.hid (show Rt.push ⟨5, a0, a1, a2, a3, a4, a5, a6, a7⟩ a = (⟨6, a0, a1, a2, a3, a4, a, a6, a7⟩, 0) by unfold Rt.push; rw [if_pos (ok_of h)]; rfl)
  go_enter Try.func20, Try.ntmps20
  go_wp2_with fail
  refine (May_any ⟨5, a0, a1, a2, a3, a4, a5, a6, a7⟩ _).mono ?_
  rintro e w1 ⟨rfl, hb⟩
  obtain ⟨os, d, rfl⟩ := ext_of hb
  clear hb
  go_wp2
  refine bodyPost_ret (v := .tuple #[rv ⟨6, a0, a1, a2, a3, a4, a, a6, a7⟩, .int .i64 0]) (by simp [results, Try.results20, go_sem]) rfl ⟨by rw [hz.out], ?_⟩
  exact two_allocs _ _

set_option maxRecDepth 100000 in
set_option maxHeartbeats 1000000 in
theorem pushR_6 (a0 a1 a2 a3 a4 a5 a6 a7 a : Int) (w : World) (h : Rt.may ⟨6, a0, a1, a2, a3, a4, a5, a6, a7⟩ = true) : Calls Try.prog 20 #[rv ⟨6, a0, a1, a2, a3, a4, a5, a6, a7⟩, .int .i64 a] w (PushP ⟨6, a0, a1, a2, a3, a4, a5, a6, a7⟩ a w) := by
  have hz := Lib.hid (show Rt.push ⟨6, a0, a1, a2, a3, a4, a5, a6, a7⟩ a = (⟨7, a0, a1, a2, a3, a4, a5, a, a7⟩, 0) by unfold Rt.push; rw [if_pos (ok_of h)]; rfl)
  go_enter Try.func20, Try.ntmps20
  go_wp2_with fail
  refine (May_any ⟨6, a0, a1, a2, a3, a4, a5, a6, a7⟩ _).mono ?_
  rintro e w1 ⟨rfl, hb⟩
  obtain ⟨os, d, rfl⟩ := ext_of hb
  clear hb
  go_wp2
  refine bodyPost_ret (v := .tuple #[rv ⟨7, a0, a1, a2, a3, a4, a5, a, a7⟩, .int .i64 0]) (by simp [results, Try.results20, go_sem]) rfl ⟨by rw [hz.out], ?_⟩
  exact two_allocs _ _

set_option maxRecDepth 100000 in
set_option maxHeartbeats 1000000 in
theorem pushR_7 (a0 a1 a2 a3 a4 a5 a6 a7 a : Int) (w : World) (h : Rt.may ⟨7, a0, a1, a2, a3, a4, a5, a6, a7⟩ = true) : Calls Try.prog 20 #[rv ⟨7, a0, a1, a2, a3, a4, a5, a6, a7⟩, .int .i64 a] w (PushP ⟨7, a0, a1, a2, a3, a4, a5, a6, a7⟩ a w) := by
  have hz := Lib.hid (show Rt.push ⟨7, a0, a1, a2, a3, a4, a5, a6, a7⟩ a = (⟨8, a0, a1, a2, a3, a4, a5, a6, a⟩, 0) by unfold Rt.push; rw [if_pos (ok_of h)]; rfl)
  go_enter Try.func20, Try.ntmps20
  go_wp2_with fail
  refine (May_any ⟨7, a0, a1, a2, a3, a4, a5, a6, a7⟩ _).mono ?_
  rintro e w1 ⟨rfl, hb⟩
  obtain ⟨os, d, rfl⟩ := ext_of hb
  clear hb
  go_wp2
  refine bodyPost_ret (v := .tuple #[rv ⟨8, a0, a1, a2, a3, a4, a5, a6, a⟩, .int .i64 0]) (by simp [results, Try.results20, go_sem]) rfl ⟨by rw [hz.out], ?_⟩
  exact two_allocs _ _

theorem pushR_any (r : Rt) (a : Int) (w : World) : Calls Try.prog 20 #[rv r, .int .i64 a] w (PushP r a w) := by
  obtain ⟨n, a0, a1, a2, a3, a4, a5, a6, a7⟩ := r
  cases h : Rt.may ⟨n, a0, a1, a2, a3, a4, a5, a6, a7⟩
  · exact pushR_no _ _ _ _ _ _ _ _ _ _ w h
  obtain ⟨h0, h8, _⟩ := ok_of h
  simp only at h0 h8
  have hn : n = 0 ∨ n = 1 ∨ n = 2 ∨ n = 3 ∨ n = 4 ∨ n = 5 ∨ n = 6 ∨ n = 7 ∨ n = 8 := by omega
  rcases hn with rfl | rfl | rfl | rfl | rfl | rfl | rfl | rfl | rfl
  · exact pushR_0 _ _ _ _ _ _ _ _ _ w h
  · exact pushR_1 _ _ _ _ _ _ _ _ _ w h
  · exact pushR_2 _ _ _ _ _ _ _ _ _ w h
  · exact pushR_3 _ _ _ _ _ _ _ _ _ w h
  · exact pushR_4 _ _ _ _ _ _ _ _ _ w h
  · exact pushR_5 _ _ _ _ _ _ _ _ _ w h
  · exact pushR_6 _ _ _ _ _ _ _ _ _ w h
  · exact pushR_7 _ _ _ _ _ _ _ _ _ w h
  · exact pushR_8 _ _ _ _ _ _ _ _ _ w h

set_option maxRecDepth 100000 in
set_option maxHeartbeats 1000000 in
theorem drop_no (n a0 a1 a2 a3 a4 a5 a6 a7 : Int) (w : World) (h : Rt.may ⟨n, a0, a1, a2, a3, a4, a5, a6, a7⟩ = false) : Calls Try.prog 17 #[rv ⟨n, a0, a1, a2, a3, a4, a5, a6, a7⟩] w (DropP ⟨n, a0, a1, a2, a3, a4, a5, a6, a7⟩ w) := by
  have hz := Lib.hid (bad_drop h)
  go_enter Try.func17, Try.ntmps17
  go_wp2_with fail
  refine (may_any ⟨n, a0, a1, a2, a3, a4, a5, a6, a7⟩ _).mono ?_
  rintro e w1 ⟨rfl, hb⟩
  obtain ⟨os, d, rfl⟩ := ext_of hb
  clear hb
  go_wp2
  refine bodyPost_ret (v := .tuple #[rv Rt.zero, .int .i64 1]) (by simp [results, Try.results17, go_sem, Rt.zero]) rfl ⟨by rw [hz.out], ?_⟩
  exact two_allocs _ _

set_option maxRecDepth 100000 in
set_option maxHeartbeats 1000000 in
theorem drop_0 (a0 a1 a2 a3 a4 a5 a6 a7 : Int) (w : World) (h : Rt.may ⟨0, a0, a1, a2, a3, a4, a5, a6, a7⟩ = true) : Calls Try.prog 17 #[rv ⟨0, a0, a1, a2, a3, a4, a5, a6, a7⟩] w (DropP ⟨0, a0, a1, a2, a3, a4, a5, a6, a7⟩ w) := by
  have hz := Lib.hid (show Rt.drop ⟨0, a0, a1, a2, a3, a4, a5, a6, a7⟩ = (Rt.zero, 12) by unfold Rt.drop; rw [if_pos (ok_of h)]; rfl)
  go_enter Try.func17, Try.ntmps17
  go_wp2_with fail
  refine (may_any ⟨0, a0, a1, a2, a3, a4, a5, a6, a7⟩ _).mono ?_
  rintro e w1 ⟨rfl, hb⟩
  obtain ⟨os, d, rfl⟩ := ext_of hb
  clear hb
  go_wp2
  refine bodyPost_ret (v := .tuple #[rv Rt.zero, .int .i64 12]) (by simp [results, Try.results17, go_sem, Rt.zero]) rfl ⟨by rw [hz.out], ?_⟩
  exact two_allocs _ _

set_option maxRecDepth 100000 in
set_option maxHeartbeats 1000000 in
theorem drop_1 (a0 a1 a2 a3 a4 a5 a6 a7 : Int) (w : World) (h : Rt.may ⟨1, a0, a1, a2, a3, a4, a5, a6, a7⟩ = true) : Calls Try.prog 17 #[rv ⟨1, a0, a1, a2, a3, a4, a5, a6, a7⟩] w (DropP ⟨1, a0, a1, a2, a3, a4, a5, a6, a7⟩ w) := by
  have hz := Lib.hid (show Rt.drop ⟨1, a0, a1, a2, a3, a4, a5, a6, a7⟩ = (⟨0, 0, a1, a2, a3, a4, a5, a6, a7⟩, 0) by unfold Rt.drop; rw [if_pos (ok_of h)]; rfl)
  go_enter Try.func17, Try.ntmps17
  go_wp2_with fail
  refine (may_any ⟨1, a0, a1, a2, a3, a4, a5, a6, a7⟩ _).mono ?_
  rintro e w1 ⟨rfl, hb⟩
  obtain ⟨os, d, rfl⟩ := ext_of hb
  clear hb
  go_wp2
  refine bodyPost_ret (v := .tuple #[rv ⟨0, 0, a1, a2, a3, a4, a5, a6, a7⟩, .int .i64 0]) (by simp [results, Try.results17, go_sem]) rfl ⟨by rw [hz.out], ?_⟩
  exact two_allocs _ _

set_option maxRecDepth 100000 in
set_option maxHeartbeats 1000000 in
theorem drop_2 (a0 a1 a2 a3 a4 a5 a6 a7 : Int) (w : World) (h : Rt.may ⟨2, a0, a1, a2, a3, a4, a5, a6, a7⟩ = true) : Calls Try.prog 17 #[rv ⟨2, a0, a1, a2, a3, a4, a5, a6, a7⟩] w (DropP ⟨2, a0, a1, a2, a3, a4, a5, a6, a7⟩ w) := by
  have hz := Lib.hid (show Rt.drop ⟨2, a0, a1, a2, a3, a4, a5, a6, a7⟩ = (⟨1, a0, 0, a2, a3, a4, a5, a6, a7⟩, 0) by unfold Rt.drop; rw [if_pos (ok_of h)]; rfl)
  go_enter Try.func17, Try.ntmps17
  go_wp2_with fail
  refine (may_any ⟨2, a0, a1, a2, a3, a4, a5, a6, a7⟩ _).mono ?_
  rintro e w1 ⟨rfl, hb⟩
  obtain ⟨os, d, rfl⟩ := ext_of hb
  clear hb
  go_wp2
  refine bodyPost_ret (v := .tuple #[rv ⟨1, a0, 0, a2, a3, a4, a5, a6, a7⟩, .int .i64 0]) (by simp [results, Try.results17, go_sem]) rfl ⟨by rw [hz.out], ?_⟩
  exact two_allocs _ _

set_option maxRecDepth 100000 in
set_option maxHeartbeats 1000000 in
theorem drop_3 (a0 a1 a2 a3 a4 a5 a6 a7 : Int) (w : World) (h : Rt.may ⟨3, a0, a1, a2, a3, a4, a5, a6, a7⟩ = true) : Calls Try.prog 17 #[rv ⟨3, a0, a1, a2, a3, a4, a5, a6, a7⟩] w (DropP ⟨3, a0, a1, a2, a3, a4, a5, a6, a7⟩ w) := by
  have hz := Lib.hid (show Rt.drop ⟨3, a0, a1, a2, a3, a4, a5, a6, a7⟩ = (⟨2, a0, a1, 0, a3, a4, a5, a6, a7⟩, 0) by unfold Rt.drop; rw [if_pos (ok_of h)]; rfl)
  go_enter Try.func17, Try.ntmps17
  go_wp2_with fail
  refine (may_any ⟨3, a0, a1, a2, a3, a4, a5, a6, a7⟩ _).mono ?_
  rintro e w1 ⟨rfl, hb⟩
  obtain ⟨os, d, rfl⟩ := ext_of hb
  clear hb
  go_wp2
  refine bodyPost_ret (v := .tuple #[rv ⟨2, a0, a1, 0, a3, a4, a5, a6, a7⟩, .int .i64 0]) (by simp [results, Try.results17, go_sem]) rfl ⟨by rw [hz.out], ?_⟩
  exact two_allocs _ _

set_option maxRecDepth 100000 in
set_option maxHeartbeats 1000000 in
theorem drop_4 (a0 a1 a2 a3 a4 a5 a6 a7 : Int) (w : World) (h : Rt.may ⟨4, a0, a1, a2, a3, a4, a5, a6, a7⟩ = true) : Calls Try.prog 17 #[rv ⟨4, a0, a1, a2, a3, a4, a5, a6, a7⟩] w (DropP ⟨4, a0, a1, a2, a3, a4, a5, a6, a7⟩ w) := by
  have hz := Lib.hid (show Rt.drop ⟨4, a0, a1, a2, a3, a4, a5, a6, a7⟩ = (⟨3, a0, a1, a2, 0, a4, a5, a6, a7⟩, 0) by unfold Rt.drop; rw [if_pos (ok_of h)]; rfl)
  go_enter Try.func17, Try.ntmps17
  go_wp2_with fail
  refine (may_any ⟨4, a0, a1, a2, a3, a4, a5, a6, a7⟩ _).mono ?_
  rintro e w1 ⟨rfl, hb⟩
  obtain ⟨os, d, rfl⟩ := ext_of hb
  clear hb
  go_wp2
  refine bodyPost_ret (v := .tuple #[rv ⟨3, a0, a1, a2, 0, a4, a5, a6, a7⟩, .int .i64 0]) (by simp [results, Try.results17, go_sem]) rfl ⟨by rw [hz.out], ?_⟩
  exact two_allocs _ _

set_option maxRecDepth 100000 in
set_option maxHeartbeats 1000000 in
theorem drop_5 (a0 a1 a2 a3 a4 a5 a6 a7 : Int) (w : World) (h : Rt.may ⟨5, a0, a1, a2, a3, a4, a5, a6, a7⟩ = true) : Calls Try.prog 17 #[rv ⟨5, a0, a1, a2, a3, a4, a5, a6, a7⟩] w (DropP ⟨5, a0, a1, a2, a3, a4, a5, a6, a7⟩ w) := by
  have hz := Lib.hid (show Rt.drop ⟨5, a0, a1, a2, a3, a4, a5, a6, a7⟩ = (⟨4, a0, a1, a2, a3, 0, a5, a6, a7⟩, 0) by unfold Rt.drop; rw [if_pos (ok_of h)]; rfl)
  go_enter Try.func17, Try.ntmps17
  go_wp2_with fail
  refine (may_any ⟨5, a0, a1, a2, a3, a4, a5, a6, a7⟩ _).mono ?_
  rintro e w1 ⟨rfl, hb⟩
  obtain ⟨os, d, rfl⟩ := ext_of hb
  clear hb
  go_wp2
  refine bodyPost_ret (v := .tuple #[rv ⟨4, a0, a1, a2, a3, 0, a5, a6, a7⟩, .int .i64 0]) (by simp [results, Try.results17, go_sem]) rfl ⟨by rw [hz.out], ?_⟩
  exact two_allocs _ _

set_option maxRecDepth 100000 in
set_option maxHeartbeats 1000000 in
theorem drop_6 (a0 a1 a2 a3 a4 a5 a6 a7 : Int) (w : World) (h : Rt.may ⟨6, a0, a1, a2, a3, a4, a5, a6, a7⟩ = true) : Calls Try.prog 17 #[rv ⟨6, a0, a1, a2, a3, a4, a5, a6, a7⟩] w (DropP ⟨6, a0, a1, a2, a3, a4, a5, a6, a7⟩ w) := by
  have hz := Lib.hid (show Rt.drop ⟨6, a0, a1, a2, a3, a4, a5, a6, a7⟩ = (⟨5, a0, a1, a2, a3, a4, 0, a6, a7⟩, 0) by unfold Rt.drop; rw [if_pos (ok_of h)]; rfl)
  go_enter Try.func17, Try.ntmps17
  go_wp2_with fail
  refine (may_any ⟨6, a0, a1, a2, a3, a4, a5, a6, a7⟩ _).mono ?_
  rintro e w1 ⟨rfl, hb⟩
  obtain ⟨os, d, rfl⟩ := ext_of hb
  clear hb
  go_wp2
  refine bodyPost_ret (v := .tuple #[rv ⟨5, a0, a1, a2, a3, a4, 0, a6, a7⟩, .int .i64 0]) (by simp [results, Try.results17, go_sem]) rfl ⟨by rw [hz.out], ?_⟩
  exact two_allocs _ _

set_option maxRecDepth 100000 in
set_option maxHeartbeats 1000000 in
theorem drop_7 (a0 a1 a2 a3 a4 a5 a6 a7 : Int) (w : World) (h : Rt.may ⟨7, a0, a1, a2, a3, a4, a5, a6, a7⟩ = true) : Calls Try.prog 17 #[rv ⟨7, a0, a1, a2, a3, a4, a5, a6, a7⟩] w (DropP ⟨7, a0, a1, a2, a3, a4, a5, a6, a7⟩ w) := by
  have hz := Lib.hid (show Rt.drop ⟨7, a0, a1, a2, a3, a4, a5, a6, a7⟩ = (⟨6, a0, a1, a2, a3, a4, a5, 0, a7⟩, 0) by unfold Rt.drop; rw [if_pos (ok_of h)]; rfl)
  go_enter Try.func17, Try.ntmps17
  go_wp2_with fail
  refine (may_any ⟨7, a0, a1, a2, a3, a4, a5, a6, a7⟩ _).mono ?_
  rintro e w1 ⟨rfl, hb⟩
  obtain ⟨os, d, rfl⟩ := ext_of hb
  clear hb
  go_wp2
  refine bodyPost_ret (v := .tuple #[rv ⟨6, a0, a1, a2, a3, a4, a5, 0, a7⟩, .int .i64 0]) (by simp [results, Try.results17, go_sem]) rfl ⟨by rw [hz.out], ?_⟩
  exact two_allocs _ _

set_option maxRecDepth 100000 in
set_option maxHeartbeats 1000000 in
theorem drop_8 (a0 a1 a2 a3 a4 a5 a6 a7 : Int) (w : World) (h : Rt.may ⟨8, a0, a1, a2, a3, a4, a5, a6, a7⟩ = true) : Calls Try.prog 17 #[rv ⟨8, a0, a1, a2, a3, a4, a5, a6, a7⟩] w (DropP ⟨8, a0, a1, a2, a3, a4, a5, a6, a7⟩ w) := by
  have hz := Lib.hid (show Rt.drop ⟨8, a0, a1, a2, a3, a4, a5, a6, a7⟩ = (⟨7, a0, a1, a2, a3, a4, a5, a6, 0⟩, 0) by unfold Rt.drop; rw [if_pos (ok_of h)]; rfl)
  go_enter Try.func17, Try.ntmps17
  go_wp2_with fail
  refine (may_any ⟨8, a0, a1, a2, a3, a4, a5, a6, a7⟩ _).mono ?_
  rintro e w1 ⟨rfl, hb⟩
  obtain ⟨os, d, rfl⟩ := ext_of hb
  clear hb
  go_wp2
  refine bodyPost_ret (v := .tuple #[rv ⟨7, a0, a1, a2, a3, a4, a5, a6, 0⟩, .int .i64 0]) (by simp [results, Try.results17, go_sem]) rfl ⟨by rw [hz.out], ?_⟩
  exact two_allocs _ _

theorem drop_any (r : Rt) (w : World) : Calls Try.prog 17 #[rv r] w (DropP r w) := by
  obtain ⟨n, a0, a1, a2, a3, a4, a5, a6, a7⟩ := r
  cases h : Rt.may ⟨n, a0, a1, a2, a3, a4, a5, a6, a7⟩
  · exact drop_no _ _ _ _ _ _ _ _ _ w h
  obtain ⟨h0, h8, _⟩ := ok_of h
  simp only at h0 h8
  have hn : n = 0 ∨ n = 1 ∨ n = 2 ∨ n = 3 ∨ n = 4 ∨ n = 5 ∨ n = 6 ∨ n = 7 ∨ n = 8 := by omega
  rcases hn with rfl | rfl | rfl | rfl | rfl | rfl | rfl | rfl | rfl
  · exact drop_0 _ _ _ _ _ _ _ _ w h
  · exact drop_1 _ _ _ _ _ _ _ _ w h
  · exact drop_2 _ _ _ _ _ _ _ _ w h
  · exact drop_3 _ _ _ _ _ _ _ _ w h
  · exact drop_4 _ _ _ _ _ _ _ _ w h
  · exact drop_5 _ _ _ _ _ _ _ _ w h
  · exact drop_6 _ _ _ _ _ _ _ _ w h
  · exact drop_7 _ _ _ _ _ _ _ _ w h
  · exact drop_8 _ _ _ _ _ _ _ _ w h

set_option maxRecDepth 100000 in
set_option maxHeartbeats 1000000 in
theorem dropR_no (n a0 a1 a2 a3 a4 a5 a6 a7 : Int) (w : World) (h : Rt.may ⟨n, a0, a1, a2, a3, a4, a5, a6, a7⟩ = false) : Calls Try.prog 21 #[rv ⟨n, a0, a1, a2, a3, a4, a5, a6, a7⟩] w (DropP ⟨n, a0, a1, a2, a3, a4, a5, a6, a7⟩ w) := by
  have hz := Lib.hid (bad_drop h)
  go_enter Try.func21, Try.ntmps21
  go_wp2_with fail
  refine (May_any ⟨n, a0, a1, a2, a3, a4, a5, a6, a7⟩ _).mono ?_
  rintro e w1 ⟨rfl, hb⟩
  obtain ⟨os, d, rfl⟩ := ext_of hb
  clear hb
  go_wp2
  refine bodyPost_ret (v := .tuple #[rv Rt.zero, .int .i64 1]) (by simp [results, Try.results21, go_sem, Rt.zero]) rfl ⟨by rw [hz.out], ?_⟩
  exact two_allocs _ _

set_option maxRecDepth 100000 in
set_option maxHeartbeats 1000000 in
theorem dropR_0 (a0 a1 a2 a3 a4 a5 a6 a7 : Int) (w : World) (h : Rt.may ⟨0, a0, a1, a2, a3, a4, a5, a6, a7⟩ = true) : Calls Try.prog 21 #[rv ⟨0, a0, a1, a2, a3, a4, a5, a6, a7⟩] w (DropP ⟨0, a0, a1, a2, a3, a4, a5, a6, a7⟩ w) := by
  have hz := Lib.hid (show Rt.drop ⟨0, a0, a1, a2, a3, a4, a5, a6, a7⟩ = (Rt.zero, 12) by unfold Rt.drop; rw [if_pos (ok_of h)]; rfl)
  go_enter Try.func21, Try.ntmps21
  go_wp2_with fail
  refine (May_any ⟨0, a0, a1, a2, a3, a4, a5, a6, a7⟩ _).mono ?_
  rintro e w1 ⟨rfl, hb⟩
  obtain ⟨os, d, rfl⟩ := ext_of hb
  clear hb
  go_wp2
  refine bodyPost_ret (v := .tuple #[rv Rt.zero, .int .i64 12]) (by simp [results, Try.results21, go_sem, Rt.zero]) rfl ⟨by rw [hz.out], ?_⟩
  exact two_allocs _ _

set_option maxRecDepth 100000 in
set_option maxHeartbeats 1000000 in
theorem dropR_1 (a0 a1 a2 a3 a4 a5 a6 a7 : Int) (w : World) (h : Rt.may ⟨1, a0, a1, a2, a3, a4, a5, a6, a7⟩ = true) : Calls Try.prog 21 #[rv ⟨1, a0, a1, a2, a3, a4, a5, a6, a7⟩] w (DropP ⟨1, a0, a1, a2, a3, a4, a5, a6, a7⟩ w) := by
  have hz := Lib.hid (show Rt.drop ⟨1, a0, a1, a2, a3, a4, a5, a6, a7⟩ = (⟨0, 0, a1, a2, a3, a4, a5, a6, a7⟩, 0) by unfold Rt.drop; rw [if_pos (ok_of h)]; rfl)
  go_enter Try.func21, Try.ntmps21
  go_wp2_with fail
  refine (May_any ⟨1, a0, a1, a2, a3, a4, a5, a6, a7⟩ _).mono ?_
  rintro e w1 ⟨rfl, hb⟩
  obtain ⟨os, d, rfl⟩ := ext_of hb
  clear hb
  go_wp2
  refine bodyPost_ret (v := .tuple #[rv ⟨0, 0, a1, a2, a3, a4, a5, a6, a7⟩, .int .i64 0]) (by simp [results, Try.results21, go_sem]) rfl ⟨by rw [hz.out], ?_⟩
  exact two_allocs _ _

set_option maxRecDepth 100000 in
set_option maxHeartbeats 1000000 in
theorem dropR_2 (a0 a1 a2 a3 a4 a5 a6 a7 : Int) (w : World) (h : Rt.may ⟨2, a0, a1, a2, a3, a4, a5, a6, a7⟩ = true) : Calls Try.prog 21 #[rv ⟨2, a0, a1, a2, a3, a4, a5, a6, a7⟩] w (DropP ⟨2, a0, a1, a2, a3, a4, a5, a6, a7⟩ w) := by
  have hz := Lib.hid (show Rt.drop ⟨2, a0, a1, a2, a3, a4, a5, a6, a7⟩ = (⟨1, a0, 0, a2, a3, a4, a5, a6, a7⟩, 0) by unfold Rt.drop; rw [if_pos (ok_of h)]; rfl)
  go_enter Try.func21, Try.ntmps21
  go_wp2_with fail
  refine (May_any ⟨2, a0, a1, a2, a3, a4, a5, a6, a7⟩ _).mono ?_
  rintro e w1 ⟨rfl, hb⟩
  obtain ⟨os, d, rfl⟩ := ext_of hb
  clear hb
  go_wp2
  refine bodyPost_ret (v := .tuple #[rv ⟨1, a0, 0, a2, a3, a4, a5, a6, a7⟩, .int .i64 0]) (by simp [results, Try.results21, go_sem]) rfl ⟨by rw [hz.out], ?_⟩
  exact two_allocs _ _

set_option maxRecDepth 100000 in
set_option maxHeartbeats 1000000 in
theorem dropR_3 (a0 a1 a2 a3 a4 a5 a6 a7 : Int) (w : World) (h : Rt.may ⟨3, a0, a1, a2, a3, a4, a5, a6, a7⟩ = true) : Calls Try.prog 21 #[rv ⟨3, a0, a1, a2, a3, a4, a5, a6, a7⟩] w (DropP ⟨3, a0, a1, a2, a3, a4, a5, a6, a7⟩ w) := by
  have hz := Lib.hid (show Rt.drop ⟨3, a0, a1, a2, a3, a4, a5, a6, a7⟩ = (⟨2, a0, a1, 0, a3, a4, a5, a6, a7⟩, 0) by unfold Rt.drop; rw [if_pos (ok_of h)]; rfl)
  go_enter Try.func21, Try.ntmps21
  go_wp2_with fail
  refine (May_any ⟨3, a0, a1, a2, a3, a4, a5, a6, a7⟩ _).mono ?_
  rintro e w1 ⟨rfl, hb⟩
  obtain ⟨os, d, rfl⟩ := ext_of hb
  clear hb
  go_wp2
  refine bodyPost_ret (v := .tuple #[rv ⟨2, a0, a1, 0, a3, a4, a5, a6, a7⟩, .int .i64 0]) (by simp [results, Try.results21, go_sem]) rfl ⟨by rw [hz.out], ?_⟩
  exact two_allocs _ _

set_option maxRecDepth 100000 in
set_option maxHeartbeats 1000000 in
theorem dropR_4 (a0 a1 a2 a3 a4 a5 a6 a7 : Int) (w : World) (h : Rt.may ⟨4, a0, a1, a2, a3, a4, a5, a6, a7⟩ = true) : Calls Try.prog 21 #[rv ⟨4, a0, a1, a2, a3, a4, a5, a6, a7⟩] w (DropP ⟨4, a0, a1, a2, a3, a4, a5, a6, a7⟩ w) := by
  have hz := Lib.hid (show Rt.drop ⟨4, a0, a1, a2, a3, a4, a5, a6, a7⟩ = (⟨3, a0, a1, a2, 0, a4, a5, a6, a7⟩, 0) by unfold Rt.drop; rw [if_pos (ok_of h)]; rfl)
  go_enter Try.func21, Try.ntmps21
  go_wp2_with fail
  refine (May_any ⟨4, a0, a1, a2, a3, a4, a5, a6, a7⟩ _).mono ?_
  rintro e w1 ⟨rfl, hb⟩
  obtain ⟨os, d, rfl⟩ := ext_of hb
  clear hb
  go_wp2
  refine bodyPost_ret (v := .tuple #[rv ⟨3, a0, a1, a2, 0, a4, a5, a6, a7⟩, .int .i64 0]) (by simp [results, Try.results21, go_sem]) rfl ⟨by rw [hz.out], ?_⟩
  exact two_allocs _ _

set_option maxRecDepth 100000 in
set_option maxHeartbeats 1000000 in
theorem dropR_5 (a0 a1 a2 a3 a4 a5 a6 a7 : Int) (w : World) (h : Rt.may ⟨5, a0, a1, a2, a3, a4, a5, a6, a7⟩ = true) : Calls Try.prog 21 #[rv ⟨5, a0, a1, a2, a3, a4, a5, a6, a7⟩] w (DropP ⟨5, a0, a1, a2, a3, a4, a5, a6, a7⟩ w) := by
  have hz := Lib.hid (show Rt.drop ⟨5, a0, a1, a2, a3, a4, a5, a6, a7⟩ = (⟨4, a0, a1, a2, a3, 0, a5, a6, a7⟩, 0) by unfold Rt.drop; rw [if_pos (ok_of h)]; rfl)
  go_enter Try.func21, Try.ntmps21
  go_wp2_with fail
  refine (May_any ⟨5, a0, a1, a2, a3, a4, a5, a6, a7⟩ _).mono ?_
  rintro e w1 ⟨rfl, hb⟩
  obtain ⟨os, d, rfl⟩ := ext_of hb
  clear hb
  go_wp2
  refine bodyPost_ret (v := .tuple #[rv ⟨4, a0, a1, a2, a3, 0, a5, a6, a7⟩, .int .i64 0]) (by simp [results, Try.results21, go_sem]) rfl ⟨by rw [hz.out], ?_⟩
  exact two_allocs _ _

set_option maxRecDepth 100000 in
set_option maxHeartbeats 1000000 in
theorem dropR_6 (a0 a1 a2 a3 a4 a5 a6 a7 : Int) (w : World) (h : Rt.may ⟨6, a0, a1, a2, a3, a4, a5, a6, a7⟩ = true) : Calls Try.prog 21 #[rv ⟨6, a0, a1, a2, a3, a4, a5, a6, a7⟩] w (DropP ⟨6, a0, a1, a2, a3, a4, a5, a6, a7⟩ w) := by
  have hz := Lib.hid (show Rt.drop ⟨6, a0, a1, a2, a3, a4, a5, a6, a7⟩ = (⟨5, a0, a1, a2, a3, a4, 0, a6, a7⟩, 0) by unfold Rt.drop; rw [if_pos (ok_of h)]; rfl)
  go_enter Try.func21, Try.ntmps21
  go_wp2_with fail
  refine (May_any ⟨6, a0, a1, a2, a3, a4, a5, a6, a7⟩ _).mono ?_
  rintro e w1 ⟨rfl, hb⟩
  obtain ⟨os, d, rfl⟩ := ext_of hb
  clear hb
  go_wp2
  refine bodyPost_ret (v := .tuple #[rv ⟨5, a0, a1, a2, a3, a4, 0, a6, a7⟩, .int .i64 0]) (by simp [results, Try.results21, go_sem]) rfl ⟨by rw [hz.out], ?_⟩
  exact two_allocs _ _

set_option maxRecDepth 100000 in
set_option maxHeartbeats 1000000 in
theorem dropR_7 (a0 a1 a2 a3 a4 a5 a6 a7 : Int) (w : World) (h : Rt.may ⟨7, a0, a1, a2, a3, a4, a5, a6, a7⟩ = true) : Calls Try.prog 21 #[rv ⟨7, a0, a1, a2, a3, a4, a5, a6, a7⟩] w (DropP ⟨7, a0, a1, a2, a3, a4, a5, a6, a7⟩ w) := by
  have hz := Lib.hid (show Rt.drop ⟨7, a0, a1, a2, a3, a4, a5, a6, a7⟩ = (⟨6, a0, a1, a2, a3, a4, a5, 0, a7⟩, 0) by unfold Rt.drop; rw [if_pos (ok_of h)]; rfl)
  go_enter Try.func21, Try.ntmps21
  go_wp2_with fail
  refine (May_any ⟨7, a0, a1, a2, a3, a4, a5, a6, a7⟩ _).mono ?_
  rintro e w1 ⟨rfl, hb⟩
  obtain ⟨os, d, rfl⟩ := ext_of hb
  clear hb
  go_wp2
  refine bodyPost_ret (v := .tuple #[rv ⟨6, a0, a1, a2, a3, a4, a5, 0, a7⟩, .int .i64 0]) (by simp [results, Try.results21, go_sem]) rfl ⟨by rw [hz.out], ?_⟩
  exact two_allocs _ _

set_option maxRecDepth 100000 in
set_option maxHeartbeats 1000000 in
theorem dropR_8 (a0 a1 a2 a3 a4 a5 a6 a7 : Int) (w : World) (h : Rt.may ⟨8, a0, a1, a2, a3, a4, a5, a6, a7⟩ = true) : Calls Try.prog 21 #[rv ⟨8, a0, a1, a2, a3, a4, a5, a6, a7⟩] w (DropP ⟨8, a0, a1, a2, a3, a4, a5, a6, a7⟩ w) := by
  have hz := Lib.hid (show Rt.drop ⟨8, a0, a1, a2, a3, a4, a5, a6, a7⟩ = (⟨7, a0, a1, a2, a3, a4, a5, a6, 0⟩, 0) by unfold Rt.drop; rw [if_pos (ok_of h)]; rfl)
  go_enter Try.func21, Try.ntmps21
  go_wp2_with fail
  refine (May_any ⟨8, a0, a1, a2, a3, a4, a5, a6, a7⟩ _).mono ?_
  rintro e w1 ⟨rfl, hb⟩
  obtain ⟨os, d, rfl⟩ := ext_of hb
  clear hb
  go_wp2
  refine bodyPost_ret (v := .tuple #[rv ⟨7, a0, a1, a2, a3, a4, a5, a6, 0⟩, .int .i64 0]) (by simp [results, Try.results21, go_sem]) rfl ⟨by rw [hz.out], ?_⟩
  exact two_allocs _ _

theorem dropR_any (r : Rt) (w : World) : Calls Try.prog 21 #[rv r] w (DropP r w) := by
  obtain ⟨n, a0, a1, a2, a3, a4, a5, a6, a7⟩ := r
  cases h : Rt.may ⟨n, a0, a1, a2, a3, a4, a5, a6, a7⟩
  · exact dropR_no _ _ _ _ _ _ _ _ _ w h
  obtain ⟨h0, h8, _⟩ := ok_of h
  simp only at h0 h8
  have hn : n = 0 ∨ n = 1 ∨ n = 2 ∨ n = 3 ∨ n = 4 ∨ n = 5 ∨ n = 6 ∨ n = 7 ∨ n = 8 := by omega
  rcases hn with rfl | rfl | rfl | rfl | rfl | rfl | rfl | rfl | rfl
  · exact dropR_0 _ _ _ _ _ _ _ _ w h
  · exact dropR_1 _ _ _ _ _ _ _ _ w h
  · exact dropR_2 _ _ _ _ _ _ _ _ w h
  · exact dropR_3 _ _ _ _ _ _ _ _ w h
  · exact dropR_4 _ _ _ _ _ _ _ _ w h
  · exact dropR_5 _ _ _ _ _ _ _ _ w h
  · exact dropR_6 _ _ _ _ _ _ _ _ w h
  · exact dropR_7 _ _ _ _ _ _ _ _ w h
  · exact dropR_8 _ _ _ _ _ _ _ _ w h

set_option maxRecDepth 100000 in
set_option maxHeartbeats 1000000 in
theorem get_no (n a0 a1 a2 a3 a4 a5 a6 a7 i : Int) (w : World) (h : Rt.may ⟨n, a0, a1, a2, a3, a4, a5, a6, a7⟩ = false) : Calls Try.prog 18 #[rv ⟨n, a0, a1, a2, a3, a4, a5, a6, a7⟩, .int .i64 i] w (GetP ⟨n, a0, a1, a2, a3, a4, a5, a6, a7⟩ i w) := by
  have hz := Lib.hid (bad_get (i := i) h)
  go_enter Try.func18, Try.ntmps18
  go_wp2_with fail
  refine (may_any ⟨n, a0, a1, a2, a3, a4, a5, a6, a7⟩ _).mono ?_
  rintro e w1 ⟨rfl, hb⟩
  obtain ⟨os, d, rfl⟩ := ext_of hb
  clear hb
  go_wp2
  refine bodyPost_ret (v := .tuple #[.int .i64 0, .int .i64 1]) (by simp [results, Try.results18, go_sem]) rfl ⟨by rw [hz.out], ?_⟩
  exact one_alloc _ _

set_option maxRecDepth 100000 in
set_option maxHeartbeats 1000000 in
theorem get_lt (n a0 a1 a2 a3 a4 a5 a6 a7 i : Int) (w : World) (h : Rt.may ⟨n, a0, a1, a2, a3, a4, a5, a6, a7⟩ = true) (hi : i < 0) : Calls Try.prog 18 #[rv ⟨n, a0, a1, a2, a3, a4, a5, a6, a7⟩, .int .i64 i] w (GetP ⟨n, a0, a1, a2, a3, a4, a5, a6, a7⟩ i w) := by
  have hz := Lib.hid (show Rt.get ⟨n, a0, a1, a2, a3, a4, a5, a6, a7⟩ i = (0, 12) by unfold Rt.get; rw [if_pos (ok_of h), if_pos (Or.inl hi)])
  go_enter Try.func18, Try.ntmps18
  go_wp2_with fail
  refine (may_any ⟨n, a0, a1, a2, a3, a4, a5, a6, a7⟩ _).mono ?_
  rintro e w1 ⟨rfl, hb⟩
  obtain ⟨os, d, rfl⟩ := ext_of hb
  clear hb
  go_wp2
  refine bodyPost_ret (v := .tuple #[.int .i64 0, .int .i64 12]) (by simp [results, Try.results18, go_sem]) rfl ⟨by rw [hz.out], ?_⟩
  exact one_alloc _ _

set_option maxRecDepth 100000 in
set_option maxHeartbeats 1000000 in
theorem get_ge (n a0 a1 a2 a3 a4 a5 a6 a7 i : Int) (w : World) (h : Rt.may ⟨n, a0, a1, a2, a3, a4, a5, a6, a7⟩ = true) (hi : ¬ i < 0) (hg : n ≤ i) : Calls Try.prog 18 #[rv ⟨n, a0, a1, a2, a3, a4, a5, a6, a7⟩, .int .i64 i] w (GetP ⟨n, a0, a1, a2, a3, a4, a5, a6, a7⟩ i w) := by
  have hz := Lib.hid (show Rt.get ⟨n, a0, a1, a2, a3, a4, a5, a6, a7⟩ i = (0, 12) by unfold Rt.get; rw [if_pos (ok_of h), if_pos (Or.inr hg)])
  go_enter Try.func18, Try.ntmps18
  go_wp2_with fail
  refine (may_any ⟨n, a0, a1, a2, a3, a4, a5, a6, a7⟩ _).mono ?_
  rintro e w1 ⟨rfl, hb⟩
  obtain ⟨os, d, rfl⟩ := ext_of hb
  clear hb
  go_wp2
  refine bodyPost_ret (v := .tuple #[.int .i64 0, .int .i64 12]) (by simp [results, Try.results18, go_sem]) rfl ⟨by rw [hz.out], ?_⟩
  exact one_alloc _ _

set_option maxRecDepth 100000 in
set_option maxHeartbeats 1000000 in
theorem get_0 (n a0 a1 a2 a3 a4 a5 a6 a7 : Int) (w : World) (h : Rt.may ⟨n, a0, a1, a2, a3, a4, a5, a6, a7⟩ = true) (hg : ¬ n ≤ 0) : Calls Try.prog 18 #[rv ⟨n, a0, a1, a2, a3, a4, a5, a6, a7⟩, .int .i64 0] w (GetP ⟨n, a0, a1, a2, a3, a4, a5, a6, a7⟩ 0 w) := by
  have hz := Lib.hid (show Rt.get ⟨n, a0, a1, a2, a3, a4, a5, a6, a7⟩ 0 = (a0, 0) by unfold Rt.get; rw [if_pos (ok_of h), if_neg (by simp only; omega)]; rfl)
  go_enter Try.func18, Try.ntmps18
  go_wp2_with fail
  refine (may_any ⟨n, a0, a1, a2, a3, a4, a5, a6, a7⟩ _).mono ?_
  rintro e w1 ⟨rfl, hb⟩
  obtain ⟨os, d, rfl⟩ := ext_of hb
  clear hb
  go_wp2
  refine bodyPost_ret (v := .tuple #[.int .i64 a0, .int .i64 0]) (by simp [results, Try.results18, go_sem]) rfl ⟨by rw [hz.out], ?_⟩
  exact one_alloc _ _

set_option maxRecDepth 100000 in
set_option maxHeartbeats 1000000 in
theorem get_1 (n a0 a1 a2 a3 a4 a5 a6 a7 : Int) (w : World) (h : Rt.may ⟨n, a0, a1, a2, a3, a4, a5, a6, a7⟩ = true) (hg : ¬ n ≤ 1) : Calls Try.prog 18 #[rv ⟨n, a0, a1, a2, a3, a4, a5, a6, a7⟩, .int .i64 1] w (GetP ⟨n, a0, a1, a2, a3, a4, a5, a6, a7⟩ 1 w) := by
  have hz := Lib.hid (show Rt.get ⟨n, a0, a1, a2, a3, a4, a5, a6, a7⟩ 1 = (a1, 0) by unfold Rt.get; rw [if_pos (ok_of h), if_neg (by simp only; omega)]; rfl)
  go_enter Try.func18, Try.ntmps18
  go_wp2_with fail
  refine (may_any ⟨n, a0, a1, a2, a3, a4, a5, a6, a7⟩ _).mono ?_
  rintro e w1 ⟨rfl, hb⟩
  obtain ⟨os, d, rfl⟩ := ext_of hb
  clear hb
  go_wp2
  refine bodyPost_ret (v := .tuple #[.int .i64 a1, .int .i64 0]) (by simp [results, Try.results18, go_sem]) rfl ⟨by rw [hz.out], ?_⟩
  exact one_alloc _ _

set_option maxRecDepth 100000 in
set_option maxHeartbeats 1000000 in
theorem get_2 (n a0 a1 a2 a3 a4 a5 a6 a7 : Int) (w : World) (h : Rt.may ⟨n, a0, a1, a2, a3, a4, a5, a6, a7⟩ = true) (hg : ¬ n ≤ 2) : Calls Try.prog 18 #[rv ⟨n, a0, a1, a2, a3, a4, a5, a6, a7⟩, .int .i64 2] w (GetP ⟨n, a0, a1, a2, a3, a4, a5, a6, a7⟩ 2 w) := by
  have hz := Lib.hid (show Rt.get ⟨n, a0, a1, a2, a3, a4, a5, a6, a7⟩ 2 = (a2, 0) by unfold Rt.get; rw [if_pos (ok_of h), if_neg (by simp only; omega)]; rfl)
  go_enter Try.func18, Try.ntmps18
  go_wp2_with fail
  refine (may_any ⟨n, a0, a1, a2, a3, a4, a5, a6, a7⟩ _).mono ?_
  rintro e w1 ⟨rfl, hb⟩
  obtain ⟨os, d, rfl⟩ := ext_of hb
  clear hb
  go_wp2
  refine bodyPost_ret (v := .tuple #[.int .i64 a2, .int .i64 0]) (by simp [results, Try.results18, go_sem]) rfl ⟨by rw [hz.out], ?_⟩
  exact one_alloc _ _

set_option maxRecDepth 100000 in
set_option maxHeartbeats 1000000 in
theorem get_3 (n a0 a1 a2 a3 a4 a5 a6 a7 : Int) (w : World) (h : Rt.may ⟨n, a0, a1, a2, a3, a4, a5, a6, a7⟩ = true) (hg : ¬ n ≤ 3) : Calls Try.prog 18 #[rv ⟨n, a0, a1, a2, a3, a4, a5, a6, a7⟩, .int .i64 3] w (GetP ⟨n, a0, a1, a2, a3, a4, a5, a6, a7⟩ 3 w) := by
  have hz := Lib.hid (show Rt.get ⟨n, a0, a1, a2, a3, a4, a5, a6, a7⟩ 3 = (a3, 0) by unfold Rt.get; rw [if_pos (ok_of h), if_neg (by simp only; omega)]; rfl)
  go_enter Try.func18, Try.ntmps18
  go_wp2_with fail
  refine (may_any ⟨n, a0, a1, a2, a3, a4, a5, a6, a7⟩ _).mono ?_
  rintro e w1 ⟨rfl, hb⟩
  obtain ⟨os, d, rfl⟩ := ext_of hb
  clear hb
  go_wp2
  refine bodyPost_ret (v := .tuple #[.int .i64 a3, .int .i64 0]) (by simp [results, Try.results18, go_sem]) rfl ⟨by rw [hz.out], ?_⟩
  exact one_alloc _ _

set_option maxRecDepth 100000 in
set_option maxHeartbeats 1000000 in
theorem get_4 (n a0 a1 a2 a3 a4 a5 a6 a7 : Int) (w : World) (h : Rt.may ⟨n, a0, a1, a2, a3, a4, a5, a6, a7⟩ = true) (hg : ¬ n ≤ 4) : Calls Try.prog 18 #[rv ⟨n, a0, a1, a2, a3, a4, a5, a6, a7⟩, .int .i64 4] w (GetP ⟨n, a0, a1, a2, a3, a4, a5, a6, a7⟩ 4 w) := by
  have hz := Lib.hid (show Rt.get ⟨n, a0, a1, a2, a3, a4, a5, a6, a7⟩ 4 = (a4, 0) by unfold Rt.get; rw [if_pos (ok_of h), if_neg (by simp only; omega)]; rfl)
  go_enter Try.func18, Try.ntmps18
  go_wp2_with fail
  refine (may_any ⟨n, a0, a1, a2, a3, a4, a5, a6, a7⟩ _).mono ?_
  rintro e w1 ⟨rfl, hb⟩
  obtain ⟨os, d, rfl⟩ := ext_of hb
  clear hb
  go_wp2
  refine bodyPost_ret (v := .tuple #[.int .i64 a4, .int .i64 0]) (by simp [results, Try.results18, go_sem]) rfl ⟨by rw [hz.out], ?_⟩
  exact one_alloc _ _

set_option maxRecDepth 100000 in
set_option maxHeartbeats 1000000 in
theorem get_5 (n a0 a1 a2 a3 a4 a5 a6 a7 : Int) (w : World) (h : Rt.may ⟨n, a0, a1, a2, a3, a4, a5, a6, a7⟩ = true) (hg : ¬ n ≤ 5) : Calls Try.prog 18 #[rv ⟨n, a0, a1, a2, a3, a4, a5, a6, a7⟩, .int .i64 5] w (GetP ⟨n, a0, a1, a2, a3, a4, a5, a6, a7⟩ 5 w) := by
  have hz := Lib.hid (show Rt.get ⟨n, a0, a1, a2, a3, a4, a5, a6, a7⟩ 5 = (a5, 0) by unfold Rt.get; rw [if_pos (ok_of h), if_neg (by simp only; omega)]; rfl)
  go_enter Try.func18, Try.ntmps18
  go_wp2_with fail
  refine (may_any ⟨n, a0, a1, a2, a3, a4, a5, a6, a7⟩ _).mono ?_
  rintro e w1 ⟨rfl, hb⟩
  obtain ⟨os, d, rfl⟩ := ext_of hb
  clear hb
  go_wp2
  refine bodyPost_ret (v := .tuple #[.int .i64 a5, .int .i64 0]) (by simp [results, Try.results18, go_sem]) rfl ⟨by rw [hz.out], ?_⟩
  exact one_alloc _ _

set_option maxRecDepth 100000 in
set_option maxHeartbeats 1000000 in
theorem get_6 (n a0 a1 a2 a3 a4 a5 a6 a7 : Int) (w : World) (h : Rt.may ⟨n, a0, a1, a2, a3, a4, a5, a6, a7⟩ = true) (hg : ¬ n ≤ 6) : Calls Try.prog 18 #[rv ⟨n, a0, a1, a2, a3, a4, a5, a6, a7⟩, .int .i64 6] w (GetP ⟨n, a0, a1, a2, a3, a4, a5, a6, a7⟩ 6 w) := by
  have hz := Lib.hid (show Rt.get ⟨n, a0, a1, a2, a3, a4, a5, a6, a7⟩ 6 = (a6, 0) by unfold Rt.get; rw [if_pos (ok_of h), if_neg (by simp only; omega)]; rfl)
  go_enter Try.func18, Try.ntmps18
  go_wp2_with fail
  refine (may_any ⟨n, a0, a1, a2, a3, a4, a5, a6, a7⟩ _).mono ?_
  rintro e w1 ⟨rfl, hb⟩
  obtain ⟨os, d, rfl⟩ := ext_of hb
  clear hb
  go_wp2
  refine bodyPost_ret (v := .tuple #[.int .i64 a6, .int .i64 0]) (by simp [results, Try.results18, go_sem]) rfl ⟨by rw [hz.out], ?_⟩
  exact one_alloc _ _

set_option maxRecDepth 100000 in
set_option maxHeartbeats 1000000 in
theorem get_7 (n a0 a1 a2 a3 a4 a5 a6 a7 : Int) (w : World) (h : Rt.may ⟨n, a0, a1, a2, a3, a4, a5, a6, a7⟩ = true) (hg : ¬ n ≤ 7) : Calls Try.prog 18 #[rv ⟨n, a0, a1, a2, a3, a4, a5, a6, a7⟩, .int .i64 7] w (GetP ⟨n, a0, a1, a2, a3, a4, a5, a6, a7⟩ 7 w) := by
  have hz := Lib.hid (show Rt.get ⟨n, a0, a1, a2, a3, a4, a5, a6, a7⟩ 7 = (a7, 0) by unfold Rt.get; rw [if_pos (ok_of h), if_neg (by simp only; omega)]; rfl)
  go_enter Try.func18, Try.ntmps18
  go_wp2_with fail
  refine (may_any ⟨n, a0, a1, a2, a3, a4, a5, a6, a7⟩ _).mono ?_
  rintro e w1 ⟨rfl, hb⟩
  obtain ⟨os, d, rfl⟩ := ext_of hb
  clear hb
  go_wp2
  refine bodyPost_ret (v := .tuple #[.int .i64 a7, .int .i64 0]) (by simp [results, Try.results18, go_sem]) rfl ⟨by rw [hz.out], ?_⟩
  exact one_alloc _ _

theorem get_any (r : Rt) (i : Int) (w : World) : Calls Try.prog 18 #[rv r, .int .i64 i] w (GetP r i w) := by
  obtain ⟨n, a0, a1, a2, a3, a4, a5, a6, a7⟩ := r
  cases h : Rt.may ⟨n, a0, a1, a2, a3, a4, a5, a6, a7⟩
  · exact get_no _ _ _ _ _ _ _ _ _ _ w h
  by_cases hi : i < 0
  · exact get_lt _ _ _ _ _ _ _ _ _ _ w h hi
  by_cases hg : n ≤ i
  · exact get_ge _ _ _ _ _ _ _ _ _ _ w h hi hg
  obtain ⟨h0, h8, _⟩ := ok_of h
  simp only at h0 h8
  have hn : i = 0 ∨ i = 1 ∨ i = 2 ∨ i = 3 ∨ i = 4 ∨ i = 5 ∨ i = 6 ∨ i = 7 := by omega
  rcases hn with rfl | rfl | rfl | rfl | rfl | rfl | rfl | rfl
  · exact get_0 _ _ _ _ _ _ _ _ _ w h hg
  · exact get_1 _ _ _ _ _ _ _ _ _ w h hg
  · exact get_2 _ _ _ _ _ _ _ _ _ w h hg
  · exact get_3 _ _ _ _ _ _ _ _ _ w h hg
  · exact get_4 _ _ _ _ _ _ _ _ _ w h hg
  · exact get_5 _ _ _ _ _ _ _ _ _ w h hg
  · exact get_6 _ _ _ _ _ _ _ _ _ w h hg
  · exact get_7 _ _ _ _ _ _ _ _ _ w h hg

set_option maxRecDepth 100000 in
set_option maxHeartbeats 1000000 in
theorem getR_no (n a0 a1 a2 a3 a4 a5 a6 a7 i : Int) (w : World) (h : Rt.may ⟨n, a0, a1, a2, a3, a4, a5, a6, a7⟩ = false) : Calls Try.prog 22 #[rv ⟨n, a0, a1, a2, a3, a4, a5, a6, a7⟩, .int .i64 i] w (GetP ⟨n, a0, a1, a2, a3, a4, a5, a6, a7⟩ i w) := by
  have hz := Lib.hid (bad_get (i := i) h)
  go_enter Try.func22, Try.ntmps22
  go_wp2_with fail
  refine (May_any ⟨n, a0, a1, a2, a3, a4, a5, a6, a7⟩ _).mono ?_
  rintro e w1 ⟨rfl, hb⟩
  obtain ⟨os, d, rfl⟩ := ext_of hb
  clear hb
  go_wp2
  refine bodyPost_ret (v := .tuple #[.int .i64 0, .int .i64 1]) (by simp [results, Try.results22, go_sem]) rfl ⟨by rw [hz.out], ?_⟩
  exact one_alloc _ _

set_option maxRecDepth 100000 in
set_option maxHeartbeats 1000000 in
theorem getR_lt (n a0 a1 a2 a3 a4 a5 a6 a7 i : Int) (w : World) (h : Rt.may ⟨n, a0, a1, a2, a3, a4, a5, a6, a7⟩ = true) (hi : i < 0) : Calls Try.prog 22 #[rv ⟨n, a0, a1, a2, a3, a4, a5, a6, a7⟩, .int .i64 i] w (GetP ⟨n, a0, a1, a2, a3, a4, a5, a6, a7⟩ i w) := by
  have hz := Lib.hid (show Rt.get ⟨n, a0, a1, a2, a3, a4, a5, a6, a7⟩ i = (0, 12) by unfold Rt.get; rw [if_pos (ok_of h), if_pos (Or.inl hi)])
  go_enter Try.func22, Try.ntmps22
  go_wp2_with fail
  refine (May_any ⟨n, a0, a1, a2, a3, a4, a5, a6, a7⟩ _).mono ?_
  rintro e w1 ⟨rfl, hb⟩
  obtain ⟨os, d, rfl⟩ := ext_of hb
  clear hb
  go_wp2
  refine bodyPost_ret (v := .tuple #[.int .i64 0, .int .i64 12]) (by simp [results, Try.results22, go_sem]) rfl ⟨by rw [hz.out], ?_⟩
  exact one_alloc _ _

set_option maxRecDepth 100000 in
set_option maxHeartbeats 1000000 in
theorem getR_ge (n a0 a1 a2 a3 a4 a5 a6 a7 i : Int) (w : World) (h : Rt.may ⟨n, a0, a1, a2, a3, a4, a5, a6, a7⟩ = true) (hi : ¬ i < 0) (hg : n ≤ i) : Calls Try.prog 22 #[rv ⟨n, a0, a1, a2, a3, a4, a5, a6, a7⟩, .int .i64 i] w (GetP ⟨n, a0, a1, a2, a3, a4, a5, a6, a7⟩ i w) := by
  have hz := Lib.hid (show Rt.get ⟨n, a0, a1, a2, a3, a4, a5, a6, a7⟩ i = (0, 12) by unfold Rt.get; rw [if_pos (ok_of h), if_pos (Or.inr hg)])
  go_enter Try.func22, Try.ntmps22
  go_wp2_with fail
  refine (May_any ⟨n, a0, a1, a2, a3, a4, a5, a6, a7⟩ _).mono ?_
  rintro e w1 ⟨rfl, hb⟩
  obtain ⟨os, d, rfl⟩ := ext_of hb
  clear hb
  go_wp2
  refine bodyPost_ret (v := .tuple #[.int .i64 0, .int .i64 12]) (by simp [results, Try.results22, go_sem]) rfl ⟨by rw [hz.out], ?_⟩
  exact one_alloc _ _

set_option maxRecDepth 100000 in
set_option maxHeartbeats 1000000 in
theorem getR_0 (n a0 a1 a2 a3 a4 a5 a6 a7 : Int) (w : World) (h : Rt.may ⟨n, a0, a1, a2, a3, a4, a5, a6, a7⟩ = true) (hg : ¬ n ≤ 0) : Calls Try.prog 22 #[rv ⟨n, a0, a1, a2, a3, a4, a5, a6, a7⟩, .int .i64 0] w (GetP ⟨n, a0, a1, a2, a3, a4, a5, a6, a7⟩ 0 w) := by
  have hz := Lib.hid (show Rt.get ⟨n, a0, a1, a2, a3, a4, a5, a6, a7⟩ 0 = (a0, 0) by unfold Rt.get; rw [if_pos (ok_of h), if_neg (by simp only; omega)]; rfl)
  go_enter Try.func22, Try.ntmps22
  go_wp2_with fail
  refine (May_any ⟨n, a0, a1, a2, a3, a4, a5, a6, a7⟩ _).mono ?_
  rintro e w1 ⟨rfl, hb⟩
  obtain ⟨os, d, rfl⟩ := ext_of hb
  clear hb
  go_wp2
  refine bodyPost_ret (v := .tuple #[.int .i64 a0, .int .i64 0]) (by simp [results, Try.results22, go_sem]) rfl ⟨by rw [hz.out], ?_⟩
  exact one_alloc _ _

set_option maxRecDepth 100000 in
set_option maxHeartbeats 1000000 in
theorem getR_1 (n a0 a1 a2 a3 a4 a5 a6 a7 : Int) (w : World) (h : Rt.may ⟨n, a0, a1, a2, a3, a4, a5, a6, a7⟩ = true) (hg : ¬ n ≤ 1) : Calls Try.prog 22 #[rv ⟨n, a0, a1, a2, a3, a4, a5, a6, a7⟩, .int .i64 1] w (GetP ⟨n, a0, a1, a2, a3, a4, a5, a6, a7⟩ 1 w) := by
  have hz := Lib.hid (show Rt.get ⟨n, a0, a1, a2, a3, a4, a5, a6, a7⟩ 1 = (a1, 0) by unfold Rt.get; rw [if_pos (ok_of h), if_neg (by simp only; omega)]; rfl)
  go_enter Try.func22, Try.ntmps22
  go_wp2_with fail
  refine (May_any ⟨n, a0, a1, a2, a3, a4, a5, a6, a7⟩ _).mono ?_
  rintro e w1 ⟨rfl, hb⟩
  obtain ⟨os, d, rfl⟩ := ext_of hb
  clear hb
  go_wp2
  refine bodyPost_ret (v := .tuple #[.int .i64 a1, .int .i64 0]) (by simp [results, Try.results22, go_sem]) rfl ⟨by rw [hz.out], ?_⟩
  exact one_alloc _ _

set_option maxRecDepth 100000 in
set_option maxHeartbeats 1000000 in
theorem getR_2 (n a0 a1 a2 a3 a4 a5 a6 a7 : Int) (w : World) (h : Rt.may ⟨n, a0, a1, a2, a3, a4, a5, a6, a7⟩ = true) (hg : ¬ n ≤ 2) : Calls Try.prog 22 #[rv ⟨n, a0, a1, a2, a3, a4, a5, a6, a7⟩, .int .i64 2] w (GetP ⟨n, a0, a1, a2, a3, a4, a5, a6, a7⟩ 2 w) := by
  have hz := Lib.hid (show Rt.get ⟨n, a0, a1, a2, a3, a4, a5, a6, a7⟩ 2 = (a2, 0) by unfold Rt.get; rw [if_pos (ok_of h), if_neg (by simp only; omega)]; rfl)
  go_enter Try.func22, Try.ntmps22
  go_wp2_with fail
  refine (May_any ⟨n, a0, a1, a2, a3, a4, a5, a6, a7⟩ _).mono ?_
  rintro e w1 ⟨rfl, hb⟩
  obtain ⟨os, d, rfl⟩ := ext_of hb
  clear hb
  go_wp2
  refine bodyPost_ret (v := .tuple #[.int .i64 a2, .int .i64 0]) (by simp [results, Try.results22, go_sem]) rfl ⟨by rw [hz.out], ?_⟩
  exact one_alloc _ _

set_option maxRecDepth 100000 in
set_option maxHeartbeats 1000000 in
theorem getR_3 (n a0 a1 a2 a3 a4 a5 a6 a7 : Int) (w : World) (h : Rt.may ⟨n, a0, a1, a2, a3, a4, a5, a6, a7⟩ = true) (hg : ¬ n ≤ 3) : Calls Try.prog 22 #[rv ⟨n, a0, a1, a2, a3, a4, a5, a6, a7⟩, .int .i64 3] w (GetP ⟨n, a0, a1, a2, a3, a4, a5, a6, a7⟩ 3 w) := by
  have hz := Lib.hid (show Rt.get ⟨n, a0, a1, a2, a3, a4, a5, a6, a7⟩ 3 = (a3, 0) by unfold Rt.get; rw [if_pos (ok_of h), if_neg (by simp only; omega)]; rfl)
  go_enter Try.func22, Try.ntmps22
  go_wp2_with fail
  refine (May_any ⟨n, a0, a1, a2, a3, a4, a5, a6, a7⟩ _).mono ?_
  rintro e w1 ⟨rfl, hb⟩
  obtain ⟨os, d, rfl⟩ := ext_of hb
  clear hb
  go_wp2
  refine bodyPost_ret (v := .tuple #[.int .i64 a3, .int .i64 0]) (by simp [results, Try.results22, go_sem]) rfl ⟨by rw [hz.out], ?_⟩
  exact one_alloc _ _

set_option maxRecDepth 100000 in
set_option maxHeartbeats 1000000 in
theorem getR_4 (n a0 a1 a2 a3 a4 a5 a6 a7 : Int) (w : World) (h : Rt.may ⟨n, a0, a1, a2, a3, a4, a5, a6, a7⟩ = true) (hg : ¬ n ≤ 4) : Calls Try.prog 22 #[rv ⟨n, a0, a1, a2, a3, a4, a5, a6, a7⟩, .int .i64 4] w (GetP ⟨n, a0, a1, a2, a3, a4, a5, a6, a7⟩ 4 w) := by
  have hz := Lib.hid (show Rt.get ⟨n, a0, a1, a2, a3, a4, a5, a6, a7⟩ 4 = (a4, 0) by unfold Rt.get; rw [if_pos (ok_of h), if_neg (by simp only; omega)]; rfl)
  go_enter Try.func22, Try.ntmps22
  go_wp2_with fail
  refine (May_any ⟨n, a0, a1, a2, a3, a4, a5, a6, a7⟩ _).mono ?_
  rintro e w1 ⟨rfl, hb⟩
  obtain ⟨os, d, rfl⟩ := ext_of hb
  clear hb
  go_wp2
  refine bodyPost_ret (v := .tuple #[.int .i64 a4, .int .i64 0]) (by simp [results, Try.results22, go_sem]) rfl ⟨by rw [hz.out], ?_⟩
  exact one_alloc _ _

set_option maxRecDepth 100000 in
set_option maxHeartbeats 1000000 in
theorem getR_5 (n a0 a1 a2 a3 a4 a5 a6 a7 : Int) (w : World) (h : Rt.may ⟨n, a0, a1, a2, a3, a4, a5, a6, a7⟩ = true) (hg : ¬ n ≤ 5) : Calls Try.prog 22 #[rv ⟨n, a0, a1, a2, a3, a4, a5, a6, a7⟩, .int .i64 5] w (GetP ⟨n, a0, a1, a2, a3, a4, a5, a6, a7⟩ 5 w) := by
  have hz := Lib.hid (show Rt.get ⟨n, a0, a1, a2, a3, a4, a5, a6, a7⟩ 5 = (a5, 0) by unfold Rt.get; rw [if_pos (ok_of h), if_neg (by simp only; omega)]; rfl)
  go_enter Try.func22, Try.ntmps22
  go_wp2_with fail
  refine (May_any ⟨n, a0, a1, a2, a3, a4, a5, a6, a7⟩ _).mono ?_
  rintro e w1 ⟨rfl, hb⟩
  obtain ⟨os, d, rfl⟩ := ext_of hb
  clear hb
  go_wp2
  refine bodyPost_ret (v := .tuple #[.int .i64 a5, .int .i64 0]) (by simp [results, Try.results22, go_sem]) rfl ⟨by rw [hz.out], ?_⟩
  exact one_alloc _ _

set_option maxRecDepth 100000 in
set_option maxHeartbeats 1000000 in
theorem getR_6 (n a0 a1 a2 a3 a4 a5 a6 a7 : Int) (w : World) (h : Rt.may ⟨n, a0, a1, a2, a3, a4, a5, a6, a7⟩ = true) (hg : ¬ n ≤ 6) : Calls Try.prog 22 #[rv ⟨n, a0, a1, a2, a3, a4, a5, a6, a7⟩, .int .i64 6] w (GetP ⟨n, a0, a1, a2, a3, a4, a5, a6, a7⟩ 6 w) := by
  have hz := Lib.hid (show Rt.get ⟨n, a0, a1, a2, a3, a4, a5, a6, a7⟩ 6 = (a6, 0) by unfold Rt.get; rw [if_pos (ok_of h), if_neg (by simp only; omega)]; rfl)
  go_enter Try.func22, Try.ntmps22
  go_wp2_with fail
  refine (May_any ⟨n, a0, a1, a2, a3, a4, a5, a6, a7⟩ _).mono ?_
  rintro e w1 ⟨rfl, hb⟩
  obtain ⟨os, d, rfl⟩ := ext_of hb
  clear hb
  go_wp2
  refine bodyPost_ret (v := .tuple #[.int .i64 a6, .int .i64 0]) (by simp [results, Try.results22, go_sem]) rfl ⟨by rw [hz.out], ?_⟩
  exact one_alloc _ _

set_option maxRecDepth 100000 in
set_option maxHeartbeats 1000000 in
theorem getR_7 (n a0 a1 a2 a3 a4 a5 a6 a7 : Int) (w : World) (h : Rt.may ⟨n, a0, a1, a2, a3, a4, a5, a6, a7⟩ = true) (hg : ¬ n ≤ 7) : Calls Try.prog 22 #[rv ⟨n, a0, a1, a2, a3, a4, a5, a6, a7⟩, .int .i64 7] w (GetP ⟨n, a0, a1, a2, a3, a4, a5, a6, a7⟩ 7 w) := by
  have hz := Lib.hid (show Rt.get ⟨n, a0, a1, a2, a3, a4, a5, a6, a7⟩ 7 = (a7, 0) by unfold Rt.get; rw [if_pos (ok_of h), if_neg (by simp only; omega)]; rfl)
  go_enter Try.func22, Try.ntmps22
  go_wp2_with fail
  refine (May_any ⟨n, a0, a1, a2, a3, a4, a5, a6, a7⟩ _).mono ?_
  rintro e w1 ⟨rfl, hb⟩
  obtain ⟨os, d, rfl⟩ := ext_of hb
  clear hb
  go_wp2
  refine bodyPost_ret (v := .tuple #[.int .i64 a7, .int .i64 0]) (by simp [results, Try.results22, go_sem]) rfl ⟨by rw [hz.out], ?_⟩
  exact one_alloc _ _

theorem getR_any (r : Rt) (i : Int) (w : World) : Calls Try.prog 22 #[rv r, .int .i64 i] w (GetP r i w) := by
  obtain ⟨n, a0, a1, a2, a3, a4, a5, a6, a7⟩ := r
  cases h : Rt.may ⟨n, a0, a1, a2, a3, a4, a5, a6, a7⟩
  · exact getR_no _ _ _ _ _ _ _ _ _ _ w h
  by_cases hi : i < 0
  · exact getR_lt _ _ _ _ _ _ _ _ _ _ w h hi
  by_cases hg : n ≤ i
  · exact getR_ge _ _ _ _ _ _ _ _ _ _ w h hi hg
  obtain ⟨h0, h8, _⟩ := ok_of h
  simp only at h0 h8
  have hn : i = 0 ∨ i = 1 ∨ i = 2 ∨ i = 3 ∨ i = 4 ∨ i = 5 ∨ i = 6 ∨ i = 7 := by omega
  rcases hn with rfl | rfl | rfl | rfl | rfl | rfl | rfl | rfl
  · exact getR_0 _ _ _ _ _ _ _ _ _ w h hg
  · exact getR_1 _ _ _ _ _ _ _ _ _ w h hg
  · exact getR_2 _ _ _ _ _ _ _ _ _ w h hg
  · exact getR_3 _ _ _ _ _ _ _ _ _ w h hg
  · exact getR_4 _ _ _ _ _ _ _ _ _ w h hg
  · exact getR_5 _ _ _ _ _ _ _ _ _ w h hg
  · exact getR_6 _ _ _ _ _ _ _ _ _ w h hg
  · exact getR_7 _ _ _ _ _ _ _ _ _ w h hg

set_option maxRecDepth 100000 in
set_option maxHeartbeats 1000000 in
theorem dup_no (n a0 a1 a2 a3 a4 a5 a6 a7 i : Int) (w : World) (h : (Rt.get ⟨n, a0, a1, a2, a3, a4, a5, a6, a7⟩ i).2 ≠ 0) : Calls Try.prog 19 #[rv ⟨n, a0, a1, a2, a3, a4, a5, a6, a7⟩, .int .i64 i] w (DupP ⟨n, a0, a1, a2, a3, a4, a5, a6, a7⟩ i w) := by
  have hz := Lib.hid (show Rt.dup ⟨n, a0, a1, a2, a3, a4, a5, a6, a7⟩ i = (Rt.zero, (Rt.get ⟨n, a0, a1, a2, a3, a4, a5, a6, a7⟩ i).2) by unfold Rt.dup; rw [if_neg h])
  have hb0 : ((Rt.get ⟨n, a0, a1, a2, a3, a4, a5, a6, a7⟩ i).2 != 0) = true := by simpa using h
  go_enter Try.func19, Try.ntmps19
  go_wp2_with fail
  refine (get_any ⟨n, a0, a1, a2, a3, a4, a5, a6, a7⟩ _ _).mono ?_
  rintro e w1 ⟨rfl, hb⟩
  obtain ⟨os, d, rfl⟩ := ext_of hb
  clear hb
  go_wp2
  refine bodyPost_ret (v := .tuple #[rv Rt.zero, .int .i64 (Rt.get ⟨n, a0, a1, a2, a3, a4, a5, a6, a7⟩ i).2]) (by simp [results, Try.results19, go_sem, Rt.zero]) rfl ⟨by rw [hz.out], ?_⟩
  exact two_allocs _ _

set_option maxRecDepth 100000 in
set_option maxHeartbeats 1000000 in
theorem dup_yes (n a0 a1 a2 a3 a4 a5 a6 a7 i : Int) (w : World) (h : (Rt.get ⟨n, a0, a1, a2, a3, a4, a5, a6, a7⟩ i).2 = 0) : Calls Try.prog 19 #[rv ⟨n, a0, a1, a2, a3, a4, a5, a6, a7⟩, .int .i64 i] w (DupP ⟨n, a0, a1, a2, a3, a4, a5, a6, a7⟩ i w) := by
  have hz := Lib.hid (show Rt.dup ⟨n, a0, a1, a2, a3, a4, a5, a6, a7⟩ i = Rt.push ⟨n, a0, a1, a2, a3, a4, a5, a6, a7⟩ (Rt.get ⟨n, a0, a1, a2, a3, a4, a5, a6, a7⟩ i).1 by unfold Rt.dup; rw [if_pos h])
  have hb0 : ((Rt.get ⟨n, a0, a1, a2, a3, a4, a5, a6, a7⟩ i).2 != 0) = false := by simpa using h
  clear h
  go_enter Try.func19, Try.ntmps19
  go_wp2_with fail
  refine (get_any ⟨n, a0, a1, a2, a3, a4, a5, a6, a7⟩ _ _).mono ?_
  rintro e w1 ⟨rfl, hb⟩
  obtain ⟨os, d, rfl⟩ := ext_of hb
  clear hb
  go_wp2_with fail
  refine (push_any ⟨n, a0, a1, a2, a3, a4, a5, a6, a7⟩ _ _).mono ?_
  rintro e w1 ⟨rfl, hb⟩
  obtain ⟨os1, d1, rfl⟩ := ext_of hb
  clear hb
  go_wp2
  refine bodyPost_ret (v := .tuple #[rv (Rt.push ⟨n, a0, a1, a2, a3, a4, a5, a6, a7⟩ (Rt.get ⟨n, a0, a1, a2, a3, a4, a5, a6, a7⟩ i).1).1, .int .i64 (Rt.push ⟨n, a0, a1, a2, a3, a4, a5, a6, a7⟩ (Rt.get ⟨n, a0, a1, a2, a3, a4, a5, a6, a7⟩ i).1).2]) (by simp [results, Try.results19, go_sem]) rfl ⟨by rw [hz.out], ?_⟩
  exact two_allocs _ _

theorem dup_any (r : Rt) (i : Int) (w : World) : Calls Try.prog 19 #[rv r, .int .i64 i] w (DupP r i w) := by
  obtain ⟨n, a0, a1, a2, a3, a4, a5, a6, a7⟩ := r
  by_cases h : (Rt.get ⟨n, a0, a1, a2, a3, a4, a5, a6, a7⟩ i).2 = 0
  · exact dup_yes _ _ _ _ _ _ _ _ _ _ w h
  · exact dup_no _ _ _ _ _ _ _ _ _ _ w h

set_option maxRecDepth 100000 in
set_option maxHeartbeats 1000000 in
theorem dupR_no (n a0 a1 a2 a3 a4 a5 a6 a7 i : Int) (w : World) (h : (Rt.get ⟨n, a0, a1, a2, a3, a4, a5, a6, a7⟩ i).2 ≠ 0) : Calls Try.prog 23 #[rv ⟨n, a0, a1, a2, a3, a4, a5, a6, a7⟩, .int .i64 i] w (DupP ⟨n, a0, a1, a2, a3, a4, a5, a6, a7⟩ i w) := by
  have hz := Lib.hid (show Rt.dup ⟨n, a0, a1, a2, a3, a4, a5, a6, a7⟩ i = (Rt.zero, (Rt.get ⟨n, a0, a1, a2, a3, a4, a5, a6, a7⟩ i).2) by unfold Rt.dup; rw [if_neg h])
  have hb0 : ((Rt.get ⟨n, a0, a1, a2, a3, a4, a5, a6, a7⟩ i).2 != 0) = true := by simpa using h
  go_enter Try.func23, Try.ntmps23
  go_wp2_with fail
  refine (getR_any ⟨n, a0, a1, a2, a3, a4, a5, a6, a7⟩ _ _).mono ?_
  rintro e w1 ⟨rfl, hb⟩
  obtain ⟨os, d, rfl⟩ := ext_of hb
  clear hb
  go_wp2
  refine bodyPost_ret (v := .tuple #[rv Rt.zero, .int .i64 (Rt.get ⟨n, a0, a1, a2, a3, a4, a5, a6, a7⟩ i).2]) (by simp [results, Try.results23, go_sem, Rt.zero]) rfl ⟨by rw [hz.out], ?_⟩
  exact two_allocs _ _

set_option maxRecDepth 100000 in
set_option maxHeartbeats 1000000 in
theorem dupR_yes (n a0 a1 a2 a3 a4 a5 a6 a7 i : Int) (w : World) (h : (Rt.get ⟨n, a0, a1, a2, a3, a4, a5, a6, a7⟩ i).2 = 0) : Calls Try.prog 23 #[rv ⟨n, a0, a1, a2, a3, a4, a5, a6, a7⟩, .int .i64 i] w (DupP ⟨n, a0, a1, a2, a3, a4, a5, a6, a7⟩ i w) := by
  have hz := Lib.hid (show Rt.dup ⟨n, a0, a1, a2, a3, a4, a5, a6, a7⟩ i = Rt.push ⟨n, a0, a1, a2, a3, a4, a5, a6, a7⟩ (Rt.get ⟨n, a0, a1, a2, a3, a4, a5, a6, a7⟩ i).1 by unfold Rt.dup; rw [if_pos h])
  have hb0 : ((Rt.get ⟨n, a0, a1, a2, a3, a4, a5, a6, a7⟩ i).2 != 0) = false := by simpa using h
  clear h
  go_enter Try.func23, Try.ntmps23
  go_wp2_with fail
  refine (getR_any ⟨n, a0, a1, a2, a3, a4, a5, a6, a7⟩ _ _).mono ?_
  rintro e w1 ⟨rfl, hb⟩
  obtain ⟨os, d, rfl⟩ := ext_of hb
  clear hb
  go_wp2_with fail
  refine (pushR_any ⟨n, a0, a1, a2, a3, a4, a5, a6, a7⟩ _ _).mono ?_
  rintro e w1 ⟨rfl, hb⟩
  obtain ⟨os1, d1, rfl⟩ := ext_of hb
  clear hb
  go_wp2
  refine bodyPost_ret (v := .tuple #[rv (Rt.push ⟨n, a0, a1, a2, a3, a4, a5, a6, a7⟩ (Rt.get ⟨n, a0, a1, a2, a3, a4, a5, a6, a7⟩ i).1).1, .int .i64 (Rt.push ⟨n, a0, a1, a2, a3, a4, a5, a6, a7⟩ (Rt.get ⟨n, a0, a1, a2, a3, a4, a5, a6, a7⟩ i).1).2]) (by simp [results, Try.results23, go_sem]) rfl ⟨by rw [hz.out], ?_⟩
  exact two_allocs _ _

theorem dupR_any (r : Rt) (i : Int) (w : World) : Calls Try.prog 23 #[rv r, .int .i64 i] w (DupP r i w) := by
  obtain ⟨n, a0, a1, a2, a3, a4, a5, a6, a7⟩ := r
  by_cases h : (Rt.get ⟨n, a0, a1, a2, a3, a4, a5, a6, a7⟩ i).2 = 0
  · exact dupR_yes _ _ _ _ _ _ _ _ _ _ w h
  · exact dupR_no _ _ _ _ _ _ _ _ _ _ w h

end Go.Proofs.Ytlogojiphjpknaa
