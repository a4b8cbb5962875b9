/- flitlaw06.RootsStays comes to true, whatever roots and numbers it is handed, and writes nothing that was there. -/
import Derived.Test.YtlogojiphjpknaaMovesW
import Derived.Deep.CutBlock
import Derived.Test.YtlogojiphjpknaaHeld
namespace Go.Proofs.Ytlogojiphjpknaa
open Go.RowKit

theorem move_self (r : Rt) (a : Int) : r.move a a = r := by
  have h : ∀ k x : Int, r.mv a a k x = x := fun k x => by
    unfold Rt.mv
    split
    · rename_i h; exact h.2.symm
    · rfl
  exact Rt.ext_ rfl (h _ _) (h _ _) (h _ _) (h _ _) (h _ _) (h _ _) (h _ _) (h _ _)

theorem move_none (r : Rt) (a b : Int) (h : ∀ j : Nat, j < 8 → (j : Int) < r.n → r.at_ j ≠ a) : r.move a b = r := by
  have hh : ∀ j : Nat, j < 8 → r.mv a b j (r.at_ j) = r.at_ j := fun j hj => by
    unfold Rt.mv
    by_cases hn : (j : Int) < r.n
    · simp [h j hj hn]
    · simp [hn]
  exact Rt.ext_ rfl (hh 0 (by omega)) (hh 1 (by omega)) (hh 2 (by omega)) (hh 3 (by omega)) (hh 4 (by omega)) (hh 5 (by omega)) (hh 6 (by omega)) (hh 7 (by omega))

def Seen (r : Rt) (a : Int) (k : Nat) (th : Bool) : Prop := th = false → ∀ j : Nat, j < k → (j : Int) < r.n → r.at_ j ≠ a
def Out (r : Rt) (a b : Int) (th : Bool) : Prop := th = false → r.move a b = r

theorem seen_out {r : Rt} {a b : Int} {k : Nat} {th : Bool} (h : Seen r a k th) (hk : k = 8 ∨ ¬ (k : Int) < r.n) : Out r a b th := fun ht => move_none r a b fun j hj hn => h ht j (by omega) hn
theorem seen_next {r : Rt} {a : Int} {k : Nat} (h : Seen r a k false) : Seen r a (k + 1) (r.at_ k == a) := fun ht j hj hn => by
  rcases Nat.lt_or_ge j k with h1 | h1
  · exact h rfl j h1 hn
  · obtain rfl : j = k := by omega
    simpa using ht
theorem seen_true {r : Rt} {a : Int} {k : Nat} : Seen r a k true := fun h => by cases h

set_option maxRecDepth 100000 in
set_option maxHeartbeats 4000000 in
theorem stays_walk (r : Rt) (a b : Int) (w : World) : Calls Try.prog 8 #[rv r, .int .i64 a, .int .i64 b] w (YesP w) := by
  go_enter Try.func8, Try.ntmps8
  go_wp2_with fail
  refine (shown_yes _).mono ?_
  rintro e w2 ⟨rfl, hb2⟩
  obtain ⟨os, d, rfl⟩ := ext_of hb2
  clear hb2
  go_upto_block 0 with fail
  go_cut [8, 9] (fun s8 _ wx => ∃ th : Bool, s8 = .bool th ∧ Out r a b th ∧ wx = ext (w.alloc (rc r)) os d)
  case first =>
    go_wp2_with fail
    go_loop [8, 9] (fun s8 s9 => ∃ (k : Nat) (th : Bool), k ≤ 8 ∧ s9 = .int .i64 k ∧ s8 = .bool th ∧ Seen r a k th) (fun _ s9 => 8 - (intOf s9).toNat)
    case atStart => exact ⟨0, false, by omega, rfl, rfl, fun _ j hj => by omega⟩
    case round =>
      obtain ⟨k, th, hk, rfl, rfl, hs⟩ := hrel
      by_cases h8 : k = 8
      · subst h8
        go_wp2_with fail
        go_meet
        exact ⟨th, rfl, seen_out hs (.inl rfl), rfl⟩
      · rcases Rt.cases8 (show k < 8 by omega) with rfl | rfl | rfl | rfl | rfl | rfl | rfl | rfl
        · by_cases hn : 0 < r.n
          · cases th
            · go_wp2_with fail
              go_round
              case rel => exact ⟨1, r.a0 == a, by omega, by go_num, rfl, seen_next hs⟩
              case measure => simp [intOf]
            · go_wp2_with fail
              go_round
              case rel => exact ⟨1, true, by omega, by go_num, rfl, seen_true⟩
              case measure => simp [intOf]
          · have hd : decide (0 < r.n) = false := by simpa using hn
            go_wp2_with fail
            go_meet
            exact ⟨th, rfl, seen_out hs (.inr (by omega)), rfl⟩
        · by_cases hn : 1 < r.n
          · cases th
            · go_wp2_with fail
              go_round
              case rel => exact ⟨2, r.a1 == a, by omega, by go_num, rfl, seen_next hs⟩
              case measure => simp [intOf]
            · go_wp2_with fail
              go_round
              case rel => exact ⟨2, true, by omega, by go_num, rfl, seen_true⟩
              case measure => simp [intOf]
          · have hd : decide (1 < r.n) = false := by simpa using hn
            go_wp2_with fail
            go_meet
            exact ⟨th, rfl, seen_out hs (.inr (by omega)), rfl⟩
        · by_cases hn : 2 < r.n
          · cases th
            · go_wp2_with fail
              go_round
              case rel => exact ⟨3, r.a2 == a, by omega, by go_num, rfl, seen_next hs⟩
              case measure => simp [intOf]
            · go_wp2_with fail
              go_round
              case rel => exact ⟨3, true, by omega, by go_num, rfl, seen_true⟩
              case measure => simp [intOf]
          · have hd : decide (2 < r.n) = false := by simpa using hn
            go_wp2_with fail
            go_meet
            exact ⟨th, rfl, seen_out hs (.inr (by omega)), rfl⟩
        · by_cases hn : 3 < r.n
          · cases th
            · go_wp2_with fail
              go_round
              case rel => exact ⟨4, r.a3 == a, by omega, by go_num, rfl, seen_next hs⟩
              case measure => simp [intOf]
            · go_wp2_with fail
              go_round
              case rel => exact ⟨4, true, by omega, by go_num, rfl, seen_true⟩
              case measure => simp [intOf]
          · have hd : decide (3 < r.n) = false := by simpa using hn
            go_wp2_with fail
            go_meet
            exact ⟨th, rfl, seen_out hs (.inr (by omega)), rfl⟩
        · by_cases hn : 4 < r.n
          · cases th
            · go_wp2_with fail
              go_round
              case rel => exact ⟨5, r.a4 == a, by omega, by go_num, rfl, seen_next hs⟩
              case measure => simp [intOf]
            · go_wp2_with fail
              go_round
              case rel => exact ⟨5, true, by omega, by go_num, rfl, seen_true⟩
              case measure => simp [intOf]
          · have hd : decide (4 < r.n) = false := by simpa using hn
            go_wp2_with fail
            go_meet
            exact ⟨th, rfl, seen_out hs (.inr (by omega)), rfl⟩
        · by_cases hn : 5 < r.n
          · cases th
            · go_wp2_with fail
              go_round
              case rel => exact ⟨6, r.a5 == a, by omega, by go_num, rfl, seen_next hs⟩
              case measure => simp [intOf]
            · go_wp2_with fail
              go_round
              case rel => exact ⟨6, true, by omega, by go_num, rfl, seen_true⟩
              case measure => simp [intOf]
          · have hd : decide (5 < r.n) = false := by simpa using hn
            go_wp2_with fail
            go_meet
            exact ⟨th, rfl, seen_out hs (.inr (by omega)), rfl⟩
        · by_cases hn : 6 < r.n
          · cases th
            · go_wp2_with fail
              go_round
              case rel => exact ⟨7, r.a6 == a, by omega, by go_num, rfl, seen_next hs⟩
              case measure => simp [intOf]
            · go_wp2_with fail
              go_round
              case rel => exact ⟨7, true, by omega, by go_num, rfl, seen_true⟩
              case measure => simp [intOf]
          · have hd : decide (6 < r.n) = false := by simpa using hn
            go_wp2_with fail
            go_meet
            exact ⟨th, rfl, seen_out hs (.inr (by omega)), rfl⟩
        · by_cases hn : 7 < r.n
          · cases th
            · go_wp2_with fail
              go_round
              case rel => exact ⟨8, r.a7 == a, by omega, by go_num, rfl, seen_next hs⟩
              case measure => simp [intOf]
            · go_wp2_with fail
              go_round
              case rel => exact ⟨8, true, by omega, by go_num, rfl, seen_true⟩
              case measure => simp [intOf]
          · have hd : decide (7 < r.n) = false := by simpa using hn
            go_wp2_with fail
            go_meet
            exact ⟨th, rfl, seen_out hs (.inr (by omega)), rfl⟩
  case rest =>
    obtain ⟨th, rfl, ho, rfl⟩ := hcut
    have HEQ := eq26
    cases th
    · have hm := Lib.hid (ho rfl)
      clear ho
      go_wp2_with fail
      go_region_held3 (fun w' => w'.cell? ⟨w.heap.size, 0, none⟩ = some (.int .i64 r.n) ∧ w'.cell? ⟨w.heap.size, 1, none⟩ = some (.int .i64 r.a0) ∧ w'.cell? ⟨w.heap.size, 2, none⟩ = some (.int .i64 r.a1) ∧ w'.cell? ⟨w.heap.size, 3, none⟩ = some (.int .i64 r.a2) ∧ w'.cell? ⟨w.heap.size, 4, none⟩ = some (.int .i64 r.a3) ∧ w'.cell? ⟨w.heap.size, 5, none⟩ = some (.int .i64 r.a4) ∧ w'.cell? ⟨w.heap.size, 6, none⟩ = some (.int .i64 r.a5) ∧ w'.cell? ⟨w.heap.size, 7, none⟩ = some (.int .i64 r.a6) ∧ w'.cell? ⟨w.heap.size, 8, none⟩ = some (.int .i64 r.a7)) (go_simp)
        (first
          | (go_at_call_of 24 (Value.int .i64 b); refine (move_eq hm.out _).mono ?_; rintro e w2 ⟨rfl, hb2⟩; obtain ⟨os2, d2, rfl⟩ := ext_of hb2; clear hb2)
          | (go_at_call 24; refine (move_eq (move_self r a) _).mono ?_; rintro e w2 ⟨rfl, hb2⟩; obtain ⟨os2, d2, rfl⟩ := ext_of hb2; clear hb2))
      all_goals (
        go_wp2_with fail
        go_ret
        refine ⟨rfl, ?_⟩
        repeat (first | with_reducible exact Below.refl _ _ | refine below_drewN ?_ _ | refine below_ext ?_ (by simp [go_sem]) _ _ | refine Below.alloc ?_ (by simp [go_sem]) _))
    · clear ho
      go_wp2_with fail
      refine region_puts [(30, .bool true), (31, .bool true), (32, rv r), (33, .int .i64 a), (34, .int .i64 a), (35, rv r), (36, rv r), (37, .bool true), (38, .bool true), (39, .bool true),
        (40, .bool true), (41, .bool true), (42, undef), (43, undef), (44, undef), (45, undef), (46, undef), (47, undef), (48, .bool true), (49, .bool true), (6, .bool true)]
        (fun _ w' => ∃ os d, w' = ext (w.alloc (rc r)) os d) (by kernel_rfl) (by kernel_rfl) (by kernel_rfl) ⟨_, _, rfl⟩ ?_ ?_
      · simp only [puts, List.foldl_cons, List.foldl_nil, Act.put, List.setIfInBounds_toArray, List.set_cons_zero, List.set_cons_succ]
        repeat' apply And.intro
        all_goals first
          | exact trivial
          | (intro l w1 hl hdeps hS
             refine And.intro ?_ ?_
             rotate_left
             · intro hw
               exfalso
               simp [Region.wanted, yielded] at hw
             intro _
             obtain ⟨os2, d2, rfl⟩ := hS
             go_simp
             first
               | exact ⟨rfl, _, _, rfl⟩
               | (refine (move_eq (move_self r a) _).mono ?_
                  rintro e w2 ⟨rfl, hb2⟩
                  obtain ⟨os3, d3, rfl⟩ := ext_of hb2
                  exact ⟨rfl, _, _, ext_ext _ _ _ _ _⟩))
          | (intro l w1 hl hdeps hS
             refine And.intro ?_ ?_
             · intro hw
               exfalso
               simp [Region.wanted, yielded] at hw
             exact fun hw => ⟨rfl, hS⟩)
      · intro l w1 _ hS
        obtain ⟨os2, d2, rfl⟩ := hS
        simp only [puts, List.foldl_cons, List.foldl_nil, Act.put, List.setIfInBounds_toArray, List.set_cons_zero, List.set_cons_succ]
        go_wp2_with fail
        go_ret
        exact ⟨rfl, below_ext ((Below.refl _ _).alloc (Nat.le_refl _) _) (by simp) _ _⟩


end Go.Proofs.Ytlogojiphjpknaa
