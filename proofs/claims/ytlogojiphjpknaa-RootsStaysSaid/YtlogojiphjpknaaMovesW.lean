/- flitlaw06.RootsMoves comes to true, whatever row of ints and whatever two numbers it is handed, and writes nothing that was there. -/
import Derived.Test.YtlogojiphjpknaaBackW
namespace Go.Proofs.Ytlogojiphjpknaa
open Go.RowKit

theorem move_eq {r s : Rt} {f u : Int} (h : r.move f u = s) (w : World) : Calls Try.prog 24 #[rv r, .int .i64 f, .int .i64 u] w fun e w' => e = .returned (rv s) ∧ Below w.heap.size w w' :=
  (move_any r f u w).mono fun _ _ ⟨he, hb⟩ => ⟨by rw [he, h], hb⟩

theorem mv_back (r : Rt) (f u k a : Int) (h : k < r.n → a ≠ u) : Rt.mv (r.move f u) u f k (r.mv f u k a) = a := by
  show (if k < r.n ∧ r.mv f u k a = u then f else r.mv f u k a) = a
  unfold Rt.mv
  by_cases hk : k < r.n
  · by_cases ha : a = f
    · simp [hk, ha]
    · simp [hk, ha, h hk]
  · simp [hk]

theorem move_back {l : List Int} {f u : Int} (h : ∀ j : Nat, j < l.length → l.getD j 0 ≠ u) : ((Rt.of l).move f u).move u f = Rt.of l := by
  have hn : (Rt.of l).n = l.length := rfl
  have hj : ∀ j : Nat, j < 8 → (j : Int) < (Rt.of l).n → (Rt.of l).at_ j ≠ u := fun j hj8 hjn => by
    rw [Rt.of_at hj8]; exact h j (by rw [hn] at hjn; omega)
  generalize Rt.of l = r at *
  have hh : ∀ j : Nat, j < 8 → Rt.mv (r.move f u) u f j (r.mv f u j (r.at_ j)) = r.at_ j := fun j hj8 => mv_back r f u j _ (hj j hj8)
  exact Rt.ext_ rfl (hh 0 (by omega)) (hh 1 (by omega)) (hh 2 (by omega)) (hh 3 (by omega)) (hh 4 (by omega)) (hh 5 (by omega)) (hh 6 (by omega)) (hh 7 (by omega))

set_option maxRecDepth 100000 in
set_option maxHeartbeats 4000000 in
theorem moves_walk (A : Option Addr) (n c : Nat) (zs : List Int) (f u : Int) (w : World) (hA : Ints w A n zs) (hz : n ≤ zs.length) (hm : n ≤ 9223372036854775807) : Calls Try.prog 7 #[.slice A n c, .int .i64 f, .int .i64 u] w (YesP w) := by
  go_enter Try.func7, Try.ntmps7
  go_wp2_with fail
  refine (shown_yes _).mono ?_
  rintro e w1 ⟨rfl, hb⟩
  replace hA := hA.below hb
  go_wp2_with fail
  go_loopw [10, 9] (fun s10 s9 wr => ∃ k : Nat, k ≤ n ∧ k ≤ 8 ∧ s10 = .int .i64 k ∧ (∃ th : Bool, s9 = .bool th ∧ (th = false → ∀ j, j < k → zs.getD j 0 ≠ u)) ∧ Below (w1.alloc (rc (Rt.of (zs.take k)))).heap.size (w1.alloc (rc (Rt.of (zs.take k)))) wr)
    (fun s10 s9 _ => 9 - (intOf s10).toNat)
  case atStart => exact ⟨0, by omega, by omega, rfl, ⟨false, rfl, fun _ j hj => by omega⟩, Below.refl _ _⟩
  case round =>
    obtain ⟨k, hkn, hk8, rfl, ⟨th, rfl, hth⟩, hB⟩ := hrel
    obtain ⟨os, d, rfl⟩ := ext_of hB
    clear hB
    by_cases hlt : k < n ∧ k < 8
    · obtain ⟨hlt, h8⟩ := hlt
      rcases hA with h0 | ⟨b, off, rfl, hbl, hnz, hcell⟩
      · omega
      have hx := hcell k hlt
      have HL : k < zs.length := by omega
      clear hcell hnz
      obtain ⟨r, hr⟩ : ∃ r, r = Rt.of (zs.take k) := ⟨_, rfl⟩
      rw [← hr]
      obtain ⟨x, he⟩ : ∃ x, x = zs.getD k 0 := ⟨_, rfl⟩
      rw [← he] at hx
      have hl : (zs.take k).length < 8 := by simp; omega
      obtain ⟨s, hs⟩ : ∃ s, s = Rt.of (zs.take (k + 1)) := ⟨_, rfl⟩
      have hp := Lib.hid (show r.push x = (s, 0) by rw [hr, hs, he, ← take_succ' HL]; exact Rt.of_push hl)
      have HS := Lib.hid hs
      have HT := Lib.hid hth
      have HX := Lib.hid he
      clear hth
      clear hr he hs
      have h9 : (k : Int) < 8 := by omega
      go_upto_region 7 with fail
      cases th
      all_goals (
        go_region_with (go_at_call 16; refine (push_eq hp.out _).mono ?_; rintro e w2 ⟨rfl, hb2⟩; obtain ⟨os1, d1, rfl⟩ := ext_of hb2; clear hb2)
        all_goals (
          go_wp2_with fail
          go_roundw
          case rel =>
            refine ⟨k + 1, by omega, by omega, by go_num, ⟨_, rfl, ?_⟩, ?_⟩
            · intro h j hj
              first
                | (cases h; done)
                | (rcases Nat.lt_or_ge j k with h1 | h1
                   · exact HT.out (by simp) j h1
                   · obtain rfl : j = k := by omega
                     rw [← HX.out]
                     simpa using h)
            · rw [← HS.out]
              exact below_ext (Below.refl _ _) (Nat.le_refl _) _ _
          case measure => simp [intOf]; omega))
    · have hmin : k = min n 8 := by omega
      have hnn : k < n → 8 ≤ k := by omega
      have hk1 : (zs.take k).length = k := by simp; omega
      have HB := Lib.hid (show th = false → ((Rt.of (zs.take k)).move f u).move u f = Rt.of (zs.take k) from fun h => move_back fun j hj => by
        have := hth h j (by omega)
        simp only [List.getD_eq_getElem?_getD] at this ⊢
        rw [List.getElem?_take_of_lt (by omega)]
        exact this)
      generalize Rt.of (zs.take k) = r at *
      obtain ⟨m0, hm0⟩ : ∃ m, Hid (m = r.mv f u 0 r.a0) := ⟨_, rfl⟩
      obtain ⟨m1, hm1⟩ : ∃ m, Hid (m = r.mv f u 1 r.a1) := ⟨_, rfl⟩
      obtain ⟨m2, hm2⟩ : ∃ m, Hid (m = r.mv f u 2 r.a2) := ⟨_, rfl⟩
      obtain ⟨m3, hm3⟩ : ∃ m, Hid (m = r.mv f u 3 r.a3) := ⟨_, rfl⟩
      obtain ⟨m4, hm4⟩ : ∃ m, Hid (m = r.mv f u 4 r.a4) := ⟨_, rfl⟩
      obtain ⟨m5, hm5⟩ : ∃ m, Hid (m = r.mv f u 5 r.a5) := ⟨_, rfl⟩
      obtain ⟨m6, hm6⟩ : ∃ m, Hid (m = r.mv f u 6 r.a6) := ⟨_, rfl⟩
      obtain ⟨m7, hm7⟩ : ∃ m, Hid (m = r.mv f u 7 r.a7) := ⟨_, rfl⟩
      have hmove := Lib.hid (show r.move f u = ⟨r.n, m0, m1, m2, m3, m4, m5, m6, m7⟩ by unfold Rt.move; rw [hm0.out, hm1.out, hm2.out, hm3.out, hm4.out, hm5.out, hm6.out, hm7.out])
      clear hmin hk1 hth
      by_cases hx0 : k < n
      · have hx1 : (k : Int) < n := by omega
        have hx2 : decide ((k : Int) < 8) = false := by simp; omega
        clear hlt hnn
        go_wp2_with fail
        refine (move_eq hmove.out _).mono ?_
        rintro e w2 ⟨rfl, hb2⟩
        obtain ⟨os2, d2, rfl⟩ := ext_of hb2
        clear hb2
        go_wp2_with fail
        go_loop [12] (fun s12 => ∃ q : Nat, q ≤ 8 ∧ s12 = .int .i64 q) (fun s12 => 8 - (intOf s12).toNat)
        case atStart => exact ⟨0, by omega, rfl⟩
        case round =>
          obtain ⟨q, hq, rfl⟩ := hrel
          by_cases hq8 : q = 8
          · subst hq8
            have HEQ := eq26
            cases th
            · have hback := Lib.hid (show Rt.move ⟨r.n, m0, m1, m2, m3, m4, m5, m6, m7⟩ u f = r by rw [← hmove.out]; exact HB.out (by simp))
              go_wp2_with fail
              go_region_with (go_at_call 24; refine (move_eq hback.out _).mono ?_; rintro e w2 ⟨rfl, hb2⟩; obtain ⟨os3, d3, rfl⟩ := ext_of hb2; clear hb2)
              all_goals (
                go_wp2_with fail
                go_ret
                refine ⟨rfl, hb.trans (Below.mono ?_ hb.size)⟩
                repeat (first | with_reducible exact Below.refl _ _ | refine below_drewN ?_ _ | refine below_ext ?_ (by simp [go_sem]) _ _ | refine Below.alloc ?_ (by simp [go_sem]) _))
            · go_wp2_with fail
              go_quiet (fail)
              go_wp2
              go_ret
              refine ⟨rfl, hb.trans (Below.mono ?_ hb.size)⟩
              repeat (first | with_reducible exact Below.refl _ _ | refine below_drewN ?_ _ | refine below_ext ?_ (by simp [go_sem]) _ _ | refine Below.alloc ?_ (by simp [go_sem]) _)
          · rcases Rt.cases8 (show q < 8 by omega) with rfl | rfl | rfl | rfl | rfl | rfl | rfl | rfl
            · by_cases hqn : 0 < r.n
              · cases hqf : r.a0 == f
                · have hne : Hid _ := Lib.hid (show (m0 != r.a0) = false by simp [hm0.out, Rt.mv] at *; intro _ h; exact absurd h hqf)
                  have hne := hne.out
                  go_wp2_with fail
                  go_round
                  case rel => exact ⟨1, by omega, by go_num⟩
                  case measure => simp [intOf]
                · have hne : (m0 != u) = false := by simp at hqf; simp [hm0.out, Rt.mv, hqn, hqf]
                  go_wp2_with fail
                  go_round
                  case rel => exact ⟨1, by omega, by go_num⟩
                  case measure => simp [intOf]
              · have hne : (m0 != r.a0) = false := by simp [hm0.out, Rt.mv, hqn]
                have hqd : decide (0 < r.n) = false := by simpa using hqn
                go_wp2_with fail
                go_round
                case rel => exact ⟨1, by omega, by go_num⟩
                case measure => simp [intOf]
            · by_cases hqn : 1 < r.n
              · cases hqf : r.a1 == f
                · have hne : Hid _ := Lib.hid (show (m1 != r.a1) = false by simp [hm1.out, Rt.mv] at *; intro _ h; exact absurd h hqf)
                  have hne := hne.out
                  go_wp2_with fail
                  go_round
                  case rel => exact ⟨2, by omega, by go_num⟩
                  case measure => simp [intOf]
                · have hne : (m1 != u) = false := by simp at hqf; simp [hm1.out, Rt.mv, hqn, hqf]
                  go_wp2_with fail
                  go_round
                  case rel => exact ⟨2, by omega, by go_num⟩
                  case measure => simp [intOf]
              · have hne : (m1 != r.a1) = false := by simp [hm1.out, Rt.mv, hqn]
                have hqd : decide (1 < r.n) = false := by simpa using hqn
                go_wp2_with fail
                go_round
                case rel => exact ⟨2, by omega, by go_num⟩
                case measure => simp [intOf]
            · by_cases hqn : 2 < r.n
              · cases hqf : r.a2 == f
                · have hne : Hid _ := Lib.hid (show (m2 != r.a2) = false by simp [hm2.out, Rt.mv] at *; intro _ h; exact absurd h hqf)
                  have hne := hne.out
                  go_wp2_with fail
                  go_round
                  case rel => exact ⟨3, by omega, by go_num⟩
                  case measure => simp [intOf]
                · have hne : (m2 != u) = false := by simp at hqf; simp [hm2.out, Rt.mv, hqn, hqf]
                  go_wp2_with fail
                  go_round
                  case rel => exact ⟨3, by omega, by go_num⟩
                  case measure => simp [intOf]
              · have hne : (m2 != r.a2) = false := by simp [hm2.out, Rt.mv, hqn]
                have hqd : decide (2 < r.n) = false := by simpa using hqn
                go_wp2_with fail
                go_round
                case rel => exact ⟨3, by omega, by go_num⟩
                case measure => simp [intOf]
            · by_cases hqn : 3 < r.n
              · cases hqf : r.a3 == f
                · have hne : Hid _ := Lib.hid (show (m3 != r.a3) = false by simp [hm3.out, Rt.mv] at *; intro _ h; exact absurd h hqf)
                  have hne := hne.out
                  go_wp2_with fail
                  go_round
                  case rel => exact ⟨4, by omega, by go_num⟩
                  case measure => simp [intOf]
                · have hne : (m3 != u) = false := by simp at hqf; simp [hm3.out, Rt.mv, hqn, hqf]
                  go_wp2_with fail
                  go_round
                  case rel => exact ⟨4, by omega, by go_num⟩
                  case measure => simp [intOf]
              · have hne : (m3 != r.a3) = false := by simp [hm3.out, Rt.mv, hqn]
                have hqd : decide (3 < r.n) = false := by simpa using hqn
                go_wp2_with fail
                go_round
                case rel => exact ⟨4, by omega, by go_num⟩
                case measure => simp [intOf]
            · by_cases hqn : 4 < r.n
              · cases hqf : r.a4 == f
                · have hne : Hid _ := Lib.hid (show (m4 != r.a4) = false by simp [hm4.out, Rt.mv] at *; intro _ h; exact absurd h hqf)
                  have hne := hne.out
                  go_wp2_with fail
                  go_round
                  case rel => exact ⟨5, by omega, by go_num⟩
                  case measure => simp [intOf]
                · have hne : (m4 != u) = false := by simp at hqf; simp [hm4.out, Rt.mv, hqn, hqf]
                  go_wp2_with fail
                  go_round
                  case rel => exact ⟨5, by omega, by go_num⟩
                  case measure => simp [intOf]
              · have hne : (m4 != r.a4) = false := by simp [hm4.out, Rt.mv, hqn]
                have hqd : decide (4 < r.n) = false := by simpa using hqn
                go_wp2_with fail
                go_round
                case rel => exact ⟨5, by omega, by go_num⟩
                case measure => simp [intOf]
            · by_cases hqn : 5 < r.n
              · cases hqf : r.a5 == f
                · have hne : Hid _ := Lib.hid (show (m5 != r.a5) = false by simp [hm5.out, Rt.mv] at *; intro _ h; exact absurd h hqf)
                  have hne := hne.out
                  go_wp2_with fail
                  go_round
                  case rel => exact ⟨6, by omega, by go_num⟩
                  case measure => simp [intOf]
                · have hne : (m5 != u) = false := by simp at hqf; simp [hm5.out, Rt.mv, hqn, hqf]
                  go_wp2_with fail
                  go_round
                  case rel => exact ⟨6, by omega, by go_num⟩
                  case measure => simp [intOf]
              · have hne : (m5 != r.a5) = false := by simp [hm5.out, Rt.mv, hqn]
                have hqd : decide (5 < r.n) = false := by simpa using hqn
                go_wp2_with fail
                go_round
                case rel => exact ⟨6, by omega, by go_num⟩
                case measure => simp [intOf]
            · by_cases hqn : 6 < r.n
              · cases hqf : r.a6 == f
                · have hne : Hid _ := Lib.hid (show (m6 != r.a6) = false by simp [hm6.out, Rt.mv] at *; intro _ h; exact absurd h hqf)
                  have hne := hne.out
                  go_wp2_with fail
                  go_round
                  case rel => exact ⟨7, by omega, by go_num⟩
                  case measure => simp [intOf]
                · have hne : (m6 != u) = false := by simp at hqf; simp [hm6.out, Rt.mv, hqn, hqf]
                  go_wp2_with fail
                  go_round
                  case rel => exact ⟨7, by omega, by go_num⟩
                  case measure => simp [intOf]
              · have hne : (m6 != r.a6) = false := by simp [hm6.out, Rt.mv, hqn]
                have hqd : decide (6 < r.n) = false := by simpa using hqn
                go_wp2_with fail
                go_round
                case rel => exact ⟨7, by omega, by go_num⟩
                case measure => simp [intOf]
            · by_cases hqn : 7 < r.n
              · cases hqf : r.a7 == f
                · have hne : Hid _ := Lib.hid (show (m7 != r.a7) = false by simp [hm7.out, Rt.mv] at *; intro _ h; exact absurd h hqf)
                  have hne := hne.out
                  go_wp2_with fail
                  go_round
                  case rel => exact ⟨8, by omega, by go_num⟩
                  case measure => simp [intOf]
                · have hne : (m7 != u) = false := by simp at hqf; simp [hm7.out, Rt.mv, hqn, hqf]
                  go_wp2_with fail
                  go_round
                  case rel => exact ⟨8, by omega, by go_num⟩
                  case measure => simp [intOf]
              · have hne : (m7 != r.a7) = false := by simp [hm7.out, Rt.mv, hqn]
                have hqd : decide (7 < r.n) = false := by simpa using hqn
                go_wp2_with fail
                go_round
                case rel => exact ⟨8, by omega, by go_num⟩
                case measure => simp [intOf]
      · have hx1 : decide ((k : Int) < n) = false := by simp; omega
        clear hlt hnn
        go_wp2_with fail
        refine (move_eq hmove.out _).mono ?_
        rintro e w2 ⟨rfl, hb2⟩
        obtain ⟨os2, d2, rfl⟩ := ext_of hb2
        clear hb2
        go_wp2_with fail
        go_loop [12] (fun s12 => ∃ q : Nat, q ≤ 8 ∧ s12 = .int .i64 q) (fun s12 => 8 - (intOf s12).toNat)
        case atStart => exact ⟨0, by omega, rfl⟩
        case round =>
          obtain ⟨q, hq, rfl⟩ := hrel
          by_cases hq8 : q = 8
          · subst hq8
            have HEQ := eq26
            cases th
            · have hback := Lib.hid (show Rt.move ⟨r.n, m0, m1, m2, m3, m4, m5, m6, m7⟩ u f = r by rw [← hmove.out]; exact HB.out (by simp))
              go_wp2_with fail
              go_region_with (go_at_call 24; refine (move_eq hback.out _).mono ?_; rintro e w2 ⟨rfl, hb2⟩; obtain ⟨os3, d3, rfl⟩ := ext_of hb2; clear hb2)
              all_goals (
                go_wp2_with fail
                go_ret
                refine ⟨rfl, hb.trans (Below.mono ?_ hb.size)⟩
                repeat (first | with_reducible exact Below.refl _ _ | refine below_drewN ?_ _ | refine below_ext ?_ (by simp [go_sem]) _ _ | refine Below.alloc ?_ (by simp [go_sem]) _))
            · go_wp2_with fail
              go_quiet (fail)
              go_wp2
              go_ret
              refine ⟨rfl, hb.trans (Below.mono ?_ hb.size)⟩
              repeat (first | with_reducible exact Below.refl _ _ | refine below_drewN ?_ _ | refine below_ext ?_ (by simp [go_sem]) _ _ | refine Below.alloc ?_ (by simp [go_sem]) _)
          · rcases Rt.cases8 (show q < 8 by omega) with rfl | rfl | rfl | rfl | rfl | rfl | rfl | rfl
            · by_cases hqn : 0 < r.n
              · cases hqf : r.a0 == f
                · have hne : Hid _ := Lib.hid (show (m0 != r.a0) = false by simp [hm0.out, Rt.mv] at *; intro _ h; exact absurd h hqf)
                  have hne := hne.out
                  go_wp2_with fail
                  go_round
                  case rel => exact ⟨1, by omega, by go_num⟩
                  case measure => simp [intOf]
                · have hne : (m0 != u) = false := by simp at hqf; simp [hm0.out, Rt.mv, hqn, hqf]
                  go_wp2_with fail
                  go_round
                  case rel => exact ⟨1, by omega, by go_num⟩
                  case measure => simp [intOf]
              · have hne : (m0 != r.a0) = false := by simp [hm0.out, Rt.mv, hqn]
                have hqd : decide (0 < r.n) = false := by simpa using hqn
                go_wp2_with fail
                go_round
                case rel => exact ⟨1, by omega, by go_num⟩
                case measure => simp [intOf]
            · by_cases hqn : 1 < r.n
              · cases hqf : r.a1 == f
                · have hne : Hid _ := Lib.hid (show (m1 != r.a1) = false by simp [hm1.out, Rt.mv] at *; intro _ h; exact absurd h hqf)
                  have hne := hne.out
                  go_wp2_with fail
                  go_round
                  case rel => exact ⟨2, by omega, by go_num⟩
                  case measure => simp [intOf]
                · have hne : (m1 != u) = false := by simp at hqf; simp [hm1.out, Rt.mv, hqn, hqf]
                  go_wp2_with fail
                  go_round
                  case rel => exact ⟨2, by omega, by go_num⟩
                  case measure => simp [intOf]
              · have hne : (m1 != r.a1) = false := by simp [hm1.out, Rt.mv, hqn]
                have hqd : decide (1 < r.n) = false := by simpa using hqn
                go_wp2_with fail
                go_round
                case rel => exact ⟨2, by omega, by go_num⟩
                case measure => simp [intOf]
            · by_cases hqn : 2 < r.n
              · cases hqf : r.a2 == f
                · have hne : Hid _ := Lib.hid (show (m2 != r.a2) = false by simp [hm2.out, Rt.mv] at *; intro _ h; exact absurd h hqf)
                  have hne := hne.out
                  go_wp2_with fail
                  go_round
                  case rel => exact ⟨3, by omega, by go_num⟩
                  case measure => simp [intOf]
                · have hne : (m2 != u) = false := by simp at hqf; simp [hm2.out, Rt.mv, hqn, hqf]
                  go_wp2_with fail
                  go_round
                  case rel => exact ⟨3, by omega, by go_num⟩
                  case measure => simp [intOf]
              · have hne : (m2 != r.a2) = false := by simp [hm2.out, Rt.mv, hqn]
                have hqd : decide (2 < r.n) = false := by simpa using hqn
                go_wp2_with fail
                go_round
                case rel => exact ⟨3, by omega, by go_num⟩
                case measure => simp [intOf]
            · by_cases hqn : 3 < r.n
              · cases hqf : r.a3 == f
                · have hne : Hid _ := Lib.hid (show (m3 != r.a3) = false by simp [hm3.out, Rt.mv] at *; intro _ h; exact absurd h hqf)
                  have hne := hne.out
                  go_wp2_with fail
                  go_round
                  case rel => exact ⟨4, by omega, by go_num⟩
                  case measure => simp [intOf]
                · have hne : (m3 != u) = false := by simp at hqf; simp [hm3.out, Rt.mv, hqn, hqf]
                  go_wp2_with fail
                  go_round
                  case rel => exact ⟨4, by omega, by go_num⟩
                  case measure => simp [intOf]
              · have hne : (m3 != r.a3) = false := by simp [hm3.out, Rt.mv, hqn]
                have hqd : decide (3 < r.n) = false := by simpa using hqn
                go_wp2_with fail
                go_round
                case rel => exact ⟨4, by omega, by go_num⟩
                case measure => simp [intOf]
            · by_cases hqn : 4 < r.n
              · cases hqf : r.a4 == f
                · have hne : Hid _ := Lib.hid (show (m4 != r.a4) = false by simp [hm4.out, Rt.mv] at *; intro _ h; exact absurd h hqf)
                  have hne := hne.out
                  go_wp2_with fail
                  go_round
                  case rel => exact ⟨5, by omega, by go_num⟩
                  case measure => simp [intOf]
                · have hne : (m4 != u) = false := by simp at hqf; simp [hm4.out, Rt.mv, hqn, hqf]
                  go_wp2_with fail
                  go_round
                  case rel => exact ⟨5, by omega, by go_num⟩
                  case measure => simp [intOf]
              · have hne : (m4 != r.a4) = false := by simp [hm4.out, Rt.mv, hqn]
                have hqd : decide (4 < r.n) = false := by simpa using hqn
                go_wp2_with fail
                go_round
                case rel => exact ⟨5, by omega, by go_num⟩
                case measure => simp [intOf]
            · by_cases hqn : 5 < r.n
              · cases hqf : r.a5 == f
                · have hne : Hid _ := Lib.hid (show (m5 != r.a5) = false by simp [hm5.out, Rt.mv] at *; intro _ h; exact absurd h hqf)
                  have hne := hne.out
                  go_wp2_with fail
                  go_round
                  case rel => exact ⟨6, by omega, by go_num⟩
                  case measure => simp [intOf]
                · have hne : (m5 != u) = false := by simp at hqf; simp [hm5.out, Rt.mv, hqn, hqf]
                  go_wp2_with fail
                  go_round
                  case rel => exact ⟨6, by omega, by go_num⟩
                  case measure => simp [intOf]
              · have hne : (m5 != r.a5) = false := by simp [hm5.out, Rt.mv, hqn]
                have hqd : decide (5 < r.n) = false := by simpa using hqn
                go_wp2_with fail
                go_round
                case rel => exact ⟨6, by omega, by go_num⟩
                case measure => simp [intOf]
            · by_cases hqn : 6 < r.n
              · cases hqf : r.a6 == f
                · have hne : Hid _ := Lib.hid (show (m6 != r.a6) = false by simp [hm6.out, Rt.mv] at *; intro _ h; exact absurd h hqf)
                  have hne := hne.out
                  go_wp2_with fail
                  go_round
                  case rel => exact ⟨7, by omega, by go_num⟩
                  case measure => simp [intOf]
                · have hne : (m6 != u) = false := by simp at hqf; simp [hm6.out, Rt.mv, hqn, hqf]
                  go_wp2_with fail
                  go_round
                  case rel => exact ⟨7, by omega, by go_num⟩
                  case measure => simp [intOf]
              · have hne : (m6 != r.a6) = false := by simp [hm6.out, Rt.mv, hqn]
                have hqd : decide (6 < r.n) = false := by simpa using hqn
                go_wp2_with fail
                go_round
                case rel => exact ⟨7, by omega, by go_num⟩
                case measure => simp [intOf]
            · by_cases hqn : 7 < r.n
              · cases hqf : r.a7 == f
                · have hne : Hid _ := Lib.hid (show (m7 != r.a7) = false by simp [hm7.out, Rt.mv] at *; intro _ h; exact absurd h hqf)
                  have hne := hne.out
                  go_wp2_with fail
                  go_round
                  case rel => exact ⟨8, by omega, by go_num⟩
                  case measure => simp [intOf]
                · have hne : (m7 != u) = false := by simp at hqf; simp [hm7.out, Rt.mv, hqn, hqf]
                  go_wp2_with fail
                  go_round
                  case rel => exact ⟨8, by omega, by go_num⟩
                  case measure => simp [intOf]
              · have hne : (m7 != r.a7) = false := by simp [hm7.out, Rt.mv, hqn]
                have hqd : decide (7 < r.n) = false := by simpa using hqn
                go_wp2_with fail
                go_round
                case rel => exact ⟨8, by omega, by go_num⟩
                case measure => simp [intOf]
end Go.Proofs.Ytlogojiphjpknaa
