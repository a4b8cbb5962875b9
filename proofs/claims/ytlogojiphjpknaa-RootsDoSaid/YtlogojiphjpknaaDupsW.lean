/- flitlaw06.RootsDups comes to true, whatever row of ints and whatever place it is handed, and writes nothing that was there. -/
import Derived.Test.YtlogojiphjpknaaBackW
namespace Go.Proofs.Ytlogojiphjpknaa
open Go.RowKit

theorem dup_eq {r s : Rt} {i c : Int} (h : r.dup i = (s, c)) (w : World) : Calls Try.prog 19 #[rv r, .int .i64 i] w fun e w' => e = .returned (.tuple #[rv s, .int .i64 c]) ∧ Below w.heap.size w w' :=
  (dup_any r i w).mono fun _ _ ⟨he, hb⟩ => ⟨by rw [he, h], hb⟩

set_option maxRecDepth 100000 in
set_option maxHeartbeats 4000000 in
theorem dups_walk (A : Option Addr) (n c : Nat) (zs : List Int) (i : Int) (w : World) (hA : Ints w A n zs) (hz : n ≤ zs.length) (hm : n ≤ 9223372036854775807) : Calls Try.prog 4 #[.slice A n c, .int .i64 i] w (YesP w) := by
  go_enter Try.func4, Try.ntmps4
  go_wp2_with fail
  refine (shown_yes _).mono ?_
  rintro e w1 ⟨rfl, hb⟩
  replace hA := hA.below hb
  go_wp2_with fail
  go_loopw [7] (fun s7 wr => ∃ k : Nat, k ≤ n ∧ k ≤ 8 ∧ s7 = .int .i64 k ∧ Below (w1.alloc (rc (Rt.of (zs.take k)))).heap.size (w1.alloc (rc (Rt.of (zs.take k)))) wr)
    (fun s7 _ => 9 - (intOf s7).toNat)
  case atStart => exact ⟨0, by omega, by omega, rfl, Below.refl _ _⟩
  case round =>
    obtain ⟨k, hkn, hk8, rfl, hB⟩ := hrel
    obtain ⟨os, d, rfl⟩ := ext_of hB
    clear hB
    by_cases hlt : k < n ∧ k < 8
    · obtain ⟨hlt, h8⟩ := hlt
      rcases hA with h0 | ⟨b, off, rfl, hbl, hnz, hcell⟩
      · omega
      have hx := hcell k hlt
      have HL : k < zs.length := by omega
      clear hcell hnz
      obtain ⟨r, hr⟩ : ∃ r, r = Rt.of (zs.take k) := ⟨_, rfl⟩
      rw [← hr]
      obtain ⟨x, he⟩ : ∃ x, x = zs.getD k 0 := ⟨_, rfl⟩
      rw [← he] at hx
      have hl : (zs.take k).length < 8 := by simp; omega
      obtain ⟨s, hs⟩ : ∃ s, s = Rt.of (zs.take (k + 1)) := ⟨_, rfl⟩
      have hp := Lib.hid (show r.push x = (s, 0) by rw [hr, hs, he, ← take_succ' HL]; exact Rt.of_push hl)
      have HS := Lib.hid hs
      clear hr he hs
      have h9 : (k : Int) < 8 := by omega
      go_upto_region 6 with fail
      go_region_with (go_at_call 16; refine (push_eq hp.out _).mono ?_; rintro e w2 ⟨rfl, hb2⟩; obtain ⟨os1, d1, rfl⟩ := ext_of hb2; clear hb2)
      all_goals (
      go_wp2_with fail
      go_roundw
      case rel =>
        refine ⟨k + 1, by omega, by omega, by go_num, ?_⟩
        rw [← HS.out]
        exact below_ext (Below.refl _ _) (Nat.le_refl _) _ _
      case measure => simp [intOf]; omega)
    · have hmin : k = min n 8 := by omega
      obtain ⟨r, hr⟩ : ∃ r, r = Rt.of (zs.take k) := ⟨_, rfl⟩
      rw [← hr]
      have hk1 : (zs.take k).length = k := by simp; omega
      have hn : r.n = k := by rw [hr]; simp [Rt.of]; omega
      have hok : r.ok := by rw [hr]; exact Rt.of_ok (by omega)
      have hat : ∀ j : Nat, j < 8 → r.at_ j = (zs.take k).getD j 0 := fun j hj => by rw [hr]; exact Rt.of_at hj
      have HR := Lib.hid hr
      clear hr
      have HEQ := eq26
      have hkl : k ≤ 8 := by omega
      have hnn : k < n → 8 ≤ k := by omega
      by_cases hi0 : i < 0
      · have hdup := Lib.hid (show r.dup i = (⟨0, 0, 0, 0, 0, 0, 0, 0, 0⟩, 12) by unfold Rt.dup; rw [show r.get i = (0, 12) by unfold Rt.get; rw [if_pos hok, if_pos (Or.inl hi0)]]; rfl)
        clear hat HR
        clear hok hk1 hn hmin
        by_cases hx0 : k < n
        · have hx1 : (k : Int) < n := by omega
          have hx2 : decide ((k : Int) < 8) = false := by simp; omega
          clear hnn hlt
          go_wp2_with fail
          refine (dup_eq hdup.out _).mono ?_
          rintro e w2 ⟨rfl, hb2⟩
          obtain ⟨os1, d1, rfl⟩ := ext_of hb2
          clear hb2
          go_wp2
          go_ret
          refine ⟨rfl, hb.trans (Below.mono ?_ hb.size)⟩
          repeat (first | with_reducible exact Below.refl _ _ | refine below_drewN ?_ _ | refine below_ext ?_ (by simp [go_sem]) _ _ | refine Below.alloc ?_ (by simp [go_sem]) _)
        · have hx1 : decide ((k : Int) < n) = false := by simp; omega
          clear hnn hlt
          go_wp2_with fail
          refine (dup_eq hdup.out _).mono ?_
          rintro e w2 ⟨rfl, hb2⟩
          obtain ⟨os1, d1, rfl⟩ := ext_of hb2
          clear hb2
          go_wp2
          go_ret
          refine ⟨rfl, hb.trans (Below.mono ?_ hb.size)⟩
          repeat (first | with_reducible exact Below.refl _ _ | refine below_drewN ?_ _ | refine below_ext ?_ (by simp [go_sem]) _ _ | refine Below.alloc ?_ (by simp [go_sem]) _)
      by_cases hik : (k : Int) ≤ i
      · have hdup := Lib.hid (show r.dup i = (⟨0, 0, 0, 0, 0, 0, 0, 0, 0⟩, 12) by unfold Rt.dup; rw [show r.get i = (0, 12) by unfold Rt.get; rw [if_pos hok, if_pos (Or.inr (by omega))]]; rfl)
        clear hat HR
        have hge : r.n ≤ i := by omega
        clear hok hk1 hn hmin
        by_cases hx0 : k < n
        · have hx1 : (k : Int) < n := by omega
          have hx2 : decide ((k : Int) < 8) = false := by simp; omega
          clear hnn hlt
          go_wp2_with fail
          refine (dup_eq hdup.out _).mono ?_
          rintro e w2 ⟨rfl, hb2⟩
          obtain ⟨os1, d1, rfl⟩ := ext_of hb2
          clear hb2
          go_wp2
          go_ret
          refine ⟨rfl, hb.trans (Below.mono ?_ hb.size)⟩
          repeat (first | with_reducible exact Below.refl _ _ | refine below_drewN ?_ _ | refine below_ext ?_ (by simp [go_sem]) _ _ | refine Below.alloc ?_ (by simp [go_sem]) _)
        · have hx1 : decide ((k : Int) < n) = false := by simp; omega
          clear hnn hlt
          go_wp2_with fail
          refine (dup_eq hdup.out _).mono ?_
          rintro e w2 ⟨rfl, hb2⟩
          obtain ⟨os1, d1, rfl⟩ := ext_of hb2
          clear hb2
          go_wp2
          go_ret
          refine ⟨rfl, hb.trans (Below.mono ?_ hb.size)⟩
          repeat (first | with_reducible exact Below.refl _ _ | refine below_drewN ?_ _ | refine below_ext ?_ (by simp [go_sem]) _ _ | refine Below.alloc ?_ (by simp [go_sem]) _)
      obtain ⟨j, rfl⟩ : ∃ j : Nat, i = j := ⟨i.toNat, by omega⟩
      have hjk : j < k := by omega
      have hget : r.get j = (r.at_ j, 0) := by unfold Rt.get; rw [if_pos hok, if_neg (by omega)]
      by_cases h8 : k = 8
      · have hdup := Lib.hid (show r.dup j = (⟨0, 0, 0, 0, 0, 0, 0, 0, 0⟩, 13) by unfold Rt.dup; rw [hget, if_pos rfl]; unfold Rt.push; rw [if_pos hok, if_pos (by omega)]; rfl)
        clear hat HR
        have hlt0 : ¬ r.n ≤ j := by omega
        have h88 : (r.n == 8) = true := by simp; omega
        clear hok hk1 hget hn hmin h8
        by_cases hx0 : k < n
        · have hx1 : (k : Int) < n := by omega
          have hx2 : decide ((k : Int) < 8) = false := by simp; omega
          clear hnn hlt
          go_wp2_with fail
          refine (dup_eq hdup.out _).mono ?_
          rintro e w2 ⟨rfl, hb2⟩
          obtain ⟨os1, d1, rfl⟩ := ext_of hb2
          clear hb2
          go_wp2
          go_ret
          refine ⟨rfl, hb.trans (Below.mono ?_ hb.size)⟩
          repeat (first | with_reducible exact Below.refl _ _ | refine below_drewN ?_ _ | refine below_ext ?_ (by simp [go_sem]) _ _ | refine Below.alloc ?_ (by simp [go_sem]) _)
        · have hx1 : decide ((k : Int) < n) = false := by simp; omega
          clear hnn hlt
          go_wp2_with fail
          refine (dup_eq hdup.out _).mono ?_
          rintro e w2 ⟨rfl, hb2⟩
          obtain ⟨os1, d1, rfl⟩ := ext_of hb2
          clear hb2
          go_wp2
          go_ret
          refine ⟨rfl, hb.trans (Below.mono ?_ hb.size)⟩
          repeat (first | with_reducible exact Below.refl _ _ | refine below_drewN ?_ _ | refine below_ext ?_ (by simp [go_sem]) _ _ | refine Below.alloc ?_ (by simp [go_sem]) _)
      have hl8 : (zs.take k).length < 8 := by rw [hk1]; omega
      have hs1 : ∃ s, s = Rt.of (zs.take k ++ [r.at_ j]) := ⟨_, rfl⟩
      obtain ⟨s, hs⟩ := hs1
      have hdup := Lib.hid (show r.dup j = (s, 0) by unfold Rt.dup; rw [hget, if_pos rfl, hs, HR.out]; exact Rt.of_push hl8)
      have hdrop := Lib.hid (show s.drop = (r, 0) by rw [hs, HR.out]; exact Rt.of_drop hl8)
      have hsn : s.n = k + 1 := by rw [hs]; simp [Rt.of]; omega
      have hsat : s.at_ k = r.at_ j := by
        rw [hs, Rt.of_at (by omega), List.getD_eq_getElem?_getD, List.getElem?_append_right (by omega)]
        simp [hk1]
      clear hget hs hat hl8
      have hlt1 : decide ((k : Int) < n) = false := by simp; omega
      have hk7 : k < 8 := by omega
      clear hlt hmin hok hk1 hkn hk8 hm hz hik hi0 hnn hkl h8
      obtain ⟨rn, a0, a1, a2, a3, a4, a5, a6, a7⟩ := r
      obtain ⟨sn, b0, b1, b2, b3, b4, b5, b6, b7⟩ := s
      simp only at hn hsn
      subst hn hsn
      rcases Rt.cases8 hk7 with rfl | rfl | rfl | rfl | rfl | rfl | rfl | rfl
      · omega
      · have hlt2 : decide ((1 : Int) < (n : Int)) = false := hlt1
        clear hlt1
        have hj : j = 0 := by omega
        rcases hj with rfl
        · simp [Rt.at_] at hsat
          subst hsat
          go_wp2_with fail
          refine (dup_eq hdup.out _).mono ?_
          rintro e w2 ⟨rfl, hb2⟩
          obtain ⟨os1, d1, rfl⟩ := ext_of hb2
          clear hb2
          go_wp2_with fail
          refine (drop_eq hdrop.out _).mono ?_
          rintro e w2 ⟨rfl, hb2⟩
          obtain ⟨os2, d2, rfl⟩ := ext_of hb2
          clear hb2
          go_wp2_with fail
          go_quiet (fail)
          go_wp2
          go_ret
          refine ⟨rfl, hb.trans (Below.mono ?_ hb.size)⟩
          repeat (first | with_reducible exact Below.refl _ _ | refine below_drewN ?_ _ | refine below_ext ?_ (by simp [go_sem]) _ _ | refine Below.alloc ?_ (by simp [go_sem]) _)
      · have hlt2 : decide ((2 : Int) < (n : Int)) = false := hlt1
        clear hlt1
        have hj : j = 0 ∨ j = 1 := by omega
        rcases hj with rfl | rfl
        · simp [Rt.at_] at hsat
          subst hsat
          go_wp2_with fail
          refine (dup_eq hdup.out _).mono ?_
          rintro e w2 ⟨rfl, hb2⟩
          obtain ⟨os1, d1, rfl⟩ := ext_of hb2
          clear hb2
          go_wp2_with fail
          refine (drop_eq hdrop.out _).mono ?_
          rintro e w2 ⟨rfl, hb2⟩
          obtain ⟨os2, d2, rfl⟩ := ext_of hb2
          clear hb2
          go_wp2_with fail
          go_quiet (fail)
          go_wp2
          go_ret
          refine ⟨rfl, hb.trans (Below.mono ?_ hb.size)⟩
          repeat (first | with_reducible exact Below.refl _ _ | refine below_drewN ?_ _ | refine below_ext ?_ (by simp [go_sem]) _ _ | refine Below.alloc ?_ (by simp [go_sem]) _)
        · simp [Rt.at_] at hsat
          subst hsat
          go_wp2_with fail
          refine (dup_eq hdup.out _).mono ?_
          rintro e w2 ⟨rfl, hb2⟩
          obtain ⟨os1, d1, rfl⟩ := ext_of hb2
          clear hb2
          go_wp2_with fail
          refine (drop_eq hdrop.out _).mono ?_
          rintro e w2 ⟨rfl, hb2⟩
          obtain ⟨os2, d2, rfl⟩ := ext_of hb2
          clear hb2
          go_wp2_with fail
          go_quiet (fail)
          go_wp2
          go_ret
          refine ⟨rfl, hb.trans (Below.mono ?_ hb.size)⟩
          repeat (first | with_reducible exact Below.refl _ _ | refine below_drewN ?_ _ | refine below_ext ?_ (by simp [go_sem]) _ _ | refine Below.alloc ?_ (by simp [go_sem]) _)
      · have hlt2 : decide ((3 : Int) < (n : Int)) = false := hlt1
        clear hlt1
        have hj : j = 0 ∨ j = 1 ∨ j = 2 := by omega
        rcases hj with rfl | rfl | rfl
        · simp [Rt.at_] at hsat
          subst hsat
          go_wp2_with fail
          refine (dup_eq hdup.out _).mono ?_
          rintro e w2 ⟨rfl, hb2⟩
          obtain ⟨os1, d1, rfl⟩ := ext_of hb2
          clear hb2
          go_wp2_with fail
          refine (drop_eq hdrop.out _).mono ?_
          rintro e w2 ⟨rfl, hb2⟩
          obtain ⟨os2, d2, rfl⟩ := ext_of hb2
          clear hb2
          go_wp2_with fail
          go_quiet (fail)
          go_wp2
          go_ret
          refine ⟨rfl, hb.trans (Below.mono ?_ hb.size)⟩
          repeat (first | with_reducible exact Below.refl _ _ | refine below_drewN ?_ _ | refine below_ext ?_ (by simp [go_sem]) _ _ | refine Below.alloc ?_ (by simp [go_sem]) _)
        · simp [Rt.at_] at hsat
          subst hsat
          go_wp2_with fail
          refine (dup_eq hdup.out _).mono ?_
          rintro e w2 ⟨rfl, hb2⟩
          obtain ⟨os1, d1, rfl⟩ := ext_of hb2
          clear hb2
          go_wp2_with fail
          refine (drop_eq hdrop.out _).mono ?_
          rintro e w2 ⟨rfl, hb2⟩
          obtain ⟨os2, d2, rfl⟩ := ext_of hb2
          clear hb2
          go_wp2_with fail
          go_quiet (fail)
          go_wp2
          go_ret
          refine ⟨rfl, hb.trans (Below.mono ?_ hb.size)⟩
          repeat (first | with_reducible exact Below.refl _ _ | refine below_drewN ?_ _ | refine below_ext ?_ (by simp [go_sem]) _ _ | refine Below.alloc ?_ (by simp [go_sem]) _)
        · simp [Rt.at_] at hsat
          subst hsat
          go_wp2_with fail
          refine (dup_eq hdup.out _).mono ?_
          rintro e w2 ⟨rfl, hb2⟩
          obtain ⟨os1, d1, rfl⟩ := ext_of hb2
          clear hb2
          go_wp2_with fail
          refine (drop_eq hdrop.out _).mono ?_
          rintro e w2 ⟨rfl, hb2⟩
          obtain ⟨os2, d2, rfl⟩ := ext_of hb2
          clear hb2
          go_wp2_with fail
          go_quiet (fail)
          go_wp2
          go_ret
          refine ⟨rfl, hb.trans (Below.mono ?_ hb.size)⟩
          repeat (first | with_reducible exact Below.refl _ _ | refine below_drewN ?_ _ | refine below_ext ?_ (by simp [go_sem]) _ _ | refine Below.alloc ?_ (by simp [go_sem]) _)
      · have hlt2 : decide ((4 : Int) < (n : Int)) = false := hlt1
        clear hlt1
        have hj : j = 0 ∨ j = 1 ∨ j = 2 ∨ j = 3 := by omega
        rcases hj with rfl | rfl | rfl | rfl
        · simp [Rt.at_] at hsat
          subst hsat
          go_wp2_with fail
          refine (dup_eq hdup.out _).mono ?_
          rintro e w2 ⟨rfl, hb2⟩
          obtain ⟨os1, d1, rfl⟩ := ext_of hb2
          clear hb2
          go_wp2_with fail
          refine (drop_eq hdrop.out _).mono ?_
          rintro e w2 ⟨rfl, hb2⟩
          obtain ⟨os2, d2, rfl⟩ := ext_of hb2
          clear hb2
          go_wp2_with fail
          go_quiet (fail)
          go_wp2
          go_ret
          refine ⟨rfl, hb.trans (Below.mono ?_ hb.size)⟩
          repeat (first | with_reducible exact Below.refl _ _ | refine below_drewN ?_ _ | refine below_ext ?_ (by simp [go_sem]) _ _ | refine Below.alloc ?_ (by simp [go_sem]) _)
        · simp [Rt.at_] at hsat
          subst hsat
          go_wp2_with fail
          refine (dup_eq hdup.out _).mono ?_
          rintro e w2 ⟨rfl, hb2⟩
          obtain ⟨os1, d1, rfl⟩ := ext_of hb2
          clear hb2
          go_wp2_with fail
          refine (drop_eq hdrop.out _).mono ?_
          rintro e w2 ⟨rfl, hb2⟩
          obtain ⟨os2, d2, rfl⟩ := ext_of hb2
          clear hb2
          go_wp2_with fail
          go_quiet (fail)
          go_wp2
          go_ret
          refine ⟨rfl, hb.trans (Below.mono ?_ hb.size)⟩
          repeat (first | with_reducible exact Below.refl _ _ | refine below_drewN ?_ _ | refine below_ext ?_ (by simp [go_sem]) _ _ | refine Below.alloc ?_ (by simp [go_sem]) _)
        · simp [Rt.at_] at hsat
          subst hsat
          go_wp2_with fail
          refine (dup_eq hdup.out _).mono ?_
          rintro e w2 ⟨rfl, hb2⟩
          obtain ⟨os1, d1, rfl⟩ := ext_of hb2
          clear hb2
          go_wp2_with fail
          refine (drop_eq hdrop.out _).mono ?_
          rintro e w2 ⟨rfl, hb2⟩
          obtain ⟨os2, d2, rfl⟩ := ext_of hb2
          clear hb2
          go_wp2_with fail
          go_quiet (fail)
          go_wp2
          go_ret
          refine ⟨rfl, hb.trans (Below.mono ?_ hb.size)⟩
          repeat (first | with_reducible exact Below.refl _ _ | refine below_drewN ?_ _ | refine below_ext ?_ (by simp [go_sem]) _ _ | refine Below.alloc ?_ (by simp [go_sem]) _)
        · simp [Rt.at_] at hsat
          subst hsat
          go_wp2_with fail
          refine (dup_eq hdup.out _).mono ?_
          rintro e w2 ⟨rfl, hb2⟩
          obtain ⟨os1, d1, rfl⟩ := ext_of hb2
          clear hb2
          go_wp2_with fail
          refine (drop_eq hdrop.out _).mono ?_
          rintro e w2 ⟨rfl, hb2⟩
          obtain ⟨os2, d2, rfl⟩ := ext_of hb2
          clear hb2
          go_wp2_with fail
          go_quiet (fail)
          go_wp2
          go_ret
          refine ⟨rfl, hb.trans (Below.mono ?_ hb.size)⟩
          repeat (first | with_reducible exact Below.refl _ _ | refine below_drewN ?_ _ | refine below_ext ?_ (by simp [go_sem]) _ _ | refine Below.alloc ?_ (by simp [go_sem]) _)
      · have hlt2 : decide ((5 : Int) < (n : Int)) = false := hlt1
        clear hlt1
        have hj : j = 0 ∨ j = 1 ∨ j = 2 ∨ j = 3 ∨ j = 4 := by omega
        rcases hj with rfl | rfl | rfl | rfl | rfl
        · simp [Rt.at_] at hsat
          subst hsat
          go_wp2_with fail
          refine (dup_eq hdup.out _).mono ?_
          rintro e w2 ⟨rfl, hb2⟩
          obtain ⟨os1, d1, rfl⟩ := ext_of hb2
          clear hb2
          go_wp2_with fail
          refine (drop_eq hdrop.out _).mono ?_
          rintro e w2 ⟨rfl, hb2⟩
          obtain ⟨os2, d2, rfl⟩ := ext_of hb2
          clear hb2
          go_wp2_with fail
          go_quiet (fail)
          go_wp2
          go_ret
          refine ⟨rfl, hb.trans (Below.mono ?_ hb.size)⟩
          repeat (first | with_reducible exact Below.refl _ _ | refine below_drewN ?_ _ | refine below_ext ?_ (by simp [go_sem]) _ _ | refine Below.alloc ?_ (by simp [go_sem]) _)
        · simp [Rt.at_] at hsat
          subst hsat
          go_wp2_with fail
          refine (dup_eq hdup.out _).mono ?_
          rintro e w2 ⟨rfl, hb2⟩
          obtain ⟨os1, d1, rfl⟩ := ext_of hb2
          clear hb2
          go_wp2_with fail
          refine (drop_eq hdrop.out _).mono ?_
          rintro e w2 ⟨rfl, hb2⟩
          obtain ⟨os2, d2, rfl⟩ := ext_of hb2
          clear hb2
          go_wp2_with fail
          go_quiet (fail)
          go_wp2
          go_ret
          refine ⟨rfl, hb.trans (Below.mono ?_ hb.size)⟩
          repeat (first | with_reducible exact Below.refl _ _ | refine below_drewN ?_ _ | refine below_ext ?_ (by simp [go_sem]) _ _ | refine Below.alloc ?_ (by simp [go_sem]) _)
        · simp [Rt.at_] at hsat
          subst hsat
          go_wp2_with fail
          refine (dup_eq hdup.out _).mono ?_
          rintro e w2 ⟨rfl, hb2⟩
          obtain ⟨os1, d1, rfl⟩ := ext_of hb2
          clear hb2
          go_wp2_with fail
          refine (drop_eq hdrop.out _).mono ?_
          rintro e w2 ⟨rfl, hb2⟩
          obtain ⟨os2, d2, rfl⟩ := ext_of hb2
          clear hb2
          go_wp2_with fail
          go_quiet (fail)
          go_wp2
          go_ret
          refine ⟨rfl, hb.trans (Below.mono ?_ hb.size)⟩
          repeat (first | with_reducible exact Below.refl _ _ | refine below_drewN ?_ _ | refine below_ext ?_ (by simp [go_sem]) _ _ | refine Below.alloc ?_ (by simp [go_sem]) _)
        · simp [Rt.at_] at hsat
          subst hsat
          go_wp2_with fail
          refine (dup_eq hdup.out _).mono ?_
          rintro e w2 ⟨rfl, hb2⟩
          obtain ⟨os1, d1, rfl⟩ := ext_of hb2
          clear hb2
          go_wp2_with fail
          refine (drop_eq hdrop.out _).mono ?_
          rintro e w2 ⟨rfl, hb2⟩
          obtain ⟨os2, d2, rfl⟩ := ext_of hb2
          clear hb2
          go_wp2_with fail
          go_quiet (fail)
          go_wp2
          go_ret
          refine ⟨rfl, hb.trans (Below.mono ?_ hb.size)⟩
          repeat (first | with_reducible exact Below.refl _ _ | refine below_drewN ?_ _ | refine below_ext ?_ (by simp [go_sem]) _ _ | refine Below.alloc ?_ (by simp [go_sem]) _)
        · simp [Rt.at_] at hsat
          subst hsat
          go_wp2_with fail
          refine (dup_eq hdup.out _).mono ?_
          rintro e w2 ⟨rfl, hb2⟩
          obtain ⟨os1, d1, rfl⟩ := ext_of hb2
          clear hb2
          go_wp2_with fail
          refine (drop_eq hdrop.out _).mono ?_
          rintro e w2 ⟨rfl, hb2⟩
          obtain ⟨os2, d2, rfl⟩ := ext_of hb2
          clear hb2
          go_wp2_with fail
          go_quiet (fail)
          go_wp2
          go_ret
          refine ⟨rfl, hb.trans (Below.mono ?_ hb.size)⟩
          repeat (first | with_reducible exact Below.refl _ _ | refine below_drewN ?_ _ | refine below_ext ?_ (by simp [go_sem]) _ _ | refine Below.alloc ?_ (by simp [go_sem]) _)
      · have hlt2 : decide ((6 : Int) < (n : Int)) = false := hlt1
        clear hlt1
        have hj : j = 0 ∨ j = 1 ∨ j = 2 ∨ j = 3 ∨ j = 4 ∨ j = 5 := by omega
        rcases hj with rfl | rfl | rfl | rfl | rfl | rfl
        · simp [Rt.at_] at hsat
          subst hsat
          go_wp2_with fail
          refine (dup_eq hdup.out _).mono ?_
          rintro e w2 ⟨rfl, hb2⟩
          obtain ⟨os1, d1, rfl⟩ := ext_of hb2
          clear hb2
          go_wp2_with fail
          refine (drop_eq hdrop.out _).mono ?_
          rintro e w2 ⟨rfl, hb2⟩
          obtain ⟨os2, d2, rfl⟩ := ext_of hb2
          clear hb2
          go_wp2_with fail
          go_quiet (fail)
          go_wp2
          go_ret
          refine ⟨rfl, hb.trans (Below.mono ?_ hb.size)⟩
          repeat (first | with_reducible exact Below.refl _ _ | refine below_drewN ?_ _ | refine below_ext ?_ (by simp [go_sem]) _ _ | refine Below.alloc ?_ (by simp [go_sem]) _)
        · simp [Rt.at_] at hsat
          subst hsat
          go_wp2_with fail
          refine (dup_eq hdup.out _).mono ?_
          rintro e w2 ⟨rfl, hb2⟩
          obtain ⟨os1, d1, rfl⟩ := ext_of hb2
          clear hb2
          go_wp2_with fail
          refine (drop_eq hdrop.out _).mono ?_
          rintro e w2 ⟨rfl, hb2⟩
          obtain ⟨os2, d2, rfl⟩ := ext_of hb2
          clear hb2
          go_wp2_with fail
          go_quiet (fail)
          go_wp2
          go_ret
          refine ⟨rfl, hb.trans (Below.mono ?_ hb.size)⟩
          repeat (first | with_reducible exact Below.refl _ _ | refine below_drewN ?_ _ | refine below_ext ?_ (by simp [go_sem]) _ _ | refine Below.alloc ?_ (by simp [go_sem]) _)
        · simp [Rt.at_] at hsat
          subst hsat
          go_wp2_with fail
          refine (dup_eq hdup.out _).mono ?_
          rintro e w2 ⟨rfl, hb2⟩
          obtain ⟨os1, d1, rfl⟩ := ext_of hb2
          clear hb2
          go_wp2_with fail
          refine (drop_eq hdrop.out _).mono ?_
          rintro e w2 ⟨rfl, hb2⟩
          obtain ⟨os2, d2, rfl⟩ := ext_of hb2
          clear hb2
          go_wp2_with fail
          go_quiet (fail)
          go_wp2
          go_ret
          refine ⟨rfl, hb.trans (Below.mono ?_ hb.size)⟩
          repeat (first | with_reducible exact Below.refl _ _ | refine below_drewN ?_ _ | refine below_ext ?_ (by simp [go_sem]) _ _ | refine Below.alloc ?_ (by simp [go_sem]) _)
        · simp [Rt.at_] at hsat
          subst hsat
          go_wp2_with fail
          refine (dup_eq hdup.out _).mono ?_
          rintro e w2 ⟨rfl, hb2⟩
          obtain ⟨os1, d1, rfl⟩ := ext_of hb2
          clear hb2
          go_wp2_with fail
          refine (drop_eq hdrop.out _).mono ?_
          rintro e w2 ⟨rfl, hb2⟩
          obtain ⟨os2, d2, rfl⟩ := ext_of hb2
          clear hb2
          go_wp2_with fail
          go_quiet (fail)
          go_wp2
          go_ret
          refine ⟨rfl, hb.trans (Below.mono ?_ hb.size)⟩
          repeat (first | with_reducible exact Below.refl _ _ | refine below_drewN ?_ _ | refine below_ext ?_ (by simp [go_sem]) _ _ | refine Below.alloc ?_ (by simp [go_sem]) _)
        · simp [Rt.at_] at hsat
          subst hsat
          go_wp2_with fail
          refine (dup_eq hdup.out _).mono ?_
          rintro e w2 ⟨rfl, hb2⟩
          obtain ⟨os1, d1, rfl⟩ := ext_of hb2
          clear hb2
          go_wp2_with fail
          refine (drop_eq hdrop.out _).mono ?_
          rintro e w2 ⟨rfl, hb2⟩
          obtain ⟨os2, d2, rfl⟩ := ext_of hb2
          clear hb2
          go_wp2_with fail
          go_quiet (fail)
          go_wp2
          go_ret
          refine ⟨rfl, hb.trans (Below.mono ?_ hb.size)⟩
          repeat (first | with_reducible exact Below.refl _ _ | refine below_drewN ?_ _ | refine below_ext ?_ (by simp [go_sem]) _ _ | refine Below.alloc ?_ (by simp [go_sem]) _)
        · simp [Rt.at_] at hsat
          subst hsat
          go_wp2_with fail
          refine (dup_eq hdup.out _).mono ?_
          rintro e w2 ⟨rfl, hb2⟩
          obtain ⟨os1, d1, rfl⟩ := ext_of hb2
          clear hb2
          go_wp2_with fail
          refine (drop_eq hdrop.out _).mono ?_
          rintro e w2 ⟨rfl, hb2⟩
          obtain ⟨os2, d2, rfl⟩ := ext_of hb2
          clear hb2
          go_wp2_with fail
          go_quiet (fail)
          go_wp2
          go_ret
          refine ⟨rfl, hb.trans (Below.mono ?_ hb.size)⟩
          repeat (first | with_reducible exact Below.refl _ _ | refine below_drewN ?_ _ | refine below_ext ?_ (by simp [go_sem]) _ _ | refine Below.alloc ?_ (by simp [go_sem]) _)
      · have hlt2 : decide ((7 : Int) < (n : Int)) = false := hlt1
        clear hlt1
        have hj : j = 0 ∨ j = 1 ∨ j = 2 ∨ j = 3 ∨ j = 4 ∨ j = 5 ∨ j = 6 := by omega
        rcases hj with rfl | rfl | rfl | rfl | rfl | rfl | rfl
        · simp [Rt.at_] at hsat
          subst hsat
          go_wp2_with fail
          refine (dup_eq hdup.out _).mono ?_
          rintro e w2 ⟨rfl, hb2⟩
          obtain ⟨os1, d1, rfl⟩ := ext_of hb2
          clear hb2
          go_wp2_with fail
          refine (drop_eq hdrop.out _).mono ?_
          rintro e w2 ⟨rfl, hb2⟩
          obtain ⟨os2, d2, rfl⟩ := ext_of hb2
          clear hb2
          go_wp2_with fail
          go_quiet (fail)
          go_wp2
          go_ret
          refine ⟨rfl, hb.trans (Below.mono ?_ hb.size)⟩
          repeat (first | with_reducible exact Below.refl _ _ | refine below_drewN ?_ _ | refine below_ext ?_ (by simp [go_sem]) _ _ | refine Below.alloc ?_ (by simp [go_sem]) _)
        · simp [Rt.at_] at hsat
          subst hsat
          go_wp2_with fail
          refine (dup_eq hdup.out _).mono ?_
          rintro e w2 ⟨rfl, hb2⟩
          obtain ⟨os1, d1, rfl⟩ := ext_of hb2
          clear hb2
          go_wp2_with fail
          refine (drop_eq hdrop.out _).mono ?_
          rintro e w2 ⟨rfl, hb2⟩
          obtain ⟨os2, d2, rfl⟩ := ext_of hb2
          clear hb2
          go_wp2_with fail
          go_quiet (fail)
          go_wp2
          go_ret
          refine ⟨rfl, hb.trans (Below.mono ?_ hb.size)⟩
          repeat (first | with_reducible exact Below.refl _ _ | refine below_drewN ?_ _ | refine below_ext ?_ (by simp [go_sem]) _ _ | refine Below.alloc ?_ (by simp [go_sem]) _)
        · simp [Rt.at_] at hsat
          subst hsat
          go_wp2_with fail
          refine (dup_eq hdup.out _).mono ?_
          rintro e w2 ⟨rfl, hb2⟩
          obtain ⟨os1, d1, rfl⟩ := ext_of hb2
          clear hb2
          go_wp2_with fail
          refine (drop_eq hdrop.out _).mono ?_
          rintro e w2 ⟨rfl, hb2⟩
          obtain ⟨os2, d2, rfl⟩ := ext_of hb2
          clear hb2
          go_wp2_with fail
          go_quiet (fail)
          go_wp2
          go_ret
          refine ⟨rfl, hb.trans (Below.mono ?_ hb.size)⟩
          repeat (first | with_reducible exact Below.refl _ _ | refine below_drewN ?_ _ | refine below_ext ?_ (by simp [go_sem]) _ _ | refine Below.alloc ?_ (by simp [go_sem]) _)
        · simp [Rt.at_] at hsat
          subst hsat
          go_wp2_with fail
          refine (dup_eq hdup.out _).mono ?_
          rintro e w2 ⟨rfl, hb2⟩
          obtain ⟨os1, d1, rfl⟩ := ext_of hb2
          clear hb2
          go_wp2_with fail
          refine (drop_eq hdrop.out _).mono ?_
          rintro e w2 ⟨rfl, hb2⟩
          obtain ⟨os2, d2, rfl⟩ := ext_of hb2
          clear hb2
          go_wp2_with fail
          go_quiet (fail)
          go_wp2
          go_ret
          refine ⟨rfl, hb.trans (Below.mono ?_ hb.size)⟩
          repeat (first | with_reducible exact Below.refl _ _ | refine below_drewN ?_ _ | refine below_ext ?_ (by simp [go_sem]) _ _ | refine Below.alloc ?_ (by simp [go_sem]) _)
        · simp [Rt.at_] at hsat
          subst hsat
          go_wp2_with fail
          refine (dup_eq hdup.out _).mono ?_
          rintro e w2 ⟨rfl, hb2⟩
          obtain ⟨os1, d1, rfl⟩ := ext_of hb2
          clear hb2
          go_wp2_with fail
          refine (drop_eq hdrop.out _).mono ?_
          rintro e w2 ⟨rfl, hb2⟩
          obtain ⟨os2, d2, rfl⟩ := ext_of hb2
          clear hb2
          go_wp2_with fail
          go_quiet (fail)
          go_wp2
          go_ret
          refine ⟨rfl, hb.trans (Below.mono ?_ hb.size)⟩
          repeat (first | with_reducible exact Below.refl _ _ | refine below_drewN ?_ _ | refine below_ext ?_ (by simp [go_sem]) _ _ | refine Below.alloc ?_ (by simp [go_sem]) _)
        · simp [Rt.at_] at hsat
          subst hsat
          go_wp2_with fail
          refine (dup_eq hdup.out _).mono ?_
          rintro e w2 ⟨rfl, hb2⟩
          obtain ⟨os1, d1, rfl⟩ := ext_of hb2
          clear hb2
          go_wp2_with fail
          refine (drop_eq hdrop.out _).mono ?_
          rintro e w2 ⟨rfl, hb2⟩
          obtain ⟨os2, d2, rfl⟩ := ext_of hb2
          clear hb2
          go_wp2_with fail
          go_quiet (fail)
          go_wp2
          go_ret
          refine ⟨rfl, hb.trans (Below.mono ?_ hb.size)⟩
          repeat (first | with_reducible exact Below.refl _ _ | refine below_drewN ?_ _ | refine below_ext ?_ (by simp [go_sem]) _ _ | refine Below.alloc ?_ (by simp [go_sem]) _)
        · simp [Rt.at_] at hsat
          subst hsat
          go_wp2_with fail
          refine (dup_eq hdup.out _).mono ?_
          rintro e w2 ⟨rfl, hb2⟩
          obtain ⟨os1, d1, rfl⟩ := ext_of hb2
          clear hb2
          go_wp2_with fail
          refine (drop_eq hdrop.out _).mono ?_
          rintro e w2 ⟨rfl, hb2⟩
          obtain ⟨os2, d2, rfl⟩ := ext_of hb2
          clear hb2
          go_wp2_with fail
          go_quiet (fail)
          go_wp2
          go_ret
          refine ⟨rfl, hb.trans (Below.mono ?_ hb.size)⟩
          repeat (first | with_reducible exact Below.refl _ _ | refine below_drewN ?_ _ | refine below_ext ?_ (by simp [go_sem]) _ _ | refine Below.alloc ?_ (by simp [go_sem]) _)
end Go.Proofs.Ytlogojiphjpknaa
