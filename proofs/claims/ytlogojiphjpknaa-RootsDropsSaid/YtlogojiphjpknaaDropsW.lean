/- flitlaw06.RootsDrops comes to true, whatever row of ints it is handed, and writes nothing that was there. -/
import Derived.Test.YtlogojiphjpknaaBackW
namespace Go.Proofs.Ytlogojiphjpknaa
open Go.RowKit

set_option maxRecDepth 100000 in
set_option maxHeartbeats 4000000 in
theorem drops_walk (A : Option Addr) (n c : Nat) (zs : List Int) (w : World) (hA : Ints w A n zs) (hz : n ≤ zs.length) (hm : n ≤ 9223372036854775807) : Calls Try.prog 5 #[.slice A n c] w (YesP w) := by
  go_enter Try.func5, Try.ntmps5
  go_wp2_with fail
  refine (shown_yes _).mono ?_
  rintro e w1 ⟨rfl, hb⟩
  replace hA := hA.below hb
  go_wp2_with fail
  go_loopw [6, 5] (fun s6 s5 wr => ∃ k : Nat, k ≤ n ∧ k ≤ 8 ∧ s6 = .int .i64 k ∧ s5 = .int .i64 k ∧ Below (w1.alloc (rc (Rt.of (zs.take k)))).heap.size (w1.alloc (rc (Rt.of (zs.take k)))) wr)
    (fun s6 s5 _ => 9 - (intOf s6).toNat)
  case atStart => exact ⟨0, by omega, by omega, rfl, rfl, Below.refl _ _⟩
  case round =>
    obtain ⟨k, hkn, hk8, rfl, rfl, hB⟩ := hrel
    obtain ⟨os, d, rfl⟩ := ext_of hB
    clear hB
    by_cases hlt : k < n ∧ k < 8
    · obtain ⟨hlt, h8⟩ := hlt
      rcases hA with h0 | ⟨b, off, rfl, hbl, hnz, hcell⟩
      · omega
      have hx := hcell k hlt
      have HL : k < zs.length := by omega
      clear hcell hnz
      obtain ⟨r, hr⟩ : ∃ r, r = Rt.of (zs.take k) := ⟨_, rfl⟩
      rw [← hr]
      obtain ⟨x, he⟩ : ∃ x, x = zs.getD k 0 := ⟨_, rfl⟩
      rw [← he] at hx
      have hl : (zs.take k).length < 8 := by simp; omega
      obtain ⟨s, hs⟩ : ∃ s, s = Rt.of (zs.take (k + 1)) := ⟨_, rfl⟩
      have hp := Lib.hid (show r.push x = (s, 0) by rw [hr, hs, he, ← take_succ' HL]; exact Rt.of_push hl)
      have HS := Lib.hid hs
      clear hr he hs
      have h9 : (k : Int) < 8 := by omega
      go_upto_region 7 with fail
      go_region_with (go_at_call 16; refine (push_eq hp.out _).mono ?_; rintro e w2 ⟨rfl, hb2⟩; obtain ⟨os1, d1, rfl⟩ := ext_of hb2; clear hb2)
      all_goals (
      go_wp2_with fail
      go_roundw
      case rel =>
        refine ⟨k + 1, by omega, by omega, by go_num, by go_num, ?_⟩
        rw [← HS.out]
        exact below_ext (Below.refl _ _) (Nat.le_refl _) _ _
      case measure => simp [intOf]; omega)
    · have hmin : k = min n 8 := by omega
      have hkl : k ≤ 8 := by omega
      have hnn : k < n → 8 ≤ k := by omega
      clear hmin
      by_cases hx0 : k < n
      · have hx1 : (k : Int) < n := by omega
        have hx2 : decide ((k : Int) < 8) = false := by simp; omega
        clear hlt
        go_wp2_with fail
        go_loopw [7] (fun s7 wr => ∃ j : Nat, j ≤ k ∧ s7 = .int .i64 j ∧ Below (w1.alloc (rc (Rt.of (zs.take j)))).heap.size (w1.alloc (rc (Rt.of (zs.take j)))) wr) (fun s7 _ => (intOf s7).toNat)
        case atStart => exact ⟨k, Nat.le_refl _, rfl, below_ext (Below.refl _ _) (Nat.le_refl _) _ _⟩
        case round =>
          obtain ⟨j, hjk, rfl, hB⟩ := hrel
          obtain ⟨os2, d2, rfl⟩ := ext_of hB
          clear hB
          by_cases hj0 : j = 0
          · subst hj0
            rw [show Rt.of (zs.take 0) = ⟨0, 0, 0, 0, 0, 0, 0, 0, 0⟩ from rfl]
            have HEQ := eq26
            go_wp2_with fail
            refine (drop_eq (show Rt.drop ⟨0, 0, 0, 0, 0, 0, 0, 0, 0⟩ = (Rt.zero, 12) from rfl) _).mono ?_
            rintro e w2 ⟨rfl, hb2⟩
            obtain ⟨os3, d3, rfl⟩ := ext_of hb2
            clear hb2
            go_wp2
            go_ret
            refine ⟨rfl, hb.trans (Below.mono ?_ hb.size)⟩
            repeat (first | with_reducible exact Below.refl _ _ | refine below_drewN ?_ _ | refine below_ext ?_ (by simp [go_sem]) _ _ | refine Below.alloc ?_ (by simp [go_sem]) _)
          · obtain ⟨m, rfl⟩ : ∃ m, j = m + 1 := ⟨j - 1, by omega⟩
            clear hj0
            rcases hA with h0 | ⟨b, off, rfl, hbl, hnz, hcell⟩
            · omega
            have HL : m < zs.length := by omega
            have hx := hcell m (by omega)
            clear hcell hnz
            obtain ⟨x, he⟩ : ∃ x, x = zs.getD m 0 := ⟨_, rfl⟩
            rw [← he] at hx
            have hl : (zs.take m).length < 8 := by simp; omega
            obtain ⟨r, hr⟩ : ∃ r, r = Rt.of (zs.take (m + 1)) := ⟨_, rfl⟩
            rw [← hr]
            obtain ⟨s, hs⟩ : ∃ s, s = Rt.of (zs.take m) := ⟨_, rfl⟩
            have hg := Lib.hid (show r.get m = (x, 0) by
              rw [hr, Rt.of_get (by simp; omega) (by simp; omega), he]
              congr 1
              simp only [List.getD_eq_getElem?_getD]
              rw [List.getElem?_take_of_lt (by omega)])
            have hd := Lib.hid (show r.drop = (s, 0) by rw [hr, hs, ← take_succ' HL]; exact Rt.of_drop hl)
            have hsn := Lib.hid (show s.n = m by rw [hs]; simp [Rt.of]; omega)
            have HS := Lib.hid hs
            clear hr he hs hl 
            rw [show ((m + 1 : Nat) : Int) = (m : Int) + 1 from by omega]
            go_wp2_with fail
            refine (get_eq hg.out _).mono ?_
            rintro e w2 ⟨rfl, hb2⟩
            obtain ⟨os3, d3, rfl⟩ := ext_of hb2
            clear hb2
            go_wp2_with fail
            refine (drop_eq hd.out _).mono ?_
            rintro e w2 ⟨rfl, hb2⟩
            obtain ⟨os4, d4, rfl⟩ := ext_of hb2
            clear hb2
            have hne : (s.n != (m : Int)) = false := by rw [hsn.out]; simp
            go_wp2_with fail
            go_roundw
            case rel =>
              refine ⟨m, by omega, by go_num, ?_⟩
              rw [← HS.out]
              repeat (first | with_reducible exact Below.refl _ _ | refine below_drewN ?_ _ | refine below_ext ?_ (by simp [go_sem]) _ _ | refine Below.alloc ?_ (by simp [go_sem]) _)
            case measure => simp [intOf]
        
      · have hx1 : decide ((k : Int) < n) = false := by simp; omega
        clear hlt
        go_wp2_with fail
        go_loopw [7] (fun s7 wr => ∃ j : Nat, j ≤ k ∧ s7 = .int .i64 j ∧ Below (w1.alloc (rc (Rt.of (zs.take j)))).heap.size (w1.alloc (rc (Rt.of (zs.take j)))) wr) (fun s7 _ => (intOf s7).toNat)
        case atStart => exact ⟨k, Nat.le_refl _, rfl, below_ext (Below.refl _ _) (Nat.le_refl _) _ _⟩
        case round =>
          obtain ⟨j, hjk, rfl, hB⟩ := hrel
          obtain ⟨os2, d2, rfl⟩ := ext_of hB
          clear hB
          by_cases hj0 : j = 0
          · subst hj0
            rw [show Rt.of (zs.take 0) = ⟨0, 0, 0, 0, 0, 0, 0, 0, 0⟩ from rfl]
            have HEQ := eq26
            go_wp2_with fail
            refine (drop_eq (show Rt.drop ⟨0, 0, 0, 0, 0, 0, 0, 0, 0⟩ = (Rt.zero, 12) from rfl) _).mono ?_
            rintro e w2 ⟨rfl, hb2⟩
            obtain ⟨os3, d3, rfl⟩ := ext_of hb2
            clear hb2
            go_wp2
            go_ret
            refine ⟨rfl, hb.trans (Below.mono ?_ hb.size)⟩
            repeat (first | with_reducible exact Below.refl _ _ | refine below_drewN ?_ _ | refine below_ext ?_ (by simp [go_sem]) _ _ | refine Below.alloc ?_ (by simp [go_sem]) _)
          · obtain ⟨m, rfl⟩ : ∃ m, j = m + 1 := ⟨j - 1, by omega⟩
            clear hj0
            rcases hA with h0 | ⟨b, off, rfl, hbl, hnz, hcell⟩
            · omega
            have HL : m < zs.length := by omega
            have hx := hcell m (by omega)
            clear hcell hnz
            obtain ⟨x, he⟩ : ∃ x, x = zs.getD m 0 := ⟨_, rfl⟩
            rw [← he] at hx
            have hl : (zs.take m).length < 8 := by simp; omega
            obtain ⟨r, hr⟩ : ∃ r, r = Rt.of (zs.take (m + 1)) := ⟨_, rfl⟩
            rw [← hr]
            obtain ⟨s, hs⟩ : ∃ s, s = Rt.of (zs.take m) := ⟨_, rfl⟩
            have hg := Lib.hid (show r.get m = (x, 0) by
              rw [hr, Rt.of_get (by simp; omega) (by simp; omega), he]
              congr 1
              simp only [List.getD_eq_getElem?_getD]
              rw [List.getElem?_take_of_lt (by omega)])
            have hd := Lib.hid (show r.drop = (s, 0) by rw [hr, hs, ← take_succ' HL]; exact Rt.of_drop hl)
            have hsn := Lib.hid (show s.n = m by rw [hs]; simp [Rt.of]; omega)
            have HS := Lib.hid hs
            clear hr he hs hl 
            rw [show ((m + 1 : Nat) : Int) = (m : Int) + 1 from by omega]
            go_wp2_with fail
            refine (get_eq hg.out _).mono ?_
            rintro e w2 ⟨rfl, hb2⟩
            obtain ⟨os3, d3, rfl⟩ := ext_of hb2
            clear hb2
            go_wp2_with fail
            refine (drop_eq hd.out _).mono ?_
            rintro e w2 ⟨rfl, hb2⟩
            obtain ⟨os4, d4, rfl⟩ := ext_of hb2
            clear hb2
            have hne : (s.n != (m : Int)) = false := by rw [hsn.out]; simp
            go_wp2_with fail
            go_roundw
            case rel =>
              refine ⟨m, by omega, by go_num, ?_⟩
              rw [← HS.out]
              repeat (first | with_reducible exact Below.refl _ _ | refine below_drewN ?_ _ | refine below_ext ?_ (by simp [go_sem]) _ _ | refine Below.alloc ?_ (by simp [go_sem]) _)
            case measure => simp [intOf]
        
end Go.Proofs.Ytlogojiphjpknaa
