/- flitlaw06.RootsBack comes to true, whatever row of ints it is handed, and writes nothing that was there. -/
import Derived.Test.YtlogojiphjpknaaShown
import Derived.Deep.DeepCutAuto
namespace Go.Proofs.Ytlogojiphjpknaa
open Go.RowKit

theorem push_eq {r s : Rt} {a c : Int} (h : r.push a = (s, c)) (w : World) : Calls Try.prog 16 #[rv r, .int .i64 a] w fun e w' => e = .returned (.tuple #[rv s, .int .i64 c]) ∧ Below w.heap.size w w' :=
  (push_any r a w).mono fun _ _ ⟨he, hb⟩ => ⟨by rw [he, h], hb⟩
theorem drop_eq {r s : Rt} {c : Int} (h : r.drop = (s, c)) (w : World) : Calls Try.prog 17 #[rv r] w fun e w' => e = .returned (.tuple #[rv s, .int .i64 c]) ∧ Below w.heap.size w w' :=
  (drop_any r w).mono fun _ _ ⟨he, hb⟩ => ⟨by rw [he, h], hb⟩
theorem get_eq {r : Rt} {i a c : Int} (h : r.get i = (a, c)) (w : World) : Calls Try.prog 18 #[rv r, .int .i64 i] w fun e w' => e = .returned (.tuple #[.int .i64 a, .int .i64 c]) ∧ Below w.heap.size w w' :=
  (get_any r i w).mono fun _ _ ⟨he, hb⟩ => ⟨by rw [he, h], hb⟩

theorem take_succ' {zs : List Int} {k : Nat} (h : k < zs.length) : zs.take k ++ [zs.getD k 0] = zs.take (k + 1) := by
  rw [List.take_succ_eq_append_getElem h, List.getD_eq_getElem?_getD, List.getElem?_eq_getElem h]; rfl

abbrev rc (r : Rt) : Obj := .cells #[.int .i64 r.n, .int .i64 r.a0, .int .i64 r.a1, .int .i64 r.a2, .int .i64 r.a3, .int .i64 r.a4, .int .i64 r.a5, .int .i64 r.a6, .int .i64 r.a7] 26

set_option maxRecDepth 100000 in
set_option maxHeartbeats 4000000 in
theorem back_walk (A : Option Addr) (n c : Nat) (zs : List Int) (w : World) (hA : Ints w A n zs) (hz : n ≤ zs.length) (hm : n ≤ 9223372036854775807) : Calls Try.prog 3 #[.slice A n c] w (YesP w) := by
  go_enter Try.func3, Try.ntmps3
  go_wp2_with fail
  refine (shown_yes _).mono ?_
  rintro e w1 ⟨rfl, hb⟩
  replace hA := hA.below hb
  go_wp2_with fail
  go_loopw [5] (fun i wr => ∃ (k : Nat), k ≤ n ∧ k ≤ 8 ∧ i = .int .i64 k ∧ Below (w1.alloc (rc (Rt.of (zs.take k)))).heap.size (w1.alloc (rc (Rt.of (zs.take k)))) wr)
    (fun i _ => 9 - (intOf i).toNat)
  case atStart => exact ⟨0, by omega, by omega, rfl, Below.refl _ _⟩
  case round =>
    obtain ⟨k, hkn, hk8, rfl, hB⟩ := hrel
    obtain ⟨os, d, rfl⟩ := ext_of hB
    clear hB
    by_cases hlt : k < n
    · rcases hA with h0 | ⟨b, off, rfl, hbl, hnz, hcell⟩
      · omega
      have hx := hcell k hlt
      have HR := Lib.hid hcell
      have HL : k < zs.length := by omega
      clear hcell hnz
      obtain ⟨r, hr⟩ : ∃ r, r = Rt.of (zs.take k) := ⟨_, rfl⟩
      rw [← hr]
      obtain ⟨x, he⟩ : ∃ x, x = zs.getD k 0 := ⟨_, rfl⟩
      rw [← he] at hx
      by_cases h8 : k = 8
      · have hp := Lib.hid (show r.push x = (Rt.zero, 13) by rw [hr]; exact Rt.of_push_full (by simp; omega))
        clear hr he
        subst h8
        go_upto_region 6 with fail
        go_cut [6, 7] (fun s6 s7 wx => s7 = .int .i64 13 ∧ Below w.heap.size w wx)
        case first =>
          go_region_held3 (fun w' => w'.cell? ⟨b, off + 8, none⟩ = some (.int .i64 x) ∧ w'.cell? ⟨w1.heap.size, 0, none⟩ = some (.int .i64 r.n) ∧ w'.cell? ⟨w1.heap.size, 1, none⟩ = some (.int .i64 r.a0) ∧ w'.cell? ⟨w1.heap.size, 2, none⟩ = some (.int .i64 r.a1) ∧ w'.cell? ⟨w1.heap.size, 3, none⟩ = some (.int .i64 r.a2) ∧ w'.cell? ⟨w1.heap.size, 4, none⟩ = some (.int .i64 r.a3) ∧ w'.cell? ⟨w1.heap.size, 5, none⟩ = some (.int .i64 r.a4) ∧ w'.cell? ⟨w1.heap.size, 6, none⟩ = some (.int .i64 r.a5) ∧ w'.cell? ⟨w1.heap.size, 7, none⟩ = some (.int .i64 r.a6) ∧ w'.cell? ⟨w1.heap.size, 8, none⟩ = some (.int .i64 r.a7)) (go_simp)
            ((go_at_call 16; refine (push_eq hp.out _).mono ?_; rintro e w2 ⟨rfl, hb2⟩; obtain ⟨os1, d1, rfl⟩ := ext_of hb2; clear hb2))
          all_goals
            go_wp2_with fail
            go_meet
            refine ⟨rfl, ?_⟩
            refine hb.trans (Below.mono ?_ hb.size)
            repeat (first | with_reducible exact Below.refl _ _ | refine below_ext ?_ (by simp [go_sem]) _ _ | refine Below.alloc ?_ (by simp [go_sem]) _)
        case rest =>
          obtain ⟨rfl, hB⟩ := hcut
          go_wp2
          go_ret
          exact ⟨rfl, hB⟩
      · have hl : (zs.take k).length < 8 := by simp; omega
        obtain ⟨s, hs⟩ : ∃ s, s = Rt.of (zs.take (k + 1)) := ⟨_, rfl⟩
        have hp := Lib.hid (show r.push x = (s, 0) by rw [hr, hs, he, ← take_succ' HL]; exact Rt.of_push hl)
        have hd := Lib.hid (show s.drop = (r, 0) by rw [hr, hs, ← take_succ' HL]; exact Rt.of_drop hl)
        have HS := Lib.hid hs
        clear hr he hs
        have h8' : ((k : Int) == 8) = false := by simp; omega
        have h9 : (k : Int) < 9 := by omega
        go_upto_region 6 with fail
        go_cut [6, 7] (fun s6 s7 wx => ∃ W : World, s6 = .pointer (some ⟨W.heap.size, 0, none⟩) ∧ s7 = .int .i64 0 ∧ Below (w1.alloc (rc r)).heap.size (w1.alloc (rc r)) W ∧ Below (W.alloc (rc s)).heap.size (W.alloc (rc s)) wx)
        case first =>
          go_region_held3 (fun w' => w'.cell? ⟨b, off + k, none⟩ = some (.int .i64 x) ∧ w'.cell? ⟨w1.heap.size, 0, none⟩ = some (.int .i64 r.n) ∧ w'.cell? ⟨w1.heap.size, 1, none⟩ = some (.int .i64 r.a0) ∧ w'.cell? ⟨w1.heap.size, 2, none⟩ = some (.int .i64 r.a1) ∧ w'.cell? ⟨w1.heap.size, 3, none⟩ = some (.int .i64 r.a2) ∧ w'.cell? ⟨w1.heap.size, 4, none⟩ = some (.int .i64 r.a3) ∧ w'.cell? ⟨w1.heap.size, 5, none⟩ = some (.int .i64 r.a4) ∧ w'.cell? ⟨w1.heap.size, 6, none⟩ = some (.int .i64 r.a5) ∧ w'.cell? ⟨w1.heap.size, 7, none⟩ = some (.int .i64 r.a6) ∧ w'.cell? ⟨w1.heap.size, 8, none⟩ = some (.int .i64 r.a7)) (go_simp)
            ((go_at_call 16; refine (push_eq hp.out _).mono ?_; rintro e w2 ⟨rfl, hb2⟩; obtain ⟨os1, d1, rfl⟩ := ext_of hb2; clear hb2))
          · go_wp2_with fail
            go_meet
            refine ⟨_, ?_, rfl, ?_, Below.refl _ _⟩
            · simp [go_sem]
            repeat (first | with_reducible exact Below.refl _ _ | refine below_ext ?_ (by simp [go_sem]) _ _ | refine Below.alloc ?_ (by simp [go_sem]) _)
          · go_wp2_with fail
            go_meet
            refine ⟨_, ?_, rfl, ?_, below_ext (Below.refl _ _) (Nat.le_refl _) _ _⟩
            · simp [go_sem]
            repeat (first | with_reducible exact Below.refl _ _ | refine below_ext ?_ (by simp [go_sem]) _ _ | refine Below.alloc ?_ (by simp [go_sem]) _)
        case rest =>
          obtain ⟨W, rfl, rfl, hB, hB2⟩ := hcut
          obtain ⟨os1, d1, rfl⟩ := ext_of hB2
          clear hB2
          obtain ⟨os2, d2, rfl⟩ := ext_of hB
          clear hB
          go_wp2_with fail
          refine (drop_eq hd.out _).mono ?_
          rintro e w2 ⟨rfl, hb2⟩
          obtain ⟨os3, d3, rfl⟩ := ext_of hb2
          clear hb2
          have heq := eq26
          go_wp2_with fail
          clear hp hd heq
          go_loopw [10] (fun i wr => ∃ j : Nat, j ≤ k + 1 ∧ i = .int .i64 j ∧ Below (w1.alloc (rc s)).heap.size (w1.alloc (rc s)) wr) (fun i _ => k + 1 - (intOf i).toNat)
          case atStart =>
            refine ⟨0, by omega, rfl, ?_⟩
            repeat (first | with_reducible exact Below.refl _ _ | refine below_ext ?_ (by simp [go_sem]) _ _ | refine Below.alloc ?_ (by simp [go_sem]) _)
          case round =>
            obtain ⟨j, hj, rfl, hB⟩ := hrel
            obtain ⟨os4, d4, rfl⟩ := ext_of hB
            clear hB
            by_cases hjk : j ≤ k
            · have hg := Lib.hid (show s.get j = (zs.getD j 0, 0) by
                rw [HS.out, Rt.of_get (by simp; omega) (by simp; omega)]
                congr 1
                simp only [List.getD_eq_getElem?_getD]
                rw [List.getElem?_take_of_lt (by omega)])
              have hxj := HR.out j (by omega)
              obtain ⟨y, hy⟩ : ∃ y, y = zs.getD j 0 := ⟨_, rfl⟩
              rw [← hy] at hxj hg
              clear hy
              go_wp2_with fail
              refine (get_eq hg.out _).mono ?_
              rintro e w2 ⟨rfl, hb2⟩
              obtain ⟨os5, d5, rfl⟩ := ext_of hb2
              clear hb2
              go_wp2_with fail
              go_roundw
              case rel =>
                refine ⟨j + 1, by omega, by go_num, ?_⟩
                repeat (first | with_reducible exact Below.refl _ _ | refine below_ext ?_ (by simp [go_sem]) _ _ | refine Below.alloc ?_ (by simp [go_sem]) _)
              case measure => simp [intOf]; omega
            · go_wp2_with fail
              go_roundw
              case rel =>
                refine ⟨k + 1, by omega, by omega, by go_num, ?_⟩
                rw [← HS.out]
                repeat (first | with_reducible exact Below.refl _ _ | refine below_ext ?_ (by simp [go_sem]) _ _ | refine Below.alloc ?_ (by simp [go_sem]) _)
              case measure => simp [intOf]; omega
    · obtain rfl : n = k := by omega
      have hmin : min (n : Int) 8 = n := by omega
      have hlen : (Rt.of (zs.take n)).n = n := by simp [Rt.of]; omega
      go_wp2_with fail
      go_ret
      refine ⟨rfl, hb.trans (Below.mono ?_ hb.size)⟩
      repeat (first | with_reducible exact Below.refl _ _ | refine below_ext ?_ (by simp [go_sem]) _ _ | refine Below.alloc ?_ (by simp [go_sem]) _)

end Go.Proofs.Ytlogojiphjpknaa
