/- flitlaw18.ChoosePicks comes to true, whatever candidates and number it is handed, and writes nothing that was there. -/
import Derived.Test.YtfncfcjaponeeaaNoneW
import Derived.Test.YtfncfcjaponeeaaRefW
import Derived.Test.YtfncfcjaponeeaaWords
namespace Go.Proofs.Ytfncfcjaponeeaa
open Go.RowKit

theorem pflat_length : ∀ h : List (Int × Int), (pflat h).length = h.length * 2
  | [] => rfl
  | x :: h => by simp [pflat, pflat_length h]; omega
theorem pflat_one : ∀ (h : List (Int × Int)), ∀ u ∈ pflat h, u.oneCell' = true
  | [], _, hu => by cases hu
  | x :: h, u, hu => by
    unfold pflat at hu
    rcases List.mem_cons.1 hu with rfl | hu
    · rfl
    · rcases List.mem_cons.1 hu with rfl | hu
      · rfl
      · exact pflat_one h u hu

theorem reads_of_cands {w : World} {A : Option Addr} {n : Nat} {ls : List (Int × Int)} (h : Cands w A n ls) : Reads w w.heap.size 2 A n (pflat ls) := by
  refine ⟨by rw [pflat_length, h.1], fun hn => ?_⟩
  rcases h.2 with h0 | ⟨b, off, rfl, hb, hc⟩
  · omega
  · refine ⟨_, rfl, hb, fun j u hu => ?_⟩
    have hj : j < ls.length * 2 := by rw [← pflat_length]; exact (List.getElem?_eq_some_iff.1 hu).1
    obtain ⟨c0, c1⟩ := hc (j / 2) (by have := h.1; omega)
    obtain ⟨e0, e1⟩ := pflat_at ls (j / 2) (by omega)
    have hadd : Addr.add ⟨b, off, none⟩ j = ⟨b, off + j, none⟩ := by unfold Addr.add; split <;> simp_all
    rw [hadd]
    rcases (show j = j / 2 * 2 ∨ j = j / 2 * 2 + 1 by omega) with e | e
    · rw [e] at hu ⊢
      rw [c0, ← e0, hu]
    · rw [e] at hu ⊢
      rw [c1, ← e1, hu]

theorem greedy_length : ∀ (s : List C) (m : Int), (greedy s m).length ≤ s.length
  | [], _ => Nat.le_refl _
  | x :: s, m => by
    unfold greedy
    split
    · have := greedy_length s (m - x.l); simp; omega
    · simp
theorem picked_length {ls : List (Int × Int)} {m : Int} {o : List Int} (h : Picked ls m o) : o.length ≤ ls.length := by
  obtain ⟨s, hs⟩ := sort_exists (cands_nodup ls 0)
  rw [h s hs]
  have h1 := greedy_length s m
  have h2 := hs.2.length_eq
  have h3 := cands_length ls 0
  omega

theorem ref_out (A : Option Addr) (n c : Nat) (most : Int) (ls : List (Int × Int)) (w : World) (hA : Cands w A n ls) (hn : n ≤ 1000) (hm : most ≤ 9223372036854775807) :
    Calls Try.prog 11 #[.slice A n c, .int .i64 most] w (PickP w ls most) :=
  (ref_any A n c most ls w hA hn hm).mono fun e w' ⟨ov, outs, he, ho, hb, hp⟩ => by
    obtain ⟨A', c', rfl, h⟩ := outs_of ho
    exact ⟨A', c', outs, he, h, hb, hp⟩

set_option maxRecDepth 100000 in
set_option maxHeartbeats 2000000 in
theorem picks_walk (A : Option Addr) (n c : Nat) (most : Int) (ls : List (Int × Int)) (w : World) (hA : Cands w A n ls) (hc : n ≤ c) (hm : c ≤ 9223372036854775807) (hmm : most ≤ 9223372036854775807) :
    Calls Try.prog 3 #[.slice A n c, .int .i64 most] w (YesP w) := by
  obtain ⟨i28, hi, hz, hs, hb⟩ := info_parts info28
  go_enter Try.func3, Try.ntmps3
  go_wp2_with fail
  refine (shown_yes _).mono ?_
  rintro e w1 ⟨rfl, hb1⟩
  have HC := Lib.hid (cands_first (hA.below hb1) (Nat.min_le_left n 70))
  have HB1 := Lib.hid hb1
  clear hA hb1
  go_wp2_with fail
  refine (few_any _ _ _ _ hc hm).mono ?_
  rintro e w1' ⟨rfl, rfl⟩
  have h70 : min n 70 ≤ 70 := Nat.min_le_right _ _
  have hmc : min n 70 ≤ c := by omega
  generalize min n 70 = k at *
  generalize ls.take k = l at *
  clear hc
  have HO := Lib.hid (show (w1.alloc (.cells #[] 28)).ownsRow w1.heap.size 28 2 (.slice (some ⟨w1.heap.size, 0, none⟩) 0 0) 0 [] from World.ownsRow_lit w1 #[] 0 (Nat.le_refl _) (by unfold maxLen; omega) rfl)
  have HRD := Lib.hid ((reads_of_cands HC.out).alloc (Nat.le_refl _) (.cells #[] 28))
  go_wp2_with (at_builtin; refine wpList_append_any _ rfl (.tmp 14) (.tmp 15) _ rfl w1.heap.size 28 i28 _ 2 16 Try.underlying22 hi hz hs hb rfl (by omega) (.slice (some ⟨w1.heap.size, 0, none⟩) 0 0) 0 [] rfl HO.out w1.heap.size A k c (pflat l) rfl HRD.out (pflat_one l) (by unfold maxLen; omega) (by omega) (by simp) ?_; intro v2 w2 hown2 hg2 hat2)
  have HO2 := Lib.hid (show w2.ownsRow w1.heap.size 28 2 v2 k (pflat l) by simpa using hown2)
  have HB2 := Lib.hid (show Below w1.heap.size w1 w2 from ((Below.refl _ _).alloc (Nat.le_refl _) _).grown hg2 (by simp) (by simp [Value.ownBlock]))
  clear hown2 hg2 hat2 HO HRD
  obtain ⟨A2, c2, rfl, hC2⟩ := cands_of HO2.out HC.out.1
  have HC2 := Lib.hid hC2
  have HC1 := Lib.hid (HC.out.below HB2.out)
  clear hC2
  go_wp2_with fail
  refine (pick_out _ _ _ most _ _ HC2.out (by omega) hmm).mono ?_
  rintro e w3 ⟨A3, c3, o, rfl, ho3, hb3, hp3⟩
  have HB3 := Lib.hid hb3
  have HO3 := Lib.hid ho3
  have HP3 := Lib.hid hp3
  have HC3 := Lib.hid (HC2.out.below hb3)
  have HC4 := Lib.hid (HC1.out.below hb3)
  clear hb3 ho3 hp3
  go_wp2_with fail
  refine (ref_out _ _ _ most _ _ HC4.out (by omega) hmm).mono ?_
  rintro e w4 ⟨A4, c4, o', rfl, ho4, hb4, hp4⟩
  obtain rfl := picked_unique HP3.out hp4
  have HB4 := Lib.hid hb4
  have HO4 := Lib.hid ho4
  have HO5 := Lib.hid (HO3.out.below hb4)
  have HC5 := Lib.hid (HC3.out.below hb4)
  have HC6 := Lib.hid (HC4.out.below hb4)
  have hol : o.length ≤ 70 := by
    have := picked_length HP3.out
    have := HC.out.1
    omega
  have hor : ((o.length : Int) == (o.length : Int)) = true := by simp
  clear hb4 ho4 hp4 HC HC1 HC2 HC3 HC4 HO3
  go_wp2_with fail
  go_loopw [9] (fun s9 wr => ∃ j : Nat, j ≤ o.length ∧ s9 = .int .i64 j ∧ Below w4.heap.size w4 wr) (fun s9 _ => o.length - (intOf s9).toNat)
  case atStart => exact ⟨0, by omega, rfl, Below.refl _ _⟩
  case round =>
    obtain ⟨j, hj, rfl, hbr⟩ := hrel
    by_cases hjo : j < o.length
    · rcases (HO4.out.below hbr) with h0 | ⟨g4, rfl, hg4, hc4⟩
      · rw [h0] at hjo; simp at hjo
      rcases (HO5.out.below hbr) with h0 | ⟨g5, rfl, hg5, hc5⟩
      · rw [h0] at hjo; simp at hjo
      have x4 := hc4 j hjo
      have x5 := hc5 j hjo
      have HBR := Lib.hid hbr
      clear hc4 hc5 hbr
      have hj0 : (0 : Int) ≤ (j : Int) := by omega
      have hj1 : (j : Int) < (o.length : Int) := by omega
      go_wp2_with fail
      go_quiet (fail)
      go_wp2_with fail
      go_roundw
      case rel => exact ⟨j + 1, by omega, by go_num, below_drewN HBR.out _⟩
      case measure => simp [intOf]; omega
    · go_wp2_with fail
      go_loopw [10] (fun s10 wx => ∃ j : Nat, j ≤ k ∧ s10 = .int .i64 j ∧ Below w4.heap.size w4 wx) (fun s10 _ => k - (intOf s10).toNat)
      case atStart => exact ⟨0, by omega, rfl, hbr⟩
      case round =>
        clear hbr
        obtain ⟨i, hik, rfl, hbx⟩ := hrel
        by_cases hi' : i < k
        · rcases (HC5.out.below hbx).2 with h0 | ⟨b5, off5, hA5, hl5, hc5⟩
          · omega
          rcases (HC6.out.below hbx).2 with h0 | ⟨b6, off6, hA6, hl6, hc6⟩
          · omega
          subst hA5
          subst hA6
          obtain ⟨x5, y5⟩ := hc5 i hi'
          obtain ⟨x6, y6⟩ := hc6 i hi'
          have HBR := Lib.hid hbx
          clear hc5 hc6 hbx
          have hj0 : (0 : Int) ≤ (i : Int) := by omega
          have hj1 : (i : Int) < (k : Int) := by omega
          go_wp2_with fail
          go_quiet (fail)
          go_wp2_with fail
          go_roundw
          case rel => exact ⟨i + 1, by omega, by go_num, below_drewN HBR.out _⟩
          case measure => simp [intOf]; omega
        · have HBR := Lib.hid hbx
          clear hbx
          go_wp2_with fail
          go_ret
          refine ⟨rfl, ?_⟩
          have h1 := HB1.out.trans (HB2.out.mono HB1.out.size)
          have h2 := h1.trans (HB3.out.mono h1.size)
          have h3 := h2.trans (HB4.out.mono h2.size)
          exact h3.trans (HBR.out.mono h3.size)

end Go.Proofs.Ytfncfcjaponeeaa
