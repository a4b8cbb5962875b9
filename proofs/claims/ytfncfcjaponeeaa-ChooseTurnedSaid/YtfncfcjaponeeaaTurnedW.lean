/- flitlaw18.ChooseTurned comes to true, whatever numbers it is handed, and writes nothing that was there. -/
import Derived.Test.YtfncfcjaponeeaaNoneW
import Derived.Test.YtfncfcjaponeeaaTurnP
namespace Go.Proofs.Ytfncfcjaponeeaa
open Go.RowKit

theorem greedy_length : ∀ (s : List C) (m : Int), (greedy s m).length ≤ s.length
  | [], _ => Nat.le_refl _
  | x :: s, m => by
    unfold greedy
    split
    · have := greedy_length s (m - x.l); simp; omega
    · simp
theorem picked_length {ls : List (Int × Int)} {m : Int} {o : List Int} (h : Picked ls m o) : o.length ≤ ls.length := by
  obtain ⟨s, hs⟩ := sort_exists (cands_nodup ls 0)
  rw [h s hs]
  have h1 := greedy_length s m
  have h2 := hs.2.length_eq
  have h3 := cands_length ls 0
  omega

/-- two rows of the call's own that differ, and lie where they lie -/
def TwoRows (B : Nat) (s6 s7 : Value) (n : Nat) (l r : List (Int × Int)) (wr : World) : Prop :=
  ∃ g6 c6 g7 c7, s6 = .slice (some ⟨g6, 0, none⟩) n c6 ∧ s7 = .slice (some ⟨g7, 0, none⟩) n c7 ∧ g6 ≠ g7 ∧
    wr.ownsRow B 28 2 s6 n (pflat l) ∧ wr.ownsRow B 28 2 s7 n (pflat r)

set_option maxRecDepth 100000 in
set_option maxHeartbeats 2000000 in
theorem turned_walk (A : Option Addr) (n c : Nat) (most : Int) (zs : List Int) (w : World) (hA : Ints w A n zs) (hm : n ≤ 9223372036854775807) (hmm : most ≤ 9223372036854775807) :
    Calls Try.prog 7 #[.slice A n c, .int .i64 most] w (YesP w) := by
  obtain ⟨i28, hi, hz, hs, hb⟩ := info_parts info28
  go_enter Try.func7, Try.ntmps7
  go_wp2_with fail
  refine (shown_yes _).mono ?_
  rintro e w1 ⟨rfl, hb1⟩
  have HA := Lib.hid (hA.below hb1)
  have HB1 := Lib.hid hb1
  clear hA hb1
  obtain ⟨k, hk⟩ : ∃ k, k = min n 64 := ⟨_, rfl⟩
  have hk64 : k ≤ 64 := by omega
  have hkn : k ≤ n := by omega
  have hkk : (if (64 : Int) < n then (64 : Int) else n) = (k : Int) := by split <;> omega
  have HK := Lib.hid hk
  clear hk
  go_wp2_with fail
  go_loopw [6, 7, 9] (fun s6 s7 s9 wr => ∃ j : Nat, j ≤ k ∧ s9 = .int .i64 j ∧ TwoRows w1.heap.size s6 s7 j (la zs j) (ra zs k j) wr ∧ Below w1.heap.size w1 wr) (fun _ _ s9 _ => k - (intOf s9).toNat)
  case atStart =>
    refine ⟨0, by omega, rfl, ⟨w1.heap.size, 0, w1.heap.size + 1, 0, rfl, rfl, by omega, ?_, ?_⟩, ((Below.refl _ _).alloc (Nat.le_refl _) _).alloc (by simp) _⟩
    · exact World.ownsRow.alloc (World.ownsRow_lit w1 #[] 0 (Nat.le_refl _) (by unfold maxLen; omega) rfl) _
    · have h := World.ownsRow_lit (base := w1.heap.size) (e := 28) (size := 2) (w1.alloc (.cells #[] 28)) #[] 0 (by simp) (by unfold maxLen; omega) rfl
      simpa [ra, pflat] using h
  case round =>
    obtain ⟨j, hj, rfl, ⟨g6, c6, g7, c7, rfl, rfl, hne, h6, h7⟩, hbr⟩ := hrel
    by_cases hjk : j < k
    · rcases HA.out with h0 | ⟨b, off, rfl, hbl, hzl, hcz⟩
      · omega
      have hz01 := hcz j (by omega)
      have hz02 := hcz (k - 1 - j) (by omega)
      obtain ⟨z1, hz1⟩ : ∃ z, z = zs.getD j 0 := ⟨_, rfl⟩
      obtain ⟨z2, hz2⟩ : ∃ z, z = zs.getD (k - 1 - j) 0 := ⟨_, rfl⟩
      rw [← hz1] at hz01
      rw [← hz2] at hz02
      obtain ⟨q, hq⟩ : ∃ q : Nat, q = k - 1 - j := ⟨_, rfl⟩
      rw [← hq] at hz02
      have x1 : wr.cell? ⟨b, off + j, none⟩ = some (.int .i64 z1) := (hbr.cell (p := ⟨b, off + j, none⟩) hbl).trans hz01
      have HX2 := Lib.hid hz02
      have hqk : (k : Int) - 1 - j = (q : Int) := by omega
      have hqn : q < n := by omega
      have HS6 := Lib.hid (show pflat (la zs (j + 1)) = pflat (la zs j) ++ [.int .i64 j, .int .i64 z1] by rw [la_succ, pflat_append, ← hz1]; rfl)
      have HS7 := Lib.hid (show pflat (ra zs k (j + 1)) = pflat (ra zs k j) ++ [.int .i64 q, .int .i64 z2] by rw [ra_succ, pflat_append, ← hz2, ← hq]; rfl)
      have H6 := Lib.hid h6
      have H7 := Lib.hid h7
      have HBR := Lib.hid hbr
      have HQ := Lib.hid hq
      have hsz := hbr.size
      have hj64 : j ≤ 63 := by omega
      have HNEW := Lib.hid (show ∀ (w : World) (x y : Value), (w.alloc (.cells #[x, y] 28)).heap[w.heap.size]? = some (.cells #[x, y] 28 (0, 0)) from fun w x y => heap_alloc_new w _)
      have HG6 := Lib.hid (H6.out.lt g6 rfl).1
      have HG7 := Lib.hid (H7.out.lt g7 rfl)
      clear hz1 hz2 hq h6 h7 hbr hcz hz01 hz02
      go_wp2_with (first
        | (at_builtin; refine wpList_append_lies _ rfl (.tmp 24) (.tmp 31) _ rfl w1.heap.size 28 i28 _ 2 16 Try.underlying22 hi hz hs hb rfl (by omega) (.slice (some ⟨g6, 0, none⟩) j c6) j (pflat (la zs j)) (by rfl) (H6.out.alloc _) ⟨wr.heap.size, 0, none⟩ 1 1 [.int .i64 j, .int .i64 z1] (by rfl) (by rfl) (World.news_of_block (cs := #[.int .i64 j, .int .i64 z1]) (t := 28) (fr := (0, 0)) (HNEW.out _ _ _)) (by simp [Value.oneCell']) (by omega) (by unfold maxLen; omega) (by omega) (by simp; omega) (wr.heap.size + 1) (by simp) ?_; intro gg cap w2 hown1 hgrow hat hlt; go_must (have HB2 := Lib.hid (show Below w1.heap.size w1 w2 from (HBR.out.alloc hsz _).grown hgrow (by simp; omega) (by simp [Value.ownBlock]; exact HG6.out)); have HN2 := Lib.hid (show gg ≠ g7 by simp [Value.ownBlock] at hat; have := HG7.out.2; omega); have HO1 := Lib.hid hown1; have H72 := Lib.hid (World.ownsRow.kept (H7.out.alloc (.cells #[.int .i64 j, .int .i64 z1] 28)) hgrow (.inr (by simp [Value.ownBlock]; omega))); have x2 : w2.cell? ⟨b, off + q, none⟩ = some (.int .i64 z2) := (HB2.out.cell (p := ⟨b, off + q, none⟩) hbl).trans HX2.out; have hsz2 := HB2.out.size; have hg72 := (H72.out.lt g7 rfl).2; clear hown1 hgrow hat))
        | (at_builtin; refine wpList_append_lies _ rfl (.tmp 33) (.tmp 46) _ rfl w1.heap.size 28 i28 _ 2 16 Try.underlying22 hi hz hs hb rfl (by omega) (.slice (some ⟨g7, 0, none⟩) j c7) j (pflat (ra zs k j)) (by rfl) (H72.out.alloc _) ⟨w2.heap.size, 0, none⟩ 1 1 [.int .i64 q, .int .i64 z2] (by rfl) (by rfl) (World.news_of_block (cs := #[.int .i64 q, .int .i64 z2]) (t := 28) (fr := (0, 0)) (HNEW.out _ _ _)) (by simp [Value.oneCell']) (by omega) (by unfold maxLen; omega) (by omega) (by simp; omega) (w2.heap.size + 1) (by simp) ?_; intro gg2 cap2 w3 hown2 hgrow2 hat2 hlt2))
      go_roundw
      case rel =>
        have hne2 : gg ≠ gg2 := by
          have := HN2.out
          simp [Value.ownBlock] at hat2
          omega
        refine ⟨j + 1, by omega, by go_num, ⟨gg, cap, gg2, cap2, rfl, rfl, hne2, ?_, ?_⟩, ?_⟩
        · rw [HS6.out]
          exact World.ownsRow.kept (HO1.out.alloc _) hgrow2 (.inr (by simp [Value.ownBlock]; exact HN2.out))
        · rw [HS7.out]; exact hown2
        · exact (HB2.out.alloc hsz2 _).grown hgrow2 (by simp; omega) (by simp [Value.ownBlock]; exact HG7.out.1)
      case measure => simp [intOf]; omega
    · obtain rfl : j = k := by omega
      obtain ⟨A6, d6, he6, hC6⟩ := cands_of h6 (la_length zs j)
      obtain ⟨A7, d7, he7, hC7⟩ := cands_of h7 (ra_length zs j j)
      injection he6 with e1 _ e3
      subst e1 e3
      injection he7 with e1 _ e3
      subst e1 e3
      have HC6 := Lib.hid hC6
      have HC7 := Lib.hid hC7
      have HBR := Lib.hid hbr
      clear hC6 hC7 hbr h6 h7
      go_wp2_with fail
      refine (pick_out _ _ _ most _ _ HC6.out (by omega) hmm).mono ?_
      rintro e w3 ⟨A3, c3, o, rfl, ho3, hb3, hp3⟩
      have HB3 := Lib.hid hb3
      have HO3 := Lib.hid ho3
      have HP3 := Lib.hid hp3
      have HC3 := Lib.hid (HC7.out.below hb3)
      clear hb3 ho3 hp3
      go_wp2_with fail
      refine (pick_out _ _ _ most _ _ HC3.out (by omega) hmm).mono ?_
      rintro e w4 ⟨A4, c4, o', rfl, ho4, hb4, hp4⟩
      obtain rfl := picked_turned (la_unlike zs j) HP3.out (by rw [← ra_reverse]; exact hp4)
      have HB4 := Lib.hid hb4
      have HO4 := Lib.hid ho4
      have HO5 := Lib.hid (HO3.out.below hb4)
      have hol : o.length ≤ 64 := by
        have := picked_length HP3.out
        have := la_length zs j
        omega
      clear hb4 ho4 hp4 HC6 HC7 HC3 HO3
      go_wp2_with fail
      go_loopw [12] (fun s12 wr => ∃ j : Nat, j ≤ o.length ∧ s12 = .int .i64 j ∧ Below w4.heap.size w4 wr) (fun s12 _ => o.length - (intOf s12).toNat)
      case atStart => exact ⟨0, by omega, rfl, Below.refl _ _⟩
      case round =>
        obtain ⟨i, hi', rfl, hbx⟩ := hrel
        by_cases hio : i < o.length
        · rcases (HO4.out.below hbx) with h0 | ⟨g4, rfl, hg4, hc4⟩
          · rw [h0] at hio; simp at hio
          rcases (HO5.out.below hbx) with h0 | ⟨g5, rfl, hg5, hc5⟩
          · rw [h0] at hio; simp at hio
          have x4 := hc4 i hio
          have x5 := hc5 i hio
          have HBX := Lib.hid hbx
          clear hc4 hc5 hbx
          have hj0 : (0 : Int) ≤ (i : Int) := by omega
          have hj1 : (i : Int) < (o.length : Int) := by omega
          go_wp2_with fail
          go_quiet (fail)
          go_wp2_with fail
          go_roundw
          case rel => exact ⟨i + 1, by omega, by go_num, below_drewN HBX.out _⟩
          case measure => simp [intOf]; omega
        · have HBX := Lib.hid hbx
          clear hbx
          go_wp2_with fail
          go_ret
          refine ⟨rfl, ?_⟩
          have h1 := HB1.out.trans (HBR.out.mono HB1.out.size)
          have h2 := h1.trans (HB3.out.mono h1.size)
          have h3 := h2.trans (HB4.out.mono h2.size)
          exact h3.trans (HBX.out.mono h3.size)

end Go.Proofs.Ytfncfcjaponeeaa
