/- flitlaw18.ChooseNone comes to true, whatever candidates and number it is handed, and writes nothing that was there. -/
import Derived.Test.YtfncfcjaponeeaaShown
namespace Go.Proofs.Ytfncfcjaponeeaa
open Go.RowKit

theorem info28 : (Try.prog.info? 28).map (fun i => (i.zero, i.size, i.bytes)) = some (some (.agg #[.int .i64 0, .int .i64 0]), 2, 16) := by kernel_rfl

/-- a row of pairs as cells -/
def pflat : List (Int × Int) → List Value
  | [] => []
  | x :: h => .int .i64 x.1 :: .int .i64 x.2 :: pflat h
theorem pflat_append (h k : List (Int × Int)) : pflat (h ++ k) = pflat h ++ pflat k := by
  induction h with
  | nil => rfl
  | cons x h ih => simp [pflat, ih]
theorem pflat_at : ∀ (h : List (Int × Int)) (i : Nat), i < h.length → (pflat h)[i * 2]? = some (.int .i64 (h.getD i (0, 0)).1) ∧ (pflat h)[i * 2 + 1]? = some (.int .i64 (h.getD i (0, 0)).2)
  | [], i, hi => by simp at hi
  | x :: h, 0, _ => ⟨rfl, rfl⟩
  | x :: h, i + 1, hi => by
    have := pflat_at h i (by simpa using hi)
    simpa [pflat, Nat.add_mul] using this

theorem cands_of {w : World} {base n : Nat} {v : Value} {ls : List (Int × Int)} (h : w.ownsRow base 28 2 v n (pflat ls)) (hl : ls.length = n) : ∃ A c, v = .slice A n c ∧ Cands w A n ls := by
  rcases h.2 with ⟨h1, h2⟩ | ⟨g, cap, cur, hv, hb, hh, hn, hm, hs, ht⟩
  · exact ⟨none, 0, by rw [h1, h2], hl, .inl h2⟩
  · refine ⟨some ⟨g, 0, none⟩, cap, hv, hl, .inr ⟨g, 0, rfl, ?_, fun j hj => ?_⟩⟩
    · rcases Nat.lt_or_ge g w.heap.size with h1 | h1
      · exact h1
      · rw [Array.getElem?_eq_none h1] at hh; cases hh
    · subst hv
      obtain ⟨e0, e1⟩ := pflat_at ls j (by omega)
      rw [Nat.zero_add, Nat.zero_add]
      exact ⟨(World.ownsRow.cellAt h _ (by omega)).trans e0, (World.ownsRow.cellAt h _ (by omega)).trans e1⟩

theorem cands_first {w : World} {A : Option Addr} {n m : Nat} {ls : List (Int × Int)} (h : Cands w A n ls) (hm : m ≤ n) : Cands w A m (ls.take m) := by
  refine ⟨by rw [List.length_take, h.1]; omega, ?_⟩
  rcases h.2 with h0 | ⟨b, off, hA, hlt, hc⟩
  · exact .inl (by omega)
  · refine .inr ⟨b, off, hA, hlt, fun j hj => ?_⟩
    have := hc j (by omega)
    have e : (ls.take m).getD j (0, 0) = ls.getD j (0, 0) := by simp only [List.getD_eq_getElem?_getD]; rw [List.getElem?_take_of_lt hj]
    rw [e]
    exact this

theorem picked_low {ls : List (Int × Int)} {m : Int} {o : List Int} (h : Picked ls m o) (hm : m < 1) : o = [] := by
  obtain ⟨s, hs⟩ := sort_exists (cands_nodup ls 0)
  rw [h s hs]
  cases s with
  | nil => rfl
  | cons x s =>
    have := cands_live (hs.2.mem_iff.1 (List.mem_cons_self (a := x) (l := s)))
    unfold greedy
    rw [if_neg (by omega)]

theorem cands_dead : ∀ (ls : List (Int × Int)) (i : Nat), (∀ p ∈ ls, p.2 ≤ 0) → cands ls i = []
  | [], _, _ => rfl
  | (b, l) :: r, i, h => by
    have h1 := h (b, l) List.mem_cons_self
    unfold cands
    rw [if_neg (by simp only at h1; omega)]
    exact cands_dead r (i + 1) fun p hp => h p (List.mem_cons_of_mem _ hp)

theorem picked_dead {ls : List (Int × Int)} {m : Int} {o : List Int} (h : Picked ls m o) (hd : ∀ p ∈ ls, p.2 ≤ 0) : o = [] :=
  h [] ⟨List.Pairwise.nil, by rw [cands_dead ls 0 hd]⟩

def low (p : Int × Int) : Int × Int := (p.1, if 0 < p.2 then 0 else p.2)

set_option maxRecDepth 100000 in
set_option maxHeartbeats 2000000 in
theorem none_walk (A : Option Addr) (n c : Nat) (most : Int) (ls : List (Int × Int)) (w : World) (hA : Cands w A n ls) (hc : n ≤ c) (hm : c ≤ 9223372036854775807) (hmm : most ≤ 9223372036854775807) :
    Calls Try.prog 6 #[.slice A n c, .int .i64 most] w (YesP w) := by
  obtain ⟨i28, hi, hz, hs, hb⟩ := info_parts info28
  go_enter Try.func6, Try.ntmps6
  go_wp2_with fail
  refine (shown_yes _).mono ?_
  rintro e w1 ⟨rfl, hb1⟩
  have HC := Lib.hid (cands_first (hA.below hb1) (Nat.min_le_left n 70))
  have HB1 := Lib.hid hb1
  clear hA hb1
  go_wp2_with fail
  refine (few_any _ _ _ _ hc hm).mono ?_
  rintro e w1' ⟨rfl, rfl⟩
  have h70 : min n 70 ≤ 70 := Nat.min_le_right _ _
  have hmc : min n 70 ≤ c := by omega
  generalize min n 70 = k at *
  generalize ls.take k = l at *
  clear hc
  go_wp2_with fail
  go_loopw [6, 7] (fun s6 s7 wr => ∃ j : Nat, j ≤ k ∧ s7 = .int .i64 j ∧ wr.ownsRow w1.heap.size 28 2 s6 j (pflat ((l.take j).map low)) ∧ Below w1.heap.size w1 wr) (fun _ s7 _ => k - (intOf s7).toNat)
  case atStart =>
    refine ⟨0, by omega, rfl, ?_, (Below.refl _ _).alloc (Nat.le_refl _) _⟩
    exact World.ownsRow_lit w1 #[] 0 (Nat.le_refl _) (by unfold maxLen; omega) rfl
  case round =>
    obtain ⟨j, hj, rfl, ho, hbl⟩ := hrel
    by_cases hjk : j < k
    · have hl := HC.out.1
      rcases (HC.out.below hbl).2 with h0 | ⟨b, off, hAe, hbk, hc⟩
      · omega
      subst hAe
      obtain ⟨hc1, hc2⟩ := hc j hjk
      clear hc
      obtain ⟨y, hy⟩ : ∃ y, y = l.getD j (0, 0) := ⟨_, rfl⟩
      rw [← hy] at hc1 hc2
      obtain ⟨yb, yl⟩ := y
      simp only at hc1 hc2
      obtain ⟨zl, hzl⟩ : ∃ zl, (if 0 < yl then (0 : Int) else yl) = zl := ⟨_, rfl⟩
      have HE := Lib.hid (show pflat ((l.take (j + 1)).map low) = pflat ((l.take j).map low) ++ [.int .i64 yb, .int .i64 zl] by
        have hjl : j < l.length := by omega
        rw [List.take_succ_eq_append_getElem hjl, List.map_append, pflat_append]
        have e : l[j] = (yb, yl) := by rw [hy, List.getD_eq_getElem?_getD, List.getElem?_eq_getElem hjl]; rfl
        rw [e, ← hzl]
        rfl)
      have HO := Lib.hid ho
      have HBL := Lib.hid hbl
      have HNEW := Lib.hid (show ∀ x y : Value, (wr.alloc (.cells #[x, y] 28)).drew.heap[wr.heap.size]? = some (.cells #[x, y] 28 (0, 0)) from fun x y => heap_alloc_new wr _)
      have hsz : w1.heap.size ≤ wr.heap.size := hbl.size
      have hj70 : j ≤ 70 := by omega
      clear hy ho hbl hl
      go_wp2_with fail
      go_region_law
        ((refine step_append_lies _ (by rfl) _ _ _ (by rfl) w1.heap.size 28 i28 _ 2 16 Try.underlying22 hi hz hs hb rfl (by omega) u6 j (pflat ((l.take j).map low)) (by rfl) ((HO.out.alloc _).drew)
            ⟨wr.heap.size, 0, none⟩ 1 1 [.int .i64 yb, .int .i64 zl] (by rfl) (by rfl) (World.news_of_block (cs := #[.int .i64 yb, .int .i64 zl]) (t := 28) (fr := (0, 0)) (HNEW.out _ _)) (by simp [Value.oneCell'])
            (by omega) (by unfold maxLen; omega) (by omega) (by simp; omega) (wr.heap.size + 1) (by simp) ?_; intro gg cap w2 hown1 hgrow hat hlt))
      all_goals (
        go_wp2_with fail
        go_roundw
        case rel =>
          refine ⟨j + 1, by omega, by go_num, by rw [HE.out]; exact hown1, ?_⟩
          have h1 : Below w1.heap.size w1 ((wr.alloc (.cells #[.int .i64 yb, .int .i64 zl] 28)).drew) := (HBL.out.alloc hsz _).drew
          exact h1.grown hgrow (by simp; omega) (fun q hq => (HO.out.lt q hq).1)
        case measure => simp [intOf]; omega)
    · obtain rfl : j = k := by omega
      have hlt : l.take j = l := List.take_of_length_le (by rw [HC.out.1]; exact Nat.le_refl _)
      rw [hlt] at ho
      obtain ⟨A2, c2, rfl, hC2⟩ := cands_of ho (by rw [List.length_map]; exact HC.out.1)
      have HC1 := Lib.hid (HC.out.below hbl)
      have HC2 := Lib.hid hC2
      have HBL := Lib.hid hbl
      clear ho hbl hC2 hlt hj
      obtain ⟨m1, hm1⟩ : ∃ m1, (if 0 < most then (0 : Int) else most) = m1 := ⟨_, rfl⟩
      have hm1' : m1 < 1 := by rw [← hm1]; split <;> omega
      go_wp2_with fail
      refine (pick_out _ _ _ m1 _ _ HC1.out (by omega) (by omega)).mono ?_
      rintro e w2 ⟨A3, c3, o, rfl, _, hb2, hp⟩
      obtain rfl := picked_low hp hm1'
      have HB2 := Lib.hid hb2
      have HC3 := Lib.hid (HC2.out.below hb2)
      clear hb2 hp
      go_wp2_with fail
      refine (pick_out _ _ _ most _ _ HC3.out (by omega) hmm).mono ?_
      rintro e w3 ⟨A4, c4, o, rfl, _, hb3, hp⟩
      obtain rfl := picked_dead hp (fun p hp => by
        obtain ⟨q, _, rfl⟩ := List.mem_map.1 hp
        unfold low
        simp only
        split <;> omega)
      have HB3 := Lib.hid hb3
      clear hb3 hp
      go_wp2_with fail
      refine (pick_out none 0 0 most [] _ ⟨rfl, .inl rfl⟩ (by omega) hmm).mono ?_
      rintro e w4 ⟨A5, c5, o, rfl, _, hb4, hp⟩
      obtain rfl := picked_dead hp (fun p hp => by cases hp)
      have HB4 := Lib.hid hb4
      clear hb4 hp
      go_wp2_with fail
      go_ret
      refine ⟨rfl, ?_⟩
      have h1 := HB1.out.trans (HBL.out.mono HB1.out.size)
      have h2 := h1.trans (HB2.out.mono h1.size)
      have h3 := h2.trans (HB3.out.mono h2.size)
      exact h3.trans (HB4.out.mono h3.size)

end Go.Proofs.Ytfncfcjaponeeaa
