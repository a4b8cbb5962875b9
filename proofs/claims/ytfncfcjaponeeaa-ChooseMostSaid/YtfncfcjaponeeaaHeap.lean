/- container/heap's Push and Pop over choose's queue: the heap as a list. Condition: at most a million candidates. -/
import Derived.Test.YtfncfcjaponeeaaPush
namespace Go.Proofs.Ytfncfcjaponeeaa
open Go.RowKit

theorem turn_trans {a b c : World} {p : Nat} {r s : Option Nat} (h : Turn a b p r) (k : Turn b c p s) (hs : s = r ∨ ∀ g, s = some g → r = some g ∨ a.heap.size ≤ g) : Turn a c p r :=
  ⟨k.os.trans h.os, k.tape.trans h.tape, k.output.trans h.output, Nat.le_trans h.size k.size, fun i hi hp hr => (k.block i (Nat.lt_of_lt_of_le hi h.size) hp (fun he => by
    rcases hs with rfl | hs
    · exact hr he
    · rcases hs i he.symm with h1 | h1
      · exact hr h1.symm
      · omega)).trans (h.block i hi hp hr)⟩

set_option maxRecDepth 100000 in
set_option maxHeartbeats 2000000 in
theorem hpush_any (base p : Nat) (v : Value) (h : List C) (x : C) (w : World) (hb : Box w p v) (hr : w.ownsRow base 37 3 v h.length (flat h)) (hbase : base ≤ w.heap.size) (hn : h.length < 1000000) :
    Calls Try.prog 12 #[.iface 35 (.pointer (some ⟨p, 0, none⟩)), .iface 37 (.agg #[.int .i64 x.b, .int .i64 x.l, .int .i64 x.a])] w fun e w' => e = .returned (.tuple #[]) ∧
      ∃ g c, Box w' p (.slice (some ⟨g, 0, none⟩) (hpush h x).length c) ∧ Row w' base g c (hpush h x) ∧ Turn w w' p v.ownBlock ∧ (v.ownBlock = some g ∨ w.heap.size ≤ g) := by
  have HPUSH := Lib.hid (qpush_any base p h.length v h x w hb hr hbase (by omega))
  have hvp := via_push ⟨p, 0, none⟩
  clear hb hr hbase
  obtain ⟨n, hn'⟩ : ∃ n, n = h.length := ⟨_, rfl⟩
  rw [← hn'] at HPUSH hn
  have HN := Lib.hid hn'
  clear hn'
  go_enter Try.func12, Try.ntmps12
  go_wp2_with fail
  refine (HPUSH.out).mono ?_
  rintro e w1 ⟨rfl, g, c, hb1, hr1, ht1, hg1⟩
  have hlen : (h ++ [x]).length = n + 1 := by rw [HN.out]; simp
  have HB1 := Lib.hid hb1
  have HT1 := Lib.hid ht1
  have HG1 := Lib.hid hg1
  have HR1 := Lib.hid (show Row w1 base g c (h ++ [x]) by unfold Row; rw [hlen]; exact hr1)
  have hvl := via_len p _ w1 hb1.cell
  have hnn : (n : Int) + 1 - 1 = n := by omega
  have HLEN := Lib.hid hlen
  clear hb1 hr1 ht1 hg1 hvp hlen
  go_wp2_with fail
  refine (len_any _ _ _ _).mono ?_
  rintro e w2 ⟨rfl, rfl⟩
  have HUP := Lib.hid (show Calls Try.prog 15 #[.iface 35 (.pointer (some ⟨p, 0, none⟩)), .int .i64 n] w1 fun e w' => e = .returned (.tuple #[]) ∧ w1.grownBy w' (some g) ∧ Row w' base g c (hpush h x) by
    have := up_any base p g c h.length (h ++ [x]) w1 (by rw [HLEN.out]; exact HB1.out) HR1.out (by simp)
    rw [← HN.out] at this
    unfold hpush
    rw [← HN.out]
    exact this)
  clear hvl
  go_wp2_with fail
  refine (HUP.out).mono ?_
  rintro e w2 ⟨rfl, hg2, hr2⟩
  have HG2 := Lib.hid hg2
  have HR2 := Lib.hid hr2
  clear hg2 hr2
  go_wp2_with fail
  go_end0
  have hl2 : (hpush h x).length = n + 1 := by rw [(hpush_perm h x).length_eq]; simp [HN.out]
  refine ⟨rfl, g, c, by rw [hl2]; exact HB1.out.grown HG2.out (HB1.out.ne HR1.out), HR2.out, turn_trans HT1.out (turn_grown HG2.out) (.inr fun k hk => ?_), HG1.out⟩
  injection hk with hk
  rw [← hk]
  exact HG1.out

set_option maxRecDepth 100000 in
set_option maxHeartbeats 2000000 in
theorem hpop_any (base p g c : Nat) (h : List C) (w : World) (hb : Box w p (.slice (some ⟨g, 0, none⟩) h.length c)) (hr : Row w base g c h) (h0 : 0 < h.length) (hn : h.length ≤ 1000000) :
    Calls Try.prog 13 #[.iface 35 (.pointer (some ⟨p, 0, none⟩))] w fun e w' => SomeVal e ∧ Box w' p (.slice (some ⟨g, 0, none⟩) (hpop h).length c) ∧ Row w' base g c (hpop h) ∧ Turn w w' p (some g) := by
  obtain ⟨n, hn'⟩ : ∃ n, n + 1 = h.length := ⟨h.length - 1, by omega⟩
  have hvl := via_len p _ w hb.cell
  have hvs := via_swap p _ w hb.cell
  have HN := Lib.hid hn'
  have HB := Lib.hid hb
  have HR := Lib.hid hr
  have HS := Lib.hid (show Calls Try.prog 35 #[.slice (some ⟨g, 0, none⟩) (n + 1) c, .int .i64 0, .int .i64 n] w fun e w' => e = .returned (.tuple #[]) ∧ w.grownBy w' (some g) ∧ Row w' base g c (swp h 0 n) by
    rw [HN.out]; exact swap_any base g c 0 n h w hr (by omega) (by omega))
  rw [← hn'] at hvl hvs
  have hnn : (n : Int) + 1 - 1 = n := by omega
  have hn2 : n ≤ 1000000 := by omega
  have hn3 : n + 1 ≤ 1000000 := by omega
  clear hb hr hn' hn h0
  go_enter Try.func13, Try.ntmps13
  go_wp2_with fail
  refine (len_any _ _ _ _).mono ?_
  rintro e w2 ⟨rfl, rfl⟩
  go_wp2_with fail
  refine (HS.out).mono ?_
  rintro e w1 ⟨rfl, hg1, hr1⟩
  have HG1 := Lib.hid hg1
  have HR1 := Lib.hid hr1
  have HB1 := Lib.hid (HB.out.grown hg1 (HB.out.ne HR.out))
  have HD := Lib.hid (show Calls Try.prog 16 #[.iface 35 (.pointer (some ⟨p, 0, none⟩)), .int .i64 0, .int .i64 n] w1 fun e w' => SomeBool e ∧ w1.grownBy w' (some g) ∧ Row w' base g c (down n (swp h 0 n) 0 n) by
    exact down_any base p g c n (swp h 0 n) w1 (by rw [swp_length]; exact HB1.out) hr1 (by rw [swp_length, ← HN.out]; omega) (by rw [swp_length, ← HN.out]; exact hn3))
  clear hg1 hr1 hvl hvs
  go_wp2_with fail
  refine (HD.out).mono ?_
  rintro e w2 ⟨⟨b, rfl⟩, hg2, hr2⟩
  have HG2 := Lib.hid hg2
  have HR2 := Lib.hid hr2
  have HB2 := Lib.hid (HB1.out.grown hg2 (HB1.out.ne HR1.out))
  have hvp := via_pop ⟨p, 0, none⟩
  have HP := Lib.hid (qpop_any base p g c n (down n (swp h 0 n) 0 n) w2 (by have := HB2.out; rw [← HN.out] at this; exact this) hr2 (by rw [down_length, swp_length, ← HN.out]) hn2)
  clear hg2 hr2
  go_wp2_with fail
  refine (HP.out).mono ?_
  rintro e w3 ⟨⟨y, rfl⟩, hb3, hr3, ht3⟩
  have HB3 := Lib.hid hb3
  have HR3 := Lib.hid hr3
  have HT3 := Lib.hid ht3
  clear hb3 hr3 ht3 hvp
  go_wp2_with fail
  go_ret
  have hpl : (hpop h).length = n := by rw [hpop_length, ← HN.out]; omega
  have hpe : hpop h = (down n (swp h 0 n) 0 n).take n := by
    unfold hpop
    rw [← HN.out, Nat.add_sub_cancel]
    congr 1
    exact down_fuel _ _ _ _ _ (by omega) (by omega)
  refine ⟨⟨_, rfl⟩, by rw [hpl]; exact HB3.out, by rw [hpe]; exact HR3.out, ?_⟩
  exact turn_trans (turn_trans (turn_grown HG1.out) (turn_grown HG2.out) (.inl rfl)) HT3.out (.inr fun k hk => by cases hk)

end Go.Proofs.Ytfncfcjaponeeaa
