/- flitlaw18.ChooseMost comes to true, whatever numbers it is handed, and writes nothing that was there. -/
import Derived.Test.YtfncfcjaponeeaaNoneW
import Derived.Test.YtfncfcjaponeeaaMostP
import Derived.Test.YtfncfcjaponeeaaBlk
import Derived.Test.YtfncfcjaponeeaaTaken
import Derived.Deep.DeepCutAuto
import Derived.Deep.CutBlock
namespace Go.Proofs.Ytfncfcjaponeeaa
open Go.RowKit

/-- the numbers of the blocks 0, 1 and so on lie there -/
def LRow (B K : Nat) (ys : List Int) (s7 : Value) (w1 wx : World) : Prop :=
  ∃ g7 c7, s7 = .slice (some ⟨g7, 0, none⟩) K c7 ∧ wx.ownsRow B 28 2 (.slice (some ⟨g7, 0, none⟩) K c7) K (pflat (la ys K)) ∧ Below B w1 wx

theorem below_setRow {B g : Nat} {a w : World} (h : Below B a w) (hg : B ≤ g) (cs : Array Value) : Below B a (w.setRow g cs) :=
  ⟨h.os, h.tape, h.output, by simpa using h.size, fun k hk => (setRow_other w g k cs (by omega)).trans (h.block k hk)⟩

theorem below_dn {B : Nat} {a w : World} (h : Below B a w) (n : Nat) : Below B a (w.drewN n) := ⟨h.os, h.tape, h.output, h.size, h.block⟩

/-- the marks lie there -/
def TRow (g : Nat) (p : List C) (wx : World) : Prop := ∃ T : Array Value, T.toList = marks p 64 ∧ Blk wx g 30 T
theorem TRow.alloc {g : Nat} {p : List C} {w : World} (h : TRow g p w) (o : Obj) : TRow g p (w.alloc o) := by
  obtain ⟨T, h1, h2⟩ := h
  exact ⟨T, h1, h2.alloc o⟩
theorem TRow.drewN {g : Nat} {p : List C} {w : World} (h : TRow g p w) (n : Nat) : TRow g p (w.drewN n) := h
theorem TRow.cell {g : Nat} {p : List C} {w : World} (h : TRow g p w) {j : Nat} (hj : j < 64) : w.cell? ⟨g, j, none⟩ = some (.bool (gone p j)) := by
  obtain ⟨T, h1, h2⟩ := h
  rw [h2.cell j, ← Array.getElem?_toList, h1, marks_at hj]
theorem TRow.frozen {g : Nat} {p : List C} {w : World} (h : TRow g p w) (i : Nat) : w.frozen? ⟨g, i, none⟩ = false := by
  obtain ⟨T, _, h2⟩ := h
  exact h2.frozen i
theorem TRow.put {g : Nat} {p : List C} {w : World} (h : TRow g p w) {x : C} {k : Nat} (hx : x.a = (k : Int)) : TRow g (p ++ [x]) (w.setCell ⟨g, k, none⟩ (.bool true)) := by
  obtain ⟨T, h1, h2⟩ := h
  exact ⟨_, by rw [Array.toList_setIfInBounds, h1, marks_set hx], h2.set_ k (.bool true)⟩

set_option maxRecDepth 100000 in
set_option maxHeartbeats 4000000 in
theorem most_walk (A : Option Addr) (n c : Nat) (most : Int) (zs : List Int) (w : World) (hA : Ints w A n zs) (hm : n ≤ 9223372036854775807) :
    Calls Try.prog 4 #[.slice A n c, .int .i64 most] w (YesP w) := by
  obtain ⟨i28, hi, hz, hs, hb⟩ := info_parts info28
  obtain ⟨hr1, hr2⟩ := tmod_cases most (show (0 : Int) < 100 by omega)
  obtain ⟨r, hr⟩ : ∃ r, most.tmod 100 = r := ⟨_, rfl⟩
  rw [hr] at hr1 hr2
  go_enter Try.func4, Try.ntmps4
  go_wp2_with fail
  refine (shown_yes _).mono ?_
  rintro e w1 ⟨rfl, hb1⟩
  have HA := Lib.hid (hA.below hb1)
  have HB1 := Lib.hid hb1
  clear hA hb1
  obtain ⟨K, hK⟩ : ∃ k, k = min n 64 := ⟨_, rfl⟩
  have hK64 : K ≤ 64 := by omega
  have hKn : K ≤ n := by omega
  have HK := Lib.hid hK
  clear hK
  obtain ⟨m, hm0, hm1, hme⟩ : ∃ m : Int, 0 ≤ m ∧ m ≤ 99 ∧ ((0 < m ∧ r = -m) ∨ (¬ r < 0 ∧ r = m)) := by
    by_cases h : r < 0
    · exact ⟨-r, by omega, by omega, .inl ⟨by omega, by omega⟩⟩
    · exact ⟨r, by omega, by omega, .inr ⟨h, rfl⟩⟩
  obtain ⟨ys, hys⟩ : ∃ ys, ys = zs.map f9 := ⟨_, rfl⟩
  have hyg : ∀ j, ys.getD j 0 = f9 (zs.getD j 0) := by
    intro j
    rw [hys, List.getD_eq_getElem?_getD, List.getElem?_map, List.getD_eq_getElem?_getD]
    cases zs[j]? <;> rfl
  have HYG := Lib.hid hyg
  clear hys hyg
  go_upto_if 20 with fail
  go_cut [6] (fun s6 wx => s6 = .int .i64 m ∧ w1 = wx)
  case first =>
    have hme2 : ((0 < m ∧ -m < 0 ∧ r = -m) ∨ (¬ r < 0 ∧ m = r ∧ 0 ≤ m)) := by omega
    clear hme
    rcases hme2 with ⟨hrn, hrn2, rfl⟩ | ⟨hrn, rfl, hrn2⟩
    all_goals
      go_wp2_with fail
      go_meet
      exact ⟨rfl, rfl⟩
  case rest =>
    obtain ⟨rfl, rfl⟩ := hcut
    clear hme hr hr1 hr2
    go_upto_block 0 with fail
    go_cut [7] (fun s7 wx => LRow w1.heap.size K ys s7 w1 wx)
    case first =>
      go_wp2_with fail
      go_loopw [7, 8] (fun s7 s8 wr => ∃ (j g7 c7 : Nat), j ≤ K ∧ s8 = .int .i64 j ∧ s7 = .slice (some ⟨g7, 0, none⟩) j c7 ∧ wr.ownsRow w1.heap.size 28 2 (.slice (some ⟨g7, 0, none⟩) j c7) j (pflat (la ys j)) ∧ Below w1.heap.size w1 wr) (fun _ s8 _ => K - (intOf s8).toNat)
      case atStart =>
        refine ⟨0, w1.heap.size, 0, by omega, rfl, rfl, ?_, (Below.refl _ _).alloc (Nat.le_refl _) _⟩
        exact World.ownsRow_lit w1 #[] 0 (Nat.le_refl _) (by unfold maxLen; omega) rfl
      case round =>
        obtain ⟨j, g7, c7, hj, rfl, rfl, h7, hbr⟩ := hrel
        by_cases hjk : j < K
        · rcases HA.out with h0 | ⟨b, off, rfl, hbl, hzl, hcz⟩
          · omega
          have hjn : (j : Int) < (n : Int) := by omega
          have hj64 : (j : Int) < 64 := by omega
          have hz01 := hcz j (by omega)
          obtain ⟨z, hz'⟩ : ∃ z, z = zs.getD j 0 := ⟨_, rfl⟩
          rw [← hz'] at hz01
          have x1 : wr.cell? ⟨b, off + j, none⟩ = some (.int .i64 z) := (hbr.cell (p := ⟨b, off + j, none⟩) hbl).trans hz01
          obtain ⟨q1, q2⟩ := tmod_cases z (show (0 : Int) < 9 by omega)
          obtain ⟨t, ht⟩ : ∃ t, z.tmod 9 = t := ⟨_, rfl⟩
          rw [ht] at q1 q2
          have HS := Lib.hid (show pflat (la ys (j + 1)) = pflat (la ys j) ++ [.int .i64 j, .int .i64 (f9 z)] by rw [la_succ, pflat_append, HYG.out, ← hz']; rfl)
          obtain ⟨y, hy⟩ : ∃ y, y = f9 z := ⟨_, rfl⟩
          rw [← hy] at HS
          have hyt : (0 < y ∧ t = -y) ∨ (¬ t < 0 ∧ t = y) := by
            unfold f9 at hy
            rw [ht] at hy
            split at hy <;> omega
          have H7 := Lib.hid h7
          have HBR := Lib.hid hbr
          have hsz := hbr.size
          have HNEW := Lib.hid (show ∀ (w : World) (x y : Value), (w.alloc (.cells #[x, y] 28)).heap[w.heap.size]? = some (.cells #[x, y] 28 (0, 0)) from fun w x y => heap_alloc_new w _)
          have HG7 := Lib.hid (H7.out.lt g7 rfl).1
          clear hz' h7 hbr hcz hz01 hy
          have hyt2 : ((0 < y ∧ -y < 0 ∧ t = -y) ∨ (¬ t < 0 ∧ y = t ∧ 0 ≤ y)) := by omega
          clear hyt
          rcases hyt2 with ⟨ht0, ht1, rfl⟩ | ⟨ht0, rfl, ht1⟩
          all_goals
            go_wp2_with (at_builtin; refine wpList_append_lies _ rfl (.tmp 43) (.tmp 47) _ rfl w1.heap.size 28 i28 _ 2 16 Try.underlying22 hi hz hs hb rfl (by omega) (.slice (some ⟨g7, 0, none⟩) j c7) j (pflat (la ys j)) (by rfl) (H7.out.alloc _) ⟨wr.heap.size, 0, none⟩ 1 1 [.int .i64 j, .int .i64 y] (by rfl) (by rfl) (World.news_of_block (cs := #[.int .i64 j, .int .i64 y]) (t := 28) (fr := (0, 0)) (HNEW.out _ _ _)) (by simp [Value.oneCell']) (by omega) (by unfold maxLen; omega) (by omega) (by simp; omega) (wr.heap.size + 1) (by simp) ?_; intro gg cap w2 hown1 hgrow hat hlt)
            go_roundw
            case rel =>
              refine ⟨j + 1, gg, cap, by omega, by go_num, rfl, by rw [HS.out]; exact hown1, ?_⟩
              exact (HBR.out.alloc hsz _).grown hgrow (by simp; omega) (by simp [Value.ownBlock]; exact HG7.out)
            case measure => simp [intOf]; omega
        · obtain rfl : j = K := by omega
          have HX := Lib.hid (show LRow w1.heap.size j ys (.slice (some ⟨g7, 0, none⟩) j c7) w1 wr from ⟨g7, c7, rfl, h7, hbr⟩)
          have hend : ((j : Int) < (n : Int) ∧ ¬ (j : Int) < 64) ∨ ¬ (j : Int) < (n : Int) := by
            have := HK.out
            omega
          clear h7 hbr
          rcases hend with ⟨hj1, hj2⟩ | hj2
          all_goals
            go_wp2_with fail
            go_meet
            exact HX.out
    case rest =>
      obtain ⟨g7, c7, rfl, h7, hbr⟩ := hcut
      obtain ⟨A7, d7, he7, hC7⟩ := cands_of h7 (la_length ys K)
      injection he7 with e1 _ e3
      subst e1 e3
      have HC7 := Lib.hid hC7
      have HBR := Lib.hid hbr
      clear hC7 hbr h7
      go_wp2_with fail
      refine (pick_out _ _ _ m _ _ HC7.out (by omega) (by omega)).mono ?_
      rintro e w3 ⟨A3, c3, o, rfl, ho3, hb3, hp3⟩
      obtain ⟨s, hsort⟩ := sort_exists (cands_nodup (la ys K) 0)
      have hos := hp3 s hsort
      obtain ⟨hg1, hg2⟩ := greedy_at s m
      have hsl : s.length ≤ K := by have := hsort.2.length_eq; have := cands_length (la ys K) 0; have := la_length ys K; omega
      have HSORT := Lib.hid hsort
      rw [← hos] at hg1 hg2
      have HOS := Lib.hid hos
      have HAT := Lib.hid hg2
      have HB3 := Lib.hid hb3
      have HO3 := Lib.hid ho3
      have HC3 := Lib.hid (HC7.out.below hb3)
      clear hb3 ho3 hp3 hos hg2 hsort
      go_upto_region 15 with fail
      go_cut [12] (fun s12 wx => s12 = .pointer (some ⟨w3.heap.size, 0, none⟩) ∧ TRow w3.heap.size [] wx ∧ Below w3.heap.size w3 wx)
      case first =>
        go_wp2_with (first
          | (refine wpList_buildTo rfl 30 #[] rfl (some 52) rfl falses built30_is ?_)
          | (refine wpList_allocTo rfl (some 12) rfl _ _ (alloc30 _ _ _) ?_)
          | (refine wpList_store_rowTo rfl 30 (.tmp 12) (.tmp 52) rfl rfl w3.heap.size falses rfl rfl 30 falses (heap_alloc_new w3 _) size30 rfl falses_one ?_))
        go_meet
        refine ⟨rfl, ⟨falses, falses_marks, setRow_heap _ _ _ _ _ _ (heap_alloc_new w3 _)⟩, ?_⟩
        exact below_setRow ((Below.refl _ _).alloc (Nat.le_refl _) _) (Nat.le_refl _) _
      case rest =>
        obtain ⟨rfl, ht, hbt⟩ := hcut
        have HS8 := Lib.hid (show ∀ i, 0 ≤ sumL (s.take i) ∧ sumL (s.take i) ≤ 8 * 64 by
          intro i
          have h1 := sum_bd (s.take i) (fun x hx => by
            obtain ⟨u, _, hyu, _⟩ := mem_la.1 (HSORT.out.2.mem_iff.1 (List.mem_of_mem_take hx))
            rw [hyu]
            have := f9_bd (zs.getD u 0)
            have h2 : (cz ys u).l = f9 (zs.getD u 0) := HYG.out u
            rw [h2]
            exact this)
          have h2 : (s.take i).length ≤ 64 := by rw [List.length_take]; omega
          omega)
        have HT := Lib.hid ht
        have HBT := Lib.hid hbt
        clear ht hbt
        go_wp2_with fail
        go_loopw [11, 13] (fun s11 s13 wr => ∃ i : Nat, i ≤ o.length ∧ s13 = .int .i64 i ∧ s11 = .int .i64 (sumL (s.take i)) ∧ TRow w3.heap.size (s.take i) wr ∧ Below w3.heap.size w3 wr) (fun _ s13 _ => o.length - (intOf s13).toNat)
        case atStart => exact ⟨0, by omega, rfl, rfl, HT.out, HBT.out⟩
        case round =>
          clear HT HBT
          obtain ⟨i, hi', rfl, rfl, ht, hbt⟩ := hrel
          obtain ⟨hS0, hS1⟩ := HS8.out i
          by_cases hio : i < o.length
          · obtain ⟨t, htK, hat, hy1, hgo⟩ := most_idx HSORT.out (show i < s.length by omega)
            rcases HO3.out with h0 | ⟨g4, rfl, hg4, hc4⟩
            · rw [h0] at hio; simp at hio
            have x4 := (hbt.cell (p := ⟨g4, i, none⟩) hg4).trans (hc4 i hio)
            rw [HAT.out i hio, hat] at x4
            simp only [cz] at x4
            rcases HC3.out.2 with h0 | ⟨b5, off5, hA5, hl5, hc5⟩
            · omega
            injection hA5 with hA5
            injection hA5 with e1 e2
            subst e1 e2
            obtain ⟨x5', y5'⟩ := hc5 t htK
            rw [la_get ys htK] at x5' y5'
            have x5 := (hbt.cell (p := ⟨g7, 0 + t * 2, none⟩) hl5).trans x5'
            have y5 := (hbt.cell (p := ⟨g7, 0 + (t * 2 + 1), none⟩) hl5).trans y5'
            simp only [Nat.zero_add] at x5 y5
            have hne4 : ¬ g4 = w3.heap.size := by omega
            have hne7 : ¬ g7 = w3.heap.size := by omega
            clear x5' y5'
            have hcell := ht.cell (show t < 64 by omega)
            rw [hgo] at hcell
            have hfz := ht.frozen t
            have hnext := take_snoc_at (s := s) (show i < s.length by omega)
            rw [hat] at hnext
            have hSn : sumL (s.take (i + 1)) = sumL (s.take i) + ys.getD t 0 := by
              rw [hnext, sumL_append]; simp [sumL, cz]
            have HTN := Lib.hid (show TRow w3.heap.size (s.take (i + 1)) (wr.setCell ⟨w3.heap.size, t, none⟩ (.bool true)) by
              rw [hnext]; exact ht.put rfl)
            have hS3 := (HS8.out (i + 1)).2
            rw [hSn] at hS3
            have HSN := Lib.hid hSn
            have HBT := Lib.hid hbt
            generalize sumL (s.take i) = S at *
            generalize ys.getD t 0 = y at *
            have ht64 : (t : Int) < 64 := by omega
            have hi0 : (0 : Int) ≤ (i : Int) := by omega
            have hi1 : (i : Int) < (o.length : Int) := by omega
            have ht0 : ¬ (t : Int) < 0 := by omega
            have htK' : (t : Int) < (K : Int) := by omega
            have htd : decide ((K : Int) ≤ (t : Int)) = false := by simp; omega
            have hyd : decide (y < 1) = false := by simp; omega
            clear hc4 hc5 hat hgo hnext hSn ht hbt
            go_wp2_with fail
            go_roundw
            case rel => exact ⟨i + 1, by omega, by go_num, by rw [HSN.out], HTN.out, HBT.out.setCell (p := ⟨w3.heap.size, t, none⟩) (by simp) _⟩
            case measure => simp [intOf]; omega
          · obtain rfl : i = o.length := by omega
            obtain ⟨hfit, _⟩ := greedy_sum s m hm0
            have hfull := fun j (hj : j < K) => most_full HSORT.out hm0 hj
            rw [← HOS.out] at hfit hfull
            have horder := fun i j (hj : j < K) => most_order (n := o.length) HSORT.out (i := i) (j := j) hj
            have HFULL := Lib.hid hfull
            have HORDER := Lib.hid horder
            have HT := Lib.hid ht
            have HBT := Lib.hid hbt
            generalize s.take o.length = p at *
            generalize sumL p = S at *
            clear hfull horder ht hbt
            go_wp2_with fail
            go_loopw [14] (fun s14 wr => ∃ i : Nat, i ≤ K ∧ s14 = .int .i64 i ∧ TRow w3.heap.size p wr ∧ Below w3.heap.size w3 wr) (fun s14 _ => K - (intOf s14).toNat)
            case atStart => exact ⟨0, by omega, rfl, HT.out, HBT.out⟩
            case round =>
              clear HT HBT
              obtain ⟨i, hi', rfl, ht, hbt⟩ := hrel
              by_cases hiK : i < K
              · rcases HC3.out.2 with h0 | ⟨b5, off5, hA5, hl5, hc5⟩
                · omega
                injection hA5 with hA5
                injection hA5 with e1 e2
                subst e1 e2
                obtain ⟨x5', y5'⟩ := hc5 i hiK
                rw [la_get ys hiK] at x5' y5'
                have y5 := (hbt.cell (p := ⟨g7, 0 + (i * 2 + 1), none⟩) hl5).trans y5'
                simp only [Nat.zero_add] at y5
                have hcell := ht.cell (show i < 64 by omega)
                have HF := Lib.hid (HFULL.out i hiK)
                have HO := Lib.hid (HORDER.out i)
                have hS8 : 0 ≤ ys.getD i 0 ∧ ys.getD i 0 ≤ 8 := by rw [HYG.out]; exact f9_bd _
                obtain ⟨hy0, hy8⟩ := hS8
                obtain ⟨y, hy⟩ : ∃ y, y = ys.getD i 0 := ⟨_, rfl⟩
                rw [← hy] at HF HO y5 hy0 hy8
                obtain ⟨gi, hgi⟩ : ∃ gi, gi = gone p i := ⟨_, rfl⟩
                rw [← hgi] at HF HO hcell
                have HY := Lib.hid hy
                have HGI := Lib.hid hgi
                have HT := Lib.hid ht
                have HBT := Lib.hid hbt
                have hi0 : (0 : Int) ≤ (i : Int) := by omega
                have hi64 : (i : Int) < 64 := by omega
                have hiK' : (i : Int) < (K : Int) := by omega
                clear hy hgi hc5 x5' y5' ht hbt
                go_upto_region 26 with fail
                go_cut [135] (fun s135 wx => s135 = .bool false ∧ wr = wx)
                case first =>
                  cases gi with
                  | true =>
                    clear HF HO
                    go_wp2_with fail
                    go_meet
                    exact ⟨rfl, rfl⟩
                  | false =>
                    by_cases hy1 : 1 ≤ y
                    · have hover := HF.out rfl hy1
                      have hd : decide (S + y ≤ m) = false := by simp; omega
                      clear hover HF HO
                      go_wp2_with fail
                      go_meet
                      exact ⟨rfl, rfl⟩
                    · clear HF HO
                      go_wp2_with fail
                      go_meet
                      exact ⟨rfl, rfl⟩
                case rest =>
                  obtain ⟨rfl, rfl⟩ := hcut
                  rename World => wo
                  go_wp2_with fail
                  go_loopw [15] (fun s15 wx => ∃ j : Nat, j ≤ K ∧ s15 = .int .i64 j ∧ TRow w3.heap.size p wx ∧ Below w3.heap.size w3 wx) (fun s15 _ => K - (intOf s15).toNat)
                  case atStart => exact ⟨0, by omega, rfl, HT.out, HBT.out⟩
                  case round =>
                    clear HT HBT HF hcell y5
                    obtain ⟨j, hj', rfl, ht, hbt⟩ := hrel
                    by_cases hjK : j < K
                    · rcases HC3.out.2 with h0 | ⟨b5, off5, hA5, hl5, hc5⟩
                      · omega
                      injection hA5 with hA5
                      injection hA5 with e1 e2
                      subst e1 e2
                      obtain ⟨x5', y5'⟩ := hc5 i hiK
                      rw [la_get ys hiK] at x5' y5'
                      have yi := (hbt.cell (p := ⟨g7, 0 + (i * 2 + 1), none⟩) hl5).trans y5'
                      obtain ⟨x6', y6'⟩ := hc5 j hjK
                      rw [la_get ys hjK] at x6' y6'
                      have yj := (hbt.cell (p := ⟨g7, 0 + (j * 2 + 1), none⟩) hl5).trans y6'
                      simp only [Nat.zero_add] at yi yj
                      rw [← HY.out] at yi
                      have hci := ht.cell (show i < 64 by omega)
                      have hcj := ht.cell (show j < 64 by omega)
                      rw [← HGI.out] at hci
                      have HOJ := Lib.hid (HO.out j hjK)
                      obtain ⟨z, hz'⟩ : ∃ z, z = ys.getD j 0 := ⟨_, rfl⟩
                      rw [← hz'] at HOJ yj
                      obtain ⟨gj, hgj⟩ : ∃ gj, gj = gone p j := ⟨_, rfl⟩
                      rw [← hgj] at HOJ hcj
                      have HT := Lib.hid ht
                      have HBT := Lib.hid hbt
                      have hj0 : (0 : Int) ≤ (j : Int) := by omega
                      have hj64 : (j : Int) < 64 := by omega
                      have hjK'' : (j : Int) < (K : Int) := by omega
                      clear hz' hgj hc5 x5' y5' x6' y6' ht hbt HO
                      cases gi with
                      | false =>
                        clear HOJ
                        go_wp2_with fail
                        go_quiet (fail)
                        go_wp2_with fail
                        go_roundw
                        case rel => exact ⟨j + 1, by omega, by go_num, HT.out.drewN _, below_dn HBT.out _⟩
                        case measure => simp [intOf]; omega
                      | true =>
                        cases gj with
                        | true =>
                          clear HOJ
                          go_wp2_with fail
                          go_quiet (fail)
                          go_wp2_with fail
                          go_roundw
                          case rel => exact ⟨j + 1, by omega, by go_num, HT.out.drewN _, below_dn HBT.out _⟩
                          case measure => simp [intOf]; omega
                        | false =>
                          by_cases hz1 : 1 ≤ z
                          · have hle := HOJ.out rfl rfl hz1
                            have hd : decide (z < y) = false := by simp; omega
                            clear HOJ hle
                            go_wp2_with fail
                            go_quiet (fail)
                            go_wp2_with fail
                            go_roundw
                            case rel => exact ⟨j + 1, by omega, by go_num, HT.out.drewN _, below_dn HBT.out _⟩
                            case measure => simp [intOf]; omega
                          · have hd : decide (1 ≤ z) = false := by simp; omega
                            clear HOJ hz1
                            go_wp2_with fail
                            go_quiet (fail)
                            go_wp2_with fail
                            go_roundw
                            case rel => exact ⟨j + 1, by omega, by go_num, HT.out.drewN _, below_dn HBT.out _⟩
                            case measure => simp [intOf]; omega
                    · have HT := Lib.hid ht
                      have HBT := Lib.hid hbt
                      clear ht hbt
                      go_wp2_with fail
                      go_roundw
                      case rel => exact ⟨i + 1, by omega, by go_num, HT.out, HBT.out⟩
                      case measure => simp [intOf]; omega
              · have HBT := Lib.hid hbt
                clear ht hbt
                have hfd : decide (S ≤ m) = true := by simpa using hfit
                go_wp2_with fail
                go_ret
                refine ⟨rfl, ?_⟩
                have h1 := HB1.out.trans (HBR.out.mono HB1.out.size)
                have h2 := h1.trans (HB3.out.mono h1.size)
                exact h2.trans (HBT.out.mono h2.size)

end Go.Proofs.Ytfncfcjaponeeaa
