/- flitref18.Pick: what it hands back, of at most a thousand candidates: the same as choose.Pick. -/
import Derived.Test.YtfncfcjaponeeaaRefP
namespace Go.Proofs.Ytfncfcjaponeeaa
open Go.RowKit

theorem info4 : (Try.prog.info? 4).map (fun i => (i.zero, i.size, i.bytes)) = some (some (.bool false), 1, 1) := by kernel_rfl

/-- the marks -/
def marks (p : List C) (n : Nat) : List Value := (List.range n).map fun j => Value.bool (gone p j)

theorem marks_nil (n : Nat) : (madeCells (Value.bool false).cells (n * 1)).toList = marks [] n := by
  rw [Nat.mul_one]
  show (madeCells #[Value.bool false] n).toList = _
  rw [toList_madeCells_one]
  apply List.ext_getElem?
  intro j
  unfold marks
  rw [List.getElem?_map]
  by_cases hj : j < n
  · simp [hj, gone]
  · simp [hj]

theorem marks_set {p : List C} {n k : Nat} {x : C} (hx : x.a = (k : Int)) : (marks p n).set k (.bool true) = marks (p ++ [x]) n := by
  apply List.ext_getElem?
  intro j
  unfold marks
  rw [List.getElem?_set, List.getElem?_map, List.getElem?_map, List.length_map, List.length_range]
  by_cases hj : k = j
  · subst hj
    by_cases hn : k < n
    · simp [hn, gone_snoc, hx]
    · simp [hn]
  · rw [if_neg hj]
    by_cases hn : j < n
    · have : ((k : Int) == (j : Int)) = false := by simp; omega
      simp [hn, gone_snoc, hx, this]
    · simp [hn]

theorem marks_at {p : List C} {n j : Nat} (hj : j < n) : (marks p n)[j]? = some (.bool (gone p j)) := by
  unfold marks
  rw [List.getElem?_map, List.getElem?_range hj]
  rfl

theorem own_below {w w' : World} {base n size : Nat} {e : TypeId} {v : Value} {xs : List Value} (h : w.ownsRow base e size v n xs) (hb : Below w.heap.size w w') : w'.ownsRow base e size v n xs :=
  World.ownsRow.kept h (grown_below (row := none) hb) (by cases hv : v.ownBlock with | none => exact .inl rfl | some g => exact .inr (by simp))

/-- how far the reference has come -/
def RefRel (w : World) (ls : List (Int × Int)) (total : List Int) (g n k : Nat) (m : Int) (ov : Value) (wr : World) : Prop :=
  ∃ p q, p.length = k ∧ Left ls p q ∧ wr.ownsRow w.heap.size 4 1 (.slice (some ⟨g, 0, none⟩) n n) n (marks p n) ∧ wr.ownsRow w.heap.size 3 1 ov k (p.map fun x => Value.int .i64 x.b) ∧ Below w.heap.size w wr ∧
    p.map C.b ++ greedy q m = total ∧ m ≤ 9223372036854775807 ∧ w.heap.size ≤ g

set_option maxRecDepth 100000 in
set_option maxHeartbeats 2000000 in
theorem ref_any (A : Option Addr) (n c : Nat) (most : Int) (ls : List (Int × Int)) (w : World) (hA : Cands w A n ls) (hn : n ≤ 1000) (hm : most ≤ 9223372036854775807) :
    Calls Try.prog 11 #[.slice A n c, .int .i64 most] w (OutP w ls most) := by
  have HA := Lib.hid hA
  clear hA
  obtain ⟨s, hs⟩ := sort_exists (cands_nodup ls 0)
  obtain ⟨total, htot⟩ : ∃ total, total = greedy s most := ⟨_, rfl⟩
  have HPI := Lib.hid (show Picked ls most total from fun t ht => by rw [sort_unique ht hs]; exact htot)
  have HLEFT := Lib.hid (show Left ls [] s from hs)
  have HTOT := Lib.hid htot
  clear hs htot
  obtain ⟨i4, hi4, hz4, hs4, hb4⟩ := info_parts info4
  go_enter Try.func11, Try.ntmps11
  go_wp2_with (at_make; refine wpList_make_full _ rfl _ _ _ rfl w.heap.size 4 i4 _ 1 Try.underlying39 hi4 hz4 hs4 _ _ _ _ n rfl rfl rfl rfl (by rw [hb4]; omega) (by unfold maxLen; omega) (Nat.le_refl _) ?_; intro w1 hown1 hgrow1)
  obtain ⟨g, hg⟩ : ∃ g, g = w.heap.size := ⟨_, rfl⟩
  have HO1 := Lib.hid (show w1.ownsRow w.heap.size 4 1 (.slice (some ⟨g, 0, none⟩) n n) n (marks [] n) by rw [hg, ← marks_nil]; exact hown1)
  rw [← hg]
  have HB1 := Lib.hid (show Below w.heap.size w w1 from ⟨hgrow1.os, hgrow1.tape, hgrow1.output, hgrow1.size, fun k hk => hgrow1.block k hk (by simp)⟩)
  have HG := Lib.hid hg
  clear hown1 hgrow1 hg
  go_loopw [1, 5, 7] (fun s1 s5 s7 wr => ∃ (k : Nat) (m : Int), k ≤ n ∧ s1 = .int .i64 m ∧ s7 = .int .i64 k ∧ RefRel w ls total g n k m s5 wr) (fun _ _ s7 _ => n - (intOf s7).toNat)
  case atStart =>
    refine ⟨0, most, by omega, rfl, rfl, [], s, rfl, HLEFT.out, HO1.out, World.ownsRow_nil _ _ _ _, HB1.out, ?_, hm, by rw [HG.out]; exact Nat.le_refl _⟩
    rw [HTOT.out]; rfl
  case round =>
    rename World => wo
    obtain ⟨k, m, hk, rfl, rfl, p, q, hp, hq, ho, hr, hb, htl, hmm, hgb⟩ := hrel
    have HO := Lib.hid ho
    have HR := Lib.hid hr
    have HB := Lib.hid hb
    have HTL := Lib.hid htl
    have HQ := Lib.hid hq
    have HP := Lib.hid hp
    clear ho hr hb htl hq hp HO1 HB1
    by_cases hkn : k < n
    · go_wp2_with fail
      go_loopw [8, 9] (fun s8 s9 wx => ∃ (i : Nat) (t : Int), i ≤ n ∧ s8 = .int .i64 t ∧ s9 = .int .i64 i ∧ Best ls p i t ∧ Below wo.heap.size wo wx) (fun _ s9 _ => n - (intOf s9).toNat)
      case atStart => exact ⟨0, -1, by omega, rfl, rfl, best_zero _ _, Below.refl _ _⟩
      case round =>
        obtain ⟨i, t, hi, rfl, rfl, hbest, hbx⟩ := hrel
        by_cases hin : i < n
        · have hgl : g < wo.heap.size := (HO.out.lt g rfl).2
          have hmark : wr.cell? ⟨g, i, none⟩ = some (.bool (gone p i)) := (hbx.cell (p := ⟨g, i, none⟩) hgl).trans ((World.ownsRow.cellAt HO.out i (by omega)).trans (marks_at hin))
          have hca := (HA.out.below (HB.out.trans (hbx.mono HB.out.size)))
          have hl := hca.1
          rcases hca.2 with h0 | ⟨b, off, hAe, hbl, hc⟩
          · omega
          subst hAe
          obtain ⟨hc1, hc2⟩ := hc i hin
          have HBX := Lib.hid hbx
          have HC := Lib.hid hc
          have HL := Lib.hid hl
          clear hbx hca hc hl
          by_cases hgo : gone p i = true
          · have HN := Lib.hid (show ¬ Elig ls p i from fun h => by rw [h.1] at hgo; cases hgo)
            rw [hgo] at hmark
            have HBE := Lib.hid hbest
            clear hgo hbest
            go_wp2_with fail
            go_roundw
            case rel => exact ⟨i + 1, t, by omega, rfl, by go_num, best_skip HBE.out HN.out, HBX.out⟩
            case measure => simp [intOf]; omega
          · have hgo' : gone p i = false := by cases hx : gone p i with | true => exact absurd hx hgo | false => rfl
            rw [hgo'] at hmark
            obtain ⟨y, hy⟩ : ∃ y, y = cAt ls i := ⟨_, rfl⟩
            have hc1' : wr.cell? ⟨b, off + i * 2, none⟩ = some (.int .i64 y.b) := by rw [hy]; exact hc1
            have hc2' : wr.cell? ⟨b, off + (i * 2 + 1), none⟩ = some (.int .i64 y.l) := by rw [hy]; exact hc2
            have HEL := Lib.hid (show Elig ls p i ↔ 1 ≤ y.l by unfold Elig; rw [← hy]; exact ⟨fun h => h.2, fun h => ⟨hgo', h⟩⟩)
            have HY := Lib.hid hy
            have HBE := Lib.hid hbest
            clear hgo hgo' hc1 hc2 hy
            by_cases hy1 : 1 ≤ y.l
            · rcases hbest with ⟨rfl, hnone⟩ | ⟨j, rfl, hji, hej, hj⟩
              · have HNONE := Lib.hid hnone
                clear hnone
                go_wp2_with fail
                go_roundw
                case rel => exact ⟨i + 1, i, by omega, rfl, by go_num, best_first HNONE.out (HEL.out.2 hy1), HBX.out⟩
                case measure => simp [intOf]; omega
              · have hej1 := HC.out j (by omega)
                obtain ⟨z, hz⟩ : ∃ z, z = cAt ls j := ⟨_, rfl⟩
                have hd1 : wr.cell? ⟨b, off + j * 2, none⟩ = some (.int .i64 z.b) := by rw [hz]; exact hej1.1
                have hd2 : wr.cell? ⟨b, off + (j * 2 + 1), none⟩ = some (.int .i64 z.l) := by rw [hz]; exact hej1.2
                have HJ := Lib.hid hj
                have HEJ := Lib.hid hej
                have HZ := Lib.hid hz
                have HCALL := Lib.hid (ahead_cells b off n c i j y z wr hin (by omega) (by rw [HY.out]; rfl) (by rw [hz]; rfl) hc1' hc2' hd1 hd2)
                have hj0 : ¬ (j : Int) < 0 := by omega
                clear hej1 hj hej hz
                go_wp2_with fail
                refine (HCALL.out).mono ?_
                rintro e w2 ⟨rfl, hb2⟩
                have HB2 := Lib.hid hb2
                clear hb2
                by_cases hlt : lt y z
                · have hdec : decide (lt y z) = true := by simpa using hlt
                  rw [hdec]
                  have HLT := Lib.hid hlt
                  clear hlt hdec
                  go_wp2_with fail
                  go_roundw
                  case rel => exact ⟨i + 1, i, by omega, rfl, by go_num, best_new HJ.out (HEL.out.2 hy1) (by rw [← HY.out, ← HZ.out]; exact HLT.out), HBX.out.trans (HB2.out.mono HBX.out.size)⟩
                  case measure => simp [intOf]; omega
                · have hdec : decide (lt y z) = false := by simpa using hlt
                  rw [hdec]
                  have HLT := Lib.hid hlt
                  clear hlt hdec
                  go_wp2_with fail
                  go_roundw
                  case rel => exact ⟨i + 1, j, by omega, rfl, by go_num, best_old hji HEJ.out HJ.out (by rw [← HY.out, ← HZ.out]; exact HLT.out), HBX.out.trans (HB2.out.mono HBX.out.size)⟩
                  case measure => simp [intOf]; omega
            · clear hbest
              go_wp2_with fail
              go_roundw
              case rel => exact ⟨i + 1, t, by omega, rfl, by go_num, best_skip HBE.out (fun h => hy1 (HEL.out.1 h)), HBX.out⟩
              case measure => simp [intOf]; omega
        · obtain rfl : i = n := by omega
          have HBX := Lib.hid hbx
          clear hbx
          rcases hbest with ⟨rfl, hnone⟩ | ⟨j, rfl, hji, hej, hj⟩
          · have HTOT2 := Lib.hid (show p.map C.b = total by
              have h1 := left_none HQ.out (fun j hj => hnone j (by rw [HA.out.1] at hj; exact hj))
              have h2 := HTL.out
              rw [h1] at h2
              simpa [greedy] using h2)
            clear hnone
            go_wp2_with fail
            go_ret
            exact ⟨_, p.map C.b, rfl, by rw [List.length_map, HP.out, List.map_map]; exact own_below HR.out HBX.out, HB.out.trans (HBX.out.mono HB.out.size), by rw [HTOT2.out]; exact HPI.out⟩
          · obtain ⟨t, hqt, hlt⟩ := left_some HQ.out (by rw [HA.out.1]; exact hji) hej (fun j' hj' => hj j' (by rw [HA.out.1] at hj'; exact hj'))
            have hca := (HA.out.below (HB.out.trans (HBX.out.mono HB.out.size)))
            have hgl : g < wo.heap.size := (HO.out.lt g rfl).2
            have hmark := Lib.hid (show wr.cell? ⟨g, j, none⟩ = some (.bool (gone p j)) from (HBX.out.cell (p := ⟨g, j, none⟩) hgl).trans ((World.ownsRow.cellAt HO.out j (by omega)).trans (marks_at hji)))
            rcases hca.2 with h0 | ⟨b, off, hAe, hbl, hc⟩
            · omega
            subst hAe
            obtain ⟨hc1, hc2⟩ := hc j hji
            clear hc hca
            obtain ⟨y, hy⟩ : ∃ y, y = cAt ls j := ⟨_, rfl⟩
            have hc1' : wr.cell? ⟨b, off + j * 2, none⟩ = some (.int .i64 y.b) := by rw [hy]; exact hc1
            have hc2' : wr.cell? ⟨b, off + (j * 2 + 1), none⟩ = some (.int .i64 y.l) := by rw [hy]; exact hc2
            rw [← hy] at hqt hlt
            have hy1 : 1 ≤ y.l := by rw [hy]; exact hej.2
            have HY := Lib.hid hy
            have HQT := Lib.hid hqt
            have HLT := Lib.hid hlt
            clear hy hqt hlt hej hj hc1 hc2
            by_cases hym : y.l ≤ m
            · have hsub : (-9223372036854775808 : Int) ≤ m - y.l := by omega
              have hsub2 : m - y.l ≤ 9223372036854775807 := by omega
              have hk1 : k + 1 ≤ 1000 := by omega
              have HRW := Lib.hid (own_below HR.out HBX.out)
              have HOW := Lib.hid (own_below HO.out HBX.out)
              have hng := Lib.hid (show u5.ownBlock ≠ some g by
                rcases HOW.out.2 with ⟨h1, _⟩ | ⟨g', cap, cur, hv, _, hh, _⟩
                · cases h1
                · injection hv with ha _ _
                  injection ha with ha
                  injection ha with ha
                  subst ha
                  exact own_ne HRW.out hh (by decide))
              have hfz := World.ownsRow.frozenAt HOW.out j
              have HM := Lib.hid (show (wr.setCell ⟨g, j, none⟩ (.bool true)).ownsRow w.heap.size 4 1 (.slice (some ⟨g, 0, none⟩) i i) i (marks (p ++ [y]) i) by
                rw [← marks_set (show y.a = (j : Int) by rw [HY.out]; rfl)]; exact (World.ownsRow.stored HOW.out j (.bool true)).1)
              have HRS := Lib.hid (show (wr.setCell ⟨g, j, none⟩ (.bool true)).ownsRow w.heap.size 3 1 u5 k (p.map fun x => Value.int .i64 x.b) from
                World.ownsRow.kept HRW.out (grown_set (grown_refl wr (some g)) j (.bool true)) (.inr hng.out))
              have hne : ¬ b = g := by
                rcases HA.out.2 with h0 | ⟨b', off', hAe, hbl', _⟩
                · omega
                · injection hAe with hAe
                  injection hAe with hAe
                  omega
              have hmk := hmark.out
              have hbase : w.heap.size ≤ wr.heap.size := (HB.out.trans (HBX.out.mono HB.out.size)).size
              obtain ⟨i3, hi3, hz3, hs3, hb3⟩ := info_parts info3
              have HNEW := Lib.hid (show ∀ u : Value, ((wr.setCell ⟨g, j, none⟩ (.bool true)).alloc (.cells #[u] 3)).heap[(wr.setCell ⟨g, j, none⟩ (.bool true)).heap.size]? = some (.cells #[u] 3 (0, 0)) from fun u => heap_alloc_new _ _)
              go_wp2_with (at_builtin; refine wpList_append_lies _ rfl _ _ _ rfl w.heap.size 3 i3 _ 1 8 Try.underlying25 hi3 hz3 hs3 hb3 rfl (by omega) u5 k (p.map fun x => Value.int .i64 x.b) rfl (HRS.out.alloc _) ⟨wr.heap.size, 0, none⟩ 1 1 [.int .i64 y.b] rfl rfl (World.news_of_block (cs := #[.int .i64 y.b]) (t := 3) (fr := (0, 0)) (by simpa using HNEW.out (.int .i64 y.b))) (by simp [Value.oneCell']) (by omega) (by unfold maxLen; omega) (by omega) (by simp; omega) (wr.heap.size + 1) (by simp) ?_; intro gg cap2 w2 hown1 hgrow hat hlt2)
              go_roundw
              case rel =>
                have h1 : Below w.heap.size w (wr.setCell ⟨g, j, none⟩ (.bool true)) := (HB.out.trans (HBX.out.mono HB.out.size)).setCell hgb _
                have h2 : Below w.heap.size w ((wr.setCell ⟨g, j, none⟩ (.bool true)).alloc (.cells #[.int .i64 y.b] 3)) := h1.alloc h1.size _
                refine ⟨k + 1, m - y.l, by omega, rfl, by go_num, p ++ [y], t, by simp [HP.out], HLT.out, ?_, by rw [List.map_append]; exact hown1, ?_, ?_, by omega, hgb⟩
                · refine World.ownsRow.kept (HM.out.alloc _) hgrow (.inr ?_)
                  intro he
                  exact hng.out he.symm
                · exact h2.grown hgrow (by simp; omega) (fun q hq => (HRS.out.lt q hq).1)
                · rw [← HTL.out, HQT.out]
                  rw [show greedy (y :: t) m = if y.l ≤ m then y.b :: greedy t (m - y.l) else [] from rfl, if_pos hym, List.map_append, List.append_assoc]
                  rfl
              case measure => simp [intOf]; omega
            · have hym' : decide (m < y.l) = true := by simp; omega
              have HTOT2 := Lib.hid (show p.map C.b = total by
                have h2 := HTL.out
                rw [HQT.out] at h2
                unfold greedy at h2
                rw [if_neg hym] at h2
                simpa using h2)
              go_wp2_with fail
              go_ret
              exact ⟨_, p.map C.b, rfl, by rw [List.length_map, HP.out, List.map_map]; exact own_below HR.out HBX.out, HB.out.trans (HBX.out.mono HB.out.size), by rw [HTOT2.out]; exact HPI.out⟩
    · have HTOT2 := Lib.hid (show p.map C.b = total by
        have h1 := left_full HQ.out (by rw [HA.out.1, HP.out]; omega)
        have h2 := HTL.out
        rw [h1] at h2
        simpa [greedy] using h2)
      go_wp2_with fail
      go_ret
      exact ⟨_, p.map C.b, rfl, by rw [List.length_map, HP.out, List.map_map]; exact HR.out, HB.out, by rw [HTOT2.out]; exact HPI.out⟩

end Go.Proofs.Ytfncfcjaponeeaa
