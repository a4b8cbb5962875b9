/- choose.Pick: what it hands back, of at most a thousand candidates. -/
import Derived.Test.YtfncfcjaponeeaaHeap
namespace Go.Proofs.Ytfncfcjaponeeaa
open Go.RowKit

/-- candidates that came in: a row of pairs -/
def Cands (w : World) (A : Option Addr) (n : Nat) (ls : List (Int × Int)) : Prop :=
  ls.length = n ∧ (n = 0 ∨ ∃ b off, A = some ⟨b, off, none⟩ ∧ b < w.heap.size ∧ ∀ j, j < n → w.cell? ⟨b, off + j * 2, none⟩ = some (.int .i64 (ls.getD j (0, 0)).1) ∧ w.cell? ⟨b, off + (j * 2 + 1), none⟩ = some (.int .i64 (ls.getD j (0, 0)).2))

theorem Cands.below {w w' : World} {A : Option Addr} {n : Nat} {ls : List (Int × Int)} (h : Cands w A n ls) (hb : Below w.heap.size w w') : Cands w' A n ls := by
  refine ⟨h.1, ?_⟩
  rcases h.2 with h | ⟨b, off, hA, hlt, hc⟩
  · exact .inl h
  · exact .inr ⟨b, off, hA, Nat.lt_of_lt_of_le hlt hb.size, fun j hj => ⟨(hb.cell (p := ⟨b, off + j * 2, none⟩) hlt).trans (hc j hj).1, (hb.cell (p := ⟨b, off + (j * 2 + 1), none⟩) hlt).trans (hc j hj).2⟩⟩

theorem cands_take {ls : List (Int × Int)} {k : Nat} (hk : k < ls.length) :
    cands (ls.take (k + 1)) 0 = cands (ls.take k) 0 ++ (if 1 ≤ (ls.getD k (0, 0)).2 then [⟨(ls.getD k (0, 0)).1, (ls.getD k (0, 0)).2, k⟩] else []) := by
  rw [List.take_succ_eq_append_getElem hk, cands_append]
  have : ls.getD k (0, 0) = ls[k] := by rw [List.getD_eq_getElem?_getD, List.getElem?_eq_getElem hk]; rfl
  rw [this]
  have h2 : 0 + (ls.take k).length = k := by simp; omega
  rw [h2]
  obtain ⟨b, l⟩ := ls[k]
  simp only [cands]

theorem cands_length (ls : List (Int × Int)) : ∀ i, (cands ls i).length ≤ ls.length := by
  induction ls with
  | nil => intro i; simp [cands]
  | cons p r ih =>
    intro i
    unfold cands
    split
    · have := ih (i + 1); simp; omega
    · have := ih (i + 1); simp; omega

theorem heapOf_length (cs : List C) : (heapOf cs).length = cs.length := (heapOf_ok cs).2.length_eq

/-- how far the heap has come -/
def HeapRel (w : World) (ls : List (Int × Int)) (p k : Nat) (wr : World) : Prop :=
  ∃ v, Box wr p v ∧ wr.ownsRow w.heap.size 37 3 v (heapOf (cands (ls.take k) 0)).length (flat (heapOf (cands (ls.take k) 0))) ∧ Below w.heap.size w wr ∧ w.heap.size ≤ p

theorem turn_below {w a b : World} {p : Nat} {r : Option Nat} {B : Nat} (h : Below B w a) (k : Turn a b p r) (hB : B ≤ a.heap.size) (hp : B ≤ p) (hr : ∀ g, r = some g → B ≤ g) : Below B w b :=
  ⟨k.os.trans h.os, k.tape.trans h.tape, k.output.trans h.output, Nat.le_trans h.size k.size, fun i hi => (k.block i (by omega) (by omega) (fun he => by have := hr i he.symm; omega)).trans (h.block i hi)⟩

theorem info3 : (Try.prog.info? 3).map (fun i => (i.zero, i.size, i.bytes)) = some (some (.int .i64 0), 1, 8) := by kernel_rfl

theorem own_ne {w : World} {base n size : Nat} {e t : TypeId} {v : Value} {xs : List Value} {k : Nat} {cs : Array Value} {f : Nat × Nat} (h : w.ownsRow base e size v n xs) (hk : w.heap[k]? = some (.cells cs t f)) (hne : e ≠ t) : v.ownBlock ≠ some k := by
  rcases h.2 with ⟨rfl, _⟩ | ⟨g', cap, cur, rfl, _, hh, _⟩
  · simp [Value.ownBlock]
  · intro he
    simp only [Value.ownBlock, Option.some.injEq] at he
    subst he
    rw [hh] at hk
    injection hk with hk
    injection hk with _ ht
    exact hne ht

theorem own_turn {w w' : World} {base n size p : Nat} {e : TypeId} {v : Value} {xs : List Value} {r : Option Nat} (h : w.ownsRow base e size v n xs) (ht : Turn w w' p r) (hp : v.ownBlock ≠ some p) (hr : v.ownBlock = none ∨ v.ownBlock ≠ r) : w'.ownsRow base e size v n xs := by
  rcases h.2 with h0 | ⟨g, cap, cur, hv, h2, h3, h4⟩
  · exact ⟨h.1, .inl h0⟩
  · refine ⟨h.1, .inr ⟨g, cap, cur, hv, h2, ?_, h4⟩⟩
    have hg : v.ownBlock = some g := by rw [hv]; rfl
    have hlt := (h.lt g hg).2
    refine (ht.block g hlt (fun he => hp (by rw [hg, he])) (fun he => ?_)).trans h3
    rcases hr with hr | hr
    · rw [hg] at hr; cases hr
    · exact hr (by rw [hg, he])

/-- how many stand in the queue -/
def qlen (p : Nat) (w : World) : Nat := match w.cell? ⟨p, 0, none⟩ with
  | some (.slice _ n _) => n
  | _ => 0

theorem own_form {w : World} {base n size : Nat} {e : TypeId} {v : Value} {xs : List Value} (h : w.ownsRow base e size v n xs) : ∃ A c, v = .slice A n c := by
  rcases h.2 with ⟨rfl, rfl⟩ | ⟨g', cap, cur, rfl, _⟩
  · exact ⟨_, _, rfl⟩
  · exact ⟨_, _, rfl⟩

theorem qlen_box {w : World} {p base : Nat} {v : Value} {h : List C} (hb : Box w p v) (hr : w.ownsRow base 37 3 v h.length (flat h)) : qlen p w = h.length := by
  obtain ⟨A, c, rfl⟩ := own_form hr
  unfold qlen
  rw [hb.cell]

/-- how far the picking has come -/
def PickRel (w : World) (total : List Int) (p : Nat) (m : Int) (ov : Value) (h : List C) (outs : List Int) (wr : World) : Prop :=
  ∃ v, Box wr p v ∧ wr.ownsRow w.heap.size 37 3 v h.length (flat h) ∧ wr.ownsRow w.heap.size 3 1 ov outs.length (outs.map (Value.int .i64)) ∧ Below w.heap.size w wr ∧ w.heap.size ≤ p ∧
    Hp h h.length ∧ (∀ x ∈ h, 1 ≤ x.l) ∧ outs ++ picks h.length h m = total ∧ outs.length + h.length ≤ 1000 ∧ m ≤ 9223372036854775807

def OutP (w : World) (ls : List (Int × Int)) (most : Int) (e : Ending) (w' : World) : Prop :=
  ∃ ov outs, e = .returned ov ∧ w'.ownsRow w.heap.size 3 1 ov outs.length (outs.map (Value.int .i64)) ∧ Below w.heap.size w w' ∧ Picked ls most outs

set_option maxRecDepth 100000 in
set_option maxHeartbeats 2000000 in
theorem pick_any (A : Option Addr) (n c : Nat) (most : Int) (ls : List (Int × Int)) (w : World) (hA : Cands w A n ls) (hn : n ≤ 1000) (hm : most ≤ 9223372036854775807) :
    Calls Try.prog 10 #[.slice A n c, .int .i64 most] w (OutP w ls most) := by
  have HA := Lib.hid hA
  clear hA
  go_enter Try.func10, Try.ntmps10
  go_wp2_with fail
  go_loopw [11] (fun s11 wr => ∃ k : Nat, k ≤ n ∧ s11 = .int .i64 k ∧ HeapRel w ls w.heap.size k wr) (fun s11 _ => n - (intOf s11).toNat)
  case atStart =>
    refine ⟨0, by omega, rfl, .slice none 0 0, ?_, World.ownsRow_nil _ _ _ _, (Below.refl _ _).alloc (Nat.le_refl _) _, Nat.le_refl _⟩
    exact heap_alloc_new w _
  case round =>
    obtain ⟨k, hk, rfl, hrel⟩ := hrel
    by_cases hkn : k < n
    · obtain ⟨v, hb, hr, hB, _⟩ := hrel
      have hl := HA.out.1
      have HCA := Lib.hid (HA.out.below hB)
      rcases (HA.out.below hB).2 with h0 | ⟨b, off, hAe, hbl, hc⟩
      · omega
      subst hAe
      obtain ⟨hc1, hc2⟩ := hc k hkn
      clear hc
      obtain ⟨y, hy⟩ : ∃ y, y = ls.getD k (0, 0) := ⟨_, rfl⟩
      rw [← hy] at hc1 hc2
      obtain ⟨yb, yl⟩ := y
      simp only at hc1 hc2
      have HY := Lib.hid hy
      have HBX := Lib.hid hb
      have HR := Lib.hid hr
      have HBE := Lib.hid hB
      have HL := Lib.hid hl
      have hpw := hb.lt
      clear hy hb hr hB hl
      by_cases h1 : 1 ≤ yl
      · have HE := Lib.hid (show cands (ls.take (k + 1)) 0 = cands (ls.take k) 0 ++ [⟨yb, yl, k⟩] by rw [cands_take (by rw [HL.out]; exact hkn), ← HY.out, if_pos h1])
        have hlen : (heapOf (cands (ls.take k) 0)).length ≤ 1000 := by
          rw [heapOf_length]
          have := cands_length (ls.take k) 0
          rw [List.length_take] at this
          omega
        go_wp2_with fail
        refine (hpush_any w.heap.size w.heap.size v (heapOf (cands (ls.take k) 0)) ⟨yb, yl, k⟩ _ (HBX.out.alloc _) (HR.out.alloc _) (by simp; omega) (by omega)).mono ?_
        rintro e w1 ⟨rfl, g, cc, hb1, hr1, ht1, hg1⟩
        have HB1 := Lib.hid hb1
        have HR1 := Lib.hid hr1
        have HT1 := Lib.hid ht1
        have HG1 := Lib.hid hg1
        clear hb1 hr1 ht1 hg1 hlen
        go_wp2_with fail
        go_roundw
        case rel =>
          refine ⟨k + 1, by omega, by go_num, .slice (some ⟨g, 0, none⟩) (hpush (heapOf (cands (ls.take k) 0)) ⟨yb, yl, k⟩).length cc, HB1.out, ?_, ?_, Nat.le_refl _⟩
          · rw [HE.out, heapOf_snoc]
            exact HR1.out
          · exact turn_below (HBE.out.alloc (by omega) _) HT1.out (by simp; omega) (Nat.le_refl _) (fun g hg => (HR.out.lt g hg).1)
        case measure => simp [intOf]; omega
      · have HE := Lib.hid (show cands (ls.take (k + 1)) 0 = cands (ls.take k) 0 by rw [cands_take (by rw [HL.out]; exact hkn), ← HY.out, if_neg h1, List.append_nil])
        go_wp2_with fail
        go_roundw
        case rel =>
          refine ⟨k + 1, by omega, by go_num, v, HBX.out.alloc _, ?_, HBE.out.alloc (by omega) _, Nat.le_refl _⟩
          rw [HE.out]
          exact HR.out.alloc _
        case measure => simp [intOf]; omega
    · obtain rfl : k = n := by omega
      obtain ⟨v, hb, hr, hB, _⟩ := hrel
      have hls : ls.take k = ls := List.take_of_length_le (by rw [HA.out.1]; exact Nat.le_refl _)
      rw [hls] at hr
      obtain ⟨hh1, hh2⟩ := heapOf_ok (cands ls 0)
      have hl1000 : (heapOf (cands ls 0)).length ≤ 1000 := by
        rw [heapOf_length]
        have := cands_length ls 0
        rw [HA.out.1] at this
        omega
      have HP : PickRel w (picks (heapOf (cands ls 0)).length (heapOf (cands ls 0)) most) w.heap.size most (.slice none 0 0) (heapOf (cands ls 0)) [] wr :=
        ⟨v, hb, hr, World.ownsRow_nil _ _ _ _, hB, Nat.le_refl _, hh1, fun x hx => cands_live (hh2.mem_iff.1 hx), rfl, by simpa using hl1000, hm⟩
      have HT := Lib.hid (show Picked ls most (picks (heapOf (cands ls 0)).length (heapOf (cands ls 0)) most) by
        have := picked_heap ls most
        rw [heapOf_length]
        exact this)
      generalize picks (heapOf (cands ls 0)).length (heapOf (cands ls 0)) most = total at *
      generalize heapOf (cands ls 0) = h0 at *
      clear hb hr hls hh1 hh2 hl1000 hkn
      obtain ⟨i3, hi3, hz3, hs3, hb3⟩ := info_parts info3
      go_wp2_with fail
      go_loopw [1, 8] (fun s1 s8 wr => ∃ (m : Int) (h : List C) (outs : List Int), s1 = .int .i64 m ∧ PickRel w total w.heap.size m s8 h outs wr) (fun _ _ wr => qlen w.heap.size wr)
      case atStart => exact ⟨most, h0, [], rfl, HP⟩
      case round =>
        clear HP
        obtain ⟨m, h, outs, rfl, v, hb, hr, ho, hB, _, hh, hlive, hpk, hlen, hmm⟩ := hrel
        obtain ⟨Av, cv, rfl⟩ := own_form hr
        have hbc := hb.cell
        by_cases hl0 : h.length = 0
        · have hnil : picks h.length h m = [] := by rw [hl0]; rfl
          have htot : outs = total := by rw [← hpk, hnil, List.append_nil]
          have HO := Lib.hid ho
          have HBE := Lib.hid hB
          have HTOT := Lib.hid htot
          rw [hl0] at hbc
          clear hb hr ho hB hh hlive hpk hlen hnil htot hl0
          go_wp2_with fail
          go_ret
          exact ⟨_, outs, rfl, HO.out, HBE.out, by rw [HTOT.out]; exact HT.out⟩
        · obtain ⟨n, hn1⟩ : ∃ n, n + 1 = h.length := ⟨h.length - 1, by omega⟩
          have hpos : (0 : Int) < (h.length : Int) := by omega
          obtain ⟨g, cap, hv, hgb, hgl⟩ := hr.form (by omega)
          injection hv with hv hv2 hv3
          subst hv
          clear hv2 hv3
          have hrow : Row wr w.heap.size g cv h := hr
          obtain ⟨x0, x1, x2⟩ := hrow.cells (i := 0) (by omega)
          have x0' : wr.cell? ⟨g, 0, none⟩ = some (.int .i64 (at_ h 0).b) := by simpa using x0
          have x1' : wr.cell? ⟨g, 1, none⟩ = some (.int .i64 (at_ h 0).l) := by simpa using x1
          have hlv : 1 ≤ (at_ h 0).l := hlive _ (at_mem (by omega))
          have HB := Lib.hid hb
          have HR := Lib.hid hrow
          have HO := Lib.hid ho
          have HBE := Lib.hid hB
          have HH := Lib.hid hh
          have HLIVE := Lib.hid hlive
          have HPK := Lib.hid hpk
          have HN := Lib.hid hn1
          clear hb hr hrow ho hB hh hlive hpk hn1 hl0 x0 x1 x2
          by_cases hx : (at_ h 0).l ≤ m
          · have hsub : (-9223372036854775808 : Int) ≤ m - (at_ h 0).l := by omega
            have hsub2 : m - (at_ h 0).l ≤ 9223372036854775807 := by omega
            have hlen2 : outs.length + 1 ≤ 1000 := by have := HN.out; omega
            have hnp := Lib.hid (own_ne HO.out HB.out (by decide))
            have hng := Lib.hid (show u8.ownBlock ≠ some g by
              rcases HR.out.2 with ⟨h1, _⟩ | ⟨g', cap, cur, hv, _, hh, _⟩
              · cases h1
              · injection hv with ha _ _
                injection ha with ha
                injection ha with ha
                subst ha
                exact own_ne HO.out hh (by decide))
            have hbase : w.heap.size ≤ wr.heap.size := by have := HBE.out.size; exact this
            have HROW1 := Lib.hid (show ∀ (u : Obj) (w1 : World), (wr.alloc u).grownBy w1 u8.ownBlock → Row w1 w.heap.size g cv h from fun u w1 hg => World.ownsRow.kept (HR.out.alloc u) hg (.inr (Ne.symm hng.out)))
            have HBOX1 := Lib.hid (show ∀ (u : Obj) (w1 : World), (wr.alloc u).grownBy w1 u8.ownBlock → Box w1 w.heap.size (.slice (some ⟨g, 0, none⟩) h.length cv) from fun u w1 hg => (HB.out.alloc u).grown hg (Ne.symm hnp.out))
            have hgl0 : 0 < h.length := by have := HN.out; omega
            have HNEW := Lib.hid (show ∀ u : Value, (wr.alloc (.cells #[u] 3)).heap[wr.heap.size]? = some (.cells #[u] 3 (0, 0)) from fun u => heap_alloc_new wr _)
            go_wp2_with (at_builtin; refine wpList_append_lies _ rfl _ _ _ rfl w.heap.size 3 i3 _ 1 8 Try.underlying25 hi3 hz3 hs3 hb3 rfl (by omega) u8 outs.length (outs.map (Value.int .i64)) rfl (HO.out.alloc _) ⟨wr.heap.size, 0, none⟩ 1 1 [.int .i64 (at_ h 0).b] rfl rfl (World.news_of_block (cs := #[.int .i64 (at_ h 0).b]) (t := 3) (fr := (0, 0)) (HNEW.out _)) (by simp [Value.oneCell']) (by omega) (by unfold maxLen; omega) (by omega) (by simp; omega) (wr.heap.size + 1) (by simp) ?_; intro gg cap2 w1 hown1 hgrow hat hlt; go_must (have HB1 := Lib.hid (HBOX1.out _ _ hgrow); have HR1 := Lib.hid (HROW1.out _ _ hgrow); have HGW := Lib.hid hgrow; have HO1 := Lib.hid hown1; have HAT := Lib.hid hat; have hcb := HB1.out.cell; have y0 := (HR1.out.cells (i := 0) hgl0).2.1; have y0' : w1.cell? ⟨g, 1, none⟩ = some (.int .i64 (at_ h 0).l) := (by simpa using y0); clear hown1 hgrow hat y0))
            have HPOP := Lib.hid (hpop_any w.heap.size w.heap.size g cv h w1 HB1.out HR1.out hgl0 (by omega))
            refine (HPOP.out).mono ?_
            rintro e w2 ⟨⟨y, rfl⟩, hb2, hr2, ht2⟩
            have HB2 := Lib.hid hb2
            have HR2 := Lib.hid hr2
            have HT2 := Lib.hid ht2
            clear hb2 hr2 ht2 hcb y0' x0' x1' hbc
            go_wp2_with fail
            go_roundw
            case rel =>
              have hpl : (hpop h).length + 1 = h.length := by rw [hpop_length]; omega
              have hmem : ∀ x ∈ hpop h, x ∈ h := fun x hx => (hpop_perm hgl0).mem_iff.1 (List.mem_cons_of_mem _ hx)
              refine ⟨m - (at_ h 0).l, hpop h, outs ++ [(at_ h 0).b], rfl, _, HB2.out, HR2.out, ?_, ?_, Nat.le_refl _, hpop_heap HH.out, fun x hx => HLIVE.out x (hmem x hx), ?_, by simp; omega, by omega⟩
              · have h1 : (outs ++ [(at_ h 0).b]).length = outs.length + 1 := by simp
                rw [h1, List.map_append]
                have h3 : w1.ownsRow w.heap.size 37 3 (.slice (some ⟨g, 0, none⟩) h.length cv) h.length (flat h) := HR1.out
                refine own_turn HO1.out HT2.out (own_ne HO1.out HB1.out (by decide)) (.inr ?_)
                rcases h3.2 with ⟨h4, _⟩ | ⟨g', cap, cur, hv, _, hh, _⟩
                · cases h4
                · injection hv with ha _ _
                  injection ha with ha
                  injection ha with ha
                  subst ha
                  exact own_ne HO1.out hh (by decide)
              · have h1 : Below w.heap.size w w1 := by
                  have h2 := HBE.out
                  refine (h2.alloc hbase _).trans ⟨HGW.out.os, HGW.out.tape, HGW.out.output, HGW.out.size, fun i hi => HGW.out.block i (by simp; omega) (fun he => ?_)⟩
                  have := (HO.out.lt i he.symm).1
                  omega
                refine turn_below h1 HT2.out h1.size (Nat.le_refl _) (fun q hq => ?_)
                injection hq with hq
                subst hq
                exact hgb
              · rw [← HPK.out, List.append_assoc]
                congr 1
                rw [← hpl]
                conv => rhs; unfold picks
                rw [if_pos ⟨by omega, hx⟩]
                rfl
            case measure =>
              rw [qlen_box HB2.out HR2.out, qlen_box HB.out HR.out, hpop_length]
              omega
          · have hx' : decide ((at_ h 0).l ≤ m) = false := by simpa using hx
            have htot : outs = total := by
              have := HPK.out
              rw [← HN.out] at this
              unfold picks at this
              rw [if_neg (fun h => hx h.2), List.append_nil] at this
              exact this
            have HTOT := Lib.hid htot
            clear htot hx
            go_wp2_with fail
            go_ret
            exact ⟨_, outs, rfl, HO.out, HBE.out, by rw [HTOT.out]; exact HT.out⟩

end Go.Proofs.Ytfncfcjaponeeaa
