/- (*graph.Graph).named: what some Srcs name. Condition: at most a thousand of them. -/
import Derived.Test.YtlogojiphjpknaaGTurn
import Derived.Test.YtlogojiphjpknaaGNamedP
import Derived.Deep.CutBlock
namespace Go.Proofs.Ytlogojiphjpknaa
open Go.RowKit
set_option linter.unusedVariables false

/-- a row of pairs that can be read -/
def Pairs (w : World) (A : Option Addr) (l : List V) : Prop :=
  l = [] ∨ ∃ g, A = some ⟨g, 0, none⟩ ∧ g < w.heap.size ∧ ∀ j, j < l.length → w.cell? ⟨g, j * 2, none⟩ = some (.int .i64 (l.getD j default).k) ∧ w.cell? ⟨g, j * 2 + 1, none⟩ = some (.int .i64 (l.getD j default).n)

theorem Pairs.below {w w' : World} {A : Option Addr} {l : List V} (h : Pairs w A l) (hb : Below w.heap.size w w') : Pairs w' A l := by
  rcases h with h | ⟨g, hA, hlt, hc⟩
  · exact .inl h
  · exact .inr ⟨g, hA, Nat.lt_of_lt_of_le hlt hb.size, fun j hj => ⟨(hb.cell (p := ⟨g, j * 2, none⟩) hlt).trans (hc j hj).1, (hb.cell (p := ⟨g, j * 2 + 1, none⟩) hlt).trans (hc j hj).2⟩⟩

theorem pairs_of {w : World} {base : Nat} {v : Value} {l : List V} {n : Nat} (h : w.ownsRow base 46 2 v n (vflat l)) (hl : l.length = n) : ∃ A c, v = .slice A n c ∧ Pairs w A l := by
  rcases h.2 with ⟨h1, h2⟩ | ⟨g, cap, cur, hv, hb, hh, hn, hm, hs, ht⟩
  · exact ⟨none, 0, by rw [h1, h2], .inl (List.eq_nil_of_length_eq_zero (by omega))⟩
  · refine ⟨some ⟨g, 0, none⟩, cap, hv, .inr ⟨g, rfl, ?_, fun j hj => ?_⟩⟩
    · rcases Nat.lt_or_ge g w.heap.size with h1 | h1
      · exact h1
      · rw [Array.getElem?_eq_none h1] at hh; cases hh
    · subst hv
      obtain ⟨e0, e1⟩ := vflat_at l j hj
      exact ⟨(World.ownsRow.cellAt h _ (by omega)).trans e0, (World.ownsRow.cellAt h _ (by omega)).trans e1⟩

def NamedP (w : World) (X : List V × Int) (e : Ending) (w' : World) : Prop :=
  ∃ A c, e = .returned (.tuple #[.slice A X.1.length c, .int .i64 X.2]) ∧ Pairs w' A X.1 ∧ Below w.heap.size w w'

theorem info46 : (Try.prog.info? 46).map (fun i => (i.zero, i.size, i.bytes)) = some (some (.agg #[.int .i64 0, .int .i64 0]), 2, 16) := by kernel_rfl

theorem news_at {W : World} {g : Nat} {x y : Value} (h : g = W.heap.size) : (W.alloc (.cells #[x, y] 46)).heap[g]? = some (.cells #[x, y] 46 (0, 0)) := by subst h; exact heap_alloc_new W _

theorem named_nil (w : World) (x : Int) {w' : World} (hb : Below w.heap.size w w') : NamedP w ([], x) (.returned (.tuple #[.slice none 0 0, .int .i64 x])) w' := ⟨none, 0, rfl, .inl rfl, hb⟩

section
variable {F : Nat → Prop} {w : World} {p : Nat} {G : Gd} {bt ct : Nat} {ov : Value} {gs cs : List Nat}

set_option maxRecDepth 100000 in
set_option maxHeartbeats 1000000 in
theorem gnamed_not (h : Vw 79 F w p G bt ct ov gs cs) (t : Int) (A : Option Addr) (n c : Nat) (ss : List V) (hn : G.not t) : Calls Try.prog 55 #[.pointer (some ⟨p, 0, none⟩), .int .i64 t, .slice A n c] w (NamedP w (G.named t ss)) := by
  rw [Gd.named_not hn]
  obtain ⟨c0, c1⟩ := h.pcell
  clear h
  rcases hn with hn | hn
  · go_enter Try.func55, Try.ntmps55
    go_wp2_with fail
    go_ret2
    exact named_nil _ _ (below_refl _)
  · by_cases ht : t < 0
    · go_enter Try.func55, Try.ntmps55
      go_wp2_with fail
      go_ret2
      exact named_nil _ _ (below_refl _)
    · go_enter Try.func55, Try.ntmps55
      go_wp2_with fail
      go_ret2
      exact named_nil _ _ (below_refl _)

set_option maxRecDepth 100000 in
set_option maxHeartbeats 4000000 in
theorem gnamed_walk (h : Vw 79 F w p G bt ct ov gs cs) (t : Nat) (ht : t < G.ts.length) (A : Option Addr) (c : Nat) (ss : List V) (hA : Pairs w A ss) (hs : ss.length ≤ 1000) :
    Calls Try.prog 55 #[.pointer (some ⟨p, 0, none⟩), .int .i64 t, .slice A ss.length c] w (NamedP w (G.named t ss)) := by
  have hnot : ¬ G.not t := by unfold Gd.not; omega
  have h64 := h.h64
  have HNOT := Lib.hid hnot
  have HV := Lib.hid h
  have HA := Lib.hid hA
  obtain ⟨c0, c1⟩ := h.pcell
  have ht0 : ¬ (t : Int) < 0 := by omega
  have ht1 : ¬ (G.ts.length : Int) ≤ t := by omega
  obtain ⟨L, hL⟩ : ∃ L, L = ss.length := ⟨_, rfl⟩
  rw [← hL] at hs ⊢
  have HL := Lib.hid hL
  clear hnot h hA hL
  go_enter Try.func55, Try.ntmps55
  go_wp2_with fail
  go_loopw [29] (fun s29 wr => ∃ k : Nat, k ≤ L ∧ s29 = .int .i64 k ∧ Below w.heap.size w wr ∧ ∀ j, j < k → ¬ Gd.bad (ss.getD j default)) (fun s29 _ => L - (intOf s29).toNat)
  case atStart => exact ⟨0, by omega, rfl, below_refl _, fun j hj => by omega⟩
  case round =>
    obtain ⟨k, hk, rfl, hbr, hok⟩ := hrel
    have HOK := Lib.hid hok
    have HBR := Lib.hid hbr
    clear hok hbr
    by_cases hkL : k < L
    · rcases (HA.out.below HBR.out) with h0 | ⟨g, rfl, hg, hc⟩
      · rw [HL.out, h0] at hkL; simp at hkL
      obtain ⟨x0, x1⟩ := hc k (by rw [← HL.out]; exact hkL)
      obtain ⟨s, hs'⟩ : ∃ s, s = ss.getD k default := ⟨_, rfl⟩
      rw [← hs'] at x0 x1
      have HS := Lib.hid hs'
      obtain ⟨sk, sn⟩ := s
      simp only at x0 x1
      clear hs' hc
      have hcases : sk < 0 ∨ 2 < sk ∨ (sk = 0 ∧ sn < 0) ∨ (sk = 0 ∧ 1099511627776 < sn) ∨ (sk = 0 ∧ 0 ≤ sn ∧ sn ≤ 1099511627776) ∨ (sk = 1 ∧ 0 < sk) ∨ (sk = 2 ∧ 0 < sk) := by omega
      rcases hcases with q | q | ⟨rfl, q⟩ | ⟨rfl, q⟩ | ⟨rfl, q1, q2⟩ | ⟨rfl, q⟩ | ⟨rfl, q⟩
      · have HBAD := Lib.hid (Gd.named_bad HNOT.out (k := k) (by rw [← HL.out]; exact hkL) (by rw [← HS.out]; exact .inl q))
        go_wp2_with fail
        go_ret2
        rw [HBAD.out]
        exact named_nil _ _ (HBR.out.alloc HBR.out.size _)
      · have HBAD := Lib.hid (Gd.named_bad HNOT.out (k := k) (by rw [← HL.out]; exact hkL) (by rw [← HS.out]; exact .inr (.inl q)))
        have q' : ¬ sk < 0 := by omega
        go_wp2_with fail
        go_ret2
        rw [HBAD.out]
        exact named_nil _ _ (HBR.out.alloc HBR.out.size _)
      · have HBAD := Lib.hid (Gd.named_bad HNOT.out (k := k) (by rw [← HL.out]; exact hkL) (by rw [← HS.out]; exact .inr (.inr ⟨rfl, .inl q⟩)))
        go_wp2_with fail
        go_ret2
        rw [HBAD.out]
        exact named_nil _ _ (HBR.out.alloc HBR.out.size _)
      · have HBAD := Lib.hid (Gd.named_bad HNOT.out (k := k) (by rw [← HL.out]; exact hkL) (by rw [← HS.out]; exact .inr (.inr ⟨rfl, .inr q⟩)))
        have q' : ¬ sn < 0 := by omega
        go_wp2_with fail
        go_ret2
        rw [HBAD.out]
        exact named_nil _ _ (HBR.out.alloc HBR.out.size _)
      all_goals (
        have HNB := Lib.hid (show ¬ Gd.bad (ss.getD k default) by rw [← HS.out]; unfold Gd.bad; simp only; omega)
        first | (have q3 : ¬ sn < 0 := by omega) | skip
        first | (have q4 : ¬ 1099511627776 < sn := by omega) | skip
        go_wp2_with fail
        go_roundw
        case rel => exact ⟨k + 1, by omega, by go_num, HBR.out.alloc HBR.out.size _, fun j hj => by
          by_cases hjk : j = k
          · rw [hjk]; exact HNB.out
          · exact HOK.out j (by omega)⟩
        case measure => simp [intOf]; omega)
    · obtain rfl : k = L := by omega
      go_wp2_with fail
      obtain ⟨i46, hi, hz, hs46, hb⟩ := info_parts info46
      go_loopw [10, 59] (fun s10 s59 wr => ∃ k' : Nat, k' ≤ k ∧ s59 = .int .i64 k' ∧ wr.ownsRow w.heap.size 46 2 s10 k' (vflat ((ss.take k').map fun s => (G.src t s).1)) ∧ Below w.heap.size w wr ∧ ∀ j, j < k' → (G.src t (ss.getD j default)).2 = 0) (fun _ s59 _ => k - (intOf s59).toNat)
      case atStart => exact ⟨0, by omega, rfl, World.ownsRow_nil _ _ _ _, HBR.out, fun j hj => by omega⟩
      case round =>
        clear HBR
        obtain ⟨j, hj, rfl, ho, hbr, hz0⟩ := hrel
        have HO := Lib.hid ho
        have HBR := Lib.hid hbr
        have HZ := Lib.hid hz0
        clear ho hbr hz0
        by_cases hjk : j < k
        · rcases (HA.out.below HBR.out) with h0 | ⟨g, rfl, hg, hc⟩
          · rw [HL.out, h0] at hjk; simp at hjk
          obtain ⟨x0, x1⟩ := hc j (by rw [← HL.out]; exact hjk)
          obtain ⟨s, hs'⟩ : ∃ s, s = ss.getD j default := ⟨_, rfl⟩
          rw [← hs'] at x0 x1
          have hnb : ¬ Gd.bad s := by rw [hs']; exact HOK.out j hjk
          have HSN := Lib.hid (show ∀ v : V, (G.src t s).1 = v → vflat ((ss.take (j + 1)).map fun s => (G.src t s).1) = vflat ((ss.take j).map fun s => (G.src t s).1) ++ [.int .i64 v.k, .int .i64 v.n] by
            intro v hv
            have hjs : j < ss.length := by rw [← HL.out]; exact hjk
            have e : ss[j] = s := by rw [hs', List.getD_eq_getElem?_getD, List.getElem?_eq_getElem hjs]; rfl
            rw [List.take_succ_eq_append_getElem hjs, List.map_append, vflat_append, e]
            simp only [List.map_cons, List.map_nil, hv]
            rfl)
          have HS := Lib.hid hs'
          have hsz := HBR.out.size
          have HOW := Lib.hid (show ∀ W, Below wr.heap.size wr W → W.ownsRow w.heap.size 46 2 u10 j (vflat ((ss.take j).map fun s => (G.src t s).1)) from fun W hW => own_same HO.out (fun q hq => hW.block q (HO.out.lt q hq).2))
          have HNEW := Lib.hid (show ∀ (w : World) (x y : Value), (w.alloc (.cells #[x, y] 46)).heap[w.heap.size]? = some (.cells #[x, y] 46 (0, 0)) from fun w x y => heap_alloc_new w _)
          obtain ⟨sk, sn⟩ := s
          simp only at x0 x1
          clear hs' hc
          have hcases : (sk = 0 ∧ ¬ (0 : Int) < 0) ∨ (sk = 1 ∧ (0 : Int) < sk) ∨ (sk = 2 ∧ (0 : Int) < sk) := by unfold Gd.bad at hnb; simp only at hnb; omega
          clear hnb
          rcases hcases with ⟨rfl, q⟩ | ⟨rfl, q⟩ | ⟨rfl, q⟩
          · have HSRC := Lib.hid (show G.src t ⟨0, sn⟩ = (⟨0, sn⟩, 0) from rfl)
            go_wp2_with (at_builtin; refine wpList_append_lies _ rfl (.tmp 91) (.tmp 93) _ rfl w.heap.size 46 i46 _ 2 16 Try.underlying67 hi hz hs46 hb rfl (by omega) u10 j (vflat ((ss.take j).map fun s => (G.src t s).1)) (by rfl) (HOW.out _ (by repeat (first | with_reducible exact Below.refl _ _ | with_reducible refine b_dn ?_ _ | with_reducible refine b_drew ?_ | with_reducible refine b_set ?_ | with_reducible refine b_set0 ?_ | with_reducible refine b_ext ?_ _ _ | with_reducible refine b_alloc ?_ _))) ⟨wr.heap.size + 2, 0, none⟩ 1 1 [.int .i64 0, .int .i64 sn] (by rfl) (by rfl) (World.news_of_block (cs := #[.int .i64 0, .int .i64 sn]) (t := 46) (fr := (0, 0)) (news_at (by simp [go_sem]))) (by simp [Value.oneCell']) (by omega) (by unfold maxLen; omega) (by omega) (by simp [go_sem]; omega) (wr.heap.size + 2 + 1) (by simp [go_sem]) ?_; intro gg cap w2 hown hgr hat hlt)
            go_roundw
            case rel =>
              refine ⟨j + 1, by omega, by go_num, by rw [HSN.out _ (by rw [HSRC.out])]; exact hown, ?_, fun i hi' => ?_⟩
              · refine Below.grown (HBR.out.trans (Below.mono (w := wr) (by repeat (first | with_reducible exact Below.refl _ _ | with_reducible refine b_dn ?_ _ | with_reducible refine b_drew ?_ | with_reducible refine b_set ?_ | with_reducible refine b_set0 ?_ | with_reducible refine b_ext ?_ _ _ | with_reducible refine b_alloc ?_ _)) HBR.out.size)) hgr ?_ (fun q hq => (HO.out.lt q hq).1)
                simp [go_sem]; omega
              · by_cases hij : i = j
                · rw [hij, ← HS.out, HSRC.out]
                · exact HZ.out i (by omega)
            case measure => simp [intOf]; omega
          · obtain ⟨id, y, hget⟩ : ∃ id y, (G.rt t).get sn = (id, y) := ⟨_, _, rfl⟩
            have HGET := Lib.hid (get_at (G.rt t) sn hget)
            obtain ⟨A2, c2, hov, _⟩ := HV.out.orow
            obtain ⟨_, _, r0, r1, r2, r3, r4, r5, r6, r7, r8, hpl, hbl⟩ := HV.out.fpre hov ht
            have hbc : ∀ b i, b < w.heap.size → wr.cell? ⟨b, i, none⟩ = w.cell? ⟨b, i, none⟩ := fun b i hb' => HBR.out.cell (p := ⟨b, i, none⟩) hb'
            rw [← hbc _ _ hbl] at r0 r1 r2 r3 r4 r5 r6 r7 r8
            have cp : wr.cell? ⟨p, 0, none⟩ = some (.slice (some ⟨bt, 0, none⟩) G.ts.length ct) := (hbc _ _ hpl).trans c0
            have hpl' : p < wr.heap.size := by omega
            have hbl' : bt < wr.heap.size := by omega
            have htT : (t : Int) < (G.ts.length : Int) := by omega
            have htT0 : (0 : Int) ≤ (t : Int) := by omega
            have HOV := Lib.hid hov
            have HGT := Lib.hid hget
            obtain ⟨r, hr⟩ : ∃ r, r = G.rt t := ⟨_, rfl⟩
            rw [← hr] at r0 r1 r2 r3 r4 r5 r6 r7 r8 HGET HGT
            have HR := Lib.hid hr
            clear hbc hov hget hr
            go_upto_region 17 with fail
            go_region_held3 (fun w' => w'.cell? ⟨p, 0, none⟩ = some (.slice (some ⟨bt, 0, none⟩) G.ts.length ct) ∧ w'.cell? ⟨bt, t * 9, none⟩ = some (.int .i64 r.n) ∧ w'.cell? ⟨bt, t * 9 + 1, none⟩ = some (.int .i64 r.a0) ∧ w'.cell? ⟨bt, t * 9 + 2, none⟩ = some (.int .i64 r.a1) ∧ w'.cell? ⟨bt, t * 9 + 3, none⟩ = some (.int .i64 r.a2) ∧ w'.cell? ⟨bt, t * 9 + 4, none⟩ = some (.int .i64 r.a3) ∧ w'.cell? ⟨bt, t * 9 + 5, none⟩ = some (.int .i64 r.a4) ∧ w'.cell? ⟨bt, t * 9 + 6, none⟩ = some (.int .i64 r.a5) ∧ w'.cell? ⟨bt, t * 9 + 7, none⟩ = some (.int .i64 r.a6) ∧ w'.cell? ⟨bt, t * 9 + 8, none⟩ = some (.int .i64 r.a7) ∧ w'.cell? ⟨wr.heap.size, 1, none⟩ = some (.int .i64 sn)) (go_simp)
              ((go_at_call 18; refine (HGET.out _).mono ?_; rintro e w2 ⟨rfl, hb2⟩; obtain ⟨os1, d1, rfl⟩ := ext_of hb2; clear hb2))
            all_goals (
              by_cases hy : y = 0
              · subst hy
                have HSRC := Lib.hid (show G.src t ⟨1, sn⟩ = (⟨1, id⟩, 0) by
                  have h1 := HGT.out
                  rw [HR.out] at h1
                  unfold Gd.src; rw [if_neg (by simp), if_pos rfl, h1]; rfl)
                go_wp2_with (at_builtin; refine wpList_append_lies _ rfl (.tmp 91) (.tmp 93) _ rfl w.heap.size 46 i46 _ 2 16 Try.underlying67 hi hz hs46 hb rfl (by omega) u10 j (vflat ((ss.take j).map fun s => (G.src t s).1)) (by rfl) (HOW.out _ (by repeat (first | with_reducible exact Below.refl _ _ | with_reducible refine b_dn ?_ _ | with_reducible refine b_drew ?_ | with_reducible refine b_set ?_ | with_reducible refine b_set0 ?_ | with_reducible refine b_ext ?_ _ _ | with_reducible refine b_alloc ?_ _))) ⟨wr.heap.size + (2 + os1.size), 0, none⟩ 1 1 [.int .i64 1, .int .i64 id] (by rfl) (by rfl) (World.news_of_block (cs := #[.int .i64 1, .int .i64 id]) (t := 46) (fr := (0, 0)) (news_at (by simp [go_sem]))) (by simp [Value.oneCell']) (by omega) (by unfold maxLen; omega) (by omega) (by simp [go_sem]; omega) (wr.heap.size + (2 + os1.size) + 1) (by simp [go_sem]) ?_; intro gg cap w2 hown hgr hat hlt)
                go_roundw
                case rel =>
                  refine ⟨j + 1, by omega, by go_num, by rw [HSN.out _ (by rw [HSRC.out])]; exact hown, ?_, fun i hi' => ?_⟩
                  · refine Below.grown (HBR.out.trans (Below.mono (w := wr) (by repeat (first | with_reducible exact Below.refl _ _ | with_reducible refine b_dn ?_ _ | with_reducible refine b_drew ?_ | with_reducible refine b_set ?_ | with_reducible refine b_set0 ?_ | with_reducible refine b_ext ?_ _ _ | with_reducible refine b_alloc ?_ _)) HBR.out.size)) hgr ?_ (fun q hq => (HO.out.lt q hq).1)
                    simp [go_sem]; omega
                  · by_cases hij : i = j
                    · rw [hij, ← HS.out, HSRC.out]
                    · exact HZ.out i (by omega)
                case measure => simp [intOf]; omega
              · have HERR := Lib.hid (show G.named t ss = ([], y) by
                  have h1 := HGT.out
                  rw [HR.out] at h1
                  have h2 : (G.src t (ss.getD j default)).2 = y := by
                    rw [← HS.out]; unfold Gd.src; rw [if_neg (by simp), if_pos rfl, h1]; simp [hy]
                  have := Gd.named_err HNOT.out (fun i hi' => HOK.out i (by rw [HL.out]; exact hi')) (k := j) (by rw [← HL.out]; exact hjk) HZ.out (by rw [h2]; exact hy)
                  rw [h2] at this
                  exact this)
                go_wp2_with fail
                go_ret2
                rw [HERR.out]
                refine named_nil _ _ (HBR.out.trans (Below.mono (w := wr) (by repeat (first | with_reducible exact Below.refl _ _ | with_reducible refine b_dn ?_ _ | with_reducible refine b_drew ?_ | with_reducible refine b_set ?_ | with_reducible refine b_set0 ?_ | with_reducible refine b_ext ?_ _ _ | with_reducible refine b_alloc ?_ _)) HBR.out.size)))
          · have HSRC := Lib.hid (show G.src t ⟨2, sn⟩ = (⟨1, 0⟩, 0) from rfl)
            go_wp2_with (at_builtin; refine wpList_append_lies _ rfl (.tmp 91) (.tmp 93) _ rfl w.heap.size 46 i46 _ 2 16 Try.underlying67 hi hz hs46 hb rfl (by omega) u10 j (vflat ((ss.take j).map fun s => (G.src t s).1)) (by rfl) (HOW.out _ (by repeat (first | with_reducible exact Below.refl _ _ | with_reducible refine b_dn ?_ _ | with_reducible refine b_drew ?_ | with_reducible refine b_set ?_ | with_reducible refine b_set0 ?_ | with_reducible refine b_ext ?_ _ _ | with_reducible refine b_alloc ?_ _))) ⟨wr.heap.size + 2, 0, none⟩ 1 1 [.int .i64 1, .int .i64 0] (by rfl) (by rfl) (World.news_of_block (cs := #[.int .i64 1, .int .i64 0]) (t := 46) (fr := (0, 0)) (news_at (by simp [go_sem]))) (by simp [Value.oneCell']) (by omega) (by unfold maxLen; omega) (by omega) (by simp [go_sem]; omega) (wr.heap.size + 2 + 1) (by simp [go_sem]) ?_; intro gg cap w2 hown hgr hat hlt)
            go_roundw
            case rel =>
              refine ⟨j + 1, by omega, by go_num, by rw [HSN.out _ (by rw [HSRC.out])]; exact hown, ?_, fun i hi' => ?_⟩
              · refine Below.grown (HBR.out.trans (Below.mono (w := wr) (by repeat (first | with_reducible exact Below.refl _ _ | with_reducible refine b_dn ?_ _ | with_reducible refine b_drew ?_ | with_reducible refine b_set ?_ | with_reducible refine b_set0 ?_ | with_reducible refine b_ext ?_ _ _ | with_reducible refine b_alloc ?_ _)) HBR.out.size)) hgr ?_ (fun q hq => (HO.out.lt q hq).1)
                simp [go_sem]; omega
              · by_cases hij : i = j
                · rw [hij, ← HS.out, HSRC.out]
                · exact HZ.out i (by omega)
            case measure => simp [intOf]; omega
        · obtain rfl : j = k := by omega
          have HALL := Lib.hid (show G.named t ss = (ss.map (fun s => (G.src t s).1), 0) from Gd.named_yes HNOT.out (fun i hi' => HOK.out i (by rw [HL.out]; exact hi')) (fun i hi' => HZ.out i (by rw [HL.out]; exact hi')))
          have htk : ss.take j = ss := List.take_of_length_le (by rw [HL.out]; exact Nat.le_refl _)
          have ho := HO.out
          rw [htk] at ho
          obtain ⟨A9, c9, rfl, hp9⟩ := pairs_of ho (by rw [List.length_map]; exact HL.out.symm)
          have HP := Lib.hid hp9
          clear htk ho hp9
          go_wp2_with fail
          go_ret2
          refine ⟨A9, c9, ?_, ?_, HBR.out⟩
          · have e : (ss.map fun s => (G.src t s).1).length = j := by rw [List.length_map, HL.out]
            rw [HALL.out]
            simp only
            rw [e]
            rfl
          · rw [HALL.out]; exact HP.out
end

end Go.Proofs.Ytlogojiphjpknaa
