/- (*graph.Graph).Alloc: a new object and its root. Condition: at most a million objects. -/
import Derived.Test.YtlogojiphjpknaaGAlloc
import Derived.Laws.OwnMore
import Derived.Deep.RegionLaw
import Derived.Deep.DrawnRows
namespace Go.Proofs.Ytlogojiphjpknaa
open Go.RowKit
set_option linter.unusedVariables false
attribute [local go_sem ↓] Go.wp_at_zero Go.wp_at_succ

section
variable {F : Nat → Prop} {w : World} {p : Nat} {G : Gd} {bt ct : Nat} {ov : Value} {gs cs : List Nat}

theorem alloc_eq_no {t n : Int} {y : Int} {G1 : Gd} (h : G.turn t (allocx G.os.length n (G.rt t)) = (G1, y)) (hy : y ≠ 0) : G.alloc t n = (G1, y) := by
  unfold Gd.alloc
  unfold Gd.turn allocx at h
  by_cases hn : G.not t
  · rw [if_pos hn] at h ⊢; exact h
  · rw [if_neg hn] at h ⊢
    by_cases hb : n < 0 ∨ 7 < n
    · rw [if_pos hb] at h ⊢
      rw [if_neg (by simp)] at h
      exact h
    · rw [if_neg hb] at h ⊢
      by_cases h0 : ((G.rt t).push (G.os.length + 1)).2 = 0
      · rw [if_pos h0] at h
        injection h with _ h2
        exact absurd h2.symm hy
      · rw [if_neg h0] at h ⊢; exact h

theorem alloc_eq_yes {t n : Int} {G1 : Gd} (h : G.turn t (allocx G.os.length n (G.rt t)) = (G1, 0)) : 0 ≤ n ∧ n ≤ 7 ∧ G1.os = G.os ∧ G.alloc t n = (⟨G1.ts, G.os ++ [List.replicate n.toNat default]⟩, 0) := by
  unfold Gd.alloc
  unfold Gd.turn allocx at h
  by_cases hn : G.not t
  · rw [if_pos hn] at h
    injection h with _ h2
    cases h2
  · rw [if_neg hn] at h ⊢
    by_cases hb : n < 0 ∨ 7 < n
    · rw [if_pos hb, if_neg (by simp)] at h
      injection h with _ h2
      cases h2
    · rw [if_neg hb] at h ⊢
      by_cases h0 : ((G.rt t).push (G.os.length + 1)).2 = 0
      · rw [if_pos h0] at h ⊢
        injection h with h1 _
        rw [← h1]
        exact ⟨by omega, by omega, rfl, rfl⟩
      · rw [if_neg h0] at h
        injection h with _ h2
        exact absurd h2 h0

theorem allocx_ok (h : G.Ok) (t n : Int) {y : Int} {G1 : Gd} : Gd.rtOk (G.os.length + 1) (allocx G.os.length n (G.rt t)).1 := by
  unfold allocx
  split
  · exact (h.rt t).mono (by omega)
  · exact ((h.rt t).mono (Nat.le_succ _)).push ⟨by omega, by omega⟩

theorem zeros : ∀ n : Nat, vflat (List.replicate n default) = List.replicate (n * 2) (.int .i64 0)
  | 0 => rfl
  | n + 1 => by
    rw [List.replicate_succ, show (n + 1) * 2 = n * 2 + 1 + 1 by omega, List.replicate_succ, List.replicate_succ]
    simp only [vflat, zeros n]
    rfl

/-- the cells of a new object of n fields -/
theorem zero_cells (n : Nat) : ∃ Z : Array Value, Z.size = n * 2 ∧ Z.toList = vflat (List.replicate n default) ∧
    (n ≤ 7 → ∀ w : World, (Instr.makeSlice 67 (.int .i64 (n : Int)) (.int .i64 (n : Int))).run Try.prog w = .ok (.slice (some ⟨w.heap.size, 0, none⟩) n n) (w.alloc (.cells Z 46))) := by
  obtain ⟨i, hi, hz, hs, hb⟩ := info_parts info46
  refine ⟨madeCells (Value.agg #[.int .i64 0, .int .i64 0]).cells (n * 2), size_madeCells _ _, ?_, fun hn w => ?_⟩
  · rw [zeros]
    apply List.ext_getElem
    · simp [size_madeCells]
    · intro j h1 h2
      simp only [madeCells, Array.getElem_toList, Array.getElem_map, Array.getElem_range, List.getElem_replicate]
      rcases (show j % 2 = 0 ∨ j % 2 = 1 by omega) with e | e <;> simp [Value.cells, e]
  · have hr := run_make (P := Try.prog) w 67 46 i _ Try.underlying67 hi hz .i64 .i64 n n (by omega) (Int.le_refl _) (by rw [hb]; omega) (by omega)
    rw [hs] at hr
    simpa only [Int.toNat_natCast] using hr

set_option maxRecDepth 100000 in
set_option maxHeartbeats 2000000 in
theorem galloc_any (h : Vw 79 F w p G bt ct ov gs cs) (t n : Int) (hM : G.os.length < 100000) : Calls Try.prog 28 #[.pointer (some ⟨p, 0, none⟩), .int .i64 t, .int .i64 n] w (TurnP F w p (G.alloc t n)) := by
  obtain ⟨G1, y, hX⟩ : ∃ G1 y, G.turn t (allocx G.os.length n (G.rt t)) = (G1, y) := ⟨_, _, rfl⟩
  have hb : Below w.heap.size w ((w.alloc (.cells #[.pointer (some ⟨p, 0, none⟩)] 41)).alloc (.cells #[.int .i64 n] 3)) := ((Below.refl _ _).alloc (Nat.le_refl _) _).alloc (by simp) _
  have HC := Lib.hid (show Calls Try.prog 53 #[.pointer (some ⟨p, 0, none⟩), .int .i64 t, .func (.func 54) #[] #[.pointer (some ⟨w.heap.size + 1, 0, none⟩), .pointer (some ⟨w.heap.size, 0, none⟩)]]
      ((w.alloc (.cells #[.pointer (some ⟨p, 0, none⟩)] 41)).alloc (.cells #[.int .i64 n] 3)) (TurnP (Strict F w) ((w.alloc (.cells #[.pointer (some ⟨p, 0, none⟩)] 41)).alloc (.cells #[.int .i64 n] 3)) p (G1, y)) by
    have h2 := h.strict.below hb
    have := change_54 h2 t (w.heap.size + 1) w.heap.size _ (fun _ => does54 h2 _ _ _ n (by simp [go_sem]) (by simp [go_sem]) (by omega))
    rw [hX] at this
    exact this)
  have HX := Lib.hid hX
  have HB := Lib.hid hb
  clear h hX hb
  go_enter Try.func28, Try.ntmps28
  go_wp2_with fail
  refine (HC.out).mono ?_
  rintro e1 w1 ⟨rfl, hg, ho⟩
  have HG := Lib.hid hg
  have HO := Lib.hid ho
  clear hg ho
  by_cases hy : y = 0
  · subst hy
    obtain ⟨hn0, hn7, hos, hal⟩ := alloc_eq_yes HX.out
    obtain ⟨m, rfl⟩ : ∃ m : Nat, n = m := ⟨n.toNat, by omega⟩
    rw [Int.toNat_natCast] at hal
    obtain ⟨ts1, os1⟩ := G1
    simp only at hos hal
    subst hos
    obtain ⟨bt, ct, ov, gs, cs, hv⟩ := HG.out
    obtain ⟨A, c, hov, _⟩ := hv.orow
    simp only at hov
    subst hov
    obtain ⟨Z, hZs, hZl, hmk'⟩ := zero_cells m
    have hmk := hmk' (by omega)
    have b0 : w1.cell? ⟨w.heap.size, 0, none⟩ = some (.pointer (some ⟨p, 0, none⟩)) :=
      (World.cell?_of_block (a := ⟨w.heap.size, 0, none⟩) (HO.out.new (k := w.heap.size) (Nat.le_refl _) (by simp; omega))).trans (by simp [go_sem])
    have b1 : w1.cell? ⟨w.heap.size + 1, 0, none⟩ = some (.int .i64 m) :=
      (World.cell?_of_block (a := ⟨w.heap.size + 1, 0, none⟩) (HO.out.new (k := w.heap.size + 1) (by omega) (by simp))).trans (by simp [go_sem])
    have c1 : w1.cell? ⟨p, 1, none⟩ = some (.slice A G.os.length c) := hv.pcell.2
    have hfp : ∀ j, w1.frozen? ⟨p, j, none⟩ = false := hv.hp.frozen
    have hpl : p < w1.heap.size := hv.plt
    have hwl : w.heap.size + 1 < w1.heap.size := by have := HO.out.size; simp at this; omega
    have hwl0 : w.heap.size < w1.heap.size := by omega
    have HV := Lib.hid hv
    have HAL := Lib.hid hal
    have HZ := Lib.hid (show Z.size = m * 2 ∧ Z.toList = vflat (List.replicate m default) from ⟨hZs, hZl⟩)
    clear hv hal hZs hZl hmk'
    have hpo : some p ≠ Value.ownBlock (.slice A G.os.length c) := HV.out.p_ov.symm
    have HOWN := Lib.hid (show w1.ownsRow 0 67 1 (.slice A G.os.length c) G.os.length (ovals gs cs G.os) from HV.out.hov)
    have HNEW := Lib.hid (show ∀ x : Value, ((w1.alloc (.cells Z 46)).alloc (.cells #[x] 67)).drew.heap[w1.heap.size + 1]? = some (.cells #[x] 67 (0, 0)) from fun x => by
      have := heap_alloc_new (w1.alloc (.cells Z 46)) (.cells #[x] 67)
      rw [show (w1.alloc (.cells Z 46)).heap.size = w1.heap.size + 1 by simp] at this
      exact this)
    have hne : ∀ k, (Value.slice A G.os.length c).ownBlock = some k → k ≠ w.heap.size ∧ k ≠ w.heap.size + 1 := by
      intro k hk
      have h1 := HV.out.fov k hk
      rcases h1 with h1 | h1
      · have := h1.2; omega
      · have := h1.1; simp at this; omega
    have KEEP := Lib.hid (show ∀ (x : Value) (w2 : World), ((w1.alloc (.cells Z 46)).alloc (.cells #[x] 67)).drew.grownBy w2 (Value.slice A G.os.length c).ownBlock →
        w2.cell? ⟨w.heap.size, 0, none⟩ = some (.pointer (some ⟨p, 0, none⟩)) ∧ w2.cell? ⟨w.heap.size + 1, 0, none⟩ = some (.int .i64 m) ∧ w2.cell? ⟨p, 1, none⟩ = some (.slice A G.os.length c) by
      intro x w2 hg
      refine ⟨?_, ?_, ?_⟩
      · rw [hg.cell_far _ (by simp; omega) (fun e => (hne _ e.symm).1 rfl)]; simp [go_sem, b0, hwl0]
      · rw [hg.cell_far _ (by simp; omega) (fun e => (hne _ e.symm).2 rfl)]; simp [go_sem, b1, hwl, hwl0]
      · rw [hg.cell_far _ (by simp; omega) hpo]; simp [go_sem, c1, hpl])
    have FZ := Lib.hid (show ∀ (x : Value) (w2 : World), ((w1.alloc (.cells Z 46)).alloc (.cells #[x] 67)).drew.grownBy w2 (Value.slice A G.os.length c).ownBlock → w2.frozen? ⟨p, 1, none⟩ = false by
      intro x w2 hg
      rw [hg.frozen_far _ (by simp; omega) hpo]; simp [go_sem, hfp, hpl])
    clear hne
    have HPO := Lib.hid hpo
    clear hpo
    obtain ⟨i67, hi, hz, hs, hb⟩ := info_parts info67
    go_wp2_with fail
    go_region_law
      ((refine step_append_lies _ (by rfl) _ _ _ (by rfl) 0 67 i67 _ 1 24 Try.underlying63 hi hz hs hb rfl (by omega) (.slice A G.os.length c) G.os.length (ovals gs cs G.os) (by rfl) (World.ownsRow.alloc (World.ownsRow.alloc HOWN.out _) _) ⟨w1.heap.size + 1, 0, none⟩ 1 1 [.slice (some ⟨w1.heap.size, 0, none⟩) m m] (by rfl) (by rfl) (World.news_of_block (cs := #[.slice (some ⟨w1.heap.size, 0, none⟩) m m]) (t := 67) (fr := (0, 0)) (HNEW.out _)) (by simp [Value.oneCell']) (by omega) (by unfold maxLen; omega) (by omega) (Nat.zero_le _) (w1.heap.size + 2) (by simp) ?_; intro gg cap w2 hown hgr hat hlt; have hfz2 := FZ.out _ _ hgr; obtain ⟨hc0, hc1, hc2⟩ := KEEP.out _ _ hgr))
    all_goals (
      go_wp2_with fail
      go_ret
      rw [HAL.out]
      have hW : Below w1.heap.size w1 ((w1.alloc (.cells Z 46)).alloc (.cells #[.slice (some ⟨w1.heap.size, 0, none⟩) m m] 67)).drew := (((Below.refl _ _).alloc (Nat.le_refl _) _).alloc (by simp) _).drew
      have hz46 : ((w1.alloc (.cells Z 46)).alloc (.cells #[.slice (some ⟨w1.heap.size, 0, none⟩) m m] 67)).drew.heap[w1.heap.size]? = some (.cells Z 46 (0, 0)) :=
        (Below.heap_alloc (w1.alloc (.cells Z 46)) _ _ (by simp)).trans (heap_alloc_new w1 _)
      have hvw := HV.out.snoc hW (n := m) (Nat.le_refl _) (by unfold maxLen; omega) HZ.out.1 (o := List.replicate m default) (by simp) (by rw [HZ.out.2]; exact List.take_of_length_le (by rw [vflat_length]; simp)) (Nat.le_refl _) (by simp; omega) hz46 hown hgr (hat.imp id (fun e => by omega)) hlt
      have hon := HV.out.snoc_only hW hgr (.slice (some ⟨gg, 0, none⟩) (G.os.length + 1) cap)
      exact ⟨rfl, Gr.mono ⟨_, _, _, _, _, hvw⟩ (fun k hk => by
        have hs1 := HO.out.size
        have hs2 := hgr.size
        simp at hs1 hs2
        rcases hk with (hk | hk) | hk
        · exact .inl hk.1
        · exact .inr ⟨by have := hk.1; simp at this; omega, by have := hk.2; simp [World.setCell]; omega⟩
        · exact .inr ⟨by have := hk.1; omega, by simpa [World.setCell] using hk.2⟩), (HO.out.trans hon).up HB.out⟩)
  · have HE := Lib.hid (alloc_eq_no HX.out hy)
    go_wp2_with fail
    go_ret
    rw [HE.out]
    exact ⟨rfl, HG.out.mono (Grow.up (by simp; omega)), HO.out.up HB.out⟩
end

end Go.Proofs.Ytlogojiphjpknaa
