/- (*graph.Graph).Shape: what can be come to, with numbers. Condition: at most a thousand objects. -/
import Derived.Test.YtlogojiphjpknaaGShapeO
import Derived.Deep.CutBlock
namespace Go.Proofs.Ytlogojiphjpknaa
open Go.RowKit Go.Maps
set_option linter.unusedVariables false

/-- the cells of a row of that capacity -/
theorem row_cells (n : Nat) (hn : n ≤ 8) : ∃ Z : Array Value, Z.size = n ∧ ∀ w : World, (Instr.makeSlice 22 (.int .i64 0) (.int .i64 (n : Int))).run Try.prog w = .ok (.slice (some ⟨w.heap.size, 0, none⟩) 0 n) (w.alloc (.cells Z 3)) := by
  obtain ⟨i, hi, hz, hs, hb⟩ := info_parts info3
  refine ⟨madeCells (Value.int .i64 0).cells (n * 1), by rw [size_madeCells, Nat.mul_one], fun w => ?_⟩
  have hr := run_make (P := Try.prog) w 22 3 i _ Try.underlying22 hi hz .i64 .i64 0 n (by omega) (by omega) (by rw [hb]; omega) (by omega)
  rw [hs] at hr
  simpa only [Int.toNat_natCast, Int.toNat_zero] using hr

theorem ga {w : World} {o : Obj} {k : Nat} (h : k < w.heap.size) : (w.alloc o).heap[k]? = w.heap[k]? := Below.heap_alloc w o k h
theorem gn {w : World} {o : Obj} {k : Nat} (h : k = w.heap.size) : (w.alloc o).heap[k]? = some o := by subst h; exact heap_alloc_new w o

theorem info22 : (Try.prog.info? 22).map (fun i => (i.zero, i.size, i.bytes)) = some (some (.slice none 0 0), 1, 24) := by kernel_rfl

/-- the first of an array -/
theorem slice_arr (N : Nat) (hN : N ≤ 8) (b : Nat) (w : World) : (Instr.sliceAt 24 (.pointer (some ⟨b, 1, none⟩)) none (some (.int .i64 (N : Int))) none).run Try.prog w = .ok (.slice (some ⟨b, 1, none⟩) N 8) w := by
  rcases (show N = 0 ∨ N = 1 ∨ N = 2 ∨ N = 3 ∨ N = 4 ∨ N = 5 ∨ N = 6 ∨ N = 7 ∨ N = 8 by omega) with rfl | rfl | rfl | rfl | rfl | rfl | rfl | rfl | rfl <;> kernel_rfl

/-- the world in which Shape begins -/
abbrev shape0 (w : World) : World :=
  ((((w.alloc (.cells #[.slice none 0 0, .slice none 0 0] 65)).alloc (.cells #[.slice none 0 0, .slice none 0 0] 65)).alloc (.map #[] 0)).alloc (.cells #[.map (some (w.heap.size + 2))] 86)).alloc (.cells #[.slice none 0 0] 22)

theorem shape0_get (w : World) : (shape0 w).heap[w.heap.size]? = some (.cells #[.slice none 0 0, .slice none 0 0] 65 (0, 0)) ∧ (shape0 w).heap[w.heap.size + 1]? = some (.cells #[.slice none 0 0, .slice none 0 0] 65 (0, 0)) ∧
    (shape0 w).heap[w.heap.size + 2]? = some (.map #[] 0) ∧ (shape0 w).heap[w.heap.size + 3]? = some (.cells #[.map (some (w.heap.size + 2))] 86 (0, 0)) ∧ (shape0 w).heap[w.heap.size + 4]? = some (.cells #[.slice none 0 0] 22 (0, 0)) := by
  refine ⟨?_, ?_, ?_, ?_, ?_⟩
  · exact (ga (by simp <;> omega)).trans ((ga (by simp <;> omega)).trans ((ga (by simp <;> omega)).trans ((ga (by simp)).trans (gn rfl))))
  · exact (ga (by simp <;> omega)).trans ((ga (by simp <;> omega)).trans ((ga (by simp)).trans (gn (by simp))))
  · exact (ga (by simp <;> omega)).trans ((ga (by simp)).trans (gn (by simp)))
  · exact (ga (by simp)).trans (gn (by simp))
  · exact gn (by simp)

theorem shape_start (w : World) : OutSt w.heap.size w (shape0 w) w.heap.size (w.heap.size + 1) (w.heap.size + 3) (w.heap.size + 4) [] [] [] (fun k => k = w.heap.size + 1) := by
  obtain ⟨h2, h3, hm, h4, h5⟩ := shape0_get w
  have hz : (shape0 w).heap.size = w.heap.size + 5 := by simp [shape0]
  refine ⟨⟨⟨w.heap.size + 2, .map [], .slice none 0 0, h4, ?_, mapIs_nil, h5, World.ownsRow_nil _ _ _ _, ⟨by omega, by omega, by omega⟩, ⟨by omega, by omega, by omega⟩, ⟨by omega, by omega, by omega⟩, by intro g hg; cases hg⟩,
    ⟨.slice none 0 0, .slice none 0 0, [], [], [], [], h3, rfl, World.ownsRow_nil _ _ _ _, (by intro g hg; cases hg), World.ownsRow_nil _ _ _ _, (by intro g hg; cases hg), RRows.nil _ _, LRows.nil _ _⟩, fun k hk => by subst hk; omega, fun k hk => by subst hk; omega, by omega⟩, by simp, h2, ?_⟩
  · obtain ⟨es, cl, q1, q2⟩ := World.ownsMap_made (H := Unit) ((w.alloc (.cells #[.slice none 0 0, .slice none 0 0] 65)).alloc (.cells #[.slice none 0 0, .slice none 0 0] 65)) Try.prog 3 (plainElem Try.prog 3)
    have e : ((w.alloc (.cells #[.slice none 0 0, .slice none 0 0] 65)).alloc (.cells #[.slice none 0 0, .slice none 0 0] 65)).heap.size = w.heap.size + 2 := by simp
    rw [e] at q1
    refine ⟨es, cl, ?_, q2⟩
    have h1 : (((w.alloc (.cells #[.slice none 0 0, .slice none 0 0] 65)).alloc (.cells #[.slice none 0 0, .slice none 0 0] 65)).alloc (.map #[] 0)).heap[w.heap.size + 2]? = some (.map #[] 0) := gn (by simp)
    rw [h1] at q1
    rw [hm]
    exact q1
  · exact (((((Below.refl _ _).alloc (Nat.le_refl _) _).alloc (by simp) _).alloc (by simp; omega) _).alloc (by simp; omega) _).alloc (by simp; omega) _

/-- a shape that can be read, in blocks that are not older than B -/
def ShV (B : Nat) (w : World) (Rv Lv : Value) (R : List (List Int)) (L : List (List V)) : Prop :=
  ∃ rg rc lg lc, w.ownsRow 0 22 1 Rv R.length (gvals rg rc R) ∧ w.ownsRow 0 67 1 Lv L.length (ovals lg lc L) ∧ RRows (fun k => B ≤ k) w rg rc R ∧ LRows (fun k => B ≤ k) w lg lc L ∧
    (∀ g, Rv.ownBlock = some g → B ≤ g) ∧ (∀ g, Lv.ownBlock = some g → B ≤ g)
def ShapeP (w : World) (G : Gd) (e : Ending) (w' : World) : Prop := ∃ R L Rv Lv, G.Is R L ∧ e = .returned (.agg #[Rv, Lv]) ∧ ShV w.heap.size w' Rv Lv R L ∧ Below w.heap.size w w'

theorem num_le (met : List Int) (id : Int) : met.length ≤ (Gd.num met id).1.length := by
  unfold Gd.num
  split
  · exact Nat.le_refl _
  · split
    · exact Nat.le_refl _
    · simp
theorem numVs_le : ∀ (l : List V) (met : List Int), met.length ≤ (Gd.numVs met l).1.length
  | [], _ => Nat.le_refl _
  | v :: l, met => by
    refine Nat.le_trans ?_ (numVs_le l (Gd.numV met v).1)
    unfold Gd.numV
    split
    · exact num_le _ _
    · exact Nat.le_refl _
theorem run_mono (G : Gd) (j : Nat) : (G.run j).1.length ≤ (G.run (j + 1)).1.length := numVs_le _ _

section
variable {F : Nat → Prop} {w : World} {p : Nat} {G : Gd} {bt ct : Nat} {ov : Value} {gs cs : List Nat}

set_option maxRecDepth 100000 in
set_option maxHeartbeats 4000000 in
theorem gshape_any (h : Vw 79 F w p G bt ct ov gs cs) (hok : G.Ok) (hM : G.os.length ≤ 1000) : Calls Try.prog 37 #[.pointer (some ⟨p, 0, none⟩)] w (ShapeP w G) := by
  have HV := Lib.hid h
  have HOK := Lib.hid hok
  have h64 := h.h64
  obtain ⟨c0, c1⟩ := h.pcell
  have hpl := h.plt
  have hmm := @run_makeMap Try.prog
  clear h hok
  go_enter Try.func37, Try.ntmps37
  go_wp2_with fail
  have HST := Lib.hid (shape_start w)
  go_loopw [23] (fun s23 wr => ∃ (k : Nat) (P : Nat → Prop), k ≤ G.ts.length ∧ s23 = .int .i64 k ∧ OutSt w.heap.size w wr w.heap.size (w.heap.size + 1) (w.heap.size + 3) (w.heap.size + 4) (Gd.numRs [] (G.ts.take k)).1 (Gd.numRs [] (G.ts.take k)).2 [] P) (fun s23 _ => G.ts.length - (intOf s23).toNat)
  case atStart => exact ⟨0, _, by omega, rfl, HST.out⟩
  case round =>
    clear HST
    obtain ⟨k, P, hk, rfl, hst⟩ := hrel
    have HS := Lib.hid hst
    clear hst
    by_cases hkT : k < G.ts.length
    · obtain ⟨r0, r1, r2, r3, r4, r5, r6, r7, r8⟩ := HV.out.rcell hkT
      have hbl := HV.out.btlt
      have hbc : ∀ j, wr.cell? ⟨bt, j, none⟩ = w.cell? ⟨bt, j, none⟩ := fun j => HS.out.bl.cell (p := ⟨bt, j, none⟩) hbl
      rw [← hbc] at r0 r1 r2 r3 r4 r5 r6 r7 r8
      have hro := HOK.out.rt k
      obtain ⟨r, hr⟩ : ∃ r, r = G.rt k := ⟨_, rfl⟩
      rw [← hr] at r0 r1 r2 r3 r4 r5 r6 r7 r8 hro
      have HR := Lib.hid hr
      have hn0 : 0 ≤ r.n ∧ r.n ≤ 8 := ⟨hro.1.1, hro.1.2.1⟩
      have HIDS := Lib.hid (Gd.ids_ok hro)
      obtain ⟨N, hN⟩ : ∃ N : Nat, r.n = N := ⟨r.n.toNat, by omega⟩
      have hN8 : N ≤ 8 := by omega
      obtain ⟨Z, hZ, hmk⟩ := row_cells N hN8
      have hsl := slice_arr N hN8
      obtain ⟨rn, a0, a1, a2, a3, a4, a5, a6, a7⟩ := r
      simp only at hN
      subst hN
      have HIN := Lib.hid (HS.out.start (r := (⟨N, a0, a1, a2, a3, a4, a5, a6, a7⟩ : Rt)) hZ hN8)
      have HLEN := Lib.hid (show (Gd.ids (⟨N, a0, a1, a2, a3, a4, a5, a6, a7⟩ : Rt)).length = N by rw [ids_length hn0.2]; rfl)
      have HTK := Lib.hid (show Gd.numRs [] (G.ts.take (k + 1)) = ((Gd.nums (Gd.numRs [] (G.ts.take k)).1 (Gd.ids (⟨N, a0, a1, a2, a3, a4, a5, a6, a7⟩ : Rt))).1, (Gd.numRs [] (G.ts.take k)).2 ++ [(Gd.nums (Gd.numRs [] (G.ts.take k)).1 (Gd.ids (⟨N, a0, a1, a2, a3, a4, a5, a6, a7⟩ : Rt))).2]) by
        have e : G.ts[k] = (⟨N, a0, a1, a2, a3, a4, a5, a6, a7⟩ : Rt) := by
          rw [hr]
          unfold Gd.rt
          rw [Int.toNat_natCast, List.getD_eq_getElem?_getD, List.getElem?_eq_getElem hkT]
          rfl
        rw [List.take_succ_eq_append_getElem hkT, numRs_snoc, e])
      have HRC := Lib.hid (fun j (hj : j < N) => rcell_at (⟨N, a0, a1, a2, a3, a4, a5, a6, a7⟩ : Rt) (j := j) (by simpa using hj) (by omega))
      have HMK := Lib.hid (show Gd.MOk G.os.length (Gd.numRs [] (G.ts.take k)).1 from Gd.numRs_ok _ ⟨List.Pairwise.nil, fun _ hx => by cases hx⟩ (fun r hr => HOK.out.rs r (List.mem_of_mem_take hr)))
      have HRL := Lib.hid (numRs_length (G.ts.take k) [])
      generalize (Gd.numRs [] (G.ts.take k)).1 = met at *
      generalize (Gd.numRs [] (G.ts.take k)).2 = R at *
      have hkT' : (k : Int) < (G.ts.length : Int) := by omega
      clear hbc hr hro hn0 hZ
      go_wp2_with fail
      rename World => wo
      go_loopw [9, 35] (fun s9 s35 wx => ∃ (j g c : Nat), j ≤ N ∧ s35 = .int .i64 j ∧ s9 = .slice (some ⟨g, 0, none⟩) j c ∧ InSt w.heap.size w wx w.heap.size (w.heap.size + 1) (w.heap.size + 3) (w.heap.size + 4) wo.heap.size g c (⟨N, a0, a1, a2, a3, a4, a5, a6, a7⟩ : Rt) (Gd.nums met ((Gd.ids (⟨N, a0, a1, a2, a3, a4, a5, a6, a7⟩ : Rt)).take j)).1 (Gd.nums met ((Gd.ids (⟨N, a0, a1, a2, a3, a4, a5, a6, a7⟩ : Rt)).take j)).2 R [] P) (fun _ s35 _ => N - (intOf s35).toNat)
      case atStart => exact ⟨0, _, _, by omega, rfl, rfl, HIN.out⟩
      case round =>
        clear HIN
        obtain ⟨j, g, c, hj, rfl, rfl, hin⟩ := hrel
        have hrl : (Gd.nums met ((Gd.ids (⟨N, a0, a1, a2, a3, a4, a5, a6, a7⟩ : Rt)).take j)).2.length = j := by
          rw [nums_length, List.length_take, HLEN.out]; omega
        have HMJ := Lib.hid (show Gd.MOk G.os.length (Gd.nums met ((Gd.ids (⟨N, a0, a1, a2, a3, a4, a5, a6, a7⟩ : Rt)).take j)).1 from Gd.nums_ok _ HMK.out (fun x hx => HIDS.out x (List.mem_of_mem_take hx)))
        by_cases hjN : j < N
        · have HNX := Lib.hid (show Gd.nums met ((Gd.ids (⟨N, a0, a1, a2, a3, a4, a5, a6, a7⟩ : Rt)).take (j + 1)) = ((Gd.num (Gd.nums met ((Gd.ids (⟨N, a0, a1, a2, a3, a4, a5, a6, a7⟩ : Rt)).take j)).1 ((Gd.ids (⟨N, a0, a1, a2, a3, a4, a5, a6, a7⟩ : Rt)).getD j 0)).1,
              (Gd.nums met ((Gd.ids (⟨N, a0, a1, a2, a3, a4, a5, a6, a7⟩ : Rt)).take j)).2 ++ [(Gd.num (Gd.nums met ((Gd.ids (⟨N, a0, a1, a2, a3, a4, a5, a6, a7⟩ : Rt)).take j)).1 ((Gd.ids (⟨N, a0, a1, a2, a3, a4, a5, a6, a7⟩ : Rt)).getD j 0)).2]) by
            have hl : j < (Gd.ids (⟨N, a0, a1, a2, a3, a4, a5, a6, a7⟩ : Rt)).length := by rw [HLEN.out]; exact hjN
            rw [List.take_succ_eq_append_getElem hl, nums_snoc, List.getD_eq_getElem?_getD, List.getElem?_eq_getElem hl]
            rfl)
          generalize (Gd.nums met ((Gd.ids (⟨N, a0, a1, a2, a3, a4, a5, a6, a7⟩ : Rt)).take j)).1 = mj at *
          generalize (Gd.nums met ((Gd.ids (⟨N, a0, a1, a2, a3, a4, a5, a6, a7⟩ : Rt)).take j)).2 = row at *
          have hid : 0 ≤ (Gd.ids (⟨N, a0, a1, a2, a3, a4, a5, a6, a7⟩ : Rt)).getD j 0 ∧ (Gd.ids (⟨N, a0, a1, a2, a3, a4, a5, a6, a7⟩ : Rt)).getD j 0 ≤ 1000000 := by
            have hl : j < (Gd.ids (⟨N, a0, a1, a2, a3, a4, a5, a6, a7⟩ : Rt)).length := by rw [HLEN.out]; exact hjN
            have := HIDS.out _ (List.getElem_mem hl)
            rw [List.getD_eq_getElem?_getD, List.getElem?_eq_getElem hl]
            unfold Gd.idOk at this
            simp only [Option.getD_some]
            omega
          have hcell := hin.b8.cell (1 + j)
          rw [List.getElem?_toArray, HRC.out j hjN] at hcell
          generalize (Gd.ids (⟨N, a0, a1, a2, a3, a4, a5, a6, a7⟩ : Rt)).getD j 0 = id at *
          have HIN := Lib.hid hin
          have HRL2 := Lib.hid hrl
          have hml : mj.length ≤ 100000 := by have := HMJ.out.length; omega
          have HNUM := Lib.hid (num_any hin.ps.num id hid hml)
          have hjN' : (j : Int) < (N : Int) := by omega
          clear hin hrl hid hml
          go_wp2_with fail
          refine (HNUM.out).mono ?_
          rintro e w2 ⟨rfl, hns, hon⟩
          have HIN2 := Lib.hid (HIN.out.asked hns hon)
          clear hns hon
          obtain ⟨i3, hi3, hz3, hs3, hb3⟩ := info_parts info3
          have HROW := Lib.hid (show w2.ownsRow 0 3 1 (.slice (some ⟨g, 0, none⟩) j c) j (ints row) by have := HIN2.out.row; rw [HRL2.out] at this; exact this)
          generalize hx : (Gd.num mj id) = X at *
          obtain ⟨m2, x⟩ := X
          have HNEW := Lib.hid (show ∀ y : Value, (w2.alloc (.cells #[y] 3)).heap[w2.heap.size]? = some (.cells #[y] 3 (0, 0)) from fun y => heap_alloc_new w2 _)
          clear hx
          go_wp2_with (at_builtin; refine wpList_append_lies _ rfl (.tmp 39) (.tmp 43) _ rfl 0 3 i3 _ 1 8 Try.underlying22 hi3 hz3 hs3 hb3 rfl (by omega) (.slice (some ⟨g, 0, none⟩) j c) j (ints row) (by rfl) (World.ownsRow.alloc HROW.out _) ⟨w2.heap.size, 0, none⟩ 1 1 [.int .i64 x] (by rfl) (by rfl) (World.news_of_block (cs := #[.int .i64 x]) (t := 3) (fr := (0, 0)) (HNEW.out _)) (by simp [Value.oneCell']) (by omega) (by unfold maxLen; omega) (by omega) (Nat.zero_le _) (w2.heap.size + 1) (by simp) ?_; intro gg cap w3 hown hgr hat hlt)
          go_roundw
          case rel =>
            refine ⟨j + 1, gg, cap, by omega, by go_num, rfl, ?_⟩
            rw [HNX.out]
            refine HIN2.out.put (by rw [HRL2.out]; exact hown) (by simpa [Value.ownBlock] using hgr) (by simpa [Value.ownBlock] using hat) hlt
          case measure => simp [intOf]; omega
        · obtain rfl : j = N := by omega
          have htk : (Gd.ids (⟨j, a0, a1, a2, a3, a4, a5, a6, a7⟩ : Rt)).take j = Gd.ids (⟨j, a0, a1, a2, a3, a4, a5, a6, a7⟩ : Rt) := List.take_of_length_le (by rw [HLEN.out]; exact Nat.le_refl _)
          rw [htk] at hin hrl
          generalize (Gd.nums met (Gd.ids (⟨j, a0, a1, a2, a3, a4, a5, a6, a7⟩ : Rt))).1 = mj at *
          generalize (Gd.nums met (Gd.ids (⟨j, a0, a1, a2, a3, a4, a5, a6, a7⟩ : Rt))).2 = row at *
          obtain ⟨Rv, Lv, rg, rc, lg, lc, hsh⟩ := hin.ps.sh
          have c3 : wr.cell? ⟨w.heap.size + 1, 0, none⟩ = some Rv := hsh.hb.cell 0
          have hl3 := hsh.hb.lt
          have n3 := hsh.ne.1
          have HFAR := Lib.hid (show ∀ (x : Value) (w2 : World), (wr.alloc (.cells #[x] 22)).grownBy w2 Rv.ownBlock → w2.cell? ⟨w.heap.size + 1, 0, none⟩ = some Rv ∧ w2.frozen? ⟨w.heap.size + 1, 0, none⟩ = false from fun x w2 hg =>
            ⟨by rw [hg.cell_far _ (by simp; omega) n3]; simp [go_sem, c3, hl3], by rw [hg.frozen_far _ (by simp; omega) n3]; simp [go_sem, hl3, hsh.hb.frozen]⟩)
          have HIN := Lib.hid hin
          have HSH := Lib.hid hsh
          have HRL2 := Lib.hid hrl
          have hRk : R.length ≤ 64 := by have := HRL.out; rw [List.length_take] at this; omega
          have HNEW := Lib.hid (show ∀ y : Value, (wr.alloc (.cells #[y] 22)).heap[wr.heap.size]? = some (.cells #[y] 22 (0, 0)) from fun y => heap_alloc_new wr _)
          obtain ⟨i22, hi22, hz22, hs22, hb22⟩ := info_parts info22
          clear hin hsh hrl n3 htk
          go_wp2_with (at_builtin; refine wpList_append_lies _ rfl (.tmp 47) (.tmp 49) _ rfl 0 22 i22 _ 1 24 Try.underlying62 hi22 hz22 hs22 hb22 rfl (by omega) Rv R.length (gvals rg rc R) (by rfl) (World.ownsRow.alloc HSH.out.hR _) ⟨wr.heap.size, 0, none⟩ 1 1 [.slice (some ⟨g, 0, none⟩) j c] (by rfl) (by rfl) (World.news_of_block (cs := #[.slice (some ⟨g, 0, none⟩) j c]) (t := 22) (fr := (0, 0)) (HNEW.out _)) (by simp [Value.oneCell']) (by omega) (by unfold maxLen; omega) (by omega) (Nat.zero_le _) (wr.heap.size + 1) (by simp) ?_; intro gg cap w3 hown hgr hat hlt; go_must (obtain ⟨e3, f3⟩ := HFAR.out _ _ hgr; have HOWN := Lib.hid hown; have HGR := Lib.hid hgr; have HAT := Lib.hid hat; clear hown hgr hat))
          go_roundw
          case rel =>
            obtain ⟨P', hst⟩ := HIN.out.stop HSH.out (by rw [HRL2.out]; exact HOWN.out) (by rw [HRL2.out]; exact HGR.out) HAT.out hlt
            refine ⟨k + 1, P', by omega, by go_num, ?_⟩
            rw [HTK.out]
            exact hst
          case measure => simp [intOf]; omega
    · obtain rfl : k = G.ts.length := by omega
      have htk : G.ts.take G.ts.length = G.ts := List.take_length
      have HS0 := HS.out
      rw [htk] at HS0
      have HS1 := Lib.hid HS0
      clear HS0 htk HS
      go_wp2_with fail
      obtain ⟨R, hR⟩ : ∃ R, R = (Gd.numRs [] G.ts).2 := ⟨_, rfl⟩
      rw [← hR] at HS1
      have HRR := Lib.hid hR
      clear hR
      go_loopw [12] (fun s12 wx => ∃ (j : Nat) (P : Nat → Prop), j ≤ G.os.length ∧ s12 = .int .i64 j ∧ OutSt w.heap.size w wx w.heap.size (w.heap.size + 1) (w.heap.size + 3) (w.heap.size + 4) (G.run j).1 R (G.run j).2 P ∧ ∀ i, i < j → i < (G.run i).1.length) (fun s12 _ => G.os.length - (intOf s12).toNat)
      case atStart => exact ⟨0, P, by omega, rfl, HS1.out, fun i hi => by omega⟩
      case round =>
        clear HS1
        obtain ⟨j, Q, hj, rfl, hst, hlt⟩ := hrel
        obtain ⟨m5, D5, v5, hnum⟩ := hst.ps.num
        have c5 : wr.cell? ⟨w.heap.size + 4, 0, none⟩ = some v5 := hnum.h5.cell 0
        have hl5 := hnum.h5.lt
        have HMOK := Lib.hid (Gd.run_ok HOK.out j)
        have hML := HMOK.out.length
        have hLL : (G.run j).2.length = j := Gd.run_length G j
        obtain ⟨A5, cc5, hv5, hc5⟩ : ∃ A5 cc5, v5 = .slice A5 (G.run j).1.length cc5 ∧ ∀ i, i < (G.run j).1.length → ∃ b, A5 = some ⟨b, 0, none⟩ ∧ b < wr.heap.size ∧ wr.cell? ⟨b, i, none⟩ = some (.int .i64 ((G.run j).1.getD i 0)) := by
          rcases hnum.hv.2 with ⟨q1, q2⟩ | ⟨g, cap, cur, q1, q2, q3, q4, q5, q6, q7⟩
          · exact ⟨none, 0, by rw [q1, q2], fun i hi => by omega⟩
          · refine ⟨_, _, q1, fun i hi => ⟨g, rfl, (hnum.hv.lt g (by rw [q1]; rfl)).2, ?_⟩⟩
            have := hnum.hv
            rw [q1] at this
            rw [World.ownsRow.cellAt this i (by omega), List.getElem?_map, List.getElem?_eq_getElem hi, List.getD_eq_getElem?_getD, List.getElem?_eq_getElem hi]
            rfl
        subst hv5
        have HC5 := Lib.hid hc5
        have HST := Lib.hid hst
        have HLT := Lib.hid hlt
        have HLL := Lib.hid hLL
        clear hst hlt hnum hc5 hLL
        by_cases hjm : j < (G.run j).1.length
        · obtain ⟨b5, rfl, hb5, hcid⟩ := HC5.out j hjm
          have hidm : (G.run j).1.getD j 0 ∈ (G.run j).1 := by
            rw [List.getD_eq_getElem?_getD, List.getElem?_eq_getElem hjm]; exact List.getElem_mem hjm
          have hidb := HMOK.out.2 _ hidm
          obtain ⟨i, hi⟩ : ∃ i : Nat, (G.run j).1.getD j 0 = (i : Int) + 1 := ⟨((G.run j).1.getD j 0 - 1).toNat, by omega⟩
          have hiM : i < G.os.length := by omega
          rw [hi] at hcid
          have HRUN := Lib.hid (show G.run (j + 1) = ((Gd.numVs (G.run j).1 (G.os.getD i [])).1, (G.run j).2 ++ [(Gd.numVs (G.run j).1 (G.os.getD i [])).2]) by
            show G.step (G.run j) = _
            unfold Gd.step
            rw [HLL.out, hi]
            have e : G.ob ((i : Int) + 1) = G.os.getD i [] := by unfold Gd.ob; congr 1; omega
            rw [e])
          obtain ⟨A, c, hov, hrow⟩ := HV.out.orow
          obtain ⟨bo, hA, hbo, hco⟩ := hrow i hiM
          subst hA
          have hbp : ∀ b k, b < w.heap.size → wr.cell? ⟨b, k, none⟩ = w.cell? ⟨b, k, none⟩ := fun b k hb => HST.out.bl.cell (p := ⟨b, k, none⟩) hb
          have cp1 : wr.cell? ⟨p, 1, none⟩ = some (.slice (some ⟨bo, 0, none⟩) G.os.length c) := (hbp p 1 hpl).trans (c1.trans (by rw [hov]))
          have cob := (hbp bo i hbo).trans hco
          unfold oval at cob
          have hVW := (HV.out.below HST.out.bl).hos i hiM
          have hrow2 := hVW.2
          unfold oval at hrow2
          have hn7 : (G.os.getD i []).length ≤ 7 := by have := (HOK.out.ob ((i : Int) + 1)).2; unfold Gd.ob at this; rwa [show ((i : Int) + 1 - 1).toNat = i by omega] at this
          have HVO := Lib.hid (show ∀ v ∈ G.os.getD i [], Gd.vOk G.os.length v by have := (HOK.out.ob ((i : Int) + 1)).1; unfold Gd.ob at this; rwa [show ((i : Int) + 1 - 1).toNat = i by omega] at this)
          obtain ⟨o, ho⟩ : ∃ o, o = G.os.getD i [] := ⟨_, rfl⟩
          rw [← ho] at cob hrow2 hn7 HVO HRUN
          have HCL := Lib.hid (show ∀ W : World, W.heap = wr.heap → Calls Try.prog 59 #[.slice (some ⟨gs.getD i 0, 0, none⟩) o.length (cs.getD i 0)] W (CloneP W.heap.size 46 2 o.length (vflat o) W) from fun W hW => cloneV _ _ _ _ W (by
            have h1 := Reads.of_own (own_same (w' := W) hrow2 (fun k _ => by rw [hW]))
            exact h1) (vflat_one o) (by omega))
          obtain ⟨ga, hga⟩ : ∃ ga, ga = gs.getD i 0 := ⟨_, rfl⟩
          obtain ⟨ca, hca⟩ : ∃ ca, ca = cs.getD i 0 := ⟨_, rfl⟩
          rw [← hga, ← hca] at cob HCL
          have hbol : bo < wr.heap.size := Nat.lt_of_lt_of_le hbo HST.out.bl.size
          have hpl2 : p < wr.heap.size := Nat.lt_of_lt_of_le hpl HST.out.bl.size
          have hw1 : IntKind.i64.wrap ((i : Int) + 1 - 1) = (i : Int) := by rw [show (i : Int) + 1 - 1 = (i : Int) by omega]; exact IntWalk.i64_in _ (by omega)
          have hw2 : IntKind.i64.wrap (i : Int) = (i : Int) := IntWalk.i64_in _ (by omega)
          have hi0 : (0 : Int) ≤ (i : Int) := by omega
          have hi1 : (i : Int) < (G.os.length : Int) := by omega
          have hj0 : (0 : Int) ≤ (j : Int) := by omega
          have hj1 : (j : Int) < ((G.run j).1.length : Int) := by omega
          clear hidm hidb hi hov hrow hbp hVW hrow2 ho hga hca hco
          go_upto_region 19 with fail
          go_region_held3 (fun w' => w'.cell? ⟨p, 1, none⟩ = some (.slice (some ⟨bo, 0, none⟩) G.os.length c) ∧ w'.cell? ⟨w.heap.size + 4, 0, none⟩ = some (.slice (some ⟨b5, 0, none⟩) (G.run j).1.length cc5) ∧ w'.cell? ⟨b5, j, none⟩ = some (.int .i64 ((i : Int) + 1)) ∧ w'.cell? ⟨bo, i, none⟩ = some (.slice (some ⟨ga, 0, none⟩) o.length ca)) (go_simp)
            ((go_at_call 59; refine (HCL.out _ (by rfl)).mono ?_; rintro e w2 ⟨g2, cap2, rfl, hg2, hown2, hb2⟩; obtain ⟨os1, d1, rfl⟩ := ext_of hb2; clear hb2))
          have hin0 := HST.out.startL (below_of_ext os1 d1) (o := o) rfl hg2 (own_base hown2 (Nat.zero_le _))
          have HIN := Lib.hid hin0
          have HMO := Lib.hid HMOK.out
          have HJM := Lib.hid (show ∀ i, i = j → i < (G.run i).1.length from fun i e => e ▸ hjm)
          clear hin0 hg2 hown2 hcid cob cp1 c5
          generalize (G.run j).1 = met at *
          generalize (G.run j).2 = L at *
          go_wp2_with fail
          rename World => wo
          go_loopw [73] (fun s73 wx => ∃ f : Nat, f ≤ o.length ∧ s73 = .int .i64 f ∧ InL w.heap.size w wx w.heap.size (w.heap.size + 1) (w.heap.size + 3) (w.heap.size + 4) g2 cap2 o.length (Gd.numVs met (o.take f)).1 ((Gd.numVs met (o.take f)).2 ++ o.drop f) R L Q) (fun s73 _ => o.length - (intOf s73).toNat)
          case atStart => exact ⟨0, by omega, rfl, HIN.out⟩
          case round =>
            clear HIN
            obtain ⟨f, hf, rfl, hin⟩ := hrel
            by_cases hfo : f < o.length
            · obtain ⟨q1, q2, q3⟩ := part_row o met hfo
              have HQ1 := Lib.hid q1
              have HQ3 := Lib.hid q3
              have HMF := Lib.hid (show Gd.MOk G.os.length (Gd.numVs met (o.take f)).1 from Gd.numVs_ok _ HMO.out (fun v hv => HVO.out v (List.mem_of_mem_take hv)))
              have hrowl := hin.len
              obtain ⟨e0, e1⟩ := vflat_at ((Gd.numVs met (o.take f)).2 ++ o.drop f) f (by rw [hrowl]; exact hfo)
              rw [q2] at e0 e1
              have y0 : wr.cell? ⟨g2, f * 2, none⟩ = _ := (World.ownsRow.cellAt hin.row (f * 2) (by omega)).trans e0
              have y1 : wr.cell? ⟨g2, f * 2 + 1, none⟩ = _ := (World.ownsRow.cellAt hin.row (f * 2 + 1) (by omega)).trans e1
              have hgl := (hin.row.lt g2 rfl).2
              have hvo : Gd.vOk G.os.length (o.getD f default) := by
                rw [List.getD_eq_getElem?_getD, List.getElem?_eq_getElem hfo]; exact HVO.out _ (List.getElem_mem hfo)
              have HQ2 := Lib.hid q2
              generalize (Gd.numVs met (o.take f)).1 = mf at *
              generalize ((Gd.numVs met (o.take f)).2 ++ o.drop f) = row at *
              obtain ⟨v, hv⟩ : ∃ v, v = o.getD f default := ⟨_, rfl⟩
              rw [← hv] at y0 y1 hvo HQ1 HQ2
              have HVV := Lib.hid hv
              have HIN := Lib.hid hin
              obtain ⟨vk, vn⟩ := v
              simp only at y0 y1
              have hf0 : (0 : Int) ≤ (f : Int) := by omega
              have hf1 : (f : Int) < (o.length : Int) := by omega
              clear q1 q2 q3 e0 e1 hv hin hrowl
              by_cases hk1 : vk = 1
              · subst hk1
                have hid : 0 ≤ vn ∧ vn ≤ 1000000 := by have := hvo.2.1; have := hvo.2.2.2 rfl; simp only at *; omega
                have hml : mf.length ≤ 100000 := by have := HMF.out.length; omega
                have HNUM := Lib.hid (fun o' => num_any (HIN.out.alloc o').ps.num vn hid hml)
                clear hid hml hvo
                go_wp2_with fail
                refine (HNUM.out _).mono ?_
                rintro e w2 ⟨rfl, hns, hon⟩
                have hin2 := (HIN.out.alloc _).asked hns hon
                have hfz := World.ownsRow.frozenAt hin2.row (f * 2 + 1)
                have hcc := World.ownsRow.cellAt hin2.row (f * 2 + 1) (by omega)
                rw [(vflat_at row f (by rw [hin2.len]; exact hfo)).2] at hcc
                have HIN2 := Lib.hid hin2
                clear hns hon hin2
                go_wp2_with fail
                go_roundw
                case rel =>
                  refine ⟨f + 1, by omega, by go_num, ?_⟩
                  have e1 : Gd.numV mf ⟨1, vn⟩ = ((Gd.num mf vn).1, ⟨1, (Gd.num mf vn).2⟩) := by unfold Gd.numV; rw [if_pos rfl]
                  rw [HQ1.out, HQ3.out, e1]
                  have := HIN2.out.put hfo (x := (Gd.num mf vn).2)
                  rw [HQ2.out] at this
                  exact this
                case measure => simp [intOf]; omega
              · clear hvo
                go_wp2_with fail
                go_roundw
                case rel =>
                  refine ⟨f + 1, by omega, by go_num, ?_⟩
                  have e1 : Gd.numV mf ⟨vk, vn⟩ = (mf, ⟨vk, vn⟩) := by unfold Gd.numV; rw [if_neg hk1]
                  rw [HQ1.out, HQ3.out, e1]
                  have e2 : row.set f ⟨vk, vn⟩ = row := by
                    rw [← HQ2.out]
                    apply List.ext_getElem?
                    intro i
                    rw [List.getElem?_set]
                    by_cases hi : f = i
                    · subst hi
                      have hl : f < row.length := by rw [HIN.out.len]; exact hfo
                      rw [if_pos rfl, if_pos hl, List.getD_eq_getElem?_getD, List.getElem?_eq_getElem hl]; rfl
                    · rw [if_neg hi]
                  rw [e2]
                  exact HIN.out.alloc _
                case measure => simp [intOf]; omega
            · obtain rfl : f = o.length := by omega
              have htk : o.take o.length = o := List.take_length
              have hdr : o.drop o.length = [] := List.drop_length
              rw [htk, hdr, List.append_nil] at hin
              have hrl := hin.len
              generalize (Gd.numVs met o).1 = mf at *
              generalize (Gd.numVs met o).2 = row at *
              obtain ⟨Rv, Lv, rg, rc, lg, lc, hsh⟩ := hin.ps.sh
              have c3 : wr.cell? ⟨w.heap.size + 1, 1, none⟩ = some Lv := hsh.hb.cell 1
              have hl3 := hsh.hb.lt
              have n3 := hsh.ne.2
              have HFAR := Lib.hid (show ∀ (x : Value) (w2 : World), (wr.alloc (.cells #[x] 67)).grownBy w2 Lv.ownBlock → w2.cell? ⟨w.heap.size + 1, 1, none⟩ = some Lv ∧ w2.frozen? ⟨w.heap.size + 1, 1, none⟩ = false from fun x w2 hg =>
                ⟨by rw [hg.cell_far _ (by simp; omega) n3]; simp [go_sem, c3, hl3], by rw [hg.frozen_far _ (by simp; omega) n3]; simp [go_sem, hl3, hsh.hb.frozen]⟩)
              have HIN := Lib.hid hin
              have HSH := Lib.hid hsh
              have HRL2 := Lib.hid hrl
              have hLk : L.length ≤ 1000 := by have := HLL.out; omega
              have HNEW := Lib.hid (show ∀ y : Value, (wr.alloc (.cells #[y] 67)).heap[wr.heap.size]? = some (.cells #[y] 67 (0, 0)) from fun y => heap_alloc_new wr _)
              obtain ⟨i67, hi67, hz67, hs67, hb67⟩ := info_parts info67
              clear hin hsh hrl n3 htk hdr
              go_wp2_with (at_builtin; refine wpList_append_lies _ rfl (.tmp 91) (.tmp 93) _ rfl 0 67 i67 _ 1 24 Try.underlying63 hi67 hz67 hs67 hb67 rfl (by omega) Lv L.length (ovals lg lc L) (by rfl) (World.ownsRow.alloc HSH.out.hL _) ⟨wr.heap.size, 0, none⟩ 1 1 [.slice (some ⟨g2, 0, none⟩) o.length cap2] (by rfl) (by rfl) (World.news_of_block (cs := #[.slice (some ⟨g2, 0, none⟩) o.length cap2]) (t := 67) (fr := (0, 0)) (HNEW.out _)) (by simp [Value.oneCell']) (by omega) (by unfold maxLen; omega) (by omega) (Nat.zero_le _) (wr.heap.size + 1) (by simp) ?_; intro gg cap w3 hown hgr hat hlt; go_must (obtain ⟨e3, f3⟩ := HFAR.out _ _ hgr; have HOWN := Lib.hid hown; have HGR := Lib.hid hgr; have HAT := Lib.hid hat; clear hown hgr hat))
              go_roundw
              case rel =>
                obtain ⟨P', hst⟩ := HIN.out.stop HSH.out HOWN.out HGR.out HAT.out hlt
                refine ⟨j + 1, P', by omega, by go_num, by rw [HRUN.out]; exact hst, fun i hi => ?_⟩
                by_cases hij : i = j
                · exact HJM.out i hij
                · exact HLT.out i (by omega)
              case measure => simp [intOf]; omega
        · obtain ⟨Rv, Lv, rg, rc, lg, lc, hsh⟩ := HST.out.ps.sh
          have hjl : (G.run j).1.length = j := by
            rcases Nat.eq_zero_or_pos j with h0 | h0
            · omega
            · have h1 := HLT.out (j - 1) (by omega)
              have h2 := run_mono G (j - 1)
              rw [show j - 1 + 1 = j by omega] at h2
              omega
          have HIS := Lib.hid (show G.Is R (G.run j).2 from ⟨HRR.out, j, rfl, hjl, HLT.out⟩)
          have d0 : wr.cell? ⟨w.heap.size + 1, 0, none⟩ = some Rv := hsh.hb.cell 0
          have d1 : wr.cell? ⟨w.heap.size + 1, 1, none⟩ = some Lv := hsh.hb.cell 1
          have f0 : wr.cell? ⟨w.heap.size, 0, none⟩ = some (.slice none 0 0) := HST.out.b2.cell 0
          have f1 : wr.cell? ⟨w.heap.size, 1, none⟩ = some (.slice none 0 0) := HST.out.b2.cell 1
          have ff : ∀ i, wr.frozen? ⟨w.heap.size, i, none⟩ = false := HST.out.b2.frozen
          have hz := HST.out.b2.lt
          have HSH := Lib.hid hsh
          obtain ⟨A6, n6, cc6, hRv⟩ : ∃ A n c, Rv = .slice A n c := by
            rcases hsh.hR.2 with ⟨q, _⟩ | ⟨g, cap, cur, q, _⟩ <;> exact ⟨_, _, _, q⟩
          obtain ⟨A7, n7, cc7, hLv⟩ : ∃ A n c, Lv = .slice A n c := by
            rcases hsh.hL.2 with ⟨q, _⟩ | ⟨g, cap, cur, q, _⟩ <;> exact ⟨_, _, _, q⟩
          subst hRv hLv
          clear hsh hjl
          go_wp2_with fail
          refine bodyPost_ret (v := .agg #[.slice A6 n6 cc6, .slice A7 n7 cc7]) (by simp [results, Try.results37, go_sem, f0, f1]) rfl ⟨R, (G.run j).2, _, _, HIS.out, rfl, ?_, ?_⟩
          · have hs : ∀ k, k ≠ w.heap.size → ((wr.setCell ⟨w.heap.size, 0, none⟩ (.slice A6 n6 cc6)).setCell ⟨w.heap.size, 1, none⟩ (.slice A7 n7 cc7)).heap[k]? = wr.heap[k]? := fun k hk => (Below.heap_setCell _ ⟨w.heap.size, 1, none⟩ _ k hk).trans (Below.heap_setCell wr ⟨w.heap.size, 0, none⟩ _ k hk)
            have hP : ∀ k, Q k → k ≠ w.heap.size := fun k hk e => HST.out.np (e ▸ hk)
            exact ⟨_, _, _, _, own_same HSH.out.hR (fun k hk => hs k (hP k (HSH.out.pR k hk))), own_same HSH.out.hL (fun k hk => hs k (hP k (HSH.out.pL k hk))), HSH.out.rr.same (fun k hp _ _ => hs k (hP k hp)) (fun k hp => (HST.out.ps.pb k hp).1), HSH.out.lr.same (fun k hp _ _ => hs k (hP k hp)) (fun k hp => (HST.out.ps.pb k hp).1), fun g hg => (HST.out.ps.pb g (HSH.out.pR g hg)).1, fun g hg => (HST.out.ps.pb g (HSH.out.pL g hg)).1⟩
          · exact (HST.out.bl.setCell (p := ⟨w.heap.size, 0, none⟩) (Nat.le_refl _) _).setCell (p := ⟨w.heap.size, 1, none⟩) (Nat.le_refl _) _
end

end Go.Proofs.Ytlogojiphjpknaa
