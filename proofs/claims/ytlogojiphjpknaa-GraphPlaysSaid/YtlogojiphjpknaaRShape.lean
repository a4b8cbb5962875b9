/- (*flitref07.Graph).Shape: what can be come to, with numbers. Condition: at most a thousand objects. -/
import Derived.Test.YtlogojiphjpknaaRShapeP
import Derived.Deep.CutBlock
import Derived.Deep.DeepCutAuto
namespace Go.Proofs.Ytlogojiphjpknaa
open Go.RowKit
set_option linter.unusedVariables false

/-- the world in which the reference's Shape begins -/
abbrev rshape0 (w : World) : World :=
  ((w.alloc (.cells #[.slice none 0 0, .slice none 0 0] 65)).alloc (.cells #[.slice none 0 0, .slice none 0 0] 65)).alloc (.cells #[] 3)

theorem rshape_start (w : World) : ROut w.heap.size w (rshape0 w) w.heap.size (w.heap.size + 1) (.slice (some ⟨w.heap.size + 2, 0, none⟩) 0 0) [] [] [] (fun k => k = w.heap.size + 1) := by
  have h2 : (rshape0 w).heap[w.heap.size]? = some (.cells #[.slice none 0 0, .slice none 0 0] 65 (0, 0)) := (ga (by simp <;> omega)).trans ((ga (by simp)).trans (gn rfl))
  have h3 : (rshape0 w).heap[w.heap.size + 1]? = some (.cells #[.slice none 0 0, .slice none 0 0] 65 (0, 0)) := (ga (by simp)).trans (gn (by simp))
  have h4 : (rshape0 w).heap[w.heap.size + 2]? = some (.cells #[] 3 (0, 0)) := gn (by simp)
  have hz : (rshape0 w).heap.size = w.heap.size + 3 := by simp [rshape0]
  refine ⟨⟨.slice none 0 0, .slice none 0 0, [], [], [], [], h3, rfl, World.ownsRow_nil _ _ _ _, (by intro g hg; cases hg), World.ownsRow_nil _ _ _ _, (by intro g hg; cases hg), RRows.nil _ _, LRows.nil _ _⟩, fun k hk => by subst hk; omega, ?_, fun k hk => ?_, ?_, by omega, h2, by simp⟩
  · exact ⟨by simp [ints], .inr ⟨w.heap.size + 2, 0, #[], rfl, Nat.zero_le _, h4, Nat.le_refl _, by unfold maxLen; omega, by simp, by simp [ints]⟩⟩
  · simp [Value.ownBlock] at hk; omega
  · exact ((((Below.refl _ _).alloc (Nat.le_refl _) _).alloc (by simp) _).alloc (by simp; omega) _)

theorem Vw.idcell {T : TypeId} {F : Nat → Prop} {w : World} {p : Nat} {G : Gd} {bt ct : Nat} {ov : Value} {gs cs : List Nat} (h : Vw T F w p G bt ct ov gs cs) {t j : Nat} (ht : t < G.ts.length) (hj : j < (G.rt t).n.toNat) (h8 : j < 8) :
    w.cell? ⟨bt, t * 9 + (1 + j), none⟩ = some (.int .i64 ((Gd.ids (G.rt t)).getD j 0)) := by
  refine (World.ownsRow.cellAt h.hts _ (by omega)).trans ?_
  rw [tflat_at G.ts t ht (1 + j) (by omega), ← rcell_at (G.rt t) hj h8]
  rfl

section
variable {F : Nat → Prop} {w : World} {p : Nat} {G : Gd} {bt ct : Nat} {ov : Value} {gs cs : List Nat}

set_option maxRecDepth 100000 in
set_option maxHeartbeats 4000000 in
theorem rshape_any (h : Vw 91 F w p G bt ct ov gs cs) (hok : G.Ok) (hM : G.os.length ≤ 1000) : Calls Try.prog 50 #[.pointer (some ⟨p, 0, none⟩)] w (ShapeP w G) := by
  have HV := Lib.hid h
  have HOK := Lib.hid hok
  have h64 := h.h64
  obtain ⟨c0, c1⟩ := h.pcell
  have hpl := h.plt
  clear h hok
  go_enter Try.func50, Try.ntmps50
  go_wp2_with fail
  have HST := Lib.hid (rshape_start w)
  go_loopw [4, 5] (fun s4 s5 wr => ∃ (t : Nat) (P : Nat → Prop), t ≤ G.ts.length ∧ s5 = .int .i64 t ∧ ROut w.heap.size w wr w.heap.size (w.heap.size + 1) s4 (Gd.numRs [] (G.ts.take t)).1 (Gd.numRs [] (G.ts.take t)).2 [] P) (fun _ s5 _ => G.ts.length - (intOf s5).toNat)
  case atStart => exact ⟨0, _, by omega, rfl, HST.out⟩
  case round =>
    clear HST
    obtain ⟨t, P, ht, rfl, hst⟩ := hrel
    have HS := Lib.hid hst
    have cp0 : wr.cell? ⟨p, 0, none⟩ = some (.slice (some ⟨bt, 0, none⟩) G.ts.length ct) := (hst.bl.cell (p := ⟨p, 0, none⟩) hpl).trans c0
    have hpl2 : p < wr.heap.size := block_lt cp0
    clear hst
    by_cases htT : t < G.ts.length
    · have htT' : (t : Int) < (G.ts.length : Int) := by omega
      obtain ⟨r0, _⟩ := HV.out.rcell htT
      have hbl := HV.out.btlt
      have hbl2 : bt < wr.heap.size := Nat.lt_of_lt_of_le hbl HS.out.bl.size
      have r0 := (HS.out.bl.cell (p := ⟨bt, t * 9, none⟩) hbl).trans r0
      have HRC := Lib.hid (fun j (hj : j < (G.rt t).n.toNat) (h8 : j < 8) => HV.out.idcell htT hj h8)
      have hro := HOK.out.rt t
      obtain ⟨r, hr⟩ : ∃ r, r = G.rt t := ⟨_, rfl⟩
      rw [← hr] at r0 hro HRC
      have hn0 : 0 ≤ r.n ∧ r.n ≤ 8 := ⟨hro.1.1, hro.1.2.1⟩
      have HIDS := Lib.hid (Gd.ids_ok hro)
      obtain ⟨N, hN⟩ : ∃ N : Nat, r.n = N := ⟨r.n.toNat, by omega⟩
      have hN8 : N ≤ 8 := by omega
      have HLEN := Lib.hid (show (Gd.ids r).length = N by rw [ids_length hn0.2]; omega)
      have HTK := Lib.hid (show Gd.numRs [] (G.ts.take (t + 1)) = ((Gd.nums (Gd.numRs [] (G.ts.take t)).1 (Gd.ids r)).1, (Gd.numRs [] (G.ts.take t)).2 ++ [(Gd.nums (Gd.numRs [] (G.ts.take t)).1 (Gd.ids r)).2]) by
        have e : G.ts[t] = r := by
          rw [hr]
          unfold Gd.rt
          rw [Int.toNat_natCast, List.getD_eq_getElem?_getD, List.getElem?_eq_getElem htT]
          rfl
        rw [List.take_succ_eq_append_getElem htT, numRs_snoc, e])
      have HMK := Lib.hid (show Gd.MOk G.os.length (Gd.numRs [] (G.ts.take t)).1 from Gd.numRs_ok _ ⟨List.Pairwise.nil, fun _ hx => by cases hx⟩ (fun r hr => HOK.out.rs r (List.mem_of_mem_take hr)))
      have HRL := Lib.hid (numRs_length (G.ts.take t) [])
      rw [hN] at r0
      have HRC2 := Lib.hid (show ∀ j, j < N → w.cell? ⟨bt, t * 9 + (1 + j), none⟩ = some (.int .i64 ((Gd.ids r).getD j 0)) from fun j hj => HRC.out j (by omega) (by omega))
      have HIN := Lib.hid (HS.out.start 3 1)
      generalize (Gd.numRs [] (G.ts.take t)).1 = met at *
      generalize (Gd.numRs [] (G.ts.take t)).2 = R at *
      generalize Gd.ids r = ids at *
      clear hr hro hn0 HRC hN
      have HC0 := Lib.hid (And.intro cp0 r0)
      go_wp2_with fail
      rename World => wo
      go_loopw [4, 6, 7] (fun s4 s6 s7 wx => ∃ (j g c : Nat), j ≤ N ∧ s7 = .int .i64 j ∧ s6 = .slice (some ⟨g, 0, none⟩) j c ∧ RIn w.heap.size w wx w.heap.size (w.heap.size + 1) s4 (Gd.nums met (ids.take j)).1 3 1 g c j (ints (Gd.nums met (ids.take j)).2) R [] P) (fun _ _ s7 _ => N - (intOf s7).toNat)
      case atStart => exact ⟨0, _, _, by omega, rfl, rfl, HIN.out⟩
      case round =>
        clear HIN HC0
        obtain ⟨j, g, c, hj, rfl, rfl, hin⟩ := hrel
        have hrl : (Gd.nums met (ids.take j)).2.length = j := by
          rw [nums_length, List.length_take, HLEN.out]; omega
        have HMJ := Lib.hid (show Gd.MOk G.os.length (Gd.nums met (ids.take j)).1 from Gd.nums_ok _ HMK.out (fun x hx => HIDS.out x (List.mem_of_mem_take hx)))
        have cp0 : wr.cell? ⟨p, 0, none⟩ = some (.slice (some ⟨bt, 0, none⟩) G.ts.length ct) := (hin.bl.cell (p := ⟨p, 0, none⟩) hpl).trans c0
        have hpl3 : p < wr.heap.size := block_lt cp0
        have hbl3 : bt < wr.heap.size := Nat.lt_of_lt_of_le hbl hin.bl.size
        have r0 : wr.cell? ⟨bt, t * 9, none⟩ = some (.int .i64 N) := (hin.bl.cell (p := ⟨bt, t * 9, none⟩) hbl).trans ((HS.out.bl.cell (p := ⟨bt, t * 9, none⟩) hbl).symm.trans r0)
        by_cases hjN : j < N
        · have HNX := Lib.hid (show Gd.nums met (ids.take (j + 1)) = ((Gd.num (Gd.nums met (ids.take j)).1 (ids.getD j 0)).1,
              (Gd.nums met (ids.take j)).2 ++ [(Gd.num (Gd.nums met (ids.take j)).1 (ids.getD j 0)).2]) by
            have hl : j < ids.length := by rw [HLEN.out]; exact hjN
            rw [List.take_succ_eq_append_getElem hl, nums_snoc, List.getD_eq_getElem?_getD, List.getElem?_eq_getElem hl]
            rfl)
          have rj : wr.cell? ⟨bt, t * 9 + (1 + j), none⟩ = some (.int .i64 (ids.getD j 0)) := (hin.bl.cell (p := ⟨bt, t * 9 + (1 + j), none⟩) hbl).trans (HRC2.out j hjN)
          generalize (Gd.nums met (ids.take j)).1 = mj at *
          generalize (Gd.nums met (ids.take j)).2 = row at *
          generalize ids.getD j 0 = id at *
          have hml : mj.length ≤ 100000 := by have := HMJ.out.length; omega
          have HNUM := Lib.hid (rnum_any _ mj id wr hin.mm hml)
          have HIN := Lib.hid hin
          have hjN' : (j : Int) < (N : Int) := by omega
          have hj8 : (j : Int) < 8 := by omega
          clear hin hml
          go_wp2_with fail
          refine (HNUM.out).mono ?_
          rintro e w2 ⟨mv', rfl, hmv, hor, hb2⟩
          have HIN2 := Lib.hid (HIN.out.asked hb2 hmv hor)
          clear hmv hor hb2
          obtain ⟨i3, hi3, hz3, hs3, hb3⟩ := info_parts info3
          have HROW := Lib.hid (show w2.ownsRow 0 3 1 (.slice (some ⟨g, 0, none⟩) j c) j (ints row) from HIN2.out.row)
          generalize hx : (Gd.num mj id) = X at *
          obtain ⟨m2, x⟩ := X
          have HNEW := Lib.hid (show ∀ y : Value, (w2.alloc (.cells #[y] 3)).heap[w2.heap.size]? = some (.cells #[y] 3 (0, 0)) from fun y => heap_alloc_new w2 _)
          clear hx
          go_wp2_with (at_builtin; refine wpList_append_lies _ rfl (.tmp 57) (.tmp 59) _ rfl 0 3 i3 _ 1 8 Try.underlying22 hi3 hz3 hs3 hb3 rfl (by omega) (.slice (some ⟨g, 0, none⟩) j c) j (ints row) (by rfl) (World.ownsRow.alloc HROW.out _) ⟨w2.heap.size, 0, none⟩ 1 1 [.int .i64 x] (by rfl) (by rfl) (World.news_of_block (cs := #[.int .i64 x]) (t := 3) (fr := (0, 0)) (HNEW.out _)) (by simp [Value.oneCell']) (by omega) (by unfold maxLen; omega) (by omega) (Nat.zero_le _) (w2.heap.size + 1) (by simp) ?_; intro gg cap w3 hown hgr hat hlt)
          go_roundw
          case rel =>
            refine ⟨j + 1, gg, cap, by omega, by go_num, rfl, ?_⟩
            rw [HNX.out]
            have hi2 : ints (row ++ [x]) = ints row ++ [.int .i64 x] := by unfold ints; simp
            rw [hi2]
            exact HIN2.out.push hown (by simpa [Value.ownBlock] using hgr) (by simpa [Value.ownBlock] using hat) (by decide)
          case measure => simp [intOf]; omega
        · obtain rfl : j = N := by omega
          have htk : ids.take j = ids := List.take_of_length_le (by rw [HLEN.out]; exact Nat.le_refl _)
          rw [htk] at hin hrl
          generalize (Gd.nums met ids).1 = mj at *
          generalize (Gd.nums met ids).2 = row at *
          obtain ⟨Rv, Lv, rg, rc, lg, lc, hsh⟩ := hin.sh
          have c3 : wr.cell? ⟨w.heap.size + 1, 0, none⟩ = some Rv := hsh.hb.cell 0
          have hl3 := hsh.hb.lt
          have n3 := hsh.ne.1
          have HFAR := Lib.hid (show ∀ (x : Value) (w2 : World), (wr.alloc (.cells #[x] 22)).grownBy w2 Rv.ownBlock → w2.cell? ⟨w.heap.size + 1, 0, none⟩ = some Rv ∧ w2.frozen? ⟨w.heap.size + 1, 0, none⟩ = false from fun x w2 hg =>
            ⟨by rw [hg.cell_far _ (by simp; omega) n3]; simp [go_sem, c3, hl3], by rw [hg.frozen_far _ (by simp; omega) n3]; simp [go_sem, hl3, hsh.hb.frozen]⟩)
          have HIN := Lib.hid hin
          have HSH := Lib.hid hsh
          have HRL2 := Lib.hid hrl
          have hRk : R.length ≤ 64 := by have := HRL.out; rw [List.length_take] at this; omega
          have HNEW := Lib.hid (show ∀ y : Value, (wr.alloc (.cells #[y] 22)).heap[wr.heap.size]? = some (.cells #[y] 22 (0, 0)) from fun y => heap_alloc_new wr _)
          obtain ⟨i22, hi22, hz22, hs22, hb22⟩ := info_parts info22
          clear hin hsh hrl n3 htk
          go_wp2_with (at_builtin; refine wpList_append_lies _ rfl (.tmp 62) (.tmp 64) _ rfl 0 22 i22 _ 1 24 Try.underlying62 hi22 hz22 hs22 hb22 rfl (by omega) Rv R.length (gvals rg rc R) (by rfl) (World.ownsRow.alloc HSH.out.hR _) ⟨wr.heap.size, 0, none⟩ 1 1 [.slice (some ⟨g, 0, none⟩) j c] (by rfl) (by rfl) (World.news_of_block (cs := #[.slice (some ⟨g, 0, none⟩) j c]) (t := 22) (fr := (0, 0)) (HNEW.out _)) (by simp [Value.oneCell']) (by omega) (by unfold maxLen; omega) (by omega) (Nat.zero_le _) (wr.heap.size + 1) (by simp) ?_; intro gg cap w3 hown hgr hat hlt; go_must (obtain ⟨e3, f3⟩ := HFAR.out _ _ hgr; have HOWN := Lib.hid hown; have HGR := Lib.hid hgr; have HAT := Lib.hid hat; clear hown hgr hat))
          go_roundw
          case rel =>
            have hin2 := HIN.out
            rw [← HRL2.out] at hin2
            obtain ⟨P', hst⟩ := hin2.stopR HSH.out (by rw [HRL2.out]; exact HOWN.out) (by rw [HRL2.out]; exact HGR.out) HAT.out hlt
            refine ⟨t + 1, P', by omega, by go_num, ?_⟩
            rw [HTK.out]
            exact hst
          case measure => simp [intOf]; omega
    · obtain rfl : t = G.ts.length := by omega
      have htk : G.ts.take G.ts.length = G.ts := List.take_length
      have HS0 := HS.out
      rw [htk] at HS0
      have HS1 := Lib.hid HS0
      clear HS0 htk HS
      go_wp2_with fail
      obtain ⟨R, hR⟩ : ∃ R, R = (Gd.numRs [] G.ts).2 := ⟨_, rfl⟩
      rw [← hR] at HS1
      have HRR := Lib.hid hR
      clear hR
      go_loopw [4, 10] (fun s4 s10 wx => ∃ (j : Nat) (P : Nat → Prop), j ≤ G.os.length ∧ s10 = .int .i64 j ∧ ROut w.heap.size w wx w.heap.size (w.heap.size + 1) s4 (G.run j).1 R (G.run j).2 P ∧ ∀ i, i < j → i < (G.run i).1.length) (fun _ s10 _ => G.os.length - (intOf s10).toNat)
      case atStart => exact ⟨0, P, by omega, rfl, HS1.out, fun i hi => by omega⟩
      case round =>
        clear HS1
        obtain ⟨j, Q, hj, rfl, hst, hlt⟩ := hrel
        have HMOK := Lib.hid (Gd.run_ok HOK.out j)
        have hML := HMOK.out.length
        have hLL : (G.run j).2.length = j := Gd.run_length G j
        obtain ⟨A5, cc5, rfl, hc5⟩ := hst.mm.form
        have HC5 := Lib.hid hc5
        have HST := Lib.hid hst
        have HLT := Lib.hid hlt
        have HLL := Lib.hid hLL
        clear hst hlt hc5 hLL
        by_cases hjm : j < (G.run j).1.length
        · obtain ⟨b5, rfl, hb5, hcid⟩ := HC5.out j hjm
          have hidm : (G.run j).1.getD j 0 ∈ (G.run j).1 := by
            rw [List.getD_eq_getElem?_getD, List.getElem?_eq_getElem hjm]; exact List.getElem_mem hjm
          have hidb := HMOK.out.2 _ hidm
          obtain ⟨i, hi⟩ : ∃ i : Nat, (G.run j).1.getD j 0 = (i : Int) + 1 := ⟨((G.run j).1.getD j 0 - 1).toNat, by omega⟩
          have hiM : i < G.os.length := by omega
          rw [hi] at hcid
          have HRUN := Lib.hid (show G.run (j + 1) = ((Gd.numVs (G.run j).1 (G.os.getD i [])).1, (G.run j).2 ++ [(Gd.numVs (G.run j).1 (G.os.getD i [])).2]) by
            show G.step (G.run j) = _
            unfold Gd.step
            rw [HLL.out, hi]
            have e : G.ob ((i : Int) + 1) = G.os.getD i [] := by unfold Gd.ob; congr 1; omega
            rw [e])
          obtain ⟨A, c, hov, hrow⟩ := HV.out.orow
          obtain ⟨bo, hA, hbo, hco⟩ := hrow i hiM
          subst hA
          have hbp : ∀ b k, b < w.heap.size → wr.cell? ⟨b, k, none⟩ = w.cell? ⟨b, k, none⟩ := fun b k hb => HST.out.bl.cell (p := ⟨b, k, none⟩) hb
          have cp1 : wr.cell? ⟨p, 1, none⟩ = some (.slice (some ⟨bo, 0, none⟩) G.os.length c) := (hbp p 1 hpl).trans (c1.trans (by rw [hov]))
          have cob := (hbp bo i hbo).trans hco
          unfold oval at cob
          have hn7 : (G.os.getD i []).length ≤ 7 := by have := (HOK.out.ob ((i : Int) + 1)).2; unfold Gd.ob at this; rwa [show ((i : Int) + 1 - 1).toNat = i by omega] at this
          have HVO := Lib.hid (show ∀ v ∈ G.os.getD i [], Gd.vOk G.os.length v by have := (HOK.out.ob ((i : Int) + 1)).1; unfold Gd.ob at this; rwa [show ((i : Int) + 1 - 1).toNat = i by omega] at this)
          have HFC := Lib.hid (fun f (hf : f < (G.os.getD i []).length) => HV.out.fcell hiM hf)
          have hgal := HV.out.glt hiM
          obtain ⟨o, ho⟩ : ∃ o, o = G.os.getD i [] := ⟨_, rfl⟩
          rw [← ho] at cob hn7 HVO HRUN HFC
          obtain ⟨ga, hga⟩ : ∃ ga, ga = gs.getD i 0 := ⟨_, rfl⟩
          obtain ⟨ca, hca⟩ : ∃ ca, ca = cs.getD i 0 := ⟨_, rfl⟩
          rw [← hga, ← hca] at cob
          rw [← hga] at HFC hgal
          have hbol : bo < wr.heap.size := Nat.lt_of_lt_of_le hbo HST.out.bl.size
          have hpl2 : p < wr.heap.size := Nat.lt_of_lt_of_le hpl HST.out.bl.size
          have hw1 : IntKind.i64.wrap ((i : Int) + 1 - 1) = (i : Int) := by rw [show (i : Int) + 1 - 1 = (i : Int) by omega]; exact IntWalk.i64_in _ (by omega)
          have hw2 : IntKind.i64.wrap (i : Int) = (i : Int) := IntWalk.i64_in _ (by omega)
          have hi0 : (0 : Int) ≤ (i : Int) := by omega
          have hi1 : (i : Int) < (G.os.length : Int) := by omega
          have hj0 : (0 : Int) ≤ (j : Int) := by omega
          have hj1 : (j : Int) < ((G.run j).1.length : Int) := by omega
          have HIN := Lib.hid (HST.out.start 46 2)
          have HMO := Lib.hid HMOK.out
          have HJM := Lib.hid (show ∀ i, i = j → i < (G.run i).1.length from fun i e => e ▸ hjm)
          clear hidm hidb hi hov hrow hbp ho hga hca hco
          generalize (G.run j).1 = met at *
          generalize (G.run j).2 = L at *
          go_upto_region 18 with fail
          go_region_held3 (fun w' => w'.cell? ⟨p, 1, none⟩ = some (.slice (some ⟨bo, 0, none⟩) G.os.length c) ∧ w'.cell? ⟨b5, j, none⟩ = some (.int .i64 ((i : Int) + 1)) ∧ w'.cell? ⟨bo, i, none⟩ = some (.slice (some ⟨ga, 0, none⟩) o.length ca)) (go_simp) (fail)
          have HIN2 := Lib.hid (HIN.out.below (Below.refl _ _).drew)
          clear HIN hcid cob cp1
          go_wp2_with fail
          rename World => wo
          go_loopw [4, 11, 13] (fun s4 s11 s13 wx => ∃ (f g c : Nat), f ≤ o.length ∧ s13 = .int .i64 f ∧ s11 = .slice (some ⟨g, 0, none⟩) f c ∧ RIn w.heap.size w wx w.heap.size (w.heap.size + 1) s4 (Gd.numVs met (o.take f)).1 46 2 g c f (vflat (Gd.numVs met (o.take f)).2) R L Q) (fun _ _ s13 _ => o.length - (intOf s13).toNat)
          case atStart => exact ⟨0, _, _, by omega, rfl, rfl, HIN2.out⟩
          case round =>
            clear HIN2
            obtain ⟨f, g, c7, hf, rfl, rfl, hin⟩ := hrel
            by_cases hfo : f < o.length
            · have HNX := Lib.hid (show Gd.numVs met (o.take (f + 1)) = ((Gd.numV (Gd.numVs met (o.take f)).1 (o.getD f default)).1, (Gd.numVs met (o.take f)).2 ++ [(Gd.numV (Gd.numVs met (o.take f)).1 (o.getD f default)).2]) by
                rw [List.take_succ_eq_append_getElem hfo, numVs_snoc, List.getD_eq_getElem?_getD, List.getElem?_eq_getElem hfo]
                rfl)
              have HMF := Lib.hid (show Gd.MOk G.os.length (Gd.numVs met (o.take f)).1 from Gd.numVs_ok _ HMO.out (fun v hv => HVO.out v (List.mem_of_mem_take hv)))
              have hvo : Gd.vOk G.os.length (o.getD f default) := by
                rw [List.getD_eq_getElem?_getD, List.getElem?_eq_getElem hfo]; exact HVO.out _ (List.getElem_mem hfo)
              obtain ⟨y0, y1⟩ := HFC.out f hfo
              have y0 := (hin.bl.cell (p := ⟨ga, f * 2, none⟩) hgal).trans y0
              have y1 := (hin.bl.cell (p := ⟨ga, f * 2 + 1, none⟩) hgal).trans y1
              have hgal2 : ga < wr.heap.size := Nat.lt_of_lt_of_le hgal hin.bl.size
              have hrl : (Gd.numVs met (o.take f)).2.length = f := by rw [numVs_length, List.length_take]; omega
              generalize (Gd.numVs met (o.take f)).1 = mf at *
              generalize (Gd.numVs met (o.take f)).2 = row at *
              obtain ⟨v, hv⟩ : ∃ v, v = o.getD f default := ⟨_, rfl⟩
              rw [← hv] at y0 y1 hvo HNX
              obtain ⟨vk, vn⟩ := v
              simp only at y0 y1
              have HIN := Lib.hid hin
              have HRL2 := Lib.hid hrl
              have hf0 : (0 : Int) ≤ (f : Int) := by omega
              have hf1 : (f : Int) < (o.length : Int) := by omega
              obtain ⟨i46, hi46, hz46, hs46, hb46⟩ := info_parts info46
              have hbA : Below wr.heap.size wr (wr.alloc (.cells #[.int .i64 vk, .int .i64 vn] 46)) := (Below.refl _ _).alloc (Nat.le_refl _) _
              clear hv hrl
              by_cases hk1 : vk = 1
              · subst hk1
                have hml : mf.length ≤ 100000 := by have := HMF.out.length; omega
                have HNUM := Lib.hid (rnum_any _ mf vn (wr.alloc (.cells #[.int .i64 1, .int .i64 vn] 46)) (hin.mm.below hbA) hml)
                clear hin hml hvo
                go_wp2_with fail
                refine (HNUM.out).mono ?_
                rintro e w2 ⟨mv', rfl, hmv, hor, hb2⟩
                generalize hx : (Gd.num mf vn) = X at *
                obtain ⟨m2, x⟩ := X
                have HX := Lib.hid hx
                have z0 : w2.cell? ⟨wr.heap.size, 0, none⟩ = some (.int .i64 1) := (hb2.cell (p := ⟨wr.heap.size, 0, none⟩) (by simp)).trans (by simp [go_sem])
                have z1 : w2.cell? ⟨wr.heap.size, 1, none⟩ = some (.int .i64 vn) := (hb2.cell (p := ⟨wr.heap.size, 1, none⟩) (by simp)).trans (by simp [go_sem])
                have hzf : ∀ i, w2.frozen? ⟨wr.heap.size, i, none⟩ = false := fun i => by
                  have h1 : Blk w2 wr.heap.size 46 #[.int .i64 1, .int .i64 vn] := (hb2.block _ (by simp)).trans (heap_alloc_new wr _)
                  exact h1.frozen i
                have hws2 : wr.heap.size < w2.heap.size := block_lt z0
                have hbw : Below wr.heap.size wr (w2.setCell ⟨wr.heap.size, 1, none⟩ (.int .i64 x)) := (hbA.trans (hb2.mono (by simp))).setCell (p := ⟨wr.heap.size, 1, none⟩) (Nat.le_refl _) _
                have hmv3 : MetV (w2.setCell ⟨wr.heap.size, 1, none⟩ (.int .i64 x)) mv' m2 := own_same hmv (fun k hk => Below.heap_setCell w2 ⟨wr.heap.size, 1, none⟩ _ k (fun e => by
                  have e' : k = wr.heap.size := e
                  rcases hor with h1 | h1
                  · rw [h1] at hk; have := (HIN.out.mm.lt k hk).2; omega
                  · have := h1 k hk; simp at this; omega))
                have HIN3 := Lib.hid (HIN.out.asked hbw hmv3 (hor.imp id (fun h1 k hk => by have := h1 k hk; simp at this; omega)))
                have hset0 : (w2.setCell ⟨wr.heap.size, 1, none⟩ (.int .i64 x)).cell? ⟨wr.heap.size, 0, none⟩ = some (.int .i64 1) := (World.cell?_setCell_other _ _ _ _ (by intro h; simp only [Addr.mk.injEq] at h; omega)).trans z0
                have hset1 : (w2.setCell ⟨wr.heap.size, 1, none⟩ (.int .i64 x)).cell? ⟨wr.heap.size, 1, none⟩ = some (.int .i64 x) := World.cell?_setCell_same _ _ _ z1
                obtain ⟨W3, hW3⟩ : ∃ W3, W3 = w2.setCell ⟨wr.heap.size, 1, none⟩ (.int .i64 x) := ⟨_, rfl⟩
                rw [← hW3] at HIN3 hset0 hset1
                have HW3 := Lib.hid hW3
                have HROW := Lib.hid (show W3.ownsRow 0 46 2 (.slice (some ⟨g, 0, none⟩) f c7) f (vflat row) from HIN3.out.row)
                have HNEW := Lib.hid (show ∀ y z : Value, (W3.alloc (.cells #[y, z] 46)).heap[W3.heap.size]? = some (.cells #[y, z] 46 (0, 0)) from fun y z => heap_alloc_new W3 _)
                clear hx hmv hor hbw hmv3 hb2 hW3
                go_upto_region 27 with fail
                rw [← HW3.out]
                clear z0 z1 hzf
                go_wp2_with (at_builtin; refine wpList_append_lies _ rfl (.tmp 108) (.tmp 110) _ rfl 0 46 i46 _ 2 16 Try.underlying67 hi46 hz46 hs46 hb46 rfl (by omega) (.slice (some ⟨g, 0, none⟩) f c7) f (vflat row) (by rfl) (World.ownsRow.alloc HROW.out _) ⟨W3.heap.size, 0, none⟩ 1 1 [.int .i64 1, .int .i64 x] (by rfl) (by rfl) (World.news_of_block (cs := #[.int .i64 1, .int .i64 x]) (t := 46) (fr := (0, 0)) (HNEW.out _ _)) (by simp [Value.oneCell']) (by omega) (by unfold maxLen; omega) (by omega) (Nat.zero_le _) (W3.heap.size + 1) (by simp) ?_; intro gg cap w4 hown hgr hat hlt)
                go_roundw
                case rel =>
                  refine ⟨f + 1, gg, cap, by omega, by go_num, rfl, ?_⟩
                  have e1 : Gd.numV mf ⟨1, vn⟩ = (m2, ⟨1, x⟩) := by unfold Gd.numV; rw [if_pos rfl, HX.out]
                  rw [HNX.out, e1]
                  have e2 : vflat (row ++ [⟨1, x⟩]) = vflat row ++ [.int .i64 1, .int .i64 x] := by rw [vflat_append]; rfl
                  rw [e2]
                  exact HIN3.out.push hown (by simpa [Value.ownBlock] using hgr) (by simpa [Value.ownBlock] using hat) (by decide)
                case measure => simp [intOf]; omega
              · have HIN3 := Lib.hid (hin.below hbA)
                have z0 : (wr.alloc (.cells #[.int .i64 vk, .int .i64 vn] 46)).cell? ⟨wr.heap.size, 0, none⟩ = some (.int .i64 vk) := by simp [go_sem]
                have z1 : (wr.alloc (.cells #[.int .i64 vk, .int .i64 vn] 46)).cell? ⟨wr.heap.size, 1, none⟩ = some (.int .i64 vn) := by simp [go_sem]
                obtain ⟨W3, hW3⟩ : ∃ W3, W3 = wr.alloc (.cells #[.int .i64 vk, .int .i64 vn] 46) := ⟨_, rfl⟩
                rw [← hW3] at HIN3 z0 z1
                have HW3 := Lib.hid hW3
                have HROW := Lib.hid (show W3.ownsRow 0 46 2 (.slice (some ⟨g, 0, none⟩) f c7) f (vflat row) from HIN3.out.row)
                have HNEW := Lib.hid (show ∀ y z : Value, (W3.alloc (.cells #[y, z] 46)).heap[W3.heap.size]? = some (.cells #[y, z] 46 (0, 0)) from fun y z => heap_alloc_new W3 _)
                clear hin hvo hW3
                go_upto_region 27 with fail
                rw [← HW3.out]
                go_wp2_with (at_builtin; refine wpList_append_lies _ rfl (.tmp 108) (.tmp 110) _ rfl 0 46 i46 _ 2 16 Try.underlying67 hi46 hz46 hs46 hb46 rfl (by omega) (.slice (some ⟨g, 0, none⟩) f c7) f (vflat row) (by rfl) (World.ownsRow.alloc HROW.out _) ⟨W3.heap.size, 0, none⟩ 1 1 [.int .i64 vk, .int .i64 vn] (by rfl) (by rfl) (World.news_of_block (cs := #[.int .i64 vk, .int .i64 vn]) (t := 46) (fr := (0, 0)) (HNEW.out _ _)) (by simp [Value.oneCell']) (by omega) (by unfold maxLen; omega) (by omega) (Nat.zero_le _) (W3.heap.size + 1) (by simp) ?_; intro gg cap w4 hown hgr hat hlt)
                go_roundw
                case rel =>
                  refine ⟨f + 1, gg, cap, by omega, by go_num, rfl, ?_⟩
                  have e1 : Gd.numV mf ⟨vk, vn⟩ = (mf, ⟨vk, vn⟩) := by unfold Gd.numV; rw [if_neg hk1]
                  rw [HNX.out, e1]
                  have e2 : vflat (row ++ [⟨vk, vn⟩]) = vflat row ++ [.int .i64 vk, .int .i64 vn] := by rw [vflat_append]; rfl
                  rw [e2]
                  exact HIN3.out.push hown (by simpa [Value.ownBlock] using hgr) (by simpa [Value.ownBlock] using hat) (by decide)
                case measure => simp [intOf]; omega
            · obtain rfl : f = o.length := by omega
              have htk : o.take o.length = o := List.take_length
              rw [htk] at hin
              have hrl : (Gd.numVs met o).2.length = o.length := numVs_length _ _
              generalize (Gd.numVs met o).1 = mf at *
              generalize (Gd.numVs met o).2 = row at *
              obtain ⟨Rv, Lv, rg, rc, lg, lc, hsh⟩ := hin.sh
              have c3 : wr.cell? ⟨w.heap.size + 1, 1, none⟩ = some Lv := hsh.hb.cell 1
              have hl3 := hsh.hb.lt
              have n3 := hsh.ne.2
              have HFAR := Lib.hid (show ∀ (x : Value) (w2 : World), (wr.alloc (.cells #[x] 67)).grownBy w2 Lv.ownBlock → w2.cell? ⟨w.heap.size + 1, 1, none⟩ = some Lv ∧ w2.frozen? ⟨w.heap.size + 1, 1, none⟩ = false from fun x w2 hg =>
                ⟨by rw [hg.cell_far _ (by simp; omega) n3]; simp [go_sem, c3, hl3], by rw [hg.frozen_far _ (by simp; omega) n3]; simp [go_sem, hl3, hsh.hb.frozen]⟩)
              have HIN := Lib.hid hin
              have HSH := Lib.hid hsh
              have HRL2 := Lib.hid hrl
              have hLk : L.length ≤ 1000 := by have := HLL.out; omega
              have HNEW := Lib.hid (show ∀ y : Value, (wr.alloc (.cells #[y] 67)).heap[wr.heap.size]? = some (.cells #[y] 67 (0, 0)) from fun y => heap_alloc_new wr _)
              obtain ⟨i67, hi67, hz67, hs67, hb67⟩ := info_parts info67
              clear hin hsh hrl n3 htk
              go_wp2_with (at_builtin; refine wpList_append_lies _ rfl (.tmp 113) (.tmp 115) _ rfl 0 67 i67 _ 1 24 Try.underlying63 hi67 hz67 hs67 hb67 rfl (by omega) Lv L.length (ovals lg lc L) (by rfl) (World.ownsRow.alloc HSH.out.hL _) ⟨wr.heap.size, 0, none⟩ 1 1 [.slice (some ⟨g, 0, none⟩) o.length c7] (by rfl) (by rfl) (World.news_of_block (cs := #[.slice (some ⟨g, 0, none⟩) o.length c7]) (t := 67) (fr := (0, 0)) (HNEW.out _)) (by simp [Value.oneCell']) (by omega) (by unfold maxLen; omega) (by omega) (Nat.zero_le _) (wr.heap.size + 1) (by simp) ?_; intro gg cap w3 hown hgr hat hlt; go_must (obtain ⟨e3, f3⟩ := HFAR.out _ _ hgr; have HOWN := Lib.hid hown; have HGR := Lib.hid hgr; have HAT := Lib.hid hat; clear hown hgr hat))
              go_roundw
              case rel =>
                have hin2 := HIN.out
                rw [← HRL2.out] at hin2
                obtain ⟨P', hst⟩ := hin2.stopL HSH.out (by rw [HRL2.out]; exact HOWN.out) (by rw [HRL2.out]; exact HGR.out) HAT.out hlt
                refine ⟨j + 1, P', by omega, by go_num, by rw [HRUN.out]; exact hst, fun i hi => ?_⟩
                by_cases hij : i = j
                · exact HJM.out i hij
                · exact HLT.out i (by omega)
              case measure => simp [intOf]; omega
        · obtain ⟨Rv, Lv, rg, rc, lg, lc, hsh⟩ := HST.out.sh
          have hjl : (G.run j).1.length = j := by
            rcases Nat.eq_zero_or_pos j with h0 | h0
            · omega
            · have h1 := HLT.out (j - 1) (by omega)
              have h2 := run_mono G (j - 1)
              rw [show j - 1 + 1 = j by omega] at h2
              omega
          have HIS := Lib.hid (show G.Is R (G.run j).2 from ⟨HRR.out, j, rfl, hjl, HLT.out⟩)
          have d0 : wr.cell? ⟨w.heap.size + 1, 0, none⟩ = some Rv := hsh.hb.cell 0
          have d1 : wr.cell? ⟨w.heap.size + 1, 1, none⟩ = some Lv := hsh.hb.cell 1
          have f0 : wr.cell? ⟨w.heap.size, 0, none⟩ = some (.slice none 0 0) := HST.out.tw.cell 0
          have f1 : wr.cell? ⟨w.heap.size, 1, none⟩ = some (.slice none 0 0) := HST.out.tw.cell 1
          have ff : ∀ i, wr.frozen? ⟨w.heap.size, i, none⟩ = false := HST.out.tw.frozen
          have hz := HST.out.tw.lt
          have HSH := Lib.hid hsh
          obtain ⟨A6, n6, cc6, hRv⟩ : ∃ A n c, Rv = .slice A n c := by
            rcases hsh.hR.2 with ⟨q, _⟩ | ⟨g, cap, cur, q, _⟩ <;> exact ⟨_, _, _, q⟩
          obtain ⟨A7, n7, cc7, hLv⟩ : ∃ A n c, Lv = .slice A n c := by
            rcases hsh.hL.2 with ⟨q, _⟩ | ⟨g, cap, cur, q, _⟩ <;> exact ⟨_, _, _, q⟩
          subst hRv hLv
          clear hsh hjl
          go_wp2_with fail
          refine bodyPost_ret (v := .agg #[.slice A6 n6 cc6, .slice A7 n7 cc7]) (by simp [results, Try.results50, go_sem, f0, f1]) rfl ⟨R, (G.run j).2, _, _, HIS.out, rfl, ?_, ?_⟩
          · have hs : ∀ k, k ≠ w.heap.size → ((wr.setCell ⟨w.heap.size, 0, none⟩ (.slice A6 n6 cc6)).setCell ⟨w.heap.size, 1, none⟩ (.slice A7 n7 cc7)).heap[k]? = wr.heap[k]? := fun k hk => (Below.heap_setCell _ ⟨w.heap.size, 1, none⟩ _ k hk).trans (Below.heap_setCell wr ⟨w.heap.size, 0, none⟩ _ k hk)
            have hP : ∀ k, Q k → k ≠ w.heap.size := fun k hk e => HST.out.np (e ▸ hk)
            exact ⟨_, _, _, _, own_same HSH.out.hR (fun k hk => hs k (hP k (HSH.out.pR k hk))), own_same HSH.out.hL (fun k hk => hs k (hP k (HSH.out.pL k hk))), HSH.out.rr.same (fun k hp _ _ => hs k (hP k hp)) (fun k hp => (HST.out.pb k hp).1), HSH.out.lr.same (fun k hp _ _ => hs k (hP k hp)) (fun k hp => (HST.out.pb k hp).1), fun g hg => (HST.out.pb g (HSH.out.pR g hg)).1, fun g hg => (HST.out.pb g (HSH.out.pL g hg)).1⟩
          · exact (HST.out.bl.setCell (p := ⟨w.heap.size, 0, none⟩) (Nat.le_refl _) _).setCell (p := ⟨w.heap.size, 1, none⟩) (Nat.le_refl _) _
end

end Go.Proofs.Ytlogojiphjpknaa
