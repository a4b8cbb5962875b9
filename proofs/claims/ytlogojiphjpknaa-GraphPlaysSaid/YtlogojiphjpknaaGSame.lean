/- flitref07.SameShape tells whether two shapes are the same. Condition: at most a hundred thousand rows. -/
import Derived.Test.YtlogojiphjpknaaGShape
namespace Go.Proofs.Ytlogojiphjpknaa
open Go.RowKit
set_option linter.unusedVariables false

/-- rows of numbers that can be read -/
def Rd (w : World) (v : Value) (R : List (List Int)) : Prop :=
  ∃ A c, v = .slice A R.length c ∧ ∀ i, i < R.length → ∃ b g k, A = some ⟨b, 0, none⟩ ∧ b < w.heap.size ∧ w.cell? ⟨b, i, none⟩ = some (.slice (some ⟨g, 0, none⟩) (R.getD i []).length k) ∧ g < w.heap.size ∧ (R.getD i []).length ≤ 9223372036854775807 ∧ ∀ j, j < (R.getD i []).length → w.cell? ⟨g, j, none⟩ = some (.int .i64 ((R.getD i []).getD j 0))
/-- rows of fields that can be read -/
def Ld (w : World) (v : Value) (R : List (List V)) : Prop :=
  ∃ A c, v = .slice A R.length c ∧ ∀ i, i < R.length → ∃ b g k, A = some ⟨b, 0, none⟩ ∧ b < w.heap.size ∧ w.cell? ⟨b, i, none⟩ = some (.slice (some ⟨g, 0, none⟩) (R.getD i []).length k) ∧ g < w.heap.size ∧ (R.getD i []).length ≤ 9223372036854775807 ∧ ∀ j, j < (R.getD i []).length →
    w.cell? ⟨g, j * 2, none⟩ = some (.int .i64 ((R.getD i []).getD j default).k) ∧ w.cell? ⟨g, j * 2 + 1, none⟩ = some (.int .i64 ((R.getD i []).getD j default).n)

theorem Rd.below {w w' : World} {v : Value} {R : List (List Int)} (h : Rd w v R) (hb : Below w.heap.size w w') : Rd w' v R := by
  obtain ⟨A, c, hv, h⟩ := h
  refine ⟨A, c, hv, fun i hi => ?_⟩
  obtain ⟨b, g, k, h1, h2, h3, h4, h6, h5⟩ := h i hi
  exact ⟨b, g, k, h1, Nat.lt_of_lt_of_le h2 hb.size, (hb.cell (p := ⟨b, i, none⟩) h2).trans h3, Nat.lt_of_lt_of_le h4 hb.size, h6, fun j hj => (hb.cell (p := ⟨g, j, none⟩) h4).trans (h5 j hj)⟩
theorem Ld.below {w w' : World} {v : Value} {R : List (List V)} (h : Ld w v R) (hb : Below w.heap.size w w') : Ld w' v R := by
  obtain ⟨A, c, hv, h⟩ := h
  refine ⟨A, c, hv, fun i hi => ?_⟩
  obtain ⟨b, g, k, h1, h2, h3, h4, h6, h5⟩ := h i hi
  exact ⟨b, g, k, h1, Nat.lt_of_lt_of_le h2 hb.size, (hb.cell (p := ⟨b, i, none⟩) h2).trans h3, Nat.lt_of_lt_of_le h4 hb.size, h6, fun j hj => ⟨(hb.cell (p := ⟨g, j * 2, none⟩) h4).trans (h5 j hj).1, (hb.cell (p := ⟨g, j * 2 + 1, none⟩) h4).trans (h5 j hj).2⟩⟩

theorem own_len {w : World} {base n size : Nat} {e : TypeId} {v : Value} {xs : List Value} (h : w.ownsRow base e size v n xs) : n ≤ 9223372036854775807 := by
  rcases h.2 with ⟨_, h2⟩ | ⟨g, cap, cur, hv, hb, hg, hn, hm, hs, ht⟩
  · omega
  · unfold maxLen at hm; omega

/-- the same, in blocks of C -/
def RdC (C : Nat → Prop) (w : World) (v : Value) (R : List (List Int)) : Prop :=
  ∃ A c, v = .slice A R.length c ∧ ∀ i, i < R.length → ∃ b g k, A = some ⟨b, 0, none⟩ ∧ C b ∧ C g ∧ b < w.heap.size ∧ w.cell? ⟨b, i, none⟩ = some (.slice (some ⟨g, 0, none⟩) (R.getD i []).length k) ∧ g < w.heap.size ∧ (R.getD i []).length ≤ 9223372036854775807 ∧ ∀ j, j < (R.getD i []).length → w.cell? ⟨g, j, none⟩ = some (.int .i64 ((R.getD i []).getD j 0))
def LdC (C : Nat → Prop) (w : World) (v : Value) (R : List (List V)) : Prop :=
  ∃ A c, v = .slice A R.length c ∧ ∀ i, i < R.length → ∃ b g k, A = some ⟨b, 0, none⟩ ∧ C b ∧ C g ∧ b < w.heap.size ∧ w.cell? ⟨b, i, none⟩ = some (.slice (some ⟨g, 0, none⟩) (R.getD i []).length k) ∧ g < w.heap.size ∧ (R.getD i []).length ≤ 9223372036854775807 ∧ ∀ j, j < (R.getD i []).length →
    w.cell? ⟨g, j * 2, none⟩ = some (.int .i64 ((R.getD i []).getD j default).k) ∧ w.cell? ⟨g, j * 2 + 1, none⟩ = some (.int .i64 ((R.getD i []).getD j default).n)

theorem RdC.rd {C : Nat → Prop} {w : World} {v : Value} {R : List (List Int)} (h : RdC C w v R) : Rd w v R := by
  obtain ⟨A, c, hv, h⟩ := h
  refine ⟨A, c, hv, fun i hi => ?_⟩
  obtain ⟨b, g, k, h1, _, _, h2⟩ := h i hi
  exact ⟨b, g, k, h1, h2⟩
theorem LdC.rd {C : Nat → Prop} {w : World} {v : Value} {R : List (List V)} (h : LdC C w v R) : Ld w v R := by
  obtain ⟨A, c, hv, h⟩ := h
  refine ⟨A, c, hv, fun i hi => ?_⟩
  obtain ⟨b, g, k, h1, _, _, h2⟩ := h i hi
  exact ⟨b, g, k, h1, h2⟩
theorem RdC.mono {C D : Nat → Prop} {w : World} {v : Value} {R : List (List Int)} (h : RdC C w v R) (hD : ∀ k, C k → k < w.heap.size → D k) : RdC D w v R := by
  obtain ⟨A, c, hv, h⟩ := h
  refine ⟨A, c, hv, fun i hi => ?_⟩
  obtain ⟨b, g, k, h1, q1, q2, h2, h3, h4, h5⟩ := h i hi
  exact ⟨b, g, k, h1, hD b q1 h2, hD g q2 h4, h2, h3, h4, h5⟩
theorem LdC.mono {C D : Nat → Prop} {w : World} {v : Value} {R : List (List V)} (h : LdC C w v R) (hD : ∀ k, C k → k < w.heap.size → D k) : LdC D w v R := by
  obtain ⟨A, c, hv, h⟩ := h
  refine ⟨A, c, hv, fun i hi => ?_⟩
  obtain ⟨b, g, k, h1, q1, q2, h2, h3, h4, h5⟩ := h i hi
  exact ⟨b, g, k, h1, hD b q1 h2, hD g q2 h4, h2, h3, h4, h5⟩
theorem RdC.keep {C : Nat → Prop} {w w' : World} {v : Value} {R : List (List Int)} (h : RdC C w v R) (hs : w.heap.size ≤ w'.heap.size) (hk : ∀ k, C k → w'.heap[k]? = w.heap[k]?) : RdC C w' v R := by
  obtain ⟨A, c, hv, h⟩ := h
  refine ⟨A, c, hv, fun i hi => ?_⟩
  obtain ⟨b, g, k, h1, q1, q2, h2, h3, h4, h6, h5⟩ := h i hi
  exact ⟨b, g, k, h1, q1, q2, Nat.lt_of_lt_of_le h2 hs, (World.cell?_of_block (a := ⟨b, i, none⟩) (hk b q1)).trans h3, Nat.lt_of_lt_of_le h4 hs, h6, fun j hj => (World.cell?_of_block (a := ⟨g, j, none⟩) (hk g q2)).trans (h5 j hj)⟩
theorem LdC.keep {C : Nat → Prop} {w w' : World} {v : Value} {R : List (List V)} (h : LdC C w v R) (hs : w.heap.size ≤ w'.heap.size) (hk : ∀ k, C k → w'.heap[k]? = w.heap[k]?) : LdC C w' v R := by
  obtain ⟨A, c, hv, h⟩ := h
  refine ⟨A, c, hv, fun i hi => ?_⟩
  obtain ⟨b, g, k, h1, q1, q2, h2, h3, h4, h6, h5⟩ := h i hi
  exact ⟨b, g, k, h1, q1, q2, Nat.lt_of_lt_of_le h2 hs, (World.cell?_of_block (a := ⟨b, i, none⟩) (hk b q1)).trans h3, Nat.lt_of_lt_of_le h4 hs, h6, fun j hj => ⟨(World.cell?_of_block (a := ⟨g, j * 2, none⟩) (hk g q2)).trans (h5 j hj).1, (World.cell?_of_block (a := ⟨g, j * 2 + 1, none⟩) (hk g q2)).trans (h5 j hj).2⟩⟩

theorem ShV.rd {B : Nat} {w : World} {Rv Lv : Value} {R : List (List Int)} {L : List (List V)} (h : ShV B w Rv Lv R L) : RdC (fun k => B ≤ k) w Rv R ∧ LdC (fun k => B ≤ k) w Lv L := by
  obtain ⟨rg, rc, lg, lc, hR, hL, rr, lr, pR, pL⟩ := h
  constructor
  · rcases hR.2 with ⟨q1, q2⟩ | ⟨g, cap, cur, q1, q2, q3, q4⟩
    · exact ⟨none, 0, by rw [q1, q2], fun i hi => by omega⟩
    · refine ⟨_, _, q1, fun i hi => ?_⟩
      subst q1
      have hr := (rr.2.2 i hi).2
      unfold gval at hr
      refine ⟨g, rg.getD i 0, rc.getD i 0, rfl, pR g rfl, (rr.2.2 i hi).1, (hR.lt g rfl).2, (World.ownsRow.cellAt hR i (by omega)).trans (gvals_at rg rc R hi), (hr.lt _ rfl).2, own_len hr, fun j hj => ?_⟩
      rw [World.ownsRow.cellAt hr j (by omega)]
      generalize R.getD i [] = row at *
      unfold ints
      rw [List.getElem?_map, List.getD_eq_getElem?_getD, List.getElem?_eq_getElem hj]
      rfl
  · rcases hL.2 with ⟨q1, q2⟩ | ⟨g, cap, cur, q1, q2, q3, q4⟩
    · exact ⟨none, 0, by rw [q1, q2], fun i hi => by omega⟩
    · refine ⟨_, _, q1, fun i hi => ?_⟩
      subst q1
      have hr := (lr.2.2 i hi).2
      unfold oval at hr
      refine ⟨g, lg.getD i 0, lc.getD i 0, rfl, pL g rfl, (lr.2.2 i hi).1, (hL.lt g rfl).2, (World.ownsRow.cellAt hL i (by omega)).trans (ovals_at lg lc L hi), (hr.lt _ rfl).2, own_len hr, fun j hj => ?_⟩
      obtain ⟨e0, e1⟩ := vflat_at (L.getD i []) j hj
      exact ⟨(World.ownsRow.cellAt hr _ (by omega)).trans e0, (World.ownsRow.cellAt hr _ (by omega)).trans e1⟩

def SameP (w : World) (q : Prop) (e : Ending) (w' : World) : Prop := ∃ b : Bool, e = .returned (.bool b) ∧ (b = true ↔ q) ∧ Below w.heap.size w w'

theorem list_eq {α : Type} {d : α} {l m : List α} (hl : l.length = m.length) (h : ∀ i, i < l.length → l.getD i d = m.getD i d) : l = m := by
  apply List.ext_getElem hl
  intro i h1 h2
  have := h i h1
  rw [List.getD_eq_getElem?_getD, List.getD_eq_getElem?_getD, List.getElem?_eq_getElem h1, List.getElem?_eq_getElem h2] at this
  simpa using this

set_option maxRecDepth 100000 in
set_option maxHeartbeats 8000000 in
theorem same_any (Ra La Rb Lb : Value) (R S : List (List Int)) (L M : List (List V)) (w : World) (hRa : Rd w Ra R) (hLa : Ld w La L) (hRb : Rd w Rb S) (hLb : Ld w Lb M) (hn : R.length ≤ 100000) (hm : L.length ≤ 100000) (hn' : S.length ≤ 100000) (hm' : M.length ≤ 100000) :
    Calls Try.prog 38 #[.agg #[Ra, La], .agg #[Rb, Lb]] w (SameP w (R = S ∧ L = M)) := by
  have HRa := Lib.hid (hRa.below ((((Below.refl w.heap.size w).alloc (Nat.le_refl _) (.cells #[Ra, La] 65)).alloc (by simp) (.cells #[Rb, Lb] 65))))
  have HLa := Lib.hid (hLa.below ((((Below.refl w.heap.size w).alloc (Nat.le_refl _) (.cells #[Ra, La] 65)).alloc (by simp) (.cells #[Rb, Lb] 65))))
  have HRb := Lib.hid (hRb.below ((((Below.refl w.heap.size w).alloc (Nat.le_refl _) (.cells #[Ra, La] 65)).alloc (by simp) (.cells #[Rb, Lb] 65))))
  have HLb := Lib.hid (hLb.below ((((Below.refl w.heap.size w).alloc (Nat.le_refl _) (.cells #[Ra, La] 65)).alloc (by simp) (.cells #[Rb, Lb] 65))))
  obtain ⟨A1, c1, e1, _⟩ := hRa
  obtain ⟨A2, c2, e2, _⟩ := hLa
  obtain ⟨A3, c3, e3, _⟩ := hRb
  obtain ⟨A4, c4, e4, _⟩ := hLb
  subst e1 e2 e3 e4
  obtain ⟨nR, hnR⟩ : ∃ n, n = R.length := ⟨_, rfl⟩
  obtain ⟨nL, hnL⟩ : ∃ n, n = L.length := ⟨_, rfl⟩
  obtain ⟨nS, hnS⟩ : ∃ n, n = S.length := ⟨_, rfl⟩
  obtain ⟨nM, hnM⟩ : ∃ n, n = M.length := ⟨_, rfl⟩
  rw [← hnR, ← hnL, ← hnS, ← hnM]
  rw [← hnR, ← hnL, ← hnS, ← hnM] at HRa HLa HRb HLb
  rw [← hnR] at hn
  rw [← hnL] at hm
  rw [← hnS] at hn'
  rw [← hnM] at hm'
  have HNR := Lib.hid hnR
  have HNL := Lib.hid hnL
  have HNS := Lib.hid hnS
  have HNM := Lib.hid hnM
  clear hnR hnL hnS hnM
  have hbW : Below w.heap.size w ((w.alloc (.cells #[.slice A1 nR c1, .slice A2 nL c2] 65)).alloc (.cells #[.slice A3 nS c3, .slice A4 nM c4] 65)) := ((Below.refl w.heap.size w).alloc (Nat.le_refl _) _).alloc (by simp) _
  obtain ⟨W, hW⟩ : ∃ W, W = (w.alloc (.cells #[.slice A1 nR c1, .slice A2 nL c2] 65)).alloc (.cells #[.slice A3 nS c3, .slice A4 nM c4] 65) := ⟨_, rfl⟩
  have a0 : W.cell? ⟨w.heap.size, 0, none⟩ = some (.slice A1 nR c1) := by rw [hW]; simp [go_sem]
  have a1 : W.cell? ⟨w.heap.size, 1, none⟩ = some (.slice A2 nL c2) := by rw [hW]; simp [go_sem]
  have b0 : W.cell? ⟨w.heap.size + 1, 0, none⟩ = some (.slice A3 nS c3) := by rw [hW]; simp [go_sem]
  have b1 : W.cell? ⟨w.heap.size + 1, 1, none⟩ = some (.slice A4 nM c4) := by rw [hW]; simp [go_sem]
  have hWs : W.heap.size = w.heap.size + 2 := by rw [hW]; simp
  rw [← hW] at HRa HLa HRb HLb hbW
  have HBW := Lib.hid hbW
  have HWS := Lib.hid hWs
  have HW := Lib.hid hW
  have HA := Lib.hid (And.intro a0 (And.intro a1 (And.intro b0 b1)))
  clear hbW hWs hW a0 a1 b0 b1
  by_cases h1 : nR = nS
  case neg =>
    have hd : ((nR : Int) == (nS : Int)) = false := by simp; omega
    clear h1
    go_enter Try.func38, Try.ntmps38
    go_wp2_with fail
    go_ret
    have hf : ¬ (R = S ∧ L = M) := fun e => by rw [HNR.out, HNS.out, e.1] at hd; simp at hd
    exact ⟨false, rfl, by simp [hf], by rw [← HW.out]; exact HBW.out⟩
  case pos =>
  by_cases h2 : nL = nM
  case neg =>
    subst h1
    have hd : ((nL : Int) == (nM : Int)) = false := by simp; omega
    clear h2
    go_enter Try.func38, Try.ntmps38
    go_wp2_with fail
    go_ret
    have hf : ¬ (R = S ∧ L = M) := fun e => by rw [HNL.out, HNM.out, e.2] at hd; simp at hd
    exact ⟨false, rfl, by simp [hf], by rw [← HW.out]; exact HBW.out⟩
  case pos =>
  subst h1 h2
  go_enter Try.func38, Try.ntmps38
  go_wp2_with fail
  rw [← HW.out]
  go_loopw [5] (fun si wr => ∃ i : Nat, i ≤ nR ∧ si = .int .i64 i ∧ Below W.heap.size W wr ∧ ∀ i', i' < i → R.getD i' [] = S.getD i' []) (fun si _ => nR - (intOf si).toNat)
  case atStart => exact ⟨0, by omega, rfl, below_refl _, fun i' hi' => by omega⟩
  case round =>
    obtain ⟨i, hi, rfl, hb, hsame⟩ := hrel
    have HS := Lib.hid hsame
    have HB := Lib.hid hb
    obtain ⟨a0, a1, b0, b1⟩ := HA.out
    have hws := HWS.out
    have hbs := hb.size
    have p0 := (hb.cell (p := ⟨w.heap.size, 0, none⟩) (by simp; omega)).trans a0
    have p1 := (hb.cell (p := ⟨w.heap.size + 1, 0, none⟩) (by simp; omega)).trans b0
    have hq0 : w.heap.size < wr.heap.size := by omega
    have hq1 : w.heap.size + 1 < wr.heap.size := by omega
    clear hsame hb a0 a1 b0 b1 hws hbs
    by_cases hin : i < nR
    · obtain ⟨_, _, ex, hx⟩ := HRa.out.below HB.out
      injection ex with ex _ _
      subst ex
      obtain ⟨bx, gx, kx, hAx, hbx, hcx, hgx, hlx, hrx⟩ := hx i (by rw [← HNR.out]; exact hin)
      obtain ⟨_, _, ey, hy⟩ := HRb.out.below HB.out
      injection ey with ey _ _
      subst ey
      have hiy : i < S.length := by rw [← HNS.out]; exact hin
      obtain ⟨by', gy, ky, hAy, hby, hcy, hgy, hly, hry⟩ := hy i hiy
      subst hAx hAy
      have HRX := Lib.hid hrx
      have HRY := Lib.hid hry
      clear hx hy hrx hry
      obtain ⟨x, hxx⟩ : ∃ x, x = R.getD i [] := ⟨_, rfl⟩
      obtain ⟨y, hyy⟩ : ∃ y, y = S.getD i [] := ⟨_, rfl⟩
      rw [← hxx] at hcx HRX hlx
      rw [← hyy] at hcy HRY hly
      have HXX := Lib.hid hxx
      have HYY := Lib.hid hyy
      have hi0 : (0 : Int) ≤ (i : Int) := by omega
      have hi1 : (i : Int) < (nR : Int) := by omega
      obtain ⟨nx, hnx⟩ : ∃ n, n = x.length := ⟨_, rfl⟩
      obtain ⟨ny, hny⟩ : ∃ n, n = y.length := ⟨_, rfl⟩
      rw [← hnx] at hcx HRX hlx
      rw [← hny] at hcy HRY hly
      have HNX2 := Lib.hid hnx
      have HNY2 := Lib.hid hny
      clear hxx hyy hnx hny
      by_cases hl : nx = ny
      · subst hl
        go_wp2_with fail
        go_quiet (fail)
        go_wp2_with fail
        have HB1 := Lib.hid HB.out
        rename World => wo
        go_loopw [6] (fun sj wx => ∃ j : Nat, j ≤ nx ∧ sj = .int .i64 j ∧ Below wo.heap.size wo wx ∧ ∀ j', j' < j → x.getD j' 0 = y.getD j' 0) (fun sj _ => nx - (intOf sj).toNat)
        case atStart => exact ⟨0, by omega, rfl, below_dn (Below.refl _ _) _, fun j' hj' => by omega⟩
        case round =>
          obtain ⟨j, hj, rfl, hb2, hsame2⟩ := hrel
          have HS2 := Lib.hid hsame2
          have hbs := hb2.size
          have k0 := (hb2.cell (p := ⟨w.heap.size, 0, none⟩) (by simp; omega)).trans p0
          have k1 := (hb2.cell (p := ⟨w.heap.size + 1, 0, none⟩) (by simp; omega)).trans p1
          have kx := (hb2.cell (p := ⟨bx, i, none⟩) hbx).trans hcx
          have ky := (hb2.cell (p := ⟨by', i, none⟩) hby).trans hcy
          have HB2 := Lib.hid hb2
          clear hsame2 hb2
          by_cases hjn : j < nx
          · have hjy : j < nx := hjn
            have x0 := (HB2.out.cell (p := ⟨gx, j, none⟩) hgx).trans (HRX.out j hjn)
            have y0 := (HB2.out.cell (p := ⟨gy, j, none⟩) hgy).trans (HRY.out j hjy)
            obtain ⟨u, hu⟩ : ∃ u, u = x.getD j 0 := ⟨_, rfl⟩
            obtain ⟨v, hv⟩ : ∃ v, v = y.getD j 0 := ⟨_, rfl⟩
            rw [← hu] at x0
            rw [← hv] at y0
            have HU := Lib.hid hu
            have HV := Lib.hid hv
            clear hu hv
            have hj0 : (0 : Int) ≤ (j : Int) := by omega
            have hj1 : (j : Int) < (nx : Int) := by omega
            by_cases huv : u = v
            · have hd : (u == v) = true := by simpa using huv
              have HUV := Lib.hid huv
              clear huv
              go_wp2_with fail
              go_quiet (fail)
              go_wp2_with fail
              go_roundw
              case rel =>
                refine ⟨j + 1, by omega, by go_num, below_dn HB2.out _, fun j' hj' => ?_⟩
                by_cases hjj : j' = j
                · rw [hjj, ← HU.out, ← HV.out]; exact HUV.out
                · exact HS2.out j' (by omega)
              case measure => simp [intOf]; omega
            · have hd : (u == v) = false := by simpa using huv
              have HUV := Lib.hid huv
              clear huv
              go_wp2_with fail
              go_quiet (fail)
              go_wp2_with fail
              go_ret
              have hf : ¬ (R = S ∧ L = M) := fun e => HUV.out (by rw [HU.out, HV.out, HXX.out, HYY.out, e.1])
              have hb9 := HB1.out.trans (HB2.out.mono HB1.out.size)
              exact ⟨false, rfl, by simp [hf], below_dn (HBW.out.trans (hb9.mono HBW.out.size)) _⟩
          · have hl1 : x.length = y.length := HNX2.out.symm.trans HNY2.out
            have hxy : x = y := list_eq hl1 (fun j' hj' => HS2.out j' (by have := HNX2.out; omega))
            have HXY := Lib.hid hxy
            clear hl1 hxy
            have hjn' : ¬ (j : Int) < (nx : Int) := by omega
            go_wp2_with fail
            go_roundw
            case rel =>
              refine ⟨i + 1, by omega, by go_num, HB1.out.trans (HB2.out.mono HB1.out.size), fun i' hi' => ?_⟩
              by_cases hii : i' = i
              · rw [hii, ← HXX.out, ← HYY.out]; exact HXY.out
              · exact HS.out i' (by omega)
            case measure => simp [intOf]; omega
      · have hd : ((nx : Int) == (ny : Int)) = false := by simp; omega
        have HLL := Lib.hid hl
        clear hl
        go_wp2_with fail
        go_quiet (fail)
        go_wp2_with fail
        go_ret
        have hf : ¬ (R = S ∧ L = M) := fun e => HLL.out (by rw [HNX2.out, HNY2.out, HXX.out, HYY.out, e.1])
        exact ⟨false, rfl, by simp [hf], below_dn (HBW.out.trans (HB.out.mono HBW.out.size)) _⟩
    · have hin' : ¬ (i : Int) < (nR : Int) := by omega
      have HEQ := Lib.hid (show R = S from list_eq (HNR.out.symm.trans HNS.out) (fun i' hi' => HS.out i' (by have := HNR.out; omega)))
      have HEQ1 := Lib.hid HEQ.out
      have HB0 := Lib.hid HB.out
      clear HEQ HB HS
      go_wp2_with fail
      clear p0 p1 hq0 hq1
      go_loopw [7] (fun si wr => ∃ i : Nat, i ≤ nL ∧ si = .int .i64 i ∧ Below W.heap.size W wr ∧ ∀ i', i' < i → L.getD i' [] = M.getD i' []) (fun si _ => nL - (intOf si).toNat)
      case atStart => exact ⟨0, by omega, rfl, HB0.out, fun i' hi' => by omega⟩
      case round =>
        obtain ⟨i, hi, rfl, hb, hsame⟩ := hrel
        have HS := Lib.hid hsame
        have HB := Lib.hid hb
        obtain ⟨a0, a1, b0, b1⟩ := HA.out
        have hws := HWS.out
        have hbs := hb.size
        have p0 := (hb.cell (p := ⟨w.heap.size, 1, none⟩) (by simp; omega)).trans a1
        have p1 := (hb.cell (p := ⟨w.heap.size + 1, 1, none⟩) (by simp; omega)).trans b1
        have hq0 : w.heap.size < wr.heap.size := by omega
        have hq1 : w.heap.size + 1 < wr.heap.size := by omega
        clear hsame hb a0 a1 b0 b1 hws hbs
        by_cases hin : i < nL
        · obtain ⟨_, _, ex, hx⟩ := HLa.out.below HB.out
          injection ex with ex _ _
          subst ex
          obtain ⟨bx, gx, kx, hAx, hbx, hcx, hgx, hlx, hrx⟩ := hx i (by rw [← HNL.out]; exact hin)
          obtain ⟨_, _, ey, hy⟩ := HLb.out.below HB.out
          injection ey with ey _ _
          subst ey
          have hiy : i < M.length := by rw [← HNM.out]; exact hin
          obtain ⟨by', gy, ky, hAy, hby, hcy, hgy, hly, hry⟩ := hy i hiy
          subst hAx hAy
          have HRX := Lib.hid hrx
          have HRY := Lib.hid hry
          clear hx hy hrx hry
          obtain ⟨x, hxx⟩ : ∃ x, x = L.getD i [] := ⟨_, rfl⟩
          obtain ⟨y, hyy⟩ : ∃ y, y = M.getD i [] := ⟨_, rfl⟩
          rw [← hxx] at hcx HRX hlx
          rw [← hyy] at hcy HRY hly
          have HXX := Lib.hid hxx
          have HYY := Lib.hid hyy
          have hi0 : (0 : Int) ≤ (i : Int) := by omega
          have hi1 : (i : Int) < (nL : Int) := by omega
          obtain ⟨nx, hnx⟩ : ∃ n, n = x.length := ⟨_, rfl⟩
          obtain ⟨ny, hny⟩ : ∃ n, n = y.length := ⟨_, rfl⟩
          rw [← hnx] at hcx HRX hlx
          rw [← hny] at hcy HRY hly
          have HNX2 := Lib.hid hnx
          have HNY2 := Lib.hid hny
          clear hxx hyy hnx hny
          by_cases hl : nx = ny
          · subst hl
            go_wp2_with fail
            go_quiet (fail)
            go_wp2_with fail
            have HB1 := Lib.hid HB.out
            rename World => wo
            go_loopw [8] (fun sj wx => ∃ j : Nat, j ≤ nx ∧ sj = .int .i64 j ∧ Below wo.heap.size wo wx ∧ ∀ j', j' < j → x.getD j' default = y.getD j' default) (fun sj _ => nx - (intOf sj).toNat)
            case atStart => exact ⟨0, by omega, rfl, below_dn (Below.refl _ _) _, fun j' hj' => by omega⟩
            case round =>
              obtain ⟨j, hj, rfl, hb2, hsame2⟩ := hrel
              have HS2 := Lib.hid hsame2
              have hbs := hb2.size
              have k0 := (hb2.cell (p := ⟨w.heap.size, 1, none⟩) (by simp; omega)).trans p0
              have k1 := (hb2.cell (p := ⟨w.heap.size + 1, 1, none⟩) (by simp; omega)).trans p1
              have kx := (hb2.cell (p := ⟨bx, i, none⟩) hbx).trans hcx
              have ky := (hb2.cell (p := ⟨by', i, none⟩) hby).trans hcy
              have HB2 := Lib.hid hb2
              clear hsame2 hb2
              by_cases hjn : j < nx
              · have hjy : j < nx := hjn
                obtain ⟨z0, z1⟩ := HRX.out j hjn
                obtain ⟨z2, z3⟩ := HRY.out j hjy
                have x0 := (HB2.out.cell (p := ⟨gx, j * 2, none⟩) hgx).trans z0
                have x1 := (HB2.out.cell (p := ⟨gx, j * 2 + 1, none⟩) hgx).trans z1
                have y0 := (HB2.out.cell (p := ⟨gy, j * 2, none⟩) hgy).trans z2
                have y1 := (HB2.out.cell (p := ⟨gy, j * 2 + 1, none⟩) hgy).trans z3
                obtain ⟨u, hu⟩ : ∃ u, u = x.getD j default := ⟨_, rfl⟩
                obtain ⟨v, hv⟩ : ∃ v, v = y.getD j default := ⟨_, rfl⟩
                rw [← hu] at x0 x1
                rw [← hv] at y0 y1
                have HU := Lib.hid hu
                have HV := Lib.hid hv
                obtain ⟨uk, un⟩ := u
                obtain ⟨vk, vn⟩ := v
                simp only at x0 x1 y0 y1
                clear hu hv z0 z1 z2 z3
                have hj0 : (0 : Int) ≤ (j : Int) := by omega
                have hj1 : (j : Int) < (nx : Int) := by omega
                by_cases hk : uk = vk
                · subst hk
                  by_cases huv : un = vn
                  · subst huv
                    go_wp2_with fail
                    go_quiet (fail)
                    go_wp2_with fail
                    go_roundw
                    case rel =>
                      refine ⟨j + 1, by omega, by go_num, below_dn HB2.out _, fun j' hj' => ?_⟩
                      by_cases hjj : j' = j
                      · rw [hjj, ← HU.out, ← HV.out]
                      · exact HS2.out j' (by omega)
                    case measure => simp [intOf]; omega
                  · have hd : (un == vn) = false := by simpa using huv
                    have HUV := Lib.hid (show (⟨uk, un⟩ : V) ≠ ⟨uk, vn⟩ from fun e => huv (V.mk.inj e).2)
                    clear huv
                    go_wp2_with fail
                    go_quiet (fail)
                    go_wp2_with fail
                    go_ret
                    have hf : ¬ (R = S ∧ L = M) := fun e => HUV.out (by rw [HU.out, HV.out, HXX.out, HYY.out, e.2])
                    have hb9 := HB1.out.trans (HB2.out.mono HB1.out.size)
                    exact ⟨false, rfl, by simp [hf], below_dn (HBW.out.trans (hb9.mono HBW.out.size)) _⟩
                · have hd : (uk == vk) = false := by simpa using hk
                  have HUV := Lib.hid (show (⟨uk, un⟩ : V) ≠ ⟨vk, vn⟩ from fun e => hk (V.mk.inj e).1)
                  clear hk
                  go_wp2_with fail
                  go_quiet (fail)
                  go_wp2_with fail
                  go_ret
                  have hf : ¬ (R = S ∧ L = M) := fun e => HUV.out (by rw [HU.out, HV.out, HXX.out, HYY.out, e.2])
                  have hb9 := HB1.out.trans (HB2.out.mono HB1.out.size)
                  exact ⟨false, rfl, by simp [hf], below_dn (HBW.out.trans (hb9.mono HBW.out.size)) _⟩
              · have hl1 : x.length = y.length := HNX2.out.symm.trans HNY2.out
                have hxy : x = y := list_eq hl1 (fun j' hj' => HS2.out j' (by have := HNX2.out; omega))
                have HXY := Lib.hid hxy
                clear hl1 hxy
                have hjn' : ¬ (j : Int) < (nx : Int) := by omega
                go_wp2_with fail
                go_roundw
                case rel =>
                  refine ⟨i + 1, by omega, by go_num, HB1.out.trans (HB2.out.mono HB1.out.size), fun i' hi' => ?_⟩
                  by_cases hii : i' = i
                  · rw [hii, ← HXX.out, ← HYY.out]; exact HXY.out
                  · exact HS.out i' (by omega)
                case measure => simp [intOf]; omega
          · have hd : ((nx : Int) == (ny : Int)) = false := by simp; omega
            have HLL := Lib.hid hl
            clear hl
            go_wp2_with fail
            go_quiet (fail)
            go_wp2_with fail
            go_ret
            have hf : ¬ (R = S ∧ L = M) := fun e => HLL.out (by rw [HNX2.out, HNY2.out, HXX.out, HYY.out, e.2])
            exact ⟨false, rfl, by simp [hf], below_dn (HBW.out.trans (HB.out.mono HBW.out.size)) _⟩
        · have hin' : ¬ (i : Int) < (nL : Int) := by omega
          have HEQ := Lib.hid (show L = M from list_eq (HNL.out.symm.trans HNM.out) (fun i' hi' => HS.out i' (by have := HNL.out; omega)))
          go_wp2_with fail
          go_ret
          exact ⟨true, rfl, by simp [HEQ1.out, HEQ.out], HBW.out.trans (HB.out.mono HBW.out.size)⟩



end Go.Proofs.Ytlogojiphjpknaa
