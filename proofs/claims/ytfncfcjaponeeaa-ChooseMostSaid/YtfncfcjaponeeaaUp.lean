/- container/heap.up and down over choose's queue. -/
import Derived.Test.YtfncfcjaponeeaaLess
namespace Go.Proofs.Ytfncfcjaponeeaa
open Go.RowKit

theorem via (nm : String) (f : FuncId) (hfact : ((Try.prog.info? 35).map fun i => (i.methods.find? (·.name == nm)).map fun m => (m.path.toList, m.func)) = some (some ([], some (f, false))))
    (p : Nat) (v : Value) (w : World) (h : w.cell? ⟨p, 0, none⟩ = some v) : (method 167 35 (.pointer (some ⟨p, 0, none⟩)) nm).run Try.prog w = .ok (f, v) w := by
  obtain ⟨i, m, hi, hm, h1, h2⟩ : ∃ i m, Try.prog.info? 35 = some i ∧ i.methods.find? (·.name == nm) = some m ∧ m.path.toList = [] ∧ m.func = some (f, false) := by
    cases hx : Try.prog.info? 35 with
    | none => rw [hx] at hfact; cases hfact
    | some i =>
      rw [hx] at hfact
      simp only [Option.map_some, Option.some.injEq] at hfact
      cases hy : i.methods.find? (·.name == nm) with
      | none => rw [hy] at hfact; cases hfact
      | some m => rw [hy] at hfact; simp at hfact; exact ⟨i, m, rfl, hy, by simp [hfact.1], hfact.2⟩
  rw [show (167 : Nat) = 166 + 1 from rfl]
  unfold method
  simp only [Sem.run_bind, typeInfo, run_program, Result.andThen_ok, hi, hm, h1, h2, follow, Sem.run_pure]
  have hc : ∀ nm : String, (Builtin.ssaWrapNilChk_ #[35] 35 #[.pointer (some ⟨p, 0, none⟩), strVal "", strVal nm]).run Try.prog w = .ok (.pointer (some ⟨p, 0, none⟩)) w := fun _ => rfl
  have hl : (loadVar 33 ⟨p, 0, none⟩).run Try.prog w = .ok v w := by simp [go_sem, h]
  have hr : ∀ o : Option String, (receiverAt 35 (Place.val (Value.pointer (some ⟨p, 0, none⟩))) false o).run Try.prog w = .ok v w := by
    intro o
    cases o with
    | none => simp only [receiverAt, Sem.run_bind, run_underlying Try.underlying35, Result.andThen_ok, Place.get, Sem.run_pure, asAddr, hl]
    | some nm => simp only [receiverAt, Sem.run_bind, run_underlying Try.underlying35, Result.andThen_ok, Place.get, Sem.run_pure, hc, asAddr, hl]
  rw [hr]
  rfl

theorem via_less (p : Nat) (v : Value) (w : World) (h : w.cell? ⟨p, 0, none⟩ = some v) : (method 167 35 (.pointer (some ⟨p, 0, none⟩)) "Less").run Try.prog w = .ok (34, v) w := via "Less" 34 (by kernel_rfl) p v w h
theorem via_swap (p : Nat) (v : Value) (w : World) (h : w.cell? ⟨p, 0, none⟩ = some v) : (method 167 35 (.pointer (some ⟨p, 0, none⟩)) "Swap").run Try.prog w = .ok (35, v) w := via "Swap" 35 (by kernel_rfl) p v w h
theorem via_len (p : Nat) (v : Value) (w : World) (h : w.cell? ⟨p, 0, none⟩ = some v) : (method 167 35 (.pointer (some ⟨p, 0, none⟩)) "Len").run Try.prog w = .ok (33, v) w := via "Len" 33 (by kernel_rfl) p v w h
theorem via_pop (p : Addr) (w : World) : (method 167 35 (.pointer (some p)) "Pop").run Try.prog w = .ok (36, .pointer (some p)) w := by kernel_rfl
theorem via_push (p : Addr) (w : World) : (method 167 35 (.pointer (some p)) "Push").run Try.prog w = .ok (37, .pointer (some p)) w := by kernel_rfl

/-- the queue behind a pointer -/
def Box (w : World) (p : Nat) (v : Value) : Prop := w.heap[p]? = some (.cells #[v] 33 (0, 0))

theorem Box.cell {w : World} {p : Nat} {v : Value} (h : Box w p v) : w.cell? ⟨p, 0, none⟩ = some v := by unfold Box at h; simp [World.cell?, h]
theorem Box.lt {w : World} {p : Nat} {v : Value} (h : Box w p v) : p < w.heap.size := block_lt h.cell
theorem Box.grown {w w' : World} {p : Nat} {v : Value} {row : Option Nat} (h : Box w p v) (hg : w.grownBy w' row) (hne : some p ≠ row) : Box w' p v := (hg.block p h.lt hne).trans h
theorem Box.ne {w : World} {p base g c : Nat} {v : Value} {h : List C} (hb : Box w p v) (hr : Row w base g c h) : some p ≠ some g := by
  rintro he
  injection he with he
  subst he
  rcases hr.2 with ⟨h1, _⟩ | ⟨g', cap, cur, hv, _, hh, _⟩
  · cases h1
  · injection hv with ha _ _
    injection ha with ha
    injection ha with ha
    subst ha
    unfold Box at hb
    rw [hb] at hh
    injection hh with hh
    injection hh with _ ht
    cases ht
theorem Row.grown {w w' : World} {base g c : Nat} {h : List C} {row : Option Nat} (hr : Row w base g c h) (hg : w.grownBy w' row) (hne : some g ≠ row) : Row w' base g c h := World.ownsRow.kept hr hg (.inr hne)
theorem grown_below {w w' : World} {row : Option Nat} (h : Below w.heap.size w w') : w.grownBy w' row := ⟨h.os, h.tape, h.output, h.size, fun k hk _ => h.block k hk⟩
theorem grown_trans {a b c : World} {row : Option Nat} (h : a.grownBy b row) (k : b.grownBy c row) : a.grownBy c row :=
  ⟨k.os.trans h.os, k.tape.trans h.tape, k.output.trans h.output, Nat.le_trans h.size k.size, fun i hi hne => (k.block i (Nat.lt_of_lt_of_le hi h.size) hne).trans (h.block i hi hne)⟩
theorem grown_refl (w : World) (row : Option Nat) : w.grownBy w row := ⟨rfl, rfl, rfl, Nat.le_refl _, fun _ _ _ => rfl⟩

theorem less_row {base g c i j : Nat} {h : List C} {w : World} (hr : Row w base g c h) (hi : i < h.length) (hj : j < h.length) :
    Calls Try.prog 34 #[.slice (some ⟨g, 0, none⟩) h.length c, .int .i64 i, .int .i64 j] w fun e w' => e = .returned (.bool (decide (lt (at_ h i) (at_ h j)))) ∧ Below w.heap.size w w' := by
  obtain ⟨x0, x1, x2⟩ := hr.cells hi
  obtain ⟨y0, y1, y2⟩ := hr.cells hj
  exact less_any g _ c i j _ _ w hi hj x0 x1 x2 y0 y1 y2

theorem up_fuel : ∀ (f f' : Nat) (h : List C) (j : Nat), j < f → j < f' → up f h j = up f' h j
  | 0, _, _, _, hf, _ => by omega
  | _, 0, _, _, _, hf => by omega
  | f + 1, f' + 1, h, j, hf, hf' => by
    unfold up
    by_cases h0 : j = 0
    · rw [if_pos h0, if_pos h0]
    · rw [if_neg h0, if_neg h0, up_fuel f f' _ _ (by omega) (by omega)]

/-- up, seen from a place on the way -/
def UpRel (w : World) (base p g c n : Nat) (goal : List C) (j : Nat) (h : List C) (wr : World) : Prop :=
  h.length = n ∧ j < n ∧ up (j + 1) h j = goal ∧ Box wr p (.slice (some ⟨g, 0, none⟩) n c) ∧ Row wr base g c h ∧ w.grownBy wr (some g)

set_option maxRecDepth 100000 in
set_option maxHeartbeats 1000000 in
theorem up_any (base p g c j : Nat) (h : List C) (w : World) (hb : Box w p (.slice (some ⟨g, 0, none⟩) h.length c)) (hr : Row w base g c h) (hj : j < h.length) :
    Calls Try.prog 15 #[.iface 35 (.pointer (some ⟨p, 0, none⟩)), .int .i64 j] w fun e w' => e = .returned (.tuple #[]) ∧ w.grownBy w' (some g) ∧ Row w' base g c (up (j + 1) h j) := by
  have hl := hr.len
  have HREL : UpRel w base p g c h.length (up (j + 1) h j) j h w := ⟨rfl, hj, rfl, hb, hr, grown_refl _ _⟩
  obtain ⟨hl1, hl2⟩ := hl
  generalize up (j + 1) h j = goal at *
  generalize h.length = n at *
  clear hb hr
  go_enter Try.func15, Try.ntmps15
  go_wp2
  go_loopw [1] (fun s1 wr => ∃ (j : Nat) (h : List C), s1 = .int .i64 j ∧ UpRel w base p g c n goal j h wr) (fun s1 _ => (intOf s1).toNat)
  case atStart => exact ⟨j, h, rfl, HREL⟩
  case round =>
    clear HREL hj
    obtain ⟨j, h, rfl, hlen, hj, hgoal, hbox, hrow, hgr⟩ := hrel
    by_cases h0 : j = 0
    · subst h0
      go_wp2_with fail
      go_end0
      have hg : goal = h := by rw [← hgoal]; rfl
      exact ⟨rfl, hgr, by rw [hg]; exact hrow⟩
    · obtain ⟨i, hi⟩ : ∃ i : Nat, i = (j - 1) / 2 := ⟨_, rfl⟩
      have hdiv : ((j : Int) - 1) / 2 = (i : Int) := by omega
      have hij : ((i : Int) == (j : Int)) = false := by simp; omega
      have h1 : (1 : Int) ≤ j := by omega
      have hin : i < n := by omega
      have HI := Lib.hid hi
      have HG := Lib.hid hgoal
      have HLEN := Lib.hid hlen
      have HBOX := Lib.hid hbox
      have hmL := via_less p _ wr hbox.cell
      clear hi hgoal hlen h0
      have HL := Lib.hid (show Calls Try.prog 34 #[.slice (some ⟨g, 0, none⟩) n c, .int .i64 j, .int .i64 i] wr fun e w' => e = .returned (.bool (decide (lt (at_ h j) (at_ h i)))) ∧ Below wr.heap.size wr w' by
        have := hrow; rw [← HLEN.out]; exact less_row this (by rw [HLEN.out]; exact hj) (by rw [HLEN.out]; exact hin))
      have HROW := Lib.hid hrow
      have HGR := Lib.hid hgr
      clear hrow hgr hbox
      by_cases hlt : lt (at_ h j) (at_ h i)
      · have hd : decide (lt (at_ h j) (at_ h i)) = true := by simpa using hlt
        rw [hd] at HL
        go_wp2_with fail
        refine (HL.out).mono ?_
        rintro e w1 ⟨rfl, hb1⟩
        have HB1 := Lib.hid hb1
        have hmS := via_swap p _ w1 (HBOX.out.grown (grown_below (row := none) hb1) (by simp)).cell
        clear hb1 hmL
        have HS := Lib.hid (show Calls Try.prog 35 #[.slice (some ⟨g, 0, none⟩) n c, .int .i64 i, .int .i64 j] w1 fun e w' => e = .returned (.tuple #[]) ∧ w1.grownBy w' (some g) ∧ Row w' base g c (swp h i j) by
          have := HROW.out.grown (grown_below (row := none) HB1.out) (by simp)
          rw [← HLEN.out]; exact swap_any base g c i j h w1 this (by rw [HLEN.out]; exact hin) (by rw [HLEN.out]; exact hj))
        go_wp2_with fail
        refine (HS.out).mono ?_
        rintro e w2 ⟨rfl, hg2, hr2⟩
        have HG2 := Lib.hid hg2
        have HR2 := Lib.hid hr2
        clear hg2 hr2 hmS
        go_wp2_with fail
        go_roundw
        case rel =>
          have hbox1 := HBOX.out.grown (grown_below (row := none) HB1.out) (by simp)
          have hrow1 := HROW.out.grown (grown_below (row := none) HB1.out) (by simp)
          refine ⟨i, swp h i j, rfl, by rw [swp_length]; exact HLEN.out, hin, ?_, hbox1.grown HG2.out (hbox1.ne hrow1), HR2.out, grown_trans HGR.out (grown_trans (grown_below HB1.out) HG2.out)⟩
          rw [← HG.out]
          conv => rhs; unfold up
          rw [if_neg (by omega), ← HI.out, if_pos hlt]
          exact up_fuel _ _ _ _ (by omega) (by have := HI.out; omega)
        case measure => have := HI.out; simp [intOf]; omega
      · have hd : decide (lt (at_ h j) (at_ h i)) = false := by simpa using hlt
        rw [hd] at HL
        go_wp2_with fail
        refine (HL.out).mono ?_
        rintro e w1 ⟨rfl, hb1⟩
        have HB1 := Lib.hid hb1
        clear hb1 hmL
        go_wp2_with fail
        go_end0
        have hup : up (j + 1) h j = h := by unfold up; rw [if_neg (by omega), ← HI.out, if_neg hlt]
        have hg : goal = h := by rw [← HG.out, hup]
        exact ⟨rfl, grown_trans HGR.out (grown_below HB1.out), by rw [hg]; exact HROW.out.grown (grown_below (row := none) HB1.out) (by simp)⟩

end Go.Proofs.Ytfncfcjaponeeaa
