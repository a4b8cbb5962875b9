/- (*graph.Graph).Dup, Drop, Put: what they turn. No condition. -/
import Derived.Test.YtlogojiphjpknaaGChange
namespace Go.Proofs.Ytlogojiphjpknaa
open Go.RowKit
set_option linter.unusedVariables false

section
variable {F : Nat → Prop} {w : World} {p : Nat} {G : Gd} {bt ct : Nat} {ov : Value} {gs cs : List Nat}

theorem below_dn {B : Nat} {a w : World} (h : Below B a w) (n : Nat) : Below B a (w.drewN n) := ⟨h.os, h.tape, h.output, h.size, h.block⟩

section
variable {a w : World}
theorem b_dn (h : Below a.heap.size a w) (n : Nat) : Below a.heap.size a (w.drewN n) := below_dn h n
theorem b_drew (h : Below a.heap.size a w) : Below a.heap.size a w.drew := h.drew
theorem b_set {k i : Nat} {u : Value} (h : Below a.heap.size a w) : Below a.heap.size a (w.setCell ⟨a.heap.size + k, i, none⟩ u) := h.setCell (p := ⟨a.heap.size + k, i, none⟩) (Nat.le_add_right _ _) u
theorem b_set0 {i : Nat} {u : Value} (h : Below a.heap.size a w) : Below a.heap.size a (w.setCell ⟨a.heap.size, i, none⟩ u) := h.setCell (p := ⟨a.heap.size, i, none⟩) (Nat.le_refl _) u
theorem b_ext (h : Below a.heap.size a w) (os : Array Obj) (d : Nat) : Below a.heap.size a (ext w os d) := below_ext h h.size os d
theorem b_alloc (h : Below a.heap.size a w) (o : Obj) : Below a.heap.size a (w.alloc o) := h.alloc h.size o
end

def Strict (F : Nat → Prop) (w : World) : Nat → Prop := fun k => F k ∧ k < w.heap.size

theorem Vw.strict {T : TypeId} (h : Vw T F w p G bt ct ov gs cs) : Vw T (Strict F w) w p G bt ct ov gs cs :=
  { h with fp := ⟨h.fp, h.plt⟩, fbt := ⟨h.fbt, h.btlt⟩, fov := fun g hg => ⟨h.fov g hg, (h.hov.lt g hg).2⟩, hos := fun k hk => ⟨⟨(h.hos k hk).1, h.glt hk⟩, (h.hos k hk).2⟩ }

theorem Grow.up {F : Nat → Prop} {w w1 w' : World} (hb : w.heap.size ≤ w1.heap.size) : ∀ k, Grow (Strict F w) w1 w' k → Grow F w w' k := by
  rintro k (h | h)
  · exact .inl h.1
  · exact .inr ⟨by omega, h.2⟩
theorem Only.up {F : Nat → Prop} {w w1 w' : World} (hb : Below w.heap.size w w1) (h : Only (Strict F w) w1 w') : Only F w w' :=
  ⟨h.os.trans hb.os, h.tape.trans hb.tape, h.output.trans hb.output, Nat.le_trans hb.size h.size, fun k hk hn => (h.block k (Nat.lt_of_lt_of_le hk hb.size) (fun hf => hn hf.1)).trans (hb.block k hk)⟩
/-- what is new is left alone -/
theorem Only.new {F : Nat → Prop} {w w1 w' : World} (h : Only (Strict F w) w1 w') {k : Nat} (hk : w.heap.size ≤ k) (hl : k < w1.heap.size) : w'.heap[k]? = w1.heap[k]? :=
  h.block k hl (fun hf => by have := hf.2; omega)

theorem does17 (r : Rt) (w : World) : Does17 r r.drop w := fun os d => (drop_any r _).mono fun _ _ h => h

set_option maxRecDepth 100000 in
set_option maxHeartbeats 1000000 in
theorem does57 (r : Rt) (b0 : Nat) (i : Int) (w : World) (hc : w.cell? ⟨b0, 0, none⟩ = some (.int .i64 i)) : Does57 r b0 (r.dup i) w := by
  intro os d
  have hlt := block_lt hc
  simp only at hlt
  have hc' := (ext_cell w os d 0 hlt).trans hc
  generalize ext w os d = w at *
  obtain ⟨x, y, hxy⟩ : ∃ x y, r.dup i = (x, y) := ⟨_, _, rfl⟩
  have HD := Lib.hid (show ∀ w, Calls Try.prog 19 #[rv r, .int .i64 i] w fun e w' => e = .returned (.tuple #[rv x, .int .i64 y]) ∧ Below w.heap.size w w' from fun w => (dup_any r i w).mono fun e w' h => by
    unfold DupP at h
    rw [hxy] at h
    exact h)
  have hlt' := block_lt hc'
  simp only at hlt'
  rw [hxy]
  clear hc hlt hxy
  obtain ⟨n, a0, a1, a2, a3, a4, a5, a6, a7⟩ := r
  obtain ⟨m, y0, y1, y2, y3, y4, y5, y6, y7⟩ := x
  go_enter Try.func57, Try.ntmps57
  go_wp2_with fail
  refine (HD.out _).mono ?_
  rintro e1 w1 ⟨rfl, hb⟩
  obtain ⟨os2, d2, rfl⟩ := ext_of hb
  clear hb
  go_wp2_with fail
  refine bodyPost_ret (v := .tuple #[rv ⟨m, y0, y1, y2, y3, y4, y5, y6, y7⟩, .int .i64 y]) (by simp [results, Try.results57, go_sem]) rfl ⟨rfl, ?_⟩
  repeat (first | with_reducible exact Below.refl _ _ | with_reducible refine b_dn ?_ _ | with_reducible refine b_drew ?_ | with_reducible refine b_set ?_ | with_reducible refine b_set0 ?_ | with_reducible refine b_ext ?_ _ _ | with_reducible refine b_alloc ?_ _)

theorem drop_turn (h : Vw 79 F w p G bt ct ov gs cs) (t : Int) : Calls Try.prog 53 #[.pointer (some ⟨p, 0, none⟩), .int .i64 t, .func (.func 17) #[] #[]] w (TurnP F w p (G.drop t)) :=
  change_17 h t _ (fun _ => does17 _ _)

set_option maxRecDepth 100000 in
set_option maxHeartbeats 1000000 in
theorem gdrop_any (h : Vw 79 F w p G bt ct ov gs cs) (t : Int) : Calls Try.prog 36 #[.pointer (some ⟨p, 0, none⟩), .int .i64 t] w (TurnP F w p (G.drop t)) := by
  have HC := Lib.hid (drop_turn h t)
  clear h
  go_enter Try.func36, Try.ntmps36
  go_wp2_with fail
  refine (HC.out).mono ?_
  rintro e1 w1 ⟨rfl, hg, ho⟩
  have HG := Lib.hid hg
  have HO := Lib.hid ho
  clear hg ho
  go_wp2_with fail
  go_ret
  exact ⟨rfl, HG.out, HO.out⟩

theorem dup_turn (h : Vw 79 F w p G bt ct ov gs cs) (t i : Int) : Calls Try.prog 53 #[.pointer (some ⟨p, 0, none⟩), .int .i64 t, .func (.func 57) #[] #[.pointer (some ⟨w.heap.size, 0, none⟩)]] (w.alloc (.cells #[.int .i64 i] 3)) (TurnP F w p (G.dup t i)) :=
  (change_57 (h.strict.below ((Below.refl _ _).alloc (Nat.le_refl _) (.cells #[.int .i64 i] 3))) t w.heap.size _ (fun _ => does57 _ _ i _ (by simp [go_sem]))).mono fun e w' ⟨he, hg, ho⟩ =>
    ⟨he, hg.mono (Grow.up (by simp)), ho.up ((Below.refl _ _).alloc (Nat.le_refl _) _)⟩

set_option maxRecDepth 100000 in
set_option maxHeartbeats 1000000 in
theorem gdup_any (h : Vw 79 F w p G bt ct ov gs cs) (t i : Int) : Calls Try.prog 34 #[.pointer (some ⟨p, 0, none⟩), .int .i64 t, .int .i64 i] w (TurnP F w p (G.dup t i)) := by
  have HC := Lib.hid (dup_turn h t i)
  clear h
  go_enter Try.func34, Try.ntmps34
  go_wp2_with fail
  refine (HC.out).mono ?_
  rintro e1 w1 ⟨rfl, hg, ho⟩
  have HG := Lib.hid hg
  have HO := Lib.hid ho
  clear hg ho
  go_wp2_with fail
  go_ret
  exact ⟨rfl, HG.out, HO.out⟩

/-- what Put's function makes of roots -/
def putx (G : Gd) (id : Int) (r : Rt) : Rt × Int := if id < 0 ∨ (G.os.length : Int) < id then (r, 1) else r.push id
theorem put_turn_eq (G : Gd) (t id : Int) : G.turn t (putx G id (G.rt t)) = G.put t id := by
  unfold Gd.put putx
  by_cases hn : G.not t
  · unfold Gd.turn
    rw [if_pos hn, if_pos hn]
  · by_cases hi : id < 0 ∨ (G.os.length : Int) < id
    · rw [if_neg hn, if_pos hi, if_pos hi]
      unfold Gd.turn
      rw [if_neg hn, if_neg (by simp)]
    · rw [if_neg hn, if_neg hi, if_neg hi]
theorem putx_ok (h : G.Ok) (t id : Int) : Gd.rtOk G.os.length (putx G id (G.rt t)).1 := by
  unfold putx
  split
  · exact h.rt t
  · exact (h.rt t).push ⟨by omega, by omega⟩

set_option maxRecDepth 100000 in
set_option maxHeartbeats 1000000 in
theorem does60 (h : Vw 79 F w p G bt ct ov gs cs) (r : Rt) (b0 b1 : Nat) (i : Int) (hc : w.cell? ⟨b0, 0, none⟩ = some (.int .i64 i)) (hd : w.cell? ⟨b1, 0, none⟩ = some (.pointer (some ⟨p, 0, none⟩))) : Does60 r b0 b1 (putx G i r) w := by
  intro os d
  have hlt := block_lt hc
  simp only at hlt
  have hc' := (ext_cell w os d 0 hlt).trans hc
  have hlt2 := block_lt hd
  simp only at hlt2
  have hd' := (ext_cell w os d 0 hlt2).trans hd
  obtain ⟨A, c, hov, _⟩ := h.orow
  have c1 : (ext w os d).cell? ⟨p, 1, none⟩ = some (.slice A G.os.length c) := (ext_cell w os d 1 h.plt).trans (by rw [h.pcell.2, hov])
  have hp2 : p < (ext w os d).heap.size := by simp [go_sem]; exact Nat.lt_of_lt_of_le h.plt (Nat.le_add_right _ _)
  generalize ext w os d = w at *
  have hlt' := block_lt hc'
  have hlt2' := block_lt hd'
  simp only at hlt' hlt2'
  unfold putx
  generalize G.os.length = M at *
  clear h hc hd hlt hlt2 hov
  obtain ⟨n, a0, a1, a2, a3, a4, a5, a6, a7⟩ := r
  by_cases hi : i < 0
  · rw [if_pos (.inl hi)]
    go_enter Try.func60, Try.ntmps60
    go_wp2_with fail
    go_quiet (fail)
    go_wp2_with fail
    refine bodyPost_ret (v := .tuple #[rv ⟨n, a0, a1, a2, a3, a4, a5, a6, a7⟩, .int .i64 1]) (by simp [results, Try.results60, go_sem]) rfl ⟨rfl, ?_⟩
    repeat (first | with_reducible exact Below.refl _ _ | with_reducible refine b_dn ?_ _ | with_reducible refine b_drew ?_ | with_reducible refine b_set ?_ | with_reducible refine b_set0 ?_ | with_reducible refine b_ext ?_ _ _ | with_reducible refine b_alloc ?_ _)
  · by_cases hm : (M : Int) < i
    · rw [if_pos (.inr hm)]
      have hid : decide (i < 0) = false := by simpa using hi
      go_enter Try.func60, Try.ntmps60
      go_wp2_with fail
      go_quiet (fail)
      go_wp2_with fail
      refine bodyPost_ret (v := .tuple #[rv ⟨n, a0, a1, a2, a3, a4, a5, a6, a7⟩, .int .i64 1]) (by simp [results, Try.results60, go_sem]) rfl ⟨rfl, ?_⟩
      repeat (first | with_reducible exact Below.refl _ _ | with_reducible refine b_dn ?_ _ | with_reducible refine b_drew ?_ | with_reducible refine b_set ?_ | with_reducible refine b_set0 ?_ | with_reducible refine b_ext ?_ _ _ | with_reducible refine b_alloc ?_ _)
    · rw [if_neg (by omega)]
      have hid : decide (i < 0) = false := by simpa using hi
      have hmd : decide ((M : Int) < i) = false := by simpa using hm
      obtain ⟨x, y, hxy⟩ : ∃ x y, Rt.push ⟨n, a0, a1, a2, a3, a4, a5, a6, a7⟩ i = (x, y) := ⟨_, _, rfl⟩
      have HD := Lib.hid (show ∀ w, Calls Try.prog 16 #[rv ⟨n, a0, a1, a2, a3, a4, a5, a6, a7⟩, .int .i64 i] w fun e w' => e = .returned (.tuple #[rv x, .int .i64 y]) ∧ Below w.heap.size w w' from fun w => (push_any _ i w).mono fun e w' h => by
        unfold PushP at h
        rw [hxy] at h
        exact h)
      rw [hxy]
      clear hxy
      obtain ⟨m, y0, y1, y2, y3, y4, y5, y6, y7⟩ := x
      go_enter Try.func60, Try.ntmps60
      go_wp2_with fail
      go_quiet (fail)
      go_wp2_with fail
      refine (HD.out _).mono ?_
      rintro e1 w1 ⟨rfl, hb⟩
      obtain ⟨os2, d2, rfl⟩ := ext_of hb
      clear hb
      go_wp2_with fail
      refine bodyPost_ret (v := .tuple #[rv ⟨m, y0, y1, y2, y3, y4, y5, y6, y7⟩, .int .i64 y]) (by simp [results, Try.results60, go_sem]) rfl ⟨rfl, ?_⟩
      repeat (first | with_reducible exact Below.refl _ _ | with_reducible refine b_dn ?_ _ | with_reducible refine b_drew ?_ | with_reducible refine b_set ?_ | with_reducible refine b_set0 ?_ | with_reducible refine b_ext ?_ _ _ | with_reducible refine b_alloc ?_ _)

theorem put_turn (h : Vw 79 F w p G bt ct ov gs cs) (t i : Int) :
    Calls Try.prog 53 #[.pointer (some ⟨p, 0, none⟩), .int .i64 t, .func (.func 60) #[] #[.pointer (some ⟨w.heap.size + 1, 0, none⟩), .pointer (some ⟨w.heap.size, 0, none⟩)]]
      ((w.alloc (.cells #[.pointer (some ⟨p, 0, none⟩)] 41)).alloc (.cells #[.int .i64 i] 3)) (TurnP F w p (G.put t i)) := by
  have hb : Below w.heap.size w ((w.alloc (.cells #[.pointer (some ⟨p, 0, none⟩)] 41)).alloc (.cells #[.int .i64 i] 3)) := ((Below.refl _ _).alloc (Nat.le_refl _) _).alloc (by simp) _
  have h2 := h.strict.below hb
  refine (change_60 h2 t (w.heap.size + 1) w.heap.size _ (fun _ => does60 h2 _ _ _ i (by simp [go_sem]) (by simp [go_sem]))).mono fun e w' ⟨he, hg, ho⟩ => ?_
  rw [put_turn_eq] at he hg
  exact ⟨he, hg.mono (Grow.up (by simp; omega)), ho.up hb⟩

set_option maxRecDepth 100000 in
set_option maxHeartbeats 1000000 in
theorem gput_any (h : Vw 79 F w p G bt ct ov gs cs) (t i : Int) : Calls Try.prog 39 #[.pointer (some ⟨p, 0, none⟩), .int .i64 t, .int .i64 i] w (TurnP F w p (G.put t i)) := by
  have HC := Lib.hid (put_turn h t i)
  clear h
  go_enter Try.func39, Try.ntmps39
  go_wp2_with fail
  refine (HC.out).mono ?_
  rintro e1 w1 ⟨rfl, hg, ho⟩
  have HG := Lib.hid hg
  have HO := Lib.hid ho
  clear hg ho
  go_wp2_with fail
  go_ret
  exact ⟨rfl, HG.out, HO.out⟩
end

end Go.Proofs.Ytlogojiphjpknaa
