/- (*graph.Graph).change: a thread's roots turned by a function. No condition. -/
import Derived.Test.YtlogojiphjpknaaGLook
import Derived.Outline
namespace Go.Proofs.Ytlogojiphjpknaa
open Go.RowKit
set_option linter.unusedVariables false

/-- a graph turned: what it is now, and that nothing else turned -/
def TurnP (F : Nat → Prop) (w : World) (p : Nat) (X : Gd × Int) (e : Ending) (w' : World) : Prop :=
  e = .returned (.int .i64 X.2) ∧ Gr 79 (Grow F w w') w' p X.1 ∧ Only F w w'

section
variable {F : Nat → Prop} {w : World} {p : Nat} {G : Gd} {bt ct : Nat} {ov : Value} {gs cs : List Nat}

theorem Vw.gr {T : TypeId} (h : Vw T F w p G bt ct ov gs cs) {w' : World} (hb : Below w.heap.size w w') : Gr T (Grow F w w') w' p G := ⟨bt, ct, ov, gs, cs, (h.below hb).mono fun _ hk => .inl hk⟩

/-- a thread's roots written -/
abbrev setRt (w : World) (bt t : Nat) (x : Rt) : World :=
  ((((((((w.setCell ⟨bt, t * 9, none⟩ (.int .i64 x.n)).setCell ⟨bt, t * 9 + 1, none⟩ (.int .i64 x.a0)).setCell ⟨bt, t * 9 + 2, none⟩ (.int .i64 x.a1)).setCell ⟨bt, t * 9 + 3, none⟩ (.int .i64 x.a2)).setCell
    ⟨bt, t * 9 + 4, none⟩ (.int .i64 x.a3)).setCell ⟨bt, t * 9 + 5, none⟩ (.int .i64 x.a4)).setCell ⟨bt, t * 9 + 6, none⟩ (.int .i64 x.a5)).setCell ⟨bt, t * 9 + 7, none⟩ (.int .i64 x.a6)).setCell ⟨bt, t * 9 + 8, none⟩ (.int .i64 x.a7)

theorem setRt_only {F : Nat → Prop} {w : World} {bt t : Nat} {x : Rt} (hb : F bt) : Only F w (setRt w bt t x) := by
  unfold setRt
  repeat (refine Only.setCell ?_ (.inl hb) _ _)
  exact Only.refl _ _
theorem setRt_size (w : World) (bt t : Nat) (x : Rt) : (setRt w bt t x).heap.size = w.heap.size := by simp [setRt, World.setCell]

theorem Vw.put_rt {T : TypeId} (h : Vw T F w p G bt ct ov gs cs) {t : Nat} (ht : t < G.ts.length) (x : Rt) : Vw T F (setRt w bt t x) p ⟨G.ts.set t x, G.os⟩ bt ct ov gs cs := by
  have ho : ∀ k, k ≠ bt → k < w.heap.size → (setRt w bt t x).heap[k]? = w.heap[k]? := fun k hk hl => (setRt_only (F := (· = bt)) rfl).block k hl hk
  refine ⟨h.hT, ?_, h.fp, h.fbt, ?_, ?_, h.fov, h.hgl, h.hcl, h.hnd, fun k hk => ⟨(h.hos k hk).1, ?_⟩, by simpa using h.h64⟩
  · rw [List.length_set]
    exact (ho p h.p_bt h.plt).trans h.hp
  · rw [List.length_set, tflat_set _ _ _ ht]
    exact (World.ownsRow.stored (World.ownsRow.stored (World.ownsRow.stored (World.ownsRow.stored (World.ownsRow.stored (World.ownsRow.stored (World.ownsRow.stored (World.ownsRow.stored (World.ownsRow.stored h.hts _ _).1 _ _).1 _ _).1 _ _).1 _ _).1 _ _).1 _ _).1 _ _).1 _ _).1
  · exact own_same h.hov (fun k hk => ho k (fun e => h.bt_ov (e ▸ hk)) (h.hov.lt k hk).2)
  · exact own_same (h.hos k hk).2 (fun j hj => ho j (fun e => by
      injection hj with hj
      exact h.bt_g hk (e.symm.trans hj.symm)) ((h.hos k hk).2.lt j hj).2)

theorem below_of_ext {w : World} (os : Array Obj) (d : Nat) : Below w.heap.size w (ext w os d) := below_ext (Below.refl _ _) (Nat.le_refl _) _ _

theorem turn_end (h : Vw 79 F w p G bt ct ov gs cs) {t : Nat} (ht : t < G.ts.length) (x : Rt) {w' : World} (hb : Below w.heap.size (setRt w bt t x) w') :
    Gr 79 (Grow F w w') w' p ⟨G.ts.set t x, G.os⟩ ∧ Only F w w' := by
  have hb' : Below (setRt w bt t x).heap.size (setRt w bt t x) w' := by rw [setRt_size]; exact hb
  exact ⟨⟨bt, ct, ov, gs, cs, ((h.put_rt ht x).below hb').mono fun _ hk => .inl hk⟩, (setRt_only h.fbt).below hb (Nat.le_refl _)⟩


def Does17 (r : Rt) (x : Rt × Int) (w : World) : Prop :=
  ∀ os d, Calls Try.prog 17 #[rv r] (ext w os d) fun e w' => e = .returned (.tuple #[rv x.1, .int .i64 x.2]) ∧ Below (ext w os d).heap.size (ext w os d) w'

set_option maxRecDepth 100000 in
set_option maxHeartbeats 1000000 in
theorem change_no_17 (h : Vw 79 F w p G bt ct ov gs cs) (t : Int) (x : Rt × Int) (hn : G.not t) :
    Calls Try.prog 53 #[.pointer (some ⟨p, 0, none⟩), .int .i64 t, .func (.func 17) #[] #[]] w (TurnP F w p (G.turn t x)) := by
  unfold TurnP Gd.turn
  rw [if_pos hn]
  have HG := Lib.hid (h.gr (below_refl w))
  obtain ⟨c0, c1⟩ := h.pcell
  clear h
  by_cases ht : t < 0
  · go_enter Try.func53, Try.ntmps53
    go_wp2_with fail
    go_ret
    exact ⟨rfl, HG.out, Only.refl _ _⟩
  · have hn : (G.ts.length : Int) ≤ t := by unfold Gd.not at hn; omega
    go_enter Try.func53, Try.ntmps53
    go_wp2_with fail
    go_ret
    exact ⟨rfl, HG.out, Only.refl _ _⟩

set_option maxRecDepth 100000 in
set_option maxHeartbeats 1000000 in
theorem change_err_17 (p bt : Nat) (A : Option Addr) (T ct M c t : Nat) (r : Rt) (w : World) (h : FPre w p bt A T ct M c t r) (ht : t < T) (hT : T ≤ 64) (x : Rt) (y : Int) (hd : Does17 r (x, y) w) (hy : y ≠ 0) :
    Calls Try.prog 53 #[.pointer (some ⟨p, 0, none⟩), .int .i64 t, .func (.func 17) #[] #[]] w fun e w' => e = .returned (.int .i64 y) ∧ Below w.heap.size w w' := by
  have HD := Lib.hid (hd #[] w.drawn)
  rw [ext_zero] at HD
  obtain ⟨c0, c1, r0, r1, r2, r3, r4, r5, r6, r7, r8, hpl, hbl⟩ := h
  have ht0 : ¬ (t : Int) < 0 := by omega
  have ht1 : ¬ (T : Int) ≤ t := by omega
  clear hd
  go_enter Try.func53, Try.ntmps53
  go_wp2_with fail
  refine (HD.out).mono ?_
  rintro e1 w1 ⟨rfl, hb⟩
  obtain ⟨os, d, rfl⟩ := ext_of hb
  clear hb
  go_wp2_with fail
  go_ret
  exact ⟨rfl, (below_ext (Below.refl _ _) (Nat.le_refl _) _ _).alloc (by simp [go_sem]) _⟩

set_option maxRecDepth 100000 in
set_option maxHeartbeats 2000000 in
theorem change_yes_17 (h : Vw 79 F w p G bt ct ov gs cs) (t : Nat) (ht : t < G.ts.length) (x : Rt) (hd : Does17 (G.rt t) (x, 0) w) :
    Calls Try.prog 53 #[.pointer (some ⟨p, 0, none⟩), .int .i64 t, .func (.func 17) #[] #[]] w (TurnP F w p (⟨G.ts.set t x, G.os⟩, 0)) := by
  have HD := Lib.hid (hd #[] w.drawn)
  rw [ext_zero] at HD
  obtain ⟨A, c, hov, _⟩ := h.orow
  obtain ⟨c0, c1, r0, r1, r2, r3, r4, r5, r6, r7, r8, hpl, hbl⟩ := h.fpre hov ht
  have hfz : ∀ j, w.frozen? ⟨bt, j, none⟩ = false := World.ownsRow.frozenAt h.hts
  have h64 := h.h64
  have HW := Lib.hid h
  have ht0 : ¬ (t : Int) < 0 := by omega
  have ht1 : ¬ (G.ts.length : Int) ≤ t := by omega
  have htt : (t : Int) < (G.ts.length : Int) := by omega
  have hpb : p ≠ bt := h.p_bt
  clear hd h hov
  obtain ⟨r, hr⟩ : ∃ r, r = G.rt t := ⟨_, rfl⟩
  rw [← hr] at r0 r1 r2 r3 r4 r5 r6 r7 r8 HD
  clear hr
  obtain ⟨y, y0, y1, y2, y3, y4, y5, y6, y7⟩ := x
  go_enter Try.func53, Try.ntmps53
  go_wp2_with fail
  refine (HD.out).mono ?_
  rintro e1 w1 ⟨rfl, hb⟩
  obtain ⟨os, d, rfl⟩ := ext_of hb
  clear hb
  go_wp2_with fail
  go_region
  all_goals (
    go_wp2_with fail
    go_ret
    exact ⟨rfl, turn_end HW.out ht _ ((((below_ext (Below.refl _ _) (Nat.le_of_eq (setRt_size _ _ _ _).symm) _ _).alloc (by simp [go_sem, World.setCell]) _)).drew)⟩)

theorem change_17 (h : Vw 79 F w p G bt ct ov gs cs) (t : Int) (x : Rt × Int) (hd : ¬ G.not t → Does17 (G.rt t) x w) :
    Calls Try.prog 53 #[.pointer (some ⟨p, 0, none⟩), .int .i64 t, .func (.func 17) #[] #[]] w (TurnP F w p (G.turn t x)) := by
  by_cases hn : G.not t
  · exact change_no_17 h t x hn
  · have hd' := hd hn
    have hn' := hn
    unfold Gd.not at hn'
    obtain ⟨t', rfl⟩ : ∃ t' : Nat, t = t' := ⟨t.toNat, by omega⟩
    obtain ⟨x, y⟩ := x
    by_cases hy : y = 0
    · subst hy
      have e : G.turn t' (x, 0) = (⟨G.ts.set t' x, G.os⟩, 0) := by unfold Gd.turn; rw [if_neg hn, if_pos rfl]; rfl
      rw [e]
      exact change_yes_17 h t' (by omega) x hd'
    · have e : G.turn t' (x, y) = (G, y) := by unfold Gd.turn; rw [if_neg hn, if_neg hy]
      rw [e]
      obtain ⟨A, c, hov, _⟩ := h.orow
      refine (change_err_17 p bt A G.ts.length ct G.os.length c t' (G.rt t') w (h.fpre hov (by omega)) (by omega) h.h64 x y hd' hy).mono ?_
      rintro e1 w1 ⟨rfl, hb⟩
      exact ⟨rfl, h.gr hb, Only.of_below hb⟩

def Does57 (r : Rt) (b0 : Nat) (x : Rt × Int) (w : World) : Prop :=
  ∀ os d, Calls Try.prog 57 #[rv r, .pointer (some ⟨b0, 0, none⟩)] (ext w os d) fun e w' => e = .returned (.tuple #[rv x.1, .int .i64 x.2]) ∧ Below (ext w os d).heap.size (ext w os d) w'

set_option maxRecDepth 100000 in
set_option maxHeartbeats 1000000 in
theorem change_no_57 (h : Vw 79 F w p G bt ct ov gs cs) (t : Int) (b0 : Nat) (x : Rt × Int) (hn : G.not t) :
    Calls Try.prog 53 #[.pointer (some ⟨p, 0, none⟩), .int .i64 t, .func (.func 57) #[] #[.pointer (some ⟨b0, 0, none⟩)]] w (TurnP F w p (G.turn t x)) := by
  unfold TurnP Gd.turn
  rw [if_pos hn]
  have HG := Lib.hid (h.gr (below_refl w))
  obtain ⟨c0, c1⟩ := h.pcell
  clear h
  by_cases ht : t < 0
  · go_enter Try.func53, Try.ntmps53
    go_wp2_with fail
    go_ret
    exact ⟨rfl, HG.out, Only.refl _ _⟩
  · have hn : (G.ts.length : Int) ≤ t := by unfold Gd.not at hn; omega
    go_enter Try.func53, Try.ntmps53
    go_wp2_with fail
    go_ret
    exact ⟨rfl, HG.out, Only.refl _ _⟩

set_option maxRecDepth 100000 in
set_option maxHeartbeats 1000000 in
theorem change_err_57 (p bt : Nat) (A : Option Addr) (T ct M c t : Nat) (r : Rt) (w : World) (h : FPre w p bt A T ct M c t r) (ht : t < T) (hT : T ≤ 64) (b0 : Nat) (x : Rt) (y : Int) (hd : Does57 r b0 (x, y) w) (hy : y ≠ 0) :
    Calls Try.prog 53 #[.pointer (some ⟨p, 0, none⟩), .int .i64 t, .func (.func 57) #[] #[.pointer (some ⟨b0, 0, none⟩)]] w fun e w' => e = .returned (.int .i64 y) ∧ Below w.heap.size w w' := by
  have HD := Lib.hid (hd #[] w.drawn)
  rw [ext_zero] at HD
  obtain ⟨c0, c1, r0, r1, r2, r3, r4, r5, r6, r7, r8, hpl, hbl⟩ := h
  have ht0 : ¬ (t : Int) < 0 := by omega
  have ht1 : ¬ (T : Int) ≤ t := by omega
  clear hd
  go_enter Try.func53, Try.ntmps53
  go_wp2_with fail
  refine (HD.out).mono ?_
  rintro e1 w1 ⟨rfl, hb⟩
  obtain ⟨os, d, rfl⟩ := ext_of hb
  clear hb
  go_wp2_with fail
  go_ret
  exact ⟨rfl, (below_ext (Below.refl _ _) (Nat.le_refl _) _ _).alloc (by simp [go_sem]) _⟩

set_option maxRecDepth 100000 in
set_option maxHeartbeats 2000000 in
theorem change_yes_57 (h : Vw 79 F w p G bt ct ov gs cs) (t : Nat) (ht : t < G.ts.length) (b0 : Nat) (x : Rt) (hd : Does57 (G.rt t) b0 (x, 0) w) :
    Calls Try.prog 53 #[.pointer (some ⟨p, 0, none⟩), .int .i64 t, .func (.func 57) #[] #[.pointer (some ⟨b0, 0, none⟩)]] w (TurnP F w p (⟨G.ts.set t x, G.os⟩, 0)) := by
  have HD := Lib.hid (hd #[] w.drawn)
  rw [ext_zero] at HD
  obtain ⟨A, c, hov, _⟩ := h.orow
  obtain ⟨c0, c1, r0, r1, r2, r3, r4, r5, r6, r7, r8, hpl, hbl⟩ := h.fpre hov ht
  have hfz : ∀ j, w.frozen? ⟨bt, j, none⟩ = false := World.ownsRow.frozenAt h.hts
  have h64 := h.h64
  have HW := Lib.hid h
  have ht0 : ¬ (t : Int) < 0 := by omega
  have ht1 : ¬ (G.ts.length : Int) ≤ t := by omega
  have htt : (t : Int) < (G.ts.length : Int) := by omega
  have hpb : p ≠ bt := h.p_bt
  clear hd h hov
  obtain ⟨r, hr⟩ : ∃ r, r = G.rt t := ⟨_, rfl⟩
  rw [← hr] at r0 r1 r2 r3 r4 r5 r6 r7 r8 HD
  clear hr
  obtain ⟨y, y0, y1, y2, y3, y4, y5, y6, y7⟩ := x
  go_enter Try.func53, Try.ntmps53
  go_wp2_with fail
  refine (HD.out).mono ?_
  rintro e1 w1 ⟨rfl, hb⟩
  obtain ⟨os, d, rfl⟩ := ext_of hb
  clear hb
  go_wp2_with fail
  go_region
  all_goals (
    go_wp2_with fail
    go_ret
    exact ⟨rfl, turn_end HW.out ht _ ((((below_ext (Below.refl _ _) (Nat.le_of_eq (setRt_size _ _ _ _).symm) _ _).alloc (by simp [go_sem, World.setCell]) _)).drew)⟩)

theorem change_57 (h : Vw 79 F w p G bt ct ov gs cs) (t : Int) (b0 : Nat) (x : Rt × Int) (hd : ¬ G.not t → Does57 (G.rt t) b0 x w) :
    Calls Try.prog 53 #[.pointer (some ⟨p, 0, none⟩), .int .i64 t, .func (.func 57) #[] #[.pointer (some ⟨b0, 0, none⟩)]] w (TurnP F w p (G.turn t x)) := by
  by_cases hn : G.not t
  · exact change_no_57 h t b0 x hn
  · have hd' := hd hn
    have hn' := hn
    unfold Gd.not at hn'
    obtain ⟨t', rfl⟩ : ∃ t' : Nat, t = t' := ⟨t.toNat, by omega⟩
    obtain ⟨x, y⟩ := x
    by_cases hy : y = 0
    · subst hy
      have e : G.turn t' (x, 0) = (⟨G.ts.set t' x, G.os⟩, 0) := by unfold Gd.turn; rw [if_neg hn, if_pos rfl]; rfl
      rw [e]
      exact change_yes_57 h t' (by omega) b0 x hd'
    · have e : G.turn t' (x, y) = (G, y) := by unfold Gd.turn; rw [if_neg hn, if_neg hy]
      rw [e]
      obtain ⟨A, c, hov, _⟩ := h.orow
      refine (change_err_57 p bt A G.ts.length ct G.os.length c t' (G.rt t') w (h.fpre hov (by omega)) (by omega) h.h64 b0 x y hd' hy).mono ?_
      rintro e1 w1 ⟨rfl, hb⟩
      exact ⟨rfl, h.gr hb, Only.of_below hb⟩

def Does54 (r : Rt) (b0 : Nat) (b1 : Nat) (x : Rt × Int) (w : World) : Prop :=
  ∀ os d, Calls Try.prog 54 #[rv r, .pointer (some ⟨b0, 0, none⟩), .pointer (some ⟨b1, 0, none⟩)] (ext w os d) fun e w' => e = .returned (.tuple #[rv x.1, .int .i64 x.2]) ∧ Below (ext w os d).heap.size (ext w os d) w'

set_option maxRecDepth 100000 in
set_option maxHeartbeats 1000000 in
theorem change_no_54 (h : Vw 79 F w p G bt ct ov gs cs) (t : Int) (b0 : Nat) (b1 : Nat) (x : Rt × Int) (hn : G.not t) :
    Calls Try.prog 53 #[.pointer (some ⟨p, 0, none⟩), .int .i64 t, .func (.func 54) #[] #[.pointer (some ⟨b0, 0, none⟩), .pointer (some ⟨b1, 0, none⟩)]] w (TurnP F w p (G.turn t x)) := by
  unfold TurnP Gd.turn
  rw [if_pos hn]
  have HG := Lib.hid (h.gr (below_refl w))
  obtain ⟨c0, c1⟩ := h.pcell
  clear h
  by_cases ht : t < 0
  · go_enter Try.func53, Try.ntmps53
    go_wp2_with fail
    go_ret
    exact ⟨rfl, HG.out, Only.refl _ _⟩
  · have hn : (G.ts.length : Int) ≤ t := by unfold Gd.not at hn; omega
    go_enter Try.func53, Try.ntmps53
    go_wp2_with fail
    go_ret
    exact ⟨rfl, HG.out, Only.refl _ _⟩

set_option maxRecDepth 100000 in
set_option maxHeartbeats 1000000 in
theorem change_err_54 (p bt : Nat) (A : Option Addr) (T ct M c t : Nat) (r : Rt) (w : World) (h : FPre w p bt A T ct M c t r) (ht : t < T) (hT : T ≤ 64) (b0 : Nat) (b1 : Nat) (x : Rt) (y : Int) (hd : Does54 r b0 b1 (x, y) w) (hy : y ≠ 0) :
    Calls Try.prog 53 #[.pointer (some ⟨p, 0, none⟩), .int .i64 t, .func (.func 54) #[] #[.pointer (some ⟨b0, 0, none⟩), .pointer (some ⟨b1, 0, none⟩)]] w fun e w' => e = .returned (.int .i64 y) ∧ Below w.heap.size w w' := by
  have HD := Lib.hid (hd #[] w.drawn)
  rw [ext_zero] at HD
  obtain ⟨c0, c1, r0, r1, r2, r3, r4, r5, r6, r7, r8, hpl, hbl⟩ := h
  have ht0 : ¬ (t : Int) < 0 := by omega
  have ht1 : ¬ (T : Int) ≤ t := by omega
  clear hd
  go_enter Try.func53, Try.ntmps53
  go_wp2_with fail
  refine (HD.out).mono ?_
  rintro e1 w1 ⟨rfl, hb⟩
  obtain ⟨os, d, rfl⟩ := ext_of hb
  clear hb
  go_wp2_with fail
  go_ret
  exact ⟨rfl, (below_ext (Below.refl _ _) (Nat.le_refl _) _ _).alloc (by simp [go_sem]) _⟩

set_option maxRecDepth 100000 in
set_option maxHeartbeats 2000000 in
theorem change_yes_54 (h : Vw 79 F w p G bt ct ov gs cs) (t : Nat) (ht : t < G.ts.length) (b0 : Nat) (b1 : Nat) (x : Rt) (hd : Does54 (G.rt t) b0 b1 (x, 0) w) :
    Calls Try.prog 53 #[.pointer (some ⟨p, 0, none⟩), .int .i64 t, .func (.func 54) #[] #[.pointer (some ⟨b0, 0, none⟩), .pointer (some ⟨b1, 0, none⟩)]] w (TurnP F w p (⟨G.ts.set t x, G.os⟩, 0)) := by
  have HD := Lib.hid (hd #[] w.drawn)
  rw [ext_zero] at HD
  obtain ⟨A, c, hov, _⟩ := h.orow
  obtain ⟨c0, c1, r0, r1, r2, r3, r4, r5, r6, r7, r8, hpl, hbl⟩ := h.fpre hov ht
  have hfz : ∀ j, w.frozen? ⟨bt, j, none⟩ = false := World.ownsRow.frozenAt h.hts
  have h64 := h.h64
  have HW := Lib.hid h
  have ht0 : ¬ (t : Int) < 0 := by omega
  have ht1 : ¬ (G.ts.length : Int) ≤ t := by omega
  have htt : (t : Int) < (G.ts.length : Int) := by omega
  have hpb : p ≠ bt := h.p_bt
  clear hd h hov
  obtain ⟨r, hr⟩ : ∃ r, r = G.rt t := ⟨_, rfl⟩
  rw [← hr] at r0 r1 r2 r3 r4 r5 r6 r7 r8 HD
  clear hr
  obtain ⟨y, y0, y1, y2, y3, y4, y5, y6, y7⟩ := x
  go_enter Try.func53, Try.ntmps53
  go_wp2_with fail
  refine (HD.out).mono ?_
  rintro e1 w1 ⟨rfl, hb⟩
  obtain ⟨os, d, rfl⟩ := ext_of hb
  clear hb
  go_wp2_with fail
  go_region
  all_goals (
    go_wp2_with fail
    go_ret
    exact ⟨rfl, turn_end HW.out ht _ ((((below_ext (Below.refl _ _) (Nat.le_of_eq (setRt_size _ _ _ _).symm) _ _).alloc (by simp [go_sem, World.setCell]) _)).drew)⟩)

theorem change_54 (h : Vw 79 F w p G bt ct ov gs cs) (t : Int) (b0 : Nat) (b1 : Nat) (x : Rt × Int) (hd : ¬ G.not t → Does54 (G.rt t) b0 b1 x w) :
    Calls Try.prog 53 #[.pointer (some ⟨p, 0, none⟩), .int .i64 t, .func (.func 54) #[] #[.pointer (some ⟨b0, 0, none⟩), .pointer (some ⟨b1, 0, none⟩)]] w (TurnP F w p (G.turn t x)) := by
  by_cases hn : G.not t
  · exact change_no_54 h t b0 b1 x hn
  · have hd' := hd hn
    have hn' := hn
    unfold Gd.not at hn'
    obtain ⟨t', rfl⟩ : ∃ t' : Nat, t = t' := ⟨t.toNat, by omega⟩
    obtain ⟨x, y⟩ := x
    by_cases hy : y = 0
    · subst hy
      have e : G.turn t' (x, 0) = (⟨G.ts.set t' x, G.os⟩, 0) := by unfold Gd.turn; rw [if_neg hn, if_pos rfl]; rfl
      rw [e]
      exact change_yes_54 h t' (by omega) b0 b1 x hd'
    · have e : G.turn t' (x, y) = (G, y) := by unfold Gd.turn; rw [if_neg hn, if_neg hy]
      rw [e]
      obtain ⟨A, c, hov, _⟩ := h.orow
      refine (change_err_54 p bt A G.ts.length ct G.os.length c t' (G.rt t') w (h.fpre hov (by omega)) (by omega) h.h64 b0 b1 x y hd' hy).mono ?_
      rintro e1 w1 ⟨rfl, hb⟩
      exact ⟨rfl, h.gr hb, Only.of_below hb⟩

def Does60 (r : Rt) (b0 : Nat) (b1 : Nat) (x : Rt × Int) (w : World) : Prop :=
  ∀ os d, Calls Try.prog 60 #[rv r, .pointer (some ⟨b0, 0, none⟩), .pointer (some ⟨b1, 0, none⟩)] (ext w os d) fun e w' => e = .returned (.tuple #[rv x.1, .int .i64 x.2]) ∧ Below (ext w os d).heap.size (ext w os d) w'

set_option maxRecDepth 100000 in
set_option maxHeartbeats 1000000 in
theorem change_no_60 (h : Vw 79 F w p G bt ct ov gs cs) (t : Int) (b0 : Nat) (b1 : Nat) (x : Rt × Int) (hn : G.not t) :
    Calls Try.prog 53 #[.pointer (some ⟨p, 0, none⟩), .int .i64 t, .func (.func 60) #[] #[.pointer (some ⟨b0, 0, none⟩), .pointer (some ⟨b1, 0, none⟩)]] w (TurnP F w p (G.turn t x)) := by
  unfold TurnP Gd.turn
  rw [if_pos hn]
  have HG := Lib.hid (h.gr (below_refl w))
  obtain ⟨c0, c1⟩ := h.pcell
  clear h
  by_cases ht : t < 0
  · go_enter Try.func53, Try.ntmps53
    go_wp2_with fail
    go_ret
    exact ⟨rfl, HG.out, Only.refl _ _⟩
  · have hn : (G.ts.length : Int) ≤ t := by unfold Gd.not at hn; omega
    go_enter Try.func53, Try.ntmps53
    go_wp2_with fail
    go_ret
    exact ⟨rfl, HG.out, Only.refl _ _⟩

set_option maxRecDepth 100000 in
set_option maxHeartbeats 1000000 in
theorem change_err_60 (p bt : Nat) (A : Option Addr) (T ct M c t : Nat) (r : Rt) (w : World) (h : FPre w p bt A T ct M c t r) (ht : t < T) (hT : T ≤ 64) (b0 : Nat) (b1 : Nat) (x : Rt) (y : Int) (hd : Does60 r b0 b1 (x, y) w) (hy : y ≠ 0) :
    Calls Try.prog 53 #[.pointer (some ⟨p, 0, none⟩), .int .i64 t, .func (.func 60) #[] #[.pointer (some ⟨b0, 0, none⟩), .pointer (some ⟨b1, 0, none⟩)]] w fun e w' => e = .returned (.int .i64 y) ∧ Below w.heap.size w w' := by
  have HD := Lib.hid (hd #[] w.drawn)
  rw [ext_zero] at HD
  obtain ⟨c0, c1, r0, r1, r2, r3, r4, r5, r6, r7, r8, hpl, hbl⟩ := h
  have ht0 : ¬ (t : Int) < 0 := by omega
  have ht1 : ¬ (T : Int) ≤ t := by omega
  clear hd
  go_enter Try.func53, Try.ntmps53
  go_wp2_with fail
  refine (HD.out).mono ?_
  rintro e1 w1 ⟨rfl, hb⟩
  obtain ⟨os, d, rfl⟩ := ext_of hb
  clear hb
  go_wp2_with fail
  go_ret
  exact ⟨rfl, (below_ext (Below.refl _ _) (Nat.le_refl _) _ _).alloc (by simp [go_sem]) _⟩

set_option maxRecDepth 100000 in
set_option maxHeartbeats 2000000 in
theorem change_yes_60 (h : Vw 79 F w p G bt ct ov gs cs) (t : Nat) (ht : t < G.ts.length) (b0 : Nat) (b1 : Nat) (x : Rt) (hd : Does60 (G.rt t) b0 b1 (x, 0) w) :
    Calls Try.prog 53 #[.pointer (some ⟨p, 0, none⟩), .int .i64 t, .func (.func 60) #[] #[.pointer (some ⟨b0, 0, none⟩), .pointer (some ⟨b1, 0, none⟩)]] w (TurnP F w p (⟨G.ts.set t x, G.os⟩, 0)) := by
  have HD := Lib.hid (hd #[] w.drawn)
  rw [ext_zero] at HD
  obtain ⟨A, c, hov, _⟩ := h.orow
  obtain ⟨c0, c1, r0, r1, r2, r3, r4, r5, r6, r7, r8, hpl, hbl⟩ := h.fpre hov ht
  have hfz : ∀ j, w.frozen? ⟨bt, j, none⟩ = false := World.ownsRow.frozenAt h.hts
  have h64 := h.h64
  have HW := Lib.hid h
  have ht0 : ¬ (t : Int) < 0 := by omega
  have ht1 : ¬ (G.ts.length : Int) ≤ t := by omega
  have htt : (t : Int) < (G.ts.length : Int) := by omega
  have hpb : p ≠ bt := h.p_bt
  clear hd h hov
  obtain ⟨r, hr⟩ : ∃ r, r = G.rt t := ⟨_, rfl⟩
  rw [← hr] at r0 r1 r2 r3 r4 r5 r6 r7 r8 HD
  clear hr
  obtain ⟨y, y0, y1, y2, y3, y4, y5, y6, y7⟩ := x
  go_enter Try.func53, Try.ntmps53
  go_wp2_with fail
  refine (HD.out).mono ?_
  rintro e1 w1 ⟨rfl, hb⟩
  obtain ⟨os, d, rfl⟩ := ext_of hb
  clear hb
  go_wp2_with fail
  go_region
  all_goals (
    go_wp2_with fail
    go_ret
    exact ⟨rfl, turn_end HW.out ht _ ((((below_ext (Below.refl _ _) (Nat.le_of_eq (setRt_size _ _ _ _).symm) _ _).alloc (by simp [go_sem, World.setCell]) _)).drew)⟩)

theorem change_60 (h : Vw 79 F w p G bt ct ov gs cs) (t : Int) (b0 : Nat) (b1 : Nat) (x : Rt × Int) (hd : ¬ G.not t → Does60 (G.rt t) b0 b1 x w) :
    Calls Try.prog 53 #[.pointer (some ⟨p, 0, none⟩), .int .i64 t, .func (.func 60) #[] #[.pointer (some ⟨b0, 0, none⟩), .pointer (some ⟨b1, 0, none⟩)]] w (TurnP F w p (G.turn t x)) := by
  by_cases hn : G.not t
  · exact change_no_60 h t b0 b1 x hn
  · have hd' := hd hn
    have hn' := hn
    unfold Gd.not at hn'
    obtain ⟨t', rfl⟩ : ∃ t' : Nat, t = t' := ⟨t.toNat, by omega⟩
    obtain ⟨x, y⟩ := x
    by_cases hy : y = 0
    · subst hy
      have e : G.turn t' (x, 0) = (⟨G.ts.set t' x, G.os⟩, 0) := by unfold Gd.turn; rw [if_neg hn, if_pos rfl]; rfl
      rw [e]
      exact change_yes_60 h t' (by omega) b0 b1 x hd'
    · have e : G.turn t' (x, y) = (G, y) := by unfold Gd.turn; rw [if_neg hn, if_neg hy]
      rw [e]
      obtain ⟨A, c, hov, _⟩ := h.orow
      refine (change_err_60 p bt A G.ts.length ct G.os.length c t' (G.rt t') w (h.fpre hov (by omega)) (by omega) h.h64 b0 b1 x y hd' hy).mono ?_
      rintro e1 w1 ⟨rfl, hb⟩
      exact ⟨rfl, h.gr hb, Only.of_below hb⟩

end

end Go.Proofs.Ytlogojiphjpknaa
