/- (*flitref07.Graph).Put, Dup, Drop. No condition. -/
import Derived.Test.YtlogojiphjpknaaRNamed
import Derived.Test.YtlogojiphjpknaaGTurn
namespace Go.Proofs.Ytlogojiphjpknaa
open Go.RowKit
set_option linter.unusedVariables false

def TurnT (T : TypeId) (F : Nat → Prop) (w : World) (p : Nat) (X : Gd × Int) (e : Ending) (w' : World) : Prop :=
  e = .returned (.int .i64 X.2) ∧ Gr T (Grow F w w') w' p X.1 ∧ Only F w w'

section
variable {F : Nat → Prop} {w : World} {p : Nat} {G : Gd} {bt ct : Nat} {ov : Value} {gs cs : List Nat}
theorem turnT_end {T : TypeId} (h : Vw T F w p G bt ct ov gs cs) {t : Nat} (ht : t < G.ts.length) (x : Rt) {w' : World} (hb : Below w.heap.size (setRt w bt t x) w') :
    Gr T (Grow F w w') w' p ⟨G.ts.set t x, G.os⟩ ∧ Only F w w' := by
  have hb' : Below (setRt w bt t x).heap.size (setRt w bt t x) w' := by rw [setRt_size]; exact hb
  exact ⟨⟨bt, ct, ov, gs, cs, ((h.put_rt ht x).below hb').mono fun _ hk => .inl hk⟩, (setRt_only h.fbt).below hb (Nat.le_refl _)⟩

set_option maxRecDepth 100000 in
set_option maxHeartbeats 1000000 in
theorem rdrop_not (h : Vw 91 F w p G bt ct ov gs cs) (t : Int) (hn : G.not t) : Calls Try.prog 48 #[.pointer (some ⟨p, 0, none⟩), .int .i64 t] w (TurnT 91 F w p (G, 1)) := by
  have HG := Lib.hid (h.gr (below_refl w))
  have HIS := Lib.hid (fun w c0 => is_no p bt G.ts.length ct t w c0 hn)
  obtain ⟨c0, c1⟩ := h.pcell
  have hpl := h.plt
  clear h hn
  go_enter Try.func48, Try.ntmps48
  go_wp2_with fail
  refine (HIS.out _ (by simp [go_sem, c0])).mono ?_
  rintro e1 w1 ⟨rfl, rfl⟩
  go_wp2_with fail
  go_ret
  exact ⟨rfl, HG.out, Only.refl _ _⟩

set_option maxRecDepth 100000 in
set_option maxHeartbeats 1000000 in
theorem rdrop_err (p bt : Nat) (A : Option Addr) (T ct M c t : Nat) (r : Rt) (w : World) (h : FPre w p bt A T ct M c t r) (ht : t < T) (hT : T ≤ 64) (x : Rt) (y : Int)
    (hd : ∀ w, Calls Try.prog 21 #[rv r] w fun e w' => e = .returned (.tuple #[rv x, .int .i64 y]) ∧ Below w.heap.size w w') (hy : y ≠ 0) :
    Calls Try.prog 48 #[.pointer (some ⟨p, 0, none⟩), .int .i64 (t : Int)] w fun e w' => e = .returned (.int .i64 y) ∧ Below w.heap.size w w' := by
  have HD := Lib.hid hd
  have HIS := Lib.hid (fun w c0 => is_yes p bt T ct t w c0 ht)
  obtain ⟨c0, c1, r0, r1, r2, r3, r4, r5, r6, r7, r8, hpl, hbl⟩ := h
  have ht0 : ¬ (t : Int) < 0 := by omega
  have ht1 : (t : Int) < (T : Int) := by omega
  clear hd
  go_enter Try.func48, Try.ntmps48
  go_wp2_with fail
  refine (HIS.out _ (by simp [go_sem, c0])).mono ?_
  rintro e1 w1 ⟨rfl, rfl⟩
  go_wp2_with fail
  refine (HD.out _).mono ?_
  rintro e1 w1 ⟨rfl, hb⟩
  obtain ⟨os, d, rfl⟩ := ext_of hb
  clear hb
  go_wp2_with fail
  go_ret
  exact ⟨rfl, (below_ext (Below.refl _ _) (Nat.le_refl _) _ _).alloc (by simp [go_sem]) _⟩

set_option maxRecDepth 100000 in
set_option maxHeartbeats 2000000 in
theorem rdrop_yes (h : Vw 91 F w p G bt ct ov gs cs) (t : Nat) (ht : t < G.ts.length) (x : Rt)
    (hd : ∀ w, Calls Try.prog 21 #[rv (G.rt t)] w fun e w' => e = .returned (.tuple #[rv x, .int .i64 0]) ∧ Below w.heap.size w w') :
    Calls Try.prog 48 #[.pointer (some ⟨p, 0, none⟩), .int .i64 (t : Int)] w (TurnT 91 F w p (⟨G.ts.set t x, G.os⟩, 0)) := by
  have HD := Lib.hid hd
  have HIS := Lib.hid (fun w c0 => is_yes p bt G.ts.length ct t w c0 ht)
  obtain ⟨A, c, hov, _⟩ := h.orow
  obtain ⟨c0, c1, r0, r1, r2, r3, r4, r5, r6, r7, r8, hpl, hbl⟩ := h.fpre hov ht
  have hfz : ∀ j, w.frozen? ⟨bt, j, none⟩ = false := World.ownsRow.frozenAt h.hts
  have h64 := h.h64
  have HW := Lib.hid h
  have ht0 : ¬ (t : Int) < 0 := by omega
  have htt : (t : Int) < (G.ts.length : Int) := by omega
  have hpb : p ≠ bt := h.p_bt
  clear hd h hov
  obtain ⟨r, hr⟩ : ∃ r, r = G.rt t := ⟨_, rfl⟩
  rw [← hr] at r0 r1 r2 r3 r4 r5 r6 r7 r8 HD
  clear hr
  obtain ⟨y, y0, y1, y2, y3, y4, y5, y6, y7⟩ := x
  go_enter Try.func48, Try.ntmps48
  go_wp2_with fail
  refine (HIS.out _ (by simp [go_sem, c0])).mono ?_
  rintro e1 w1 ⟨rfl, rfl⟩
  go_wp2_with fail
  refine (HD.out _).mono ?_
  rintro e1 w1 ⟨rfl, hb⟩
  obtain ⟨os, d, rfl⟩ := ext_of hb
  clear hb
  go_wp2_with fail
  go_region
  all_goals (
    go_wp2_with fail
    go_ret
    exact ⟨rfl, turnT_end HW.out ht _ ((((below_ext (Below.refl _ _) (Nat.le_of_eq (setRt_size _ _ _ _).symm) _ _).alloc (by simp [go_sem, World.setCell]) _)).drew)⟩)

theorem rdrop_any (h : Vw 91 F w p G bt ct ov gs cs) (t : Int) : Calls Try.prog 48 #[.pointer (some ⟨p, 0, none⟩), .int .i64 t] w (TurnT 91 F w p (G.drop t)) := by
  by_cases hn : G.not t
  · have e : G.drop t = (G, 1) := by unfold Gd.drop Gd.turn; rw [if_pos hn]
    rw [e]
    exact rdrop_not h t hn
  · have hn' := hn
    unfold Gd.not at hn'
    obtain ⟨t', rfl⟩ : ∃ t' : Nat, t = t' := ⟨t.toNat, by omega⟩
    have e0 : G.drop t' = G.turn t' ((G.rt t').drop) := rfl
    rw [e0]
    obtain ⟨x, y, hxy⟩ : ∃ x y, (G.rt t').drop = (x, y) := ⟨_, _, rfl⟩
    have hd := fun w => (dropR_any (G.rt t') w).mono fun e w' hx => by
      show e = .returned (.tuple #[rv x, .int .i64 y]) ∧ Below w.heap.size w w'
      unfold DropP at hx
      rw [hxy] at hx
      exact hx
    rw [hxy]
    by_cases hy : y = 0
    · subst hy
      have e : G.turn t' (x, 0) = (⟨G.ts.set t' x, G.os⟩, 0) := by unfold Gd.turn; rw [if_neg hn, if_pos rfl]; rfl
      rw [e]
      exact rdrop_yes h t' (by omega) x hd
    · have e : G.turn t' (x, y) = (G, y) := by unfold Gd.turn; rw [if_neg hn, if_neg hy]
      rw [e]
      obtain ⟨A, c, hov, _⟩ := h.orow
      refine (rdrop_err p bt A G.ts.length ct G.os.length c t' (G.rt t') w (h.fpre hov (by omega)) (by omega) h.h64 x y hd hy).mono ?_
      rintro e1 w1 ⟨rfl, hb⟩
      exact ⟨rfl, h.gr hb, Only.of_below hb⟩

set_option maxRecDepth 100000 in
set_option maxHeartbeats 1000000 in
theorem rdup_not (h : Vw 91 F w p G bt ct ov gs cs) (t : Int) (i : Int) (hn : G.not t) : Calls Try.prog 47 #[.pointer (some ⟨p, 0, none⟩), .int .i64 t, .int .i64 i] w (TurnT 91 F w p (G, 1)) := by
  have HG := Lib.hid (h.gr (below_refl w))
  have HIS := Lib.hid (fun w c0 => is_no p bt G.ts.length ct t w c0 hn)
  obtain ⟨c0, c1⟩ := h.pcell
  have hpl := h.plt
  clear h hn
  go_enter Try.func47, Try.ntmps47
  go_wp2_with fail
  refine (HIS.out _ (by simp [go_sem, c0])).mono ?_
  rintro e1 w1 ⟨rfl, rfl⟩
  go_wp2_with fail
  go_ret
  exact ⟨rfl, HG.out, Only.refl _ _⟩

set_option maxRecDepth 100000 in
set_option maxHeartbeats 1000000 in
theorem rdup_err (p bt : Nat) (A : Option Addr) (T ct M c t : Nat) (i : Int) (r : Rt) (w : World) (h : FPre w p bt A T ct M c t r) (ht : t < T) (hT : T ≤ 64) (x : Rt) (y : Int)
    (hd : ∀ w, Calls Try.prog 23 #[rv r, .int .i64 i] w fun e w' => e = .returned (.tuple #[rv x, .int .i64 y]) ∧ Below w.heap.size w w') (hy : y ≠ 0) :
    Calls Try.prog 47 #[.pointer (some ⟨p, 0, none⟩), .int .i64 (t : Int), .int .i64 i] w fun e w' => e = .returned (.int .i64 y) ∧ Below w.heap.size w w' := by
  have HD := Lib.hid hd
  have HIS := Lib.hid (fun w c0 => is_yes p bt T ct t w c0 ht)
  obtain ⟨c0, c1, r0, r1, r2, r3, r4, r5, r6, r7, r8, hpl, hbl⟩ := h
  have ht0 : ¬ (t : Int) < 0 := by omega
  have ht1 : (t : Int) < (T : Int) := by omega
  clear hd
  go_enter Try.func47, Try.ntmps47
  go_wp2_with fail
  refine (HIS.out _ (by simp [go_sem, c0])).mono ?_
  rintro e1 w1 ⟨rfl, rfl⟩
  go_wp2_with fail
  refine (HD.out _).mono ?_
  rintro e1 w1 ⟨rfl, hb⟩
  obtain ⟨os, d, rfl⟩ := ext_of hb
  clear hb
  go_wp2_with fail
  go_ret
  exact ⟨rfl, (below_ext (Below.refl _ _) (Nat.le_refl _) _ _).alloc (by simp [go_sem]) _⟩

set_option maxRecDepth 100000 in
set_option maxHeartbeats 2000000 in
theorem rdup_yes (h : Vw 91 F w p G bt ct ov gs cs) (t : Nat) (ht : t < G.ts.length) (i : Int) (x : Rt)
    (hd : ∀ w, Calls Try.prog 23 #[rv (G.rt t), .int .i64 i] w fun e w' => e = .returned (.tuple #[rv x, .int .i64 0]) ∧ Below w.heap.size w w') :
    Calls Try.prog 47 #[.pointer (some ⟨p, 0, none⟩), .int .i64 (t : Int), .int .i64 i] w (TurnT 91 F w p (⟨G.ts.set t x, G.os⟩, 0)) := by
  have HD := Lib.hid hd
  have HIS := Lib.hid (fun w c0 => is_yes p bt G.ts.length ct t w c0 ht)
  obtain ⟨A, c, hov, _⟩ := h.orow
  obtain ⟨c0, c1, r0, r1, r2, r3, r4, r5, r6, r7, r8, hpl, hbl⟩ := h.fpre hov ht
  have hfz : ∀ j, w.frozen? ⟨bt, j, none⟩ = false := World.ownsRow.frozenAt h.hts
  have h64 := h.h64
  have HW := Lib.hid h
  have ht0 : ¬ (t : Int) < 0 := by omega
  have htt : (t : Int) < (G.ts.length : Int) := by omega
  have hpb : p ≠ bt := h.p_bt
  clear hd h hov
  obtain ⟨r, hr⟩ : ∃ r, r = G.rt t := ⟨_, rfl⟩
  rw [← hr] at r0 r1 r2 r3 r4 r5 r6 r7 r8 HD
  clear hr
  obtain ⟨y, y0, y1, y2, y3, y4, y5, y6, y7⟩ := x
  go_enter Try.func47, Try.ntmps47
  go_wp2_with fail
  refine (HIS.out _ (by simp [go_sem, c0])).mono ?_
  rintro e1 w1 ⟨rfl, rfl⟩
  go_wp2_with fail
  refine (HD.out _).mono ?_
  rintro e1 w1 ⟨rfl, hb⟩
  obtain ⟨os, d, rfl⟩ := ext_of hb
  clear hb
  go_wp2_with fail
  go_region
  all_goals (
    go_wp2_with fail
    go_ret
    exact ⟨rfl, turnT_end HW.out ht _ ((((below_ext (Below.refl _ _) (Nat.le_of_eq (setRt_size _ _ _ _).symm) _ _).alloc (by simp [go_sem, World.setCell]) _)).drew)⟩)

theorem rdup_any (h : Vw 91 F w p G bt ct ov gs cs) (t : Int) (i : Int) : Calls Try.prog 47 #[.pointer (some ⟨p, 0, none⟩), .int .i64 t, .int .i64 i] w (TurnT 91 F w p (G.dup t i)) := by
  by_cases hn : G.not t
  · have e : G.dup t i = (G, 1) := by unfold Gd.dup Gd.turn; rw [if_pos hn]
    rw [e]
    exact rdup_not h t i hn
  · have hn' := hn
    unfold Gd.not at hn'
    obtain ⟨t', rfl⟩ : ∃ t' : Nat, t = t' := ⟨t.toNat, by omega⟩
    have e0 : G.dup t' i = G.turn t' ((G.rt t').dup i) := rfl
    rw [e0]
    obtain ⟨x, y, hxy⟩ : ∃ x y, (G.rt t').dup i = (x, y) := ⟨_, _, rfl⟩
    have hd := fun w => (dupR_any (G.rt t') i w).mono fun e w' hx => by
      show e = .returned (.tuple #[rv x, .int .i64 y]) ∧ Below w.heap.size w w'
      unfold DupP at hx
      rw [hxy] at hx
      exact hx
    rw [hxy]
    by_cases hy : y = 0
    · subst hy
      have e : G.turn t' (x, 0) = (⟨G.ts.set t' x, G.os⟩, 0) := by unfold Gd.turn; rw [if_neg hn, if_pos rfl]; rfl
      rw [e]
      exact rdup_yes h t' (by omega) i x hd
    · have e : G.turn t' (x, y) = (G, y) := by unfold Gd.turn; rw [if_neg hn, if_neg hy]
      rw [e]
      obtain ⟨A, c, hov, _⟩ := h.orow
      refine (rdup_err p bt A G.ts.length ct G.os.length c t' i (G.rt t') w (h.fpre hov (by omega)) (by omega) h.h64 x y hd hy).mono ?_
      rintro e1 w1 ⟨rfl, hb⟩
      exact ⟨rfl, h.gr hb, Only.of_below hb⟩

set_option maxRecDepth 100000 in
set_option maxHeartbeats 1000000 in
theorem rput_not (h : Vw 91 F w p G bt ct ov gs cs) (t : Int) (id : Int) (hn : G.not t) : Calls Try.prog 43 #[.pointer (some ⟨p, 0, none⟩), .int .i64 t, .int .i64 id] w (TurnT 91 F w p (G, 1)) := by
  have HG := Lib.hid (h.gr (below_refl w))
  have HIS := Lib.hid (fun w c0 => is_no p bt G.ts.length ct t w c0 hn)
  obtain ⟨c0, c1⟩ := h.pcell
  have hpl := h.plt
  clear h hn
  go_enter Try.func43, Try.ntmps43
  go_wp2_with fail
  refine (HIS.out _ (by simp [go_sem, c0])).mono ?_
  rintro e1 w1 ⟨rfl, rfl⟩
  go_wp2_with fail
  go_ret
  exact ⟨rfl, HG.out, Only.refl _ _⟩

set_option maxRecDepth 100000 in
set_option maxHeartbeats 1000000 in
theorem rput_bad (h : Vw 91 F w p G bt ct ov gs cs) (t : Nat) (ht : t < G.ts.length) (id : Int) (hi : id < 0 ∨ (G.os.length : Int) < id) : Calls Try.prog 43 #[.pointer (some ⟨p, 0, none⟩), .int .i64 (t : Int), .int .i64 id] w (TurnT 91 F w p (G, 1)) := by
  have HG := Lib.hid (h.gr (below_refl w))
  have HIS := Lib.hid (fun w c0 => is_yes p bt G.ts.length ct t w c0 ht)
  obtain ⟨A, c, hov, _⟩ := h.orow
  obtain ⟨c0, c1⟩ := h.pcell
  rw [hov] at c1
  have hpl := h.plt
  clear h hov
  by_cases h0 : id < 0
  · clear hi
    go_enter Try.func43, Try.ntmps43
    go_wp2_with fail
    refine (HIS.out _ (by simp [go_sem, c0])).mono ?_
    rintro e1 w1 ⟨rfl, rfl⟩
    go_wp2_with fail
    go_ret
    exact ⟨rfl, HG.out, Only.refl _ _⟩
  · have h1 : (G.os.length : Int) < id := by omega
    clear hi
    go_enter Try.func43, Try.ntmps43
    go_wp2_with fail
    refine (HIS.out _ (by simp [go_sem, c0])).mono ?_
    rintro e1 w1 ⟨rfl, rfl⟩
    go_wp2_with fail
    go_ret
    exact ⟨rfl, HG.out, Only.refl _ _⟩

set_option maxRecDepth 100000 in
set_option maxHeartbeats 1000000 in
theorem rput_err (p bt : Nat) (A : Option Addr) (T ct M c t : Nat) (id : Int) (r : Rt) (w : World) (h : FPre w p bt A T ct M c t r) (ht : t < T) (hT : T ≤ 64) (hi : ¬ id < 0) (hi2 : ¬ (M : Int) < id) (x : Rt) (y : Int)
    (hd : ∀ w, Calls Try.prog 20 #[rv r, .int .i64 id] w fun e w' => e = .returned (.tuple #[rv x, .int .i64 y]) ∧ Below w.heap.size w w') (hy : y ≠ 0) :
    Calls Try.prog 43 #[.pointer (some ⟨p, 0, none⟩), .int .i64 (t : Int), .int .i64 id] w fun e w' => e = .returned (.int .i64 y) ∧ Below w.heap.size w w' := by
  have HD := Lib.hid hd
  have HIS := Lib.hid (fun w c0 => is_yes p bt T ct t w c0 ht)
  obtain ⟨c0, c1, r0, r1, r2, r3, r4, r5, r6, r7, r8, hpl, hbl⟩ := h
  have ht0 : ¬ (t : Int) < 0 := by omega
  have ht1 : (t : Int) < (T : Int) := by omega
  clear hd
  go_enter Try.func43, Try.ntmps43
  go_wp2_with fail
  refine (HIS.out _ (by simp [go_sem, c0])).mono ?_
  rintro e1 w1 ⟨rfl, rfl⟩
  go_wp2_with fail
  refine (HD.out _).mono ?_
  rintro e1 w1 ⟨rfl, hb⟩
  obtain ⟨os, d, rfl⟩ := ext_of hb
  clear hb
  go_wp2_with fail
  go_ret
  exact ⟨rfl, (below_ext (Below.refl _ _) (Nat.le_refl _) _ _).alloc (by simp [go_sem]) _⟩

set_option maxRecDepth 100000 in
set_option maxHeartbeats 2000000 in
theorem rput_yes (h : Vw 91 F w p G bt ct ov gs cs) (t : Nat) (ht : t < G.ts.length) (id : Int) (hi : ¬ id < 0) (hi2 : ¬ (G.os.length : Int) < id) (x : Rt)
    (hd : ∀ w, Calls Try.prog 20 #[rv (G.rt t), .int .i64 id] w fun e w' => e = .returned (.tuple #[rv x, .int .i64 0]) ∧ Below w.heap.size w w') :
    Calls Try.prog 43 #[.pointer (some ⟨p, 0, none⟩), .int .i64 (t : Int), .int .i64 id] w (TurnT 91 F w p (⟨G.ts.set t x, G.os⟩, 0)) := by
  have HD := Lib.hid hd
  have HIS := Lib.hid (fun w c0 => is_yes p bt G.ts.length ct t w c0 ht)
  obtain ⟨A, c, hov, _⟩ := h.orow
  obtain ⟨c0, c1, r0, r1, r2, r3, r4, r5, r6, r7, r8, hpl, hbl⟩ := h.fpre hov ht
  have hfz : ∀ j, w.frozen? ⟨bt, j, none⟩ = false := World.ownsRow.frozenAt h.hts
  have h64 := h.h64
  have HW := Lib.hid h
  have ht0 : ¬ (t : Int) < 0 := by omega
  have htt : (t : Int) < (G.ts.length : Int) := by omega
  have hpb : p ≠ bt := h.p_bt
  clear hd h hov
  obtain ⟨r, hr⟩ : ∃ r, r = G.rt t := ⟨_, rfl⟩
  rw [← hr] at r0 r1 r2 r3 r4 r5 r6 r7 r8 HD
  clear hr
  obtain ⟨y, y0, y1, y2, y3, y4, y5, y6, y7⟩ := x
  go_enter Try.func43, Try.ntmps43
  go_wp2_with fail
  refine (HIS.out _ (by simp [go_sem, c0])).mono ?_
  rintro e1 w1 ⟨rfl, rfl⟩
  go_wp2_with fail
  refine (HD.out _).mono ?_
  rintro e1 w1 ⟨rfl, hb⟩
  obtain ⟨os, d, rfl⟩ := ext_of hb
  clear hb
  go_wp2_with fail
  go_region
  all_goals (
    go_wp2_with fail
    go_ret
    exact ⟨rfl, turnT_end HW.out ht _ ((((below_ext (Below.refl _ _) (Nat.le_of_eq (setRt_size _ _ _ _).symm) _ _).alloc (by simp [go_sem, World.setCell]) _)).drew)⟩)

theorem rput_any (h : Vw 91 F w p G bt ct ov gs cs) (t : Int) (id : Int) : Calls Try.prog 43 #[.pointer (some ⟨p, 0, none⟩), .int .i64 t, .int .i64 id] w (TurnT 91 F w p (G.put t id)) := by
  by_cases hn : G.not t
  · have e : G.put t id = (G, 1) := by unfold Gd.put; rw [if_pos hn]
    rw [e]
    exact rput_not h t id hn
  · have hn' := hn
    unfold Gd.not at hn'
    obtain ⟨t', rfl⟩ : ∃ t' : Nat, t = t' := ⟨t.toNat, by omega⟩
    by_cases hi : id < 0 ∨ (G.os.length : Int) < id
    · have e : G.put t' id = (G, 1) := by unfold Gd.put; rw [if_neg hn, if_pos hi]
      rw [e]
      exact rput_bad h t' (by omega) id hi
    have hi0 : ¬ id < 0 := by omega
    have hi1 : ¬ (G.os.length : Int) < id := by omega
    have e0 : G.put t' id = G.turn t' ((G.rt t').push id) := by unfold Gd.put; rw [if_neg hn, if_neg hi]
    rw [e0]
    obtain ⟨x, y, hxy⟩ : ∃ x y, (G.rt t').push id = (x, y) := ⟨_, _, rfl⟩
    have hd := fun w => (pushR_any (G.rt t') id w).mono fun e w' hx => by
      show e = .returned (.tuple #[rv x, .int .i64 y]) ∧ Below w.heap.size w w'
      unfold PushP at hx
      rw [hxy] at hx
      exact hx
    rw [hxy]
    by_cases hy : y = 0
    · subst hy
      have e : G.turn t' (x, 0) = (⟨G.ts.set t' x, G.os⟩, 0) := by unfold Gd.turn; rw [if_neg hn, if_pos rfl]; rfl
      rw [e]
      exact rput_yes h t' (by omega) id hi0 hi1 x hd
    · have e : G.turn t' (x, y) = (G, y) := by unfold Gd.turn; rw [if_neg hn, if_neg hy]
      rw [e]
      obtain ⟨A, c, hov, _⟩ := h.orow
      refine (rput_err p bt A G.ts.length ct G.os.length c t' id (G.rt t') w (h.fpre hov (by omega)) (by omega) h.h64 hi0 hi1 x y hd hy).mono ?_
      rintro e1 w1 ⟨rfl, hb⟩
      exact ⟨rfl, h.gr hb, Only.of_below hb⟩
end

end Go.Proofs.Ytlogojiphjpknaa
