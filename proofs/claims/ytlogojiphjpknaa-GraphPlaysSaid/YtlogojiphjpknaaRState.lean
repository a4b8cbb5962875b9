/- A graph and the reference's graph beside each other, and other blocks of the call's own, which no call of either turns. No condition. -/
import Derived.Test.YtlogojiphjpknaaGOps
import Derived.Test.YtlogojiphjpknaaRClone
import Derived.Test.YtlogojiphjpknaaRShape
import Derived.Test.YtlogojiphjpknaaRSwap
import Derived.Test.YtlogojiphjpknaaRAlloc
namespace Go.Proofs.Ytlogojiphjpknaa
open Go.RowKit
set_option linter.unusedVariables false

/-- the graph G at p in F, the reference's graph H at q in E, apart from each other and from C -/
structure GG (w0 w : World) (p q : Nat) (G H : Gd) (C F E : Nat → Prop) : Prop where
  g : Gr 79 F w p G
  y : Gr 91 E w q H
  f : ∀ k, F k → w0.heap.size ≤ k ∧ k < w.heap.size ∧ ¬ C k ∧ ¬ E k
  e : ∀ k, E k → w0.heap.size ≤ k ∧ k < w.heap.size ∧ ¬ C k
  bl : Below w0.heap.size w0 w
  cb : ∀ k, C k → k < w.heap.size
  og : G.Ok
  oy : H.Ok

def Gs (w0 w : World) (p q : Nat) (G H : Gd) (C : Nat → Prop) : Prop := ∃ F E, GG w0 w p q G H C F E
def StG (w0 : World) (p q : Nat) (C : Nat → Prop) (w : World) (r : Value) (G' H' : Gd) (e : Ending) (w' : World) : Prop := e = .returned r ∧ Gs w0 w' p q G' H' C ∧ Keep C w w'

section
variable {w0 w w' : World} {p q : Nat} {G G' H H' : Gd} {C F E : Nat → Prop}

theorem GG.turn_g (h : GG w0 w p q G H C F E) (hg : Gr 79 (Grow F w w') w' p G') (ho : Only F w w') (hok : G'.Ok) : GG w0 w' p q G' H C (Grow F w w') E ∧ Keep C w w' := by
  have hs := h.bl.size
  have hs2 := ho.size
  refine ⟨⟨hg, h.y.only ho (fun k he hf => (h.f k hf).2.2.2 he), fun k hk => ?_, fun k hk => ⟨(h.e k hk).1, Nat.lt_of_lt_of_le (h.e k hk).2.1 hs2, (h.e k hk).2.2⟩, ?_, fun k hk => Nat.lt_of_lt_of_le (h.cb k hk) hs2, hok, h.oy⟩, hs2, fun k hk => ho.block k (h.cb k hk) (fun hf => (h.f k hf).2.2.1 hk)⟩
  · rcases hk with hk | hk
    · exact ⟨(h.f k hk).1, Nat.lt_of_lt_of_le (h.f k hk).2.1 hs2, (h.f k hk).2.2⟩
    · exact ⟨Nat.le_trans hs hk.1, hk.2, fun hc => by have := h.cb k hc; omega, fun he => by have := (h.e k he).2.1; omega⟩
  · exact h.bl.trans ⟨ho.os, ho.tape, ho.output, ho.size, fun k hk => ho.block k (by omega) (fun hf => by have := (h.f k hf).1; omega)⟩
theorem GG.turn_y (h : GG w0 w p q G H C F E) (hg : Gr 91 (Grow E w w') w' q H') (ho : Only E w w') (hok : H'.Ok) : GG w0 w' p q G H' C F (Grow E w w') ∧ Keep C w w' := by
  have hs := h.bl.size
  have hs2 := ho.size
  refine ⟨⟨h.g.only ho (fun k hf he => (h.f k hf).2.2.2 he), hg, fun k hk => ⟨(h.f k hk).1, Nat.lt_of_lt_of_le (h.f k hk).2.1 hs2, (h.f k hk).2.2.1, fun he => ?_⟩, fun k hk => ?_, ?_, fun k hk => Nat.lt_of_lt_of_le (h.cb k hk) hs2, h.og, hok⟩, hs2, fun k hk => ho.block k (h.cb k hk) (fun hf => (h.e k hf).2.2 hk)⟩
  · rcases he with he | he
    · exact (h.f k hk).2.2.2 he
    · have := (h.f k hk).2.1; omega
  · rcases hk with hk | hk
    · exact ⟨(h.e k hk).1, Nat.lt_of_lt_of_le (h.e k hk).2.1 hs2, (h.e k hk).2.2⟩
    · exact ⟨Nat.le_trans hs hk.1, hk.2, fun hc => by have := h.cb k hc; omega⟩
  · exact h.bl.trans ⟨ho.os, ho.tape, ho.output, ho.size, fun k hk => ho.block k (by omega) (fun hf => by have := (h.e k hf).1; omega)⟩

theorem GG.also (h : GG w0 w p q G H C F E) (hb : Below w.heap.size w w') : GG w0 w' p q G H (Also C w w') F E ∧ Keep C w w' := by
  refine ⟨⟨h.g.below hb, h.y.below hb, fun k hk => ⟨(h.f k hk).1, Nat.lt_of_lt_of_le (h.f k hk).2.1 hb.size, fun hc => ?_, (h.f k hk).2.2.2⟩, fun k hk => ⟨(h.e k hk).1, Nat.lt_of_lt_of_le (h.e k hk).2.1 hb.size, fun hc => ?_⟩, h.bl.trans (hb.mono h.bl.size), fun k hk => ?_, h.og, h.oy⟩, hb.size, fun k hk => hb.block k (h.cb k hk)⟩
  · rcases hc with hc | hc
    · exact (h.f k hk).2.2.1 hc
    · have := (h.f k hk).2.1; omega
  · rcases hc with hc | hc
    · exact (h.e k hk).2.2 hc
    · have := (h.e k hk).2.1; omega
  · rcases hk with hk | hk
    · exact Nat.lt_of_lt_of_le (h.cb k hk) hb.size
    · exact hk.2
theorem GG.less (h : GG w0 w p q G H C F E) {D : Nat → Prop} (hD : ∀ k, D k → C k) : GG w0 w p q G H D F E :=
  ⟨h.g, h.y, fun k hk => ⟨(h.f k hk).1, (h.f k hk).2.1, fun hd => (h.f k hk).2.2.1 (hD k hd), (h.f k hk).2.2.2⟩, fun k hk => ⟨(h.e k hk).1, (h.e k hk).2.1, fun hd => (h.e k hk).2.2 (hD k hd)⟩, h.bl, fun k hk => h.cb k (hD k hk), h.og, h.oy⟩

theorem Gs.also (h : Gs w0 w p q G H C) (hb : Below w.heap.size w w') : Gs w0 w' p q G H (Also C w w') ∧ Keep C w w' := by
  obtain ⟨F, E, h⟩ := h
  exact ⟨⟨F, E, (h.also hb).1⟩, (h.also hb).2⟩
theorem Gs.less (h : Gs w0 w p q G H C) {D : Nat → Prop} (hD : ∀ k, D k → C k) : Gs w0 w p q G H D := by
  obtain ⟨F, E, h⟩ := h
  exact ⟨F, E, h.less hD⟩
theorem Gs.below (h : Gs w0 w p q G H C) (hb : Below w.heap.size w w') : Gs w0 w' p q G H C ∧ Keep C w w' := ⟨((h.also hb).1).less (fun k hk => .inl hk), (h.also hb).2⟩
theorem Gs.bl (h : Gs w0 w p q G H C) : Below w0.heap.size w0 w := by obtain ⟨F, E, h⟩ := h; exact h.bl
theorem Gs.og (h : Gs w0 w p q G H C) : G.Ok := by obtain ⟨F, E, h⟩ := h; exact h.og
theorem Gs.len (h : Gs w0 w p q G H C) {R : List (List Int)} {L : List (List V)} (his : G.Is R L) : R.length ≤ 64 ∧ L.length ≤ G.os.length := by
  obtain ⟨F, E, h⟩ := h
  obtain ⟨h1, MR, ML, hN⟩ := nums_of h.og his
  obtain ⟨bt, ct, ov, gs, cs, hv⟩ := h.g
  have := hv.h64
  have h2 := hN.bl L.length 0
  rw [hN.e] at h2
  exact ⟨by omega, h2⟩

theorem alloc_g (h : Gs w0 w p q G H C) (t n : Int) (hM : G.os.length < 100000) : Calls Try.prog 28 #[.pointer (some ⟨p, 0, none⟩), .int .i64 t, .int .i64 n] w (StG w0 p q C w (.int .i64 (G.alloc t n).2) (G.alloc t n).1 H) := by
  obtain ⟨F, E, h⟩ := h
  obtain ⟨bt, ct, ov, gs, cs, hv⟩ := h.g
  exact (galloc_any hv t n hM).mono fun e w' ⟨he, hg, ho⟩ => ⟨he, ⟨_, _, (h.turn_g hg ho (h.og.alloc t n)).1⟩, (h.turn_g hg ho (h.og.alloc t n)).2⟩
theorem ralloc_any (hv : ∃ bt ct ov gs cs, Vw 91 E w q H bt ct ov gs cs) (t n : Int) (hM : H.os.length < 100000) : Calls Try.prog 41 #[.pointer (some ⟨q, 0, none⟩), .int .i64 t, .int .i64 n] w (TurnT 91 E w q (H.alloc t n)) := by
  obtain ⟨bt, ct, ov, gs, cs, hv⟩ := hv
  by_cases hn : H.not t
  · have e : H.alloc t n = (H, 1) := by unfold Gd.alloc; rw [if_pos hn]
    rw [e]
    exact ralloc_not hv t n hn
  · have hn' := hn
    unfold Gd.not at hn'
    obtain ⟨t', rfl⟩ : ∃ t' : Nat, t = t' := ⟨t.toNat, by omega⟩
    by_cases hb : n < 0 ∨ 7 < n
    · have e : H.alloc t' n = (H, 10) := by unfold Gd.alloc; rw [if_neg hn, if_pos hb]
      rw [e]
      exact ralloc_bad hv t' (by omega) n hb
    · obtain ⟨x, y, hxy⟩ : ∃ x y, (H.rt t').push ((H.os.length : Int) + 1) = (x, y) := ⟨_, _, rfl⟩
      have hd := fun w => (pushR_any (H.rt t') ((H.os.length : Int) + 1) w).mono fun e w' hx => by
        show e = .returned (.tuple #[rv x, .int .i64 y]) ∧ Below w.heap.size w w'
        unfold PushP at hx
        rw [hxy] at hx
        exact hx
      by_cases hy : y = 0
      · subst hy
        have e : H.alloc t' n = (⟨H.ts.set t' x, H.os ++ [List.replicate n.toNat default]⟩, 0) := by
          unfold Gd.alloc
          rw [if_neg hn, if_neg hb, hxy, if_pos rfl]
          rfl
        rw [e]
        obtain ⟨m, rfl⟩ : ∃ m : Nat, n = m := ⟨n.toNat, by omega⟩
        exact ralloc_yes hv t' (by omega) hM m (by omega) x hd
      · have e : H.alloc t' n = (H, y) := by
          unfold Gd.alloc
          rw [if_neg hn, if_neg hb, hxy, if_neg hy]
        rw [e]
        obtain ⟨A, c, hov, _⟩ := hv.orow
        refine (ralloc_err q bt A H.ts.length ct H.os.length c t' n (H.rt t') w (hv.fpre hov (by omega)) (by omega) hv.h64 hM (by omega) (by omega) x y hd hy).mono ?_
        rintro e1 w1 ⟨rfl, hb⟩
        exact ⟨rfl, hv.gr hb, Only.of_below hb⟩
theorem alloc_y (h : Gs w0 w p q G H C) (t n : Int) (hM : H.os.length < 100000) : Calls Try.prog 41 #[.pointer (some ⟨q, 0, none⟩), .int .i64 t, .int .i64 n] w (StG w0 p q C w (.int .i64 (H.alloc t n).2) G (H.alloc t n).1) := by
  obtain ⟨F, E, h⟩ := h
  exact (ralloc_any h.y t n hM).mono fun e w' ⟨he, hg, ho⟩ => ⟨he, ⟨_, _, (h.turn_y hg ho (h.oy.alloc t n)).1⟩, (h.turn_y hg ho (h.oy.alloc t n)).2⟩
theorem put_g (h : Gs w0 w p q G H C) (t i : Int) : Calls Try.prog 39 #[.pointer (some ⟨p, 0, none⟩), .int .i64 t, .int .i64 i] w (StG w0 p q C w (.int .i64 (G.put t i).2) (G.put t i).1 H) := by
  obtain ⟨F, E, h⟩ := h
  obtain ⟨bt, ct, ov, gs, cs, hv⟩ := h.g
  exact (gput_any hv t i).mono fun e w' ⟨he, hg, ho⟩ => ⟨he, ⟨_, _, (h.turn_g hg ho (h.og.put t i)).1⟩, (h.turn_g hg ho (h.og.put t i)).2⟩
theorem put_y (h : Gs w0 w p q G H C) (t i : Int) : Calls Try.prog 43 #[.pointer (some ⟨q, 0, none⟩), .int .i64 t, .int .i64 i] w (StG w0 p q C w (.int .i64 (H.put t i).2) G (H.put t i).1) := by
  obtain ⟨F, E, h⟩ := h
  obtain ⟨bt, ct, ov, gs, cs, hv⟩ := h.y
  exact (rput_any hv t i).mono fun e w' ⟨he, hg, ho⟩ => ⟨he, ⟨_, _, (h.turn_y hg ho (h.oy.put t i)).1⟩, (h.turn_y hg ho (h.oy.put t i)).2⟩
theorem dup_g (h : Gs w0 w p q G H C) (t i : Int) : Calls Try.prog 34 #[.pointer (some ⟨p, 0, none⟩), .int .i64 t, .int .i64 i] w (StG w0 p q C w (.int .i64 (G.dup t i).2) (G.dup t i).1 H) := by
  obtain ⟨F, E, h⟩ := h
  obtain ⟨bt, ct, ov, gs, cs, hv⟩ := h.g
  exact (gdup_any hv t i).mono fun e w' ⟨he, hg, ho⟩ => ⟨he, ⟨_, _, (h.turn_g hg ho (h.og.dup t i)).1⟩, (h.turn_g hg ho (h.og.dup t i)).2⟩
theorem dup_y (h : Gs w0 w p q G H C) (t i : Int) : Calls Try.prog 47 #[.pointer (some ⟨q, 0, none⟩), .int .i64 t, .int .i64 i] w (StG w0 p q C w (.int .i64 (H.dup t i).2) G (H.dup t i).1) := by
  obtain ⟨F, E, h⟩ := h
  obtain ⟨bt, ct, ov, gs, cs, hv⟩ := h.y
  exact (rdup_any hv t i).mono fun e w' ⟨he, hg, ho⟩ => ⟨he, ⟨_, _, (h.turn_y hg ho (h.oy.dup t i)).1⟩, (h.turn_y hg ho (h.oy.dup t i)).2⟩
theorem drop_g (h : Gs w0 w p q G H C) (t : Int) : Calls Try.prog 36 #[.pointer (some ⟨p, 0, none⟩), .int .i64 t] w (StG w0 p q C w (.int .i64 (G.drop t).2) (G.drop t).1 H) := by
  obtain ⟨F, E, h⟩ := h
  obtain ⟨bt, ct, ov, gs, cs, hv⟩ := h.g
  exact (gdrop_any hv t).mono fun e w' ⟨he, hg, ho⟩ => ⟨he, ⟨_, _, (h.turn_g hg ho (h.og.drop t)).1⟩, (h.turn_g hg ho (h.og.drop t)).2⟩
theorem drop_y (h : Gs w0 w p q G H C) (t : Int) : Calls Try.prog 48 #[.pointer (some ⟨q, 0, none⟩), .int .i64 t] w (StG w0 p q C w (.int .i64 (H.drop t).2) G (H.drop t).1) := by
  obtain ⟨F, E, h⟩ := h
  obtain ⟨bt, ct, ov, gs, cs, hv⟩ := h.y
  exact (rdrop_any hv t).mono fun e w' ⟨he, hg, ho⟩ => ⟨he, ⟨_, _, (h.turn_y hg ho (h.oy.drop t)).1⟩, (h.turn_y hg ho (h.oy.drop t)).2⟩
theorem write_g (h : Gs w0 w p q G H C) (hM : G.os.length ≤ 1000) (t i f : Int) (s : V) : Calls Try.prog 31 #[.pointer (some ⟨p, 0, none⟩), .int .i64 t, .int .i64 i, .int .i64 f, vv s] w (StG w0 p q C w (.int .i64 (G.write t i f s).2) (G.write t i f s).1 H) := by
  obtain ⟨F, E, h⟩ := h
  obtain ⟨bt, ct, ov, gs, cs, hv⟩ := h.g
  exact (gwrite_any hv h.og t i f s).mono fun e w' ⟨he, hg, ho⟩ => ⟨he, ⟨_, _, (h.turn_g hg ho (write_ok h.og hM t i f s)).1⟩, (h.turn_g hg ho (write_ok h.og hM t i f s)).2⟩
theorem write_y (h : Gs w0 w p q G H C) (hM : H.os.length ≤ 1000) (t i f : Int) (s : V) : Calls Try.prog 44 #[.pointer (some ⟨q, 0, none⟩), .int .i64 t, .int .i64 i, .int .i64 f, vv s] w (StG w0 p q C w (.int .i64 (H.write t i f s).2) G (H.write t i f s).1) := by
  obtain ⟨F, E, h⟩ := h
  obtain ⟨bt, ct, ov, gs, cs, hv⟩ := h.y
  exact (rwrite_any hv h.oy t i f s).mono fun e w' ⟨he, hg, ho⟩ => ⟨he, ⟨_, _, (h.turn_y hg ho (write_ok h.oy hM t i f s)).1⟩, (h.turn_y hg ho (write_ok h.oy hM t i f s)).2⟩
theorem swap_g (h : Gs w0 w p q G H C) (hM : G.os.length ≤ 1000) (t i f : Int) (s u : V) : Calls Try.prog 32 #[.pointer (some ⟨p, 0, none⟩), .int .i64 t, .int .i64 i, .int .i64 f, vv s, vv u] w (StG w0 p q C w (.tuple #[.bool (G.swap t i f s u).2.1, .int .i64 (G.swap t i f s u).2.2]) (G.swap t i f s u).1 H) := by
  obtain ⟨F, E, h⟩ := h
  obtain ⟨bt, ct, ov, gs, cs, hv⟩ := h.g
  exact (gswap_any hv h.og t i f s u).mono fun e w' ⟨he, hg, ho⟩ => ⟨he, ⟨_, _, (h.turn_g hg ho (swap_ok h.og hM t i f s u)).1⟩, (h.turn_g hg ho (swap_ok h.og hM t i f s u)).2⟩
theorem swap_y (h : Gs w0 w p q G H C) (hM : H.os.length ≤ 1000) (t i f : Int) (s u : V) : Calls Try.prog 45 #[.pointer (some ⟨q, 0, none⟩), .int .i64 t, .int .i64 i, .int .i64 f, vv s, vv u] w (StG w0 p q C w (.tuple #[.bool (H.swap t i f s u).2.1, .int .i64 (H.swap t i f s u).2.2]) G (H.swap t i f s u).1) := by
  obtain ⟨F, E, h⟩ := h
  obtain ⟨bt, ct, ov, gs, cs, hv⟩ := h.y
  exact (rswap_any hv h.oy t i f s u).mono fun e w' ⟨he, hg, ho⟩ => ⟨he, ⟨_, _, (h.turn_y hg ho (swap_ok h.oy hM t i f s u)).1⟩, (h.turn_y hg ho (swap_ok h.oy hM t i f s u)).2⟩
theorem look_g (h : Gs w0 w p q G H C) (t i f : Int) : Calls Try.prog 33 #[.pointer (some ⟨p, 0, none⟩), .int .i64 t, .int .i64 i, .int .i64 f] w (StG w0 p q C w (.tuple #[vv (G.look t i f).1, .int .i64 (G.look t i f).2]) G H) := by
  have h0 := h
  obtain ⟨F, E, h⟩ := h
  obtain ⟨bt, ct, ov, gs, cs, hv⟩ := h.g
  exact (look_any hv h.og t i f).mono fun e w' ⟨he, hb⟩ => ⟨he, (h0.below hb).1, (h0.below hb).2⟩
theorem look_y (h : Gs w0 w p q G H C) (t i f : Int) : Calls Try.prog 42 #[.pointer (some ⟨q, 0, none⟩), .int .i64 t, .int .i64 i, .int .i64 f] w (StG w0 p q C w (.tuple #[vv (H.look t i f).1, .int .i64 (H.look t i f).2]) G H) := by
  have h0 := h
  obtain ⟨F, E, h⟩ := h
  obtain ⟨bt, ct, ov, gs, cs, hv⟩ := h.y
  exact (rlook_any hv h.oy t i f).mono fun e w' ⟨he, hb⟩ => ⟨he, (h0.below hb).1, (h0.below hb).2⟩
theorem eq_g (h : Gs w0 w p q G H C) (t i k : Int) : Calls Try.prog 35 #[.pointer (some ⟨p, 0, none⟩), .int .i64 t, .int .i64 i, .int .i64 k] w (StG w0 p q C w (.tuple #[.bool (G.eq t i k).1, .int .i64 (G.eq t i k).2]) G H) := by
  have h0 := h
  obtain ⟨F, E, h⟩ := h
  obtain ⟨bt, ct, ov, gs, cs, hv⟩ := h.g
  exact (eq_any hv t i k).mono fun e w' ⟨he, hb⟩ => ⟨he, (h0.below hb).1, (h0.below hb).2⟩
theorem eq_y (h : Gs w0 w p q G H C) (t i k : Int) : Calls Try.prog 46 #[.pointer (some ⟨q, 0, none⟩), .int .i64 t, .int .i64 i, .int .i64 k] w (StG w0 p q C w (.tuple #[.bool (H.eq t i k).1, .int .i64 (H.eq t i k).2]) G H) := by
  have h0 := h
  obtain ⟨F, E, h⟩ := h
  obtain ⟨bt, ct, ov, gs, cs, hv⟩ := h.y
  exact (req_any hv h.oy t i k).mono fun e w' ⟨he, hb⟩ => ⟨he, (h0.below hb).1, (h0.below hb).2⟩

/-- what Shape hands back -/
def ShapeG (w0 : World) (p q : Nat) (C : Nat → Prop) (w : World) (X G H : Gd) (e : Ending) (w' : World) : Prop :=
  ∃ R L Rv Lv, X.Is R L ∧ e = .returned (.agg #[Rv, Lv]) ∧ Rd w' Rv R ∧ Ld w' Lv L ∧ Gs w0 w' p q G H C ∧ Keep C w w' ∧ Below w.heap.size w w'
theorem shape_g (h : Gs w0 w p q G H C) (hM : G.os.length ≤ 1000) : Calls Try.prog 37 #[.pointer (some ⟨p, 0, none⟩)] w (ShapeG w0 p q C w G G H) := by
  have h0 := h
  obtain ⟨F, E, h⟩ := h
  obtain ⟨bt, ct, ov, gs, cs, hv⟩ := h.g
  exact (gshape_any hv h.og hM).mono fun e w' ⟨R, L, Rv, Lv, h1, h2, h3, h4⟩ => ⟨R, L, Rv, Lv, h1, h2, h3.rd.1.rd, h3.rd.2.rd, (h0.below h4).1, (h0.below h4).2, h4⟩
theorem shape_y (h : Gs w0 w p q G H C) (hM : H.os.length ≤ 1000) : Calls Try.prog 50 #[.pointer (some ⟨q, 0, none⟩)] w (ShapeG w0 p q C w H G H) := by
  have h0 := h
  obtain ⟨F, E, h⟩ := h
  obtain ⟨bt, ct, ov, gs, cs, hv⟩ := h.y
  exact (rshape_any hv h.oy hM).mono fun e w' ⟨R, L, Rv, Lv, h1, h2, h3, h4⟩ => ⟨R, L, Rv, Lv, h1, h2, h3.rd.1.rd, h3.rd.2.rd, (h0.below h4).1, (h0.below h4).2, h4⟩

/-- behind Clone: the elder graph beside the two others, which stay whatever is done with it -/
def CloneG (w0 : World) (p q : Nat) (C : Nat → Prop) (w : World) (G H : Gd) (e : Ending) (w' : World) : Prop :=
  ∃ p' D, e = .returned (.pointer (some ⟨p', 0, none⟩)) ∧ GS w0 w' p G D ∧ Keep C w w' ∧ ∀ w'', GS w0 w'' p (⟨[], []⟩ : Gd) (fun _ => False) ∨ Below w0.heap.size w0 w'' → Keep D w' w'' → Gs w0 w'' p' q G H C ∧ Keep C w' w''
theorem clone_g (h : Gs w0 w p q G H C) (hM : G.os.length ≤ 1000) : Calls Try.prog 49 #[.pointer (some ⟨p, 0, none⟩)] w (CloneG w0 p q C w G H) := by
  have h0 := h
  obtain ⟨F, E, h⟩ := h
  obtain ⟨bt, ct, ov, gs, cs, hv⟩ := h.g
  refine (gclone_any hv h.og hM).mono fun e w' ⟨p', he, hg, hb⟩ => ⟨p', fun k => C k ∨ E k ∨ (w.heap.size ≤ k ∧ k < w'.heap.size), he, ?_, (h0.below hb).2, ?_⟩
  · refine ⟨⟨F, ⟨bt, ct, ov, gs, cs, hv.below hb⟩, fun k hk => ⟨(h.f k hk).1, Nat.lt_of_lt_of_le (h.f k hk).2.1 hb.size, fun hc => ?_⟩⟩, h.bl.trans (hb.mono h.bl.size), fun k hk => ?_, h.og⟩
    · rcases hc with hc | hc | hc
      · exact (h.f k hk).2.2.1 hc
      · exact (h.f k hk).2.2.2 hc
      · have := (h.f k hk).2.1; omega
    · rcases hk with hk | hk | hk
      · exact Nat.lt_of_lt_of_le (h.cb k hk) hb.size
      · exact Nat.lt_of_lt_of_le (h.e k hk).2.1 hb.size
      · exact hk.2
  · intro w'' hbl hk
    have hbl' : Below w0.heap.size w0 w'' := by
      rcases hbl with h1 | h1
      · exact h1.bl
      · exact h1
    have hs := hk.1
    have hs0 := h.bl.size
    obtain ⟨b2, c2, o2, g2, s2, hv2⟩ := hg
    obtain ⟨b3, c3, o3, g3, s3, hv3⟩ := h.y
    refine ⟨⟨(fun k => w.heap.size ≤ k ∧ k < w'.heap.size), E, ⟨⟨b2, c2, o2, g2, s2, hv2.same fun k hf _ => hk.2 k (.inr (.inr hf))⟩, ⟨b3, c3, o3, g3, s3, (hv3.below hb).same fun k hf _ => hk.2 k (.inr (.inl hf))⟩, fun k hf => ⟨by omega, by omega, fun hc => by have := h.cb k hc; omega, fun he => by have := (h.e k he).2.1; omega⟩, fun k he => ⟨(h.e k he).1, by have := (h.e k he).2.1; have := hb.size; omega, (h.e k he).2.2⟩, hbl', fun k hc => by have := h.cb k hc; have := hb.size; omega, h.og, h.oy⟩⟩, hs, fun k hc => hk.2 k (.inl hc)⟩
end

end Go.Proofs.Ytlogojiphjpknaa
