/- A graph of the call's own beside other blocks of the call's own, which no call of the graph turns. No condition. -/
import Derived.Test.YtlogojiphjpknaaGSame
import Derived.Test.YtlogojiphjpknaaGAllocW
import Derived.Test.YtlogojiphjpknaaGSwap
import Derived.Test.YtlogojiphjpknaaGNew
namespace Go.Proofs.Ytlogojiphjpknaa
open Go.RowKit
set_option linter.unusedVariables false

/-- the graph G at p, apart from the blocks of C -/
structure GS (w0 w : World) (p : Nat) (G : Gd) (C : Nat → Prop) : Prop where
  gr : ∃ F, Gr 79 F w p G ∧ ∀ k, F k → w0.heap.size ≤ k ∧ k < w.heap.size ∧ ¬ C k
  bl : Below w0.heap.size w0 w
  cb : ∀ k, C k → k < w.heap.size
  ok : G.Ok

/-- the blocks of C are as they were -/
def Keep (C : Nat → Prop) (w w' : World) : Prop := w.heap.size ≤ w'.heap.size ∧ ∀ k, C k → w'.heap[k]? = w.heap[k]?

theorem Keep.trans {C : Nat → Prop} {a b c : World} (h : Keep C a b) (k : Keep C b c) : Keep C a c := ⟨Nat.le_trans h.1 k.1, fun i hi => (k.2 i hi).trans (h.2 i hi)⟩
theorem Keep.cell {C : Nat → Prop} {w w' : World} (h : Keep C w w') {b i : Nat} (hb : C b) : w'.cell? ⟨b, i, none⟩ = w.cell? ⟨b, i, none⟩ := World.cell?_of_block (a := ⟨b, i, none⟩) (h.2 b hb)

section
variable {w0 w w' : World} {p : Nat} {G G' : Gd} {C : Nat → Prop} {F : Nat → Prop}

theorem GS.turned (h : GS w0 w p G C) (hF : ∀ k, F k → w0.heap.size ≤ k ∧ k < w.heap.size ∧ ¬ C k) (hg : Gr 79 (Grow F w w') w' p G') (ho : Only F w w') (hok : G'.Ok) : GS w0 w' p G' C ∧ Keep C w w' := by
  have hs := h.bl.size
  have hs2 := ho.size
  refine ⟨⟨⟨_, hg, fun k hk => ?_⟩, ?_, fun k hk => Nat.lt_of_lt_of_le (h.cb k hk) hs2, hok⟩, hs2, fun k hk => ho.block k (h.cb k hk) (fun hf => (hF k hf).2.2 hk)⟩
  · rcases hk with hk | hk
    · exact ⟨(hF k hk).1, Nat.lt_of_lt_of_le (hF k hk).2.1 hs2, (hF k hk).2.2⟩
    · exact ⟨Nat.le_trans hs hk.1, hk.2, fun hc => by have := h.cb k hc; omega⟩
  · exact h.bl.trans ⟨ho.os, ho.tape, ho.output, ho.size, fun k hk => ho.block k (by omega) (fun hf => by have := (hF k hf).1; omega)⟩

theorem GS.below (h : GS w0 w p G C) (hb : Below w.heap.size w w') : GS w0 w' p G C ∧ Keep C w w' := by
  obtain ⟨F, hg, hF⟩ := h.gr
  exact ⟨⟨⟨F, hg.below hb, fun k hk => ⟨(hF k hk).1, Nat.lt_of_lt_of_le (hF k hk).2.1 hb.size, (hF k hk).2.2⟩⟩, h.bl.trans (hb.mono h.bl.size), fun k hk => Nat.lt_of_lt_of_le (h.cb k hk) hb.size, h.ok⟩, hb.size, fun k hk => hb.block k (h.cb k hk)⟩

/-- a new block of the call's own -/
theorem GS.new (h : GS w0 w p G C) (o : Obj) : GS w0 (w.alloc o) p G (fun k => C k ∨ k = w.heap.size) := by
  obtain ⟨F, hg, hF⟩ := h.gr
  have hb : Below w.heap.size w (w.alloc o) := (Below.refl _ _).alloc (Nat.le_refl _) o
  refine ⟨⟨F, hg.below hb, fun k hk => ⟨(hF k hk).1, by have := (hF k hk).2.1; simp; omega, fun hc => ?_⟩⟩, h.bl.trans (hb.mono h.bl.size), fun k hk => ?_, h.ok⟩
  · rcases hc with hc | hc
    · exact (hF k hk).2.2 hc
    · have := (hF k hk).2.1; omega
  · rcases hk with hk | hk
    · have := h.cb k hk; simp; omega
    · simp; omega
theorem GS.less (h : GS w0 w p G C) {D : Nat → Prop} (hD : ∀ k, D k → C k) : GS w0 w p G D := by
  obtain ⟨F, hg, hF⟩ := h.gr
  exact ⟨⟨F, hg, fun k hk => ⟨(hF k hk).1, (hF k hk).2.1, fun hd => (hF k hk).2.2 (hD k hd)⟩⟩, h.bl, fun k hk => h.cb k (hD k hk), h.ok⟩
/-- one of those blocks written -/
theorem GS.set_ (h : GS w0 w p G C) {b : Nat} (hb : C b) (hB : w0.heap.size ≤ b) (i : Nat) (u : Value) : GS w0 (w.setCell ⟨b, i, none⟩ u) p G C := by
  obtain ⟨F, hg, hF⟩ := h.gr
  refine ⟨⟨F, ?_, fun k hk => ⟨(hF k hk).1, by simpa [World.setCell] using (hF k hk).2.1, (hF k hk).2.2⟩⟩, h.bl.setCell (p := ⟨b, i, none⟩) hB u, fun k hk => by simpa [World.setCell] using h.cb k hk, h.ok⟩
  obtain ⟨bt, ct, ov, gs, cs, hv⟩ := hg
  exact ⟨bt, ct, ov, gs, cs, hv.same fun k hf _ => Below.heap_setCell w ⟨b, i, none⟩ u k (fun e => (hF k hf).2.2 (e ▸ hb))⟩
theorem GS.drewN (h : GS w0 w p G C) (n : Nat) : GS w0 (w.drewN n) p G C := (h.below (below_dn (Below.refl _ _) n)).1

def StP (w0 : World) (p : Nat) (C : Nat → Prop) (w : World) (r : Value) (G' : Gd) (e : Ending) (w' : World) : Prop := e = .returned r ∧ GS w0 w' p G' C ∧ Keep C w w'

theorem new_s (n : Nat) (h1 : 1 ≤ n) (hn : n ≤ 64) (w : World) : Calls Try.prog 27 #[.int .i64 n] w fun e w' => ∃ p, e = .returned (.tuple #[.pointer (some ⟨p, 0, none⟩), .int .i64 0]) ∧ GS w w' p (Gd.new n) (fun _ => False) :=
  (gnew_yes n h1 hn w).mono fun e w' ⟨p, he, hb, hg⟩ => ⟨p, he, ⟨_, hg, fun k hk => ⟨hk.1, hk.2, fun h => h⟩⟩, hb, fun k hk => hk.elim, Gd.ok_new n⟩

theorem alloc_s (h : GS w0 w p G C) (t n : Int) (hM : G.os.length < 100000) : Calls Try.prog 28 #[.pointer (some ⟨p, 0, none⟩), .int .i64 t, .int .i64 n] w (StP w0 p C w (.int .i64 (G.alloc t n).2) (G.alloc t n).1) := by
  obtain ⟨F, ⟨bt, ct, ov, gs, cs, hv⟩, hF⟩ := h.gr
  exact (galloc_any hv t n hM).mono fun e w' ⟨he, hg, ho⟩ => ⟨he, h.turned hF hg ho (h.ok.alloc t n)⟩
theorem put_s (h : GS w0 w p G C) (t i : Int) : Calls Try.prog 39 #[.pointer (some ⟨p, 0, none⟩), .int .i64 t, .int .i64 i] w (StP w0 p C w (.int .i64 (G.put t i).2) (G.put t i).1) := by
  obtain ⟨F, ⟨bt, ct, ov, gs, cs, hv⟩, hF⟩ := h.gr
  exact (gput_any hv t i).mono fun e w' ⟨he, hg, ho⟩ => ⟨he, h.turned hF hg ho (h.ok.put t i)⟩
theorem dup_s (h : GS w0 w p G C) (t i : Int) : Calls Try.prog 34 #[.pointer (some ⟨p, 0, none⟩), .int .i64 t, .int .i64 i] w (StP w0 p C w (.int .i64 (G.dup t i).2) (G.dup t i).1) := by
  obtain ⟨F, ⟨bt, ct, ov, gs, cs, hv⟩, hF⟩ := h.gr
  exact (gdup_any hv t i).mono fun e w' ⟨he, hg, ho⟩ => ⟨he, h.turned hF hg ho (h.ok.dup t i)⟩
theorem drop_s (h : GS w0 w p G C) (t : Int) : Calls Try.prog 36 #[.pointer (some ⟨p, 0, none⟩), .int .i64 t] w (StP w0 p C w (.int .i64 (G.drop t).2) (G.drop t).1) := by
  obtain ⟨F, ⟨bt, ct, ov, gs, cs, hv⟩, hF⟩ := h.gr
  exact (gdrop_any hv t).mono fun e w' ⟨he, hg, ho⟩ => ⟨he, h.turned hF hg ho (h.ok.drop t)⟩

theorem write_ok (h : G.Ok) (hM : G.os.length ≤ 1000) (t i f : Int) (s : V) : (G.write t i f s).1.Ok := by
  unfold Gd.write
  split
  · exact h
  · split
    · exact h
    · rename_i h1 h2
      refine h.fset t i f (h.src hM t (fun hb => h1 ?_))
      unfold Gd.serr
      by_cases hn : G.not t
      · rw [if_pos hn]; decide
      · rw [if_neg hn, if_pos hb]; decide
theorem swap_ok (h : G.Ok) (hM : G.os.length ≤ 1000) (t i f : Int) (s u : V) : (G.swap t i f s u).1.Ok := by
  unfold Gd.swap
  split
  · exact h
  · split
    · exact h
    · split
      · rename_i h1 h2 h3
        refine h.fset t i f (h.src hM t (fun hb => h1 ?_))
        unfold Gd.serr2
        by_cases hn : G.not t
        · rw [if_pos hn]; decide
        · rw [if_neg hn, if_pos (.inr hb)]; decide
      · exact h

theorem write_s (h : GS w0 w p G C) (hM : G.os.length ≤ 1000) (t i f : Int) (s : V) : Calls Try.prog 31 #[.pointer (some ⟨p, 0, none⟩), .int .i64 t, .int .i64 i, .int .i64 f, vv s] w (StP w0 p C w (.int .i64 (G.write t i f s).2) (G.write t i f s).1) := by
  obtain ⟨F, ⟨bt, ct, ov, gs, cs, hv⟩, hF⟩ := h.gr
  exact (gwrite_any hv h.ok t i f s).mono fun e w' ⟨he, hg, ho⟩ => ⟨he, h.turned hF hg ho (write_ok h.ok hM t i f s)⟩
theorem swap_s (h : GS w0 w p G C) (hM : G.os.length ≤ 1000) (t i f : Int) (s u : V) : Calls Try.prog 32 #[.pointer (some ⟨p, 0, none⟩), .int .i64 t, .int .i64 i, .int .i64 f, vv s, vv u] w (StP w0 p C w (.tuple #[.bool (G.swap t i f s u).2.1, .int .i64 (G.swap t i f s u).2.2]) (G.swap t i f s u).1) := by
  obtain ⟨F, ⟨bt, ct, ov, gs, cs, hv⟩, hF⟩ := h.gr
  exact (gswap_any hv h.ok t i f s u).mono fun e w' ⟨he, hg, ho⟩ => ⟨he, h.turned hF hg ho (swap_ok h.ok hM t i f s u)⟩
theorem look_s (h : GS w0 w p G C) (t i f : Int) : Calls Try.prog 33 #[.pointer (some ⟨p, 0, none⟩), .int .i64 t, .int .i64 i, .int .i64 f] w (StP w0 p C w (.tuple #[vv (G.look t i f).1, .int .i64 (G.look t i f).2]) G) := by
  obtain ⟨F, ⟨bt, ct, ov, gs, cs, hv⟩, hF⟩ := h.gr
  exact (look_any hv h.ok t i f).mono fun e w' ⟨he, hb⟩ => ⟨he, h.below hb⟩
theorem eq_s (h : GS w0 w p G C) (t i k : Int) : Calls Try.prog 35 #[.pointer (some ⟨p, 0, none⟩), .int .i64 t, .int .i64 i, .int .i64 k] w (StP w0 p C w (.tuple #[.bool (G.eq t i k).1, .int .i64 (G.eq t i k).2]) G) := by
  obtain ⟨F, ⟨bt, ct, ov, gs, cs, hv⟩, hF⟩ := h.gr
  exact (eq_any hv t i k).mono fun e w' ⟨he, hb⟩ => ⟨he, h.below hb⟩

/-- the blocks of C and those that are new -/
def Also (C : Nat → Prop) (w w' : World) : Nat → Prop := fun k => C k ∨ (w.heap.size ≤ k ∧ k < w'.heap.size)

/-- new blocks, which no call of the graph is to turn -/
theorem GS.also (h : GS w0 w p G C) (hb : Below w.heap.size w w') : GS w0 w' p G (Also C w w') ∧ Keep C w w' := by
  obtain ⟨F, hg, hF⟩ := h.gr
  refine ⟨⟨⟨F, hg.below hb, fun k hk => ⟨(hF k hk).1, Nat.lt_of_lt_of_le (hF k hk).2.1 hb.size, fun hc => ?_⟩⟩, h.bl.trans (hb.mono h.bl.size), fun k hk => ?_, h.ok⟩, hb.size, fun k hk => hb.block k (h.cb k hk)⟩
  · rcases hc with hc | hc
    · exact (hF k hk).2.2 hc
    · have := (hF k hk).2.1; omega
  · rcases hk with hk | hk
    · exact Nat.lt_of_lt_of_le (h.cb k hk) hb.size
    · exact hk.2

/-- what Shape hands back -/
def ShapeS (w0 : World) (p : Nat) (C : Nat → Prop) (w : World) (G : Gd) (e : Ending) (w' : World) : Prop :=
  ∃ R L Rv Lv, G.Is R L ∧ e = .returned (.agg #[Rv, Lv]) ∧ RdC (Also C w w') w' Rv R ∧ LdC (Also C w w') w' Lv L ∧ GS w0 w' p G (Also C w w') ∧ Keep C w w' ∧ Below w.heap.size w w'
theorem shape_s (h : GS w0 w p G C) (hM : G.os.length ≤ 1000) : Calls Try.prog 37 #[.pointer (some ⟨p, 0, none⟩)] w (ShapeS w0 p C w G) := by
  obtain ⟨F, ⟨bt, ct, ov, gs, cs, hv⟩, hF⟩ := h.gr
  exact (gshape_any hv h.ok hM).mono fun e w' ⟨R, L, Rv, Lv, h1, h2, h3, h4⟩ => ⟨R, L, Rv, Lv, h1, h2, h3.rd.1.mono fun k hk hl => .inr ⟨hk, hl⟩, h3.rd.2.mono fun k hk hl => .inr ⟨hk, hl⟩, (h.also h4).1, (h.also h4).2, h4⟩
end

end Go.Proofs.Ytlogojiphjpknaa
