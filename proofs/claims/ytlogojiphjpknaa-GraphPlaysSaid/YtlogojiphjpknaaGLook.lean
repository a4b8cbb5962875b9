/- (*graph.Graph).Look and Eq: what they tell. No condition. -/
import Derived.Test.YtlogojiphjpknaaGField
namespace Go.Proofs.Ytlogojiphjpknaa
open Go.RowKit
set_option linter.unusedVariables false

abbrev vv (v : V) : Value := .agg #[.int .i64 v.k, .int .i64 v.n]
def LookP (w : World) (G : Gd) (t i f : Int) (e : Ending) (w' : World) : Prop := e = .returned (.tuple #[vv (G.look t i f).1, .int .i64 (G.look t i f).2]) ∧ Below w.heap.size w w'
def EqP (w : World) (G : Gd) (t i k : Int) (e : Ending) (w' : World) : Prop := e = .returned (.tuple #[.bool (G.eq t i k).1, .int .i64 (G.eq t i k).2]) ∧ Below w.heap.size w w'

section
variable {F : Nat → Prop} {w : World} {p : Nat} {G : Gd} {bt ct : Nat} {ov : Value} {gs cs : List Nat}

set_option maxRecDepth 100000 in
set_option maxHeartbeats 1000000 in
theorem look_any (h : Vw 79 F w p G bt ct ov gs cs) (hok : G.Ok) (t i f : Int) : Calls Try.prog 33 #[.pointer (some ⟨p, 0, none⟩), .int .i64 t, .int .i64 i, .int .i64 f] w (LookP w G t i f) := by
  unfold LookP Gd.look
  by_cases he : G.ferr t i f = 0
  · obtain ⟨hn, hg, hk, hob, hf, hl, hv⟩ := ferr_yes hok he
    obtain ⟨c0, c1⟩ := h.fcell hk hl
    rw [← hv] at c0 c1
    have hgl := h.glt hk
    have HF := Lib.hid (fun (o : Obj) => field_yes (h.below ((below_refl w).alloc (Nat.le_refl _) o)) hok t i f he)
    rw [if_pos he]
    clear hn hg hk hob hf hl hv h
    generalize G.fval t i f = v at *
    generalize gs.getD (G.at_ t i) 0 = g at *
    generalize f.toNat = l at *
    go_enter Try.func33, Try.ntmps33
    go_wp2_with fail
    refine (HF.out _).mono ?_
    rintro e1 w1 ⟨rfl, hb⟩
    obtain ⟨os, d, rfl⟩ := ext_of hb
    clear hb
    go_wp2_with fail
    refine bodyPost_ret (v := .tuple #[vv v, .int .i64 0]) (by simp [results, Try.results33, go_sem]) rfl ⟨rfl, ?_⟩
    exact below_ext ((Below.refl _ _).alloc (Nat.le_refl _) _) (by simp) _ _
  · have HF := Lib.hid (fun (o : Obj) => field_no (h.below ((below_refl w).alloc (Nat.le_refl _) o)) hok t i f he)
    rw [if_neg he]
    clear h
    generalize G.ferr t i f = x at *
    go_enter Try.func33, Try.ntmps33
    go_wp2_with fail
    refine (HF.out _).mono ?_
    rintro e1 w1 ⟨rfl, hb⟩
    obtain ⟨os, d, rfl⟩ := ext_of hb
    clear hb
    go_wp2_with fail
    refine bodyPost_ret (v := .tuple #[vv default, .int .i64 x]) (by simp [results, Try.results33, go_sem]; exact ⟨rfl, rfl⟩) rfl ⟨rfl, ?_⟩
    exact below_ext ((Below.refl _ _).alloc (Nat.le_refl _) _) (by simp) _ _

set_option maxRecDepth 100000 in
set_option maxHeartbeats 1000000 in
theorem eq_not (h : Vw 79 F w p G bt ct ov gs cs) (t i k : Int) (hn : G.not t) : Calls Try.prog 35 #[.pointer (some ⟨p, 0, none⟩), .int .i64 t, .int .i64 i, .int .i64 k] w (EqP w G t i k) := by
  unfold EqP Gd.eq
  rw [if_pos hn]
  obtain ⟨c0, c1⟩ := h.pcell
  clear h
  rcases hn with hn | hn
  · go_enter Try.func35, Try.ntmps35
    go_wp2_with fail
    go_ret2
    exact ⟨rfl, below_refl _⟩
  · by_cases ht : t < 0
    · go_enter Try.func35, Try.ntmps35
      go_wp2_with fail
      go_ret2
      exact ⟨rfl, below_refl _⟩
    · go_enter Try.func35, Try.ntmps35
      go_wp2_with fail
      go_ret2
      exact ⟨rfl, below_refl _⟩

set_option maxRecDepth 100000 in
set_option maxHeartbeats 1000000 in
theorem eq_walk (p bt : Nat) (A : Option Addr) (T ct M c t : Nat) (r : Rt) (i k : Int) (w : World) (h : FPre w p bt A T ct M c t r) (ht : t < T) (hT : T ≤ 64) :
    Calls Try.prog 35 #[.pointer (some ⟨p, 0, none⟩), .int .i64 t, .int .i64 i, .int .i64 k] w fun e w' =>
      e = .returned (.tuple #[.bool (if (r.get i).2 ≠ 0 then false else if (r.get k).2 ≠ 0 then false else decide ((r.get i).1 = (r.get k).1)), .int .i64 (if (r.get i).2 ≠ 0 then (r.get i).2 else (r.get k).2)]) ∧ Below w.heap.size w w' := by
  obtain ⟨a, x, hx⟩ : ∃ a x, r.get i = (a, x) := ⟨_, _, rfl⟩
  obtain ⟨b, y, hy⟩ : ∃ b y, r.get k = (b, y) := ⟨_, _, rfl⟩
  have HI := Lib.hid (get_at r i hx)
  have HK := Lib.hid (get_at r k hy)
  rw [hx, hy]
  obtain ⟨c0, c1, r0, r1, r2, r3, r4, r5, r6, r7, r8, hpl, hbl⟩ := h
  have ht0 : ¬ (t : Int) < 0 := by omega
  have ht1 : ¬ (T : Int) ≤ t := by omega
  clear hx hy
  by_cases hx0 : x = 0
  · subst hx0
    by_cases hy0 : y = 0
    · subst hy0
      go_enter Try.func35, Try.ntmps35
      go_wp2_with fail
      refine (HI.out _).mono ?_
      rintro e1 w1 ⟨rfl, hb⟩
      obtain ⟨os, d, rfl⟩ := ext_of hb
      clear hb
      go_wp2_with fail
      refine (HK.out _).mono ?_
      rintro e1 w1 ⟨rfl, hb⟩
      obtain ⟨os2, d2, rfl⟩ := ext_of hb
      clear hb
      go_wp2_with fail
      go_ret2
      refine ⟨?_, ?_⟩
      · by_cases hab : a = b <;> simp [hab]
      · repeat (first | with_reducible exact Below.refl _ _ | refine below_ext ?_ (by simp [go_sem]) _ _)
    · go_enter Try.func35, Try.ntmps35
      go_wp2_with fail
      refine (HI.out _).mono ?_
      rintro e1 w1 ⟨rfl, hb⟩
      obtain ⟨os, d, rfl⟩ := ext_of hb
      clear hb
      go_wp2_with fail
      refine (HK.out _).mono ?_
      rintro e1 w1 ⟨rfl, hb⟩
      obtain ⟨os2, d2, rfl⟩ := ext_of hb
      clear hb
      go_wp2_with fail
      go_ret2
      refine ⟨?_, ?_⟩
      · simp
      · repeat (first | with_reducible exact Below.refl _ _ | refine below_ext ?_ (by simp [go_sem]) _ _)
  · go_enter Try.func35, Try.ntmps35
    go_wp2_with fail
    refine (HI.out _).mono ?_
    rintro e1 w1 ⟨rfl, hb⟩
    obtain ⟨os, d, rfl⟩ := ext_of hb
    clear hb
    go_wp2_with fail
    go_ret2
    refine ⟨?_, ?_⟩
    · simp
    · repeat (first | with_reducible exact Below.refl _ _ | refine below_ext ?_ (by simp [go_sem]) _ _)

theorem eq_any (h : Vw 79 F w p G bt ct ov gs cs) (t i k : Int) : Calls Try.prog 35 #[.pointer (some ⟨p, 0, none⟩), .int .i64 t, .int .i64 i, .int .i64 k] w (EqP w G t i k) := by
  by_cases hn : G.not t
  · exact eq_not h t i k hn
  · have hn' := hn
    unfold Gd.not at hn'
    obtain ⟨A, c, hov, hrow⟩ := h.orow
    obtain ⟨t', rfl⟩ : ∃ t' : Nat, t = t' := ⟨t.toNat, by omega⟩
    refine (eq_walk p bt A G.ts.length ct G.os.length c t' (G.rt t') i k w (h.fpre hov (by omega)) (by omega) h.h64).mono ?_
    rintro e w' ⟨rfl, hb⟩
    refine ⟨?_, hb⟩
    unfold Gd.eq
    rw [if_neg hn]
    by_cases h1 : ((G.rt t').get i).2 = 0
    · by_cases h2 : ((G.rt t').get k).2 = 0 <;> simp [h1, h2]
    · simp [h1]
end

end Go.Proofs.Ytlogojiphjpknaa
