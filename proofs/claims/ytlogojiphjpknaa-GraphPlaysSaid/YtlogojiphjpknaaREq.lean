/- (*flitref07.Graph).Eq: what it tells. No condition. -/
import Derived.Test.YtlogojiphjpknaaRNamed
namespace Go.Proofs.Ytlogojiphjpknaa
open Go.RowKit
set_option linter.unusedVariables false

theorem get_err {r : Rt} (h : r.ok) (i : Int) : (r.get i).2 = 0 ∨ (r.get i).2 = 12 := by
  unfold Rt.get
  rw [if_pos h]
  split
  · exact .inr rfl
  · exact .inl rfl

set_option maxRecDepth 100000 in
set_option maxHeartbeats 1000000 in
theorem req_no (p bt T ct : Nat) (t i k : Int) (w : World) (c0 : w.cell? ⟨p, 0, none⟩ = some (.slice (some ⟨bt, 0, none⟩) T ct)) (ht : t < 0 ∨ (T : Int) ≤ t) :
    Calls Try.prog 46 #[.pointer (some ⟨p, 0, none⟩), .int .i64 t, .int .i64 i, .int .i64 k] w fun e w' => e = .returned (.tuple #[.bool false, .int .i64 1]) ∧ Below w.heap.size w w' := by
  have hpl : p < w.heap.size := block_lt c0
  have HIS := Lib.hid (fun w c0 => is_no p bt T ct t w c0 ht)
  go_enter Try.func46, Try.ntmps46
  go_wp2_with fail
  refine (HIS.out _ (by simp [go_sem, c0])).mono ?_
  rintro e1 w1 ⟨rfl, rfl⟩
  go_wp2_with fail
  go_ret2
  exact ⟨rfl, Below.refl _ _⟩

set_option maxRecDepth 100000 in
set_option maxHeartbeats 1000000 in
theorem req_walk (p bt : Nat) (A : Option Addr) (T ct M c t : Nat) (r : Rt) (i k : Int) (w : World) (h : FPre w p bt A T ct M c t r) (ht : t < T) (hT : T ≤ 64) :
    Calls Try.prog 46 #[.pointer (some ⟨p, 0, none⟩), .int .i64 t, .int .i64 i, .int .i64 k] w fun e w' =>
      e = .returned (.tuple #[.bool (if (r.get i).2 ≠ 0 then false else if (r.get k).2 ≠ 0 then false else decide ((r.get i).1 = (r.get k).1)), .int .i64 (if (r.get i).2 ≠ 0 then 12 else if (r.get k).2 ≠ 0 then 12 else 0)]) ∧ Below w.heap.size w w' := by
  obtain ⟨a, x, hx⟩ : ∃ a x, r.get i = (a, x) := ⟨_, _, rfl⟩
  obtain ⟨b, y, hy⟩ : ∃ b y, r.get k = (b, y) := ⟨_, _, rfl⟩
  have HI := Lib.hid (getR_at r i hx)
  have HK := Lib.hid (getR_at r k hy)
  have HIS := Lib.hid (fun w c0 => is_yes p bt T ct t w c0 ht)
  rw [hx, hy]
  obtain ⟨c0, c1, r0, r1, r2, r3, r4, r5, r6, r7, r8, hpl, hbl⟩ := h
  have ht0 : ¬ (t : Int) < 0 := by omega
  have ht1 : (t : Int) < (T : Int) := by omega
  clear hx hy
  by_cases hx0 : x = 0
  · subst hx0
    by_cases hy0 : y = 0
    · subst hy0
      go_enter Try.func46, Try.ntmps46
      go_wp2_with fail
      refine (HIS.out _ (by simp [go_sem, c0])).mono ?_
      rintro e1 w1 ⟨rfl, rfl⟩
      go_wp2_with fail
      refine (HI.out _).mono ?_
      rintro e1 w1 ⟨rfl, hb⟩
      obtain ⟨os, d, rfl⟩ := ext_of hb
      clear hb
      go_wp2_with fail
      refine (HK.out _).mono ?_
      rintro e1 w1 ⟨rfl, hb⟩
      obtain ⟨os2, d2, rfl⟩ := ext_of hb
      clear hb
      go_wp2_with fail
      go_ret2
      refine ⟨?_, ?_⟩
      · by_cases hab : a = b <;> simp [hab]
      · repeat (first | with_reducible exact Below.refl _ _ | refine below_ext ?_ (by simp [go_sem]) _ _)
    · go_enter Try.func46, Try.ntmps46
      go_wp2_with fail
      refine (HIS.out _ (by simp [go_sem, c0])).mono ?_
      rintro e1 w1 ⟨rfl, rfl⟩
      go_wp2_with fail
      refine (HI.out _).mono ?_
      rintro e1 w1 ⟨rfl, hb⟩
      obtain ⟨os, d, rfl⟩ := ext_of hb
      clear hb
      go_wp2_with fail
      refine (HK.out _).mono ?_
      rintro e1 w1 ⟨rfl, hb⟩
      obtain ⟨os2, d2, rfl⟩ := ext_of hb
      clear hb
      go_wp2_with fail
      go_ret2
      refine ⟨?_, ?_⟩
      · simp
      · repeat (first | with_reducible exact Below.refl _ _ | refine below_ext ?_ (by simp [go_sem]) _ _)
  · go_enter Try.func46, Try.ntmps46
    go_wp2_with fail
    refine (HIS.out _ (by simp [go_sem, c0])).mono ?_
    rintro e1 w1 ⟨rfl, rfl⟩
    go_wp2_with fail
    refine (HI.out _).mono ?_
    rintro e1 w1 ⟨rfl, hb⟩
    obtain ⟨os, d, rfl⟩ := ext_of hb
    clear hb
    go_wp2_with fail
    refine (HK.out _).mono ?_
    rintro e1 w1 ⟨rfl, hb⟩
    obtain ⟨os2, d2, rfl⟩ := ext_of hb
    clear hb
    go_wp2_with fail
    go_ret2
    refine ⟨?_, ?_⟩
    · simp
    · repeat (first | with_reducible exact Below.refl _ _ | refine below_ext ?_ (by simp [go_sem]) _ _)

section
variable {F : Nat → Prop} {w : World} {p : Nat} {G : Gd} {bt ct : Nat} {ov : Value} {gs cs : List Nat}
theorem req_any (h : Vw 91 F w p G bt ct ov gs cs) (hok : G.Ok) (t i k : Int) : Calls Try.prog 46 #[.pointer (some ⟨p, 0, none⟩), .int .i64 t, .int .i64 i, .int .i64 k] w (EqP w G t i k) := by
  by_cases hn : G.not t
  · refine (req_no p bt G.ts.length ct t i k w h.pcell.1 hn).mono ?_
    rintro e w' ⟨rfl, hb⟩
    unfold EqP Gd.eq
    rw [if_pos hn]
    exact ⟨rfl, hb⟩
  · have hn' := hn
    unfold Gd.not at hn'
    obtain ⟨A, c, hov, hrow⟩ := h.orow
    obtain ⟨t', rfl⟩ : ∃ t' : Nat, t = t' := ⟨t.toNat, by omega⟩
    refine (req_walk p bt A G.ts.length ct G.os.length c t' (G.rt t') i k w (h.fpre hov (by omega)) (by omega) h.h64).mono ?_
    rintro e w' ⟨rfl, hb⟩
    refine ⟨?_, hb⟩
    unfold Gd.eq
    rw [if_neg hn]
    have e1 := get_err (hok.rt t').1 i
    have e2 := get_err (hok.rt t').1 k
    by_cases h1 : ((G.rt t').get i).2 = 0
    · by_cases h2 : ((G.rt t').get k).2 = 0
      · simp [h1, h2]
      · have e2' := e2.resolve_left h2
        simp [h1, e2']
    · have e1' := e1.resolve_left h1
      simp [e1']
end

end Go.Proofs.Ytlogojiphjpknaa
