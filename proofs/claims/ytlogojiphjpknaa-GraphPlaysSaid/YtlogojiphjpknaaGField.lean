/- (*graph.Graph).field: where a field is, or why there is none. No condition. -/
import Derived.Test.YtlogojiphjpknaaGMem
namespace Go.Proofs.Ytlogojiphjpknaa
open Go.RowKit
set_option linter.unusedVariables false

def FieldNo (w : World) (e' : Int) (e : Ending) (w' : World) : Prop := e = .returned (.tuple #[.pointer none, .int .i64 e']) ∧ Below w.heap.size w w'
def FieldYes (w : World) (g f : Nat) (e : Ending) (w' : World) : Prop := e = .returned (.tuple #[.pointer (some ⟨g, f * 2, none⟩), .int .i64 0]) ∧ Below w.heap.size w w'

section
variable {F : Nat → Prop} {w : World} {p : Nat} {G : Gd} {bt ct : Nat} {ov : Value} {gs cs : List Nat}

theorem Vw.pcell {T : TypeId} (h : Vw T F w p G bt ct ov gs cs) : w.cell? ⟨p, 0, none⟩ = some (.slice (some ⟨bt, 0, none⟩) G.ts.length ct) ∧ w.cell? ⟨p, 1, none⟩ = some ov := ⟨h.hp.cell 0, h.hp.cell 1⟩

theorem below_refl (w : World) : Below w.heap.size w w := Below.refl _ _

set_option maxRecDepth 100000 in
set_option maxHeartbeats 1000000 in
theorem field_not (h : Vw 79 F w p G bt ct ov gs cs) (t i f : Int) (hn : G.not t) : Calls Try.prog 56 #[.pointer (some ⟨p, 0, none⟩), .int .i64 t, .int .i64 i, .int .i64 f] w (FieldNo w 1) := by
  obtain ⟨c0, c1⟩ := h.pcell
  clear h
  rcases hn with hn | hn
  · go_enter Try.func56, Try.ntmps56
    go_wp2_with fail
    go_ret2
    exact ⟨rfl, below_refl _⟩
  · by_cases ht : t < 0
    · go_enter Try.func56, Try.ntmps56
      go_wp2_with fail
      go_ret2
      exact ⟨rfl, below_refl _⟩
    · go_enter Try.func56, Try.ntmps56
      go_wp2_with fail
      go_ret2
      exact ⟨rfl, below_refl _⟩

theorem Vw.olen {T : TypeId} (h : Vw T F w p G bt ct ov gs cs) : G.os.length ≤ 9223372036854775807 := by
  rcases h.hov.2 with ⟨_, h2⟩ | ⟨g, cap, cur, hv, hb, hg, hn, hm, hs, ht⟩
  · omega
  · unfold maxLen at hm; omega

/-- what field is told of a thread that there is -/
structure FPre (w : World) (p bt : Nat) (A : Option Addr) (T : Nat) (ct M c : Nat) (t : Nat) (r : Rt) : Prop where
  c0 : w.cell? ⟨p, 0, none⟩ = some (.slice (some ⟨bt, 0, none⟩) T ct)
  c1 : w.cell? ⟨p, 1, none⟩ = some (.slice A M c)
  r0 : w.cell? ⟨bt, t * 9, none⟩ = some (.int .i64 r.n)
  r1 : w.cell? ⟨bt, t * 9 + 1, none⟩ = some (.int .i64 r.a0)
  r2 : w.cell? ⟨bt, t * 9 + 2, none⟩ = some (.int .i64 r.a1)
  r3 : w.cell? ⟨bt, t * 9 + 3, none⟩ = some (.int .i64 r.a2)
  r4 : w.cell? ⟨bt, t * 9 + 4, none⟩ = some (.int .i64 r.a3)
  r5 : w.cell? ⟨bt, t * 9 + 5, none⟩ = some (.int .i64 r.a4)
  r6 : w.cell? ⟨bt, t * 9 + 6, none⟩ = some (.int .i64 r.a5)
  r7 : w.cell? ⟨bt, t * 9 + 7, none⟩ = some (.int .i64 r.a6)
  r8 : w.cell? ⟨bt, t * 9 + 8, none⟩ = some (.int .i64 r.a7)
  plt : p < w.heap.size
  btlt : bt < w.heap.size

theorem Vw.fpre {T : TypeId} (h : Vw T F w p G bt ct ov gs cs) {A : Option Addr} {c : Nat} (hov : ov = .slice A G.os.length c) {t : Nat} (ht : t < G.ts.length) : FPre w p bt A G.ts.length ct G.os.length c t (G.rt t) := by
  obtain ⟨c0, c1⟩ := h.pcell
  obtain ⟨r0, r1, r2, r3, r4, r5, r6, r7, r8⟩ := h.rcell ht
  exact ⟨c0, by rw [c1, hov], r0, r1, r2, r3, r4, r5, r6, r7, r8, h.plt, h.btlt⟩

theorem get_at (r : Rt) (i : Int) {id e : Int} (h : r.get i = (id, e)) (w : World) : Calls Try.prog 18 #[rv r, .int .i64 i] w fun x w' => x = .returned (.tuple #[.int .i64 id, .int .i64 e]) ∧ Below w.heap.size w w' :=
  (get_any r i w).mono fun x w' hx => by
    unfold GetP at hx
    rw [h] at hx
    exact hx

set_option maxRecDepth 100000 in
set_option maxHeartbeats 1000000 in
theorem field_1 (p bt : Nat) (A : Option Addr) (T ct M c t : Nat) (r : Rt) (i f : Int) (w : World) (h : FPre w p bt A T ct M c t r) (ht : t < T) (hT : T ≤ 64) (e : Int) (he : e ≠ 0) (id : Int) (hg : r.get i = (id, e)) : Calls Try.prog 56 #[.pointer (some ⟨p, 0, none⟩), .int .i64 t, .int .i64 i, .int .i64 f] w (FieldNo w e) := by
  have HGET := Lib.hid (get_at r i hg)
  obtain ⟨c0, c1, r0, r1, r2, r3, r4, r5, r6, r7, r8, hpl, hbl⟩ := h
  have ht0 : ¬ (t : Int) < 0 := by omega
  have ht1 : ¬ (T : Int) ≤ t := by omega
  clear hg
  go_enter Try.func56, Try.ntmps56
  go_wp2_with fail
  refine (HGET.out _).mono ?_
  rintro e1 w1 ⟨rfl, hb⟩
  obtain ⟨os, d, rfl⟩ := ext_of hb
  have HB := Lib.hid hb
  clear hb
  go_wp2_with fail
  go_ret2
  exact ⟨rfl, HB.out⟩

set_option maxRecDepth 100000 in
set_option maxHeartbeats 1000000 in
theorem field_2 (p bt : Nat) (A : Option Addr) (T ct M c t : Nat) (r : Rt) (i f : Int) (w : World) (h : FPre w p bt A T ct M c t r) (ht : t < T) (hT : T ≤ 64) (hg : r.get i = (0, 0)) : Calls Try.prog 56 #[.pointer (some ⟨p, 0, none⟩), .int .i64 t, .int .i64 i, .int .i64 f] w (FieldNo w 14) := by
  have HGET := Lib.hid (get_at r i hg)
  obtain ⟨c0, c1, r0, r1, r2, r3, r4, r5, r6, r7, r8, hpl, hbl⟩ := h
  have ht0 : ¬ (t : Int) < 0 := by omega
  have ht1 : ¬ (T : Int) ≤ t := by omega
  clear hg
  go_enter Try.func56, Try.ntmps56
  go_wp2_with fail
  refine (HGET.out _).mono ?_
  rintro e1 w1 ⟨rfl, hb⟩
  obtain ⟨os, d, rfl⟩ := ext_of hb
  have HB := Lib.hid hb
  clear hb
  go_wp2_with fail
  go_ret2
  exact ⟨rfl, HB.out⟩

set_option maxRecDepth 100000 in
set_option maxHeartbeats 1000000 in
theorem field_3 (p bt : Nat) (A : Option Addr) (T ct M c t : Nat) (r : Rt) (i f : Int) (w : World) (h : FPre w p bt A T ct M c t r) (ht : t < T) (hT : T ≤ 64) (k : Nat) (hk : k < M) (hM : M ≤ 9223372036854775807) (hg : r.get i = ((k : Int) + 1, 0)) (hf : f < 0) : Calls Try.prog 56 #[.pointer (some ⟨p, 0, none⟩), .int .i64 t, .int .i64 i, .int .i64 f] w (FieldNo w 15) := by
  have HGET := Lib.hid (get_at r i hg)
  obtain ⟨c0, c1, r0, r1, r2, r3, r4, r5, r6, r7, r8, hpl, hbl⟩ := h
  have ht0 : ¬ (t : Int) < 0 := by omega
  have ht1 : ¬ (T : Int) ≤ t := by omega
  clear hg
  have hk0 : ¬ (k : Int) + 1 = 0 := by omega
  go_enter Try.func56, Try.ntmps56
  go_wp2_with fail
  refine (HGET.out _).mono ?_
  rintro e1 w1 ⟨rfl, hb⟩
  obtain ⟨os, d, rfl⟩ := ext_of hb
  have HB := Lib.hid hb
  clear hb
  go_wp2_with fail
  go_ret2
  exact ⟨rfl, HB.out⟩

set_option maxRecDepth 100000 in
set_option maxHeartbeats 1000000 in
theorem field_4 (p bt : Nat) (A : Option Addr) (T ct M c t : Nat) (r : Rt) (i f : Int) (w : World) (h : FPre w p bt A T ct M c t r) (ht : t < T) (hT : T ≤ 64) (k : Nat) (hk : k < M) (hM : M ≤ 9223372036854775807) (b g n c2 : Nat) (hA : A = some ⟨b, 0, none⟩) (hb : b < w.heap.size) (hc : w.cell? ⟨b, k, none⟩ = some (.slice (some ⟨g, 0, none⟩) n c2)) (hg : r.get i = ((k : Int) + 1, 0)) (hf : ¬ f < 0) (hn : (n : Int) ≤ f) : Calls Try.prog 56 #[.pointer (some ⟨p, 0, none⟩), .int .i64 t, .int .i64 i, .int .i64 f] w (FieldNo w 15) := by
  subst hA
  have HGET := Lib.hid (get_at r i hg)
  obtain ⟨c0, c1, r0, r1, r2, r3, r4, r5, r6, r7, r8, hpl, hbl⟩ := h
  have ht0 : ¬ (t : Int) < 0 := by omega
  have ht1 : ¬ (T : Int) ≤ t := by omega
  clear hg
  have hk0 : ¬ (k : Int) + 1 = 0 := by omega
  have hk1 : (k : Int) < (M : Int) := by omega
  go_enter Try.func56, Try.ntmps56
  go_wp2_with fail
  refine (HGET.out _).mono ?_
  rintro e1 w1 ⟨rfl, hb⟩
  obtain ⟨os, d, rfl⟩ := ext_of hb
  have HB := Lib.hid hb
  clear hb
  go_wp2_with fail
  go_ret2
  exact ⟨rfl, HB.out⟩

set_option maxRecDepth 100000 in
set_option maxHeartbeats 1000000 in
theorem field_5 (p bt : Nat) (A : Option Addr) (T ct M c t : Nat) (r : Rt) (i f : Int) (w : World) (h : FPre w p bt A T ct M c t r) (ht : t < T) (hT : T ≤ 64) (k : Nat) (hk : k < M) (hM : M ≤ 9223372036854775807) (b g n c2 : Nat) (hA : A = some ⟨b, 0, none⟩) (hb : b < w.heap.size) (hc : w.cell? ⟨b, k, none⟩ = some (.slice (some ⟨g, 0, none⟩) n c2)) (hg : r.get i = ((k : Int) + 1, 0)) (l : Nat) (hf : f = l) (hn : l < n) (h7 : n ≤ 7) : Calls Try.prog 56 #[.pointer (some ⟨p, 0, none⟩), .int .i64 t, .int .i64 i, .int .i64 f] w (FieldYes w g l) := by
  subst hA
  subst hf
  have HGET := Lib.hid (get_at r i hg)
  obtain ⟨c0, c1, r0, r1, r2, r3, r4, r5, r6, r7, r8, hpl, hbl⟩ := h
  have ht0 : ¬ (t : Int) < 0 := by omega
  have ht1 : ¬ (T : Int) ≤ t := by omega
  clear hg
  have hk0 : ¬ (k : Int) + 1 = 0 := by omega
  have hk1 : (k : Int) < (M : Int) := by omega
  have hl0 : ¬ (l : Int) < 0 := by omega
  have hl1 : ¬ (n : Int) ≤ l := by omega
  go_enter Try.func56, Try.ntmps56
  go_wp2_with fail
  refine (HGET.out _).mono ?_
  rintro e1 w1 ⟨rfl, hb⟩
  obtain ⟨os, d, rfl⟩ := ext_of hb
  have HB := Lib.hid hb
  clear hb
  go_wp2_with fail
  go_ret2
  exact ⟨rfl, HB.out⟩

/-- the object that a root names -/
def Gd.at_ (G : Gd) (t i : Int) : Nat := (((G.rt t).get i).1 - 1).toNat

theorem get_rng (h : G.Ok) (t i : Int) : 0 ≤ ((G.rt t).get i).1 ∧ ((G.rt t).get i).1 ≤ G.os.length := (h.rt t).get i

theorem ferr_yes (h : G.Ok) {t i f : Int} (he : G.ferr t i f = 0) :
    ¬ G.not t ∧ (G.rt t).get i = (((G.at_ t i : Nat) : Int) + 1, 0) ∧ G.at_ t i < G.os.length ∧ G.ob ((G.rt t).get i).1 = G.os.getD (G.at_ t i) [] ∧ f = (f.toNat : Int) ∧ f.toNat < (G.os.getD (G.at_ t i) []).length ∧ G.fval t i f = (G.os.getD (G.at_ t i) []).getD f.toNat default := by
  have hr := get_rng h t i
  have e1 : G.ob ((G.rt t).get i).1 = G.os.getD (G.at_ t i) [] := rfl
  unfold Gd.ferr at he
  split at he
  · cases he
  · split at he
    · rename_i h2; exact absurd he h2
    · split at he
      · cases he
      · split at he
        · cases he
        · rename_i h1 h2 h3 h4
          have h2' : ((G.rt t).get i).2 = 0 := Decidable.not_not.1 h2
          have h5 : ((G.rt t).get i).1 = ((G.at_ t i : Nat) : Int) + 1 := by unfold Gd.at_; omega
          rw [e1] at h4
          refine ⟨h1, ?_, by unfold Gd.at_; omega, e1, by omega, by omega, by unfold Gd.fval; rw [e1]⟩
          rw [← h5, ← h2']

theorem field_yes (h : Vw 79 F w p G bt ct ov gs cs) (hok : G.Ok) (t i f : Int) (he : G.ferr t i f = 0) :
    Calls Try.prog 56 #[.pointer (some ⟨p, 0, none⟩), .int .i64 t, .int .i64 i, .int .i64 f] w (FieldYes w (gs.getD (G.at_ t i) 0) f.toNat) := by
  obtain ⟨hn, hg, hk, hob, hf, hl, _⟩ := ferr_yes hok he
  unfold Gd.not at hn
  obtain ⟨A, c, hov, hrow⟩ := h.orow
  obtain ⟨b, hA, hb, hc⟩ := hrow _ hk
  obtain ⟨t', rfl⟩ : ∃ t' : Nat, t = t' := ⟨t.toNat, by omega⟩
  have h7 : (G.os.getD (G.at_ t' i) []).length ≤ 7 := by rw [← hob]; exact (hok.ob _).2
  exact field_5 p bt A G.ts.length ct G.os.length c t' (G.rt t') i f w (h.fpre hov (by omega)) (by omega) h.h64 (G.at_ t' i) hk h.olen b _ _ _ hA hb hc hg f.toNat hf hl h7

theorem field_no (h : Vw 79 F w p G bt ct ov gs cs) (hok : G.Ok) (t i f : Int) (he : G.ferr t i f ≠ 0) :
    Calls Try.prog 56 #[.pointer (some ⟨p, 0, none⟩), .int .i64 t, .int .i64 i, .int .i64 f] w (FieldNo w (G.ferr t i f)) := by
  by_cases hn : G.not t
  · have e : G.ferr t i f = 1 := by unfold Gd.ferr; rw [if_pos hn]
    rw [e]
    exact field_not h t i f hn
  have hn' := hn
  unfold Gd.not at hn'
  obtain ⟨A, c, hov, hrow⟩ := h.orow
  obtain ⟨t', rfl⟩ : ∃ t' : Nat, t = t' := ⟨t.toNat, by omega⟩
  have hpre := h.fpre hov (t := t') (by omega)
  by_cases h2 : ((G.rt t').get i).2 = 0
  · by_cases h3 : ((G.rt t').get i).1 = 0
    · have e : G.ferr t' i f = 14 := by unfold Gd.ferr; rw [if_neg hn, if_neg (by simp [h2]), if_pos h3]
      rw [e]
      exact field_2 p bt A G.ts.length ct G.os.length c t' (G.rt t') i f w hpre (by omega) h.h64 (Prod.ext h3 h2)
    · have hr := get_rng hok t' i
      have hg : (G.rt t').get i = (((G.at_ t' i : Nat) : Int) + 1, 0) := by
        have h5 : ((G.rt t').get i).1 = ((G.at_ t' i : Nat) : Int) + 1 := by unfold Gd.at_; omega
        rw [← h5, ← h2]
      have hk : G.at_ t' i < G.os.length := by unfold Gd.at_; omega
      have hob : G.ob ((G.rt t').get i).1 = G.os.getD (G.at_ t' i) [] := rfl
      obtain ⟨b, hA, hb, hc⟩ := hrow _ hk
      have e : G.ferr t' i f = if f < 0 ∨ ((G.ob ((G.rt t').get i).1).length : Int) ≤ f then 15 else 0 := by
        unfold Gd.ferr; rw [if_neg hn, if_neg (by simp [h2]), if_neg h3]
      by_cases hf : f < 0
      · rw [e, if_pos (.inl hf)]
        exact field_3 p bt A G.ts.length ct G.os.length c t' (G.rt t') i f w hpre (by omega) h.h64 (G.at_ t' i) hk h.olen hg hf
      · by_cases hl : ((G.ob ((G.rt t').get i).1).length : Int) ≤ f
        · rw [e, if_pos (.inr hl)]
          rw [hob] at hl
          exact field_4 p bt A G.ts.length ct G.os.length c t' (G.rt t') i f w hpre (by omega) h.h64 (G.at_ t' i) hk h.olen b _ _ _ hA hb hc hg hf hl
        · rw [e, if_neg (by omega)] at he
          exact absurd rfl he
  · have e : G.ferr t' i f = ((G.rt t').get i).2 := by unfold Gd.ferr; rw [if_neg hn, if_pos h2]
    rw [e]
    exact field_1 p bt A G.ts.length ct G.os.length c t' (G.rt t') i f w hpre (by omega) h.h64 _ h2 _ rfl
end

end Go.Proofs.Ytlogojiphjpknaa
