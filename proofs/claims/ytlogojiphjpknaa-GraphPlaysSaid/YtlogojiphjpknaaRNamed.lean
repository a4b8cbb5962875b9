/- (*flitref07.Graph).Named, Eq: what they tell. Condition of Named: a thread that there is. -/
import Derived.Test.YtlogojiphjpknaaRLook
import Derived.Deep.RegionHeld3
import Derived.Deep.DeepCutAuto
import Derived.Test.YtlogojiphjpknaaGTurn
namespace Go.Proofs.Ytlogojiphjpknaa
open Go.RowKit
set_option linter.unusedVariables false

/-- what a Src names, with its own error first -/
def Gd.rnamed (G : Gd) (t : Int) (s : V) : V × Int := if Gd.bad s then (default, 1) else G.src t s
def RNamedP (w : World) (X : V × Int) (e : Ending) (w' : World) : Prop := e = .returned (.tuple #[vv X.1, .int .i64 X.2]) ∧ Below w.heap.size w w'

section
variable (p bt : Nat) (A : Option Addr) (T ct M c t : Nat) (r : Rt) (w : World) (h : FPre w p bt A T ct M c t r) (ht : t < T) (hT : T ≤ 64)
include h ht hT

set_option maxRecDepth 100000 in
set_option maxHeartbeats 2000000 in
theorem rnamed_1 (sn : Int) (e id : Int) (hg : r.get sn = (id, e)) : Calls Try.prog 62 #[.pointer (some ⟨p, 0, none⟩), .int .i64 t, vv ⟨1, sn⟩] w (RNamedP w (if e ≠ 0 then (default, e) else (⟨1, id⟩, 0))) := by
  have _hT := hT
  have HGET := Lib.hid (getR_at r sn hg)
  obtain ⟨c0, c1, r0, r1, r2, r3, r4, r5, r6, r7, r8, hpl, hbl⟩ := h
  have ht0 : (0 : Int) ≤ (t : Int) := by omega
  have ht1 : (t : Int) < (T : Int) := by omega
  clear hg
  by_cases he : e = 0
  · subst he
    rw [if_neg (by simp)]
    go_enter Try.func62, Try.ntmps62
    go_upto_region 7 with fail
    go_region_held3 (fun w' => w'.cell? ⟨p, 0, none⟩ = some (.slice (some ⟨bt, 0, none⟩) T ct) ∧ w'.cell? ⟨bt, t * 9, none⟩ = some (.int .i64 r.n) ∧ w'.cell? ⟨bt, t * 9 + 1, none⟩ = some (.int .i64 r.a0) ∧ w'.cell? ⟨bt, t * 9 + 2, none⟩ = some (.int .i64 r.a1) ∧ w'.cell? ⟨bt, t * 9 + 3, none⟩ = some (.int .i64 r.a2) ∧ w'.cell? ⟨bt, t * 9 + 4, none⟩ = some (.int .i64 r.a3) ∧ w'.cell? ⟨bt, t * 9 + 5, none⟩ = some (.int .i64 r.a4) ∧ w'.cell? ⟨bt, t * 9 + 6, none⟩ = some (.int .i64 r.a5) ∧ w'.cell? ⟨bt, t * 9 + 7, none⟩ = some (.int .i64 r.a6) ∧ w'.cell? ⟨bt, t * 9 + 8, none⟩ = some (.int .i64 r.a7) ∧ w'.cell? ⟨w.heap.size, 1, none⟩ = some (.int .i64 sn)) (go_simp)
      ((go_at_call 22; refine (HGET.out _).mono ?_; rintro e w2 ⟨rfl, hb2⟩; obtain ⟨os1, d1, rfl⟩ := ext_of hb2; clear hb2))
    all_goals
      go_wp2_with fail
      refine bodyPost_ret (v := .tuple #[vv ⟨1, id⟩, .int .i64 0]) (by simp [results, Try.results62, go_sem]) rfl ⟨rfl, ?_⟩
      repeat (first | with_reducible exact Below.refl _ _ | with_reducible refine b_dn ?_ _ | with_reducible refine b_drew ?_ | with_reducible refine b_set ?_ | with_reducible refine b_set0 ?_ | with_reducible refine b_ext ?_ _ _ | with_reducible refine b_alloc ?_ _)
  · rw [if_pos he]
    go_enter Try.func62, Try.ntmps62
    go_upto_region 7 with fail
    go_region_held3 (fun w' => w'.cell? ⟨p, 0, none⟩ = some (.slice (some ⟨bt, 0, none⟩) T ct) ∧ w'.cell? ⟨bt, t * 9, none⟩ = some (.int .i64 r.n) ∧ w'.cell? ⟨bt, t * 9 + 1, none⟩ = some (.int .i64 r.a0) ∧ w'.cell? ⟨bt, t * 9 + 2, none⟩ = some (.int .i64 r.a1) ∧ w'.cell? ⟨bt, t * 9 + 3, none⟩ = some (.int .i64 r.a2) ∧ w'.cell? ⟨bt, t * 9 + 4, none⟩ = some (.int .i64 r.a3) ∧ w'.cell? ⟨bt, t * 9 + 5, none⟩ = some (.int .i64 r.a4) ∧ w'.cell? ⟨bt, t * 9 + 6, none⟩ = some (.int .i64 r.a5) ∧ w'.cell? ⟨bt, t * 9 + 7, none⟩ = some (.int .i64 r.a6) ∧ w'.cell? ⟨bt, t * 9 + 8, none⟩ = some (.int .i64 r.a7) ∧ w'.cell? ⟨w.heap.size, 1, none⟩ = some (.int .i64 sn)) (go_simp)
      ((go_at_call 22; refine (HGET.out _).mono ?_; rintro e w2 ⟨rfl, hb2⟩; obtain ⟨os1, d1, rfl⟩ := ext_of hb2; clear hb2))
    all_goals
      go_wp2_with fail
      refine bodyPost_ret (v := .tuple #[vv default, .int .i64 e]) (by simp [results, Try.results62, go_sem]; exact ⟨rfl, rfl⟩) rfl ⟨rfl, ?_⟩
      repeat (first | with_reducible exact Below.refl _ _ | with_reducible refine b_dn ?_ _ | with_reducible refine b_drew ?_ | with_reducible refine b_set ?_ | with_reducible refine b_set0 ?_ | with_reducible refine b_ext ?_ _ _ | with_reducible refine b_alloc ?_ _)

omit h ht hT in
set_option maxRecDepth 100000 in
set_option maxHeartbeats 1000000 in
theorem rnamed_0a (sn : Int) (hs : sn < 0) : Calls Try.prog 62 #[.pointer (some ⟨p, 0, none⟩), .int .i64 t, vv ⟨0, sn⟩] w (RNamedP w (default, 1)) := by
  go_enter Try.func62, Try.ntmps62
  go_wp2_with fail
  refine bodyPost_ret (v := .tuple #[vv default, .int .i64 1]) (by simp [results, Try.results62, go_sem]; exact ⟨rfl, rfl⟩) rfl ⟨rfl, ?_⟩
  repeat (first | with_reducible exact Below.refl _ _ | with_reducible refine b_dn ?_ _ | with_reducible refine b_drew ?_ | with_reducible refine b_set ?_ | with_reducible refine b_set0 ?_ | with_reducible refine b_ext ?_ _ _ | with_reducible refine b_alloc ?_ _)

omit h ht hT in
set_option maxRecDepth 100000 in
set_option maxHeartbeats 1000000 in
theorem rnamed_0b (sn : Int) (hs : ¬ sn < 0) (hs2 : 1099511627776 < sn) : Calls Try.prog 62 #[.pointer (some ⟨p, 0, none⟩), .int .i64 t, vv ⟨0, sn⟩] w (RNamedP w (default, 1)) := by
  go_enter Try.func62, Try.ntmps62
  go_wp2_with fail
  refine bodyPost_ret (v := .tuple #[vv default, .int .i64 1]) (by simp [results, Try.results62, go_sem]; exact ⟨rfl, rfl⟩) rfl ⟨rfl, ?_⟩
  repeat (first | with_reducible exact Below.refl _ _ | with_reducible refine b_dn ?_ _ | with_reducible refine b_drew ?_ | with_reducible refine b_set ?_ | with_reducible refine b_set0 ?_ | with_reducible refine b_ext ?_ _ _ | with_reducible refine b_alloc ?_ _)

omit h ht hT in
set_option maxRecDepth 100000 in
set_option maxHeartbeats 1000000 in
theorem rnamed_0c (sn : Int) (hs : ¬ sn < 0) (hs2 : ¬ 1099511627776 < sn) : Calls Try.prog 62 #[.pointer (some ⟨p, 0, none⟩), .int .i64 t, vv ⟨0, sn⟩] w (RNamedP w (⟨0, sn⟩, 0)) := by
  go_enter Try.func62, Try.ntmps62
  go_wp2_with fail
  refine bodyPost_ret (v := .tuple #[vv ⟨0, sn⟩, .int .i64 0]) (by simp [results, Try.results62, go_sem]) rfl ⟨rfl, ?_⟩
  repeat (first | with_reducible exact Below.refl _ _ | with_reducible refine b_dn ?_ _ | with_reducible refine b_drew ?_ | with_reducible refine b_set ?_ | with_reducible refine b_set0 ?_ | with_reducible refine b_ext ?_ _ _ | with_reducible refine b_alloc ?_ _)

omit h ht hT in
set_option maxRecDepth 100000 in
set_option maxHeartbeats 1000000 in
theorem rnamed_2 (sn : Int) : Calls Try.prog 62 #[.pointer (some ⟨p, 0, none⟩), .int .i64 t, vv ⟨2, sn⟩] w (RNamedP w (⟨1, 0⟩, 0)) := by
  go_enter Try.func62, Try.ntmps62
  go_wp2_with fail
  refine bodyPost_ret (v := .tuple #[vv ⟨1, 0⟩, .int .i64 0]) (by simp [results, Try.results62, go_sem]) rfl ⟨rfl, ?_⟩
  repeat (first | with_reducible exact Below.refl _ _ | with_reducible refine b_dn ?_ _ | with_reducible refine b_drew ?_ | with_reducible refine b_set ?_ | with_reducible refine b_set0 ?_ | with_reducible refine b_ext ?_ _ _ | with_reducible refine b_alloc ?_ _)

omit h ht hT in
set_option maxRecDepth 100000 in
set_option maxHeartbeats 1000000 in
theorem rnamed_3 (sk sn : Int) (h0 : sk ≠ 0) (h1 : sk ≠ 1) (h2 : sk ≠ 2) : Calls Try.prog 62 #[.pointer (some ⟨p, 0, none⟩), .int .i64 t, vv ⟨sk, sn⟩] w (RNamedP w (default, 1)) := by
  have h0' : (sk == 0) = false := by simpa using h0
  have h1' : (sk == 1) = false := by simpa using h1
  have h2' : (sk == 2) = false := by simpa using h2
  clear h0 h1 h2
  go_enter Try.func62, Try.ntmps62
  go_wp2_with fail
  refine bodyPost_ret (v := .tuple #[vv default, .int .i64 1]) (by simp [results, Try.results62, go_sem]; exact ⟨rfl, rfl⟩) rfl ⟨rfl, ?_⟩
  repeat (first | with_reducible exact Below.refl _ _ | with_reducible refine b_dn ?_ _ | with_reducible refine b_drew ?_ | with_reducible refine b_set ?_ | with_reducible refine b_set0 ?_ | with_reducible refine b_ext ?_ _ _ | with_reducible refine b_alloc ?_ _)
end

section
variable {F : Nat → Prop} {w : World} {p : Nat} {G : Gd} {bt ct : Nat} {ov : Value} {gs cs : List Nat}

theorem rnamed_any (h : Vw 91 F w p G bt ct ov gs cs) (t : Int) (hn : ¬ G.not t) (s : V) : Calls Try.prog 62 #[.pointer (some ⟨p, 0, none⟩), .int .i64 t, vv s] w (RNamedP w (G.rnamed t s)) := by
  unfold Gd.not at hn
  obtain ⟨A, c, hov, hrow⟩ := h.orow
  obtain ⟨t', rfl⟩ : ∃ t' : Nat, t = t' := ⟨t.toNat, by omega⟩
  have hpre := h.fpre hov (t := t') (by omega)
  obtain ⟨sk, sn⟩ := s
  by_cases h0 : sk = 0
  · subst h0
    by_cases h1 : sn < 0
    · have e : G.rnamed t' ⟨0, sn⟩ = (default, 1) := by unfold Gd.rnamed; rw [if_pos (show Gd.bad ⟨0, sn⟩ from .inr (.inr ⟨rfl, .inl h1⟩))]
      rw [e]
      exact rnamed_0a p t' w sn h1
    · by_cases h2 : 1099511627776 < sn
      · have e : G.rnamed t' ⟨0, sn⟩ = (default, 1) := by unfold Gd.rnamed; rw [if_pos (show Gd.bad ⟨0, sn⟩ from .inr (.inr ⟨rfl, .inr h2⟩))]
        rw [e]
        exact rnamed_0b p t' w sn h1 h2
      · have e : G.rnamed t' ⟨0, sn⟩ = (⟨0, sn⟩, 0) := by unfold Gd.rnamed; rw [if_neg (show ¬ Gd.bad ⟨0, sn⟩ by unfold Gd.bad; simp only; omega)]; rfl
        rw [e]
        exact rnamed_0c p t' w sn h1 h2
  · by_cases h1 : sk = 1
    · subst h1
      obtain ⟨id, e, hg⟩ : ∃ id e, (G.rt t').get sn = (id, e) := ⟨_, _, rfl⟩
      have e : G.rnamed t' ⟨1, sn⟩ = (if e ≠ 0 then (default, e) else (⟨1, id⟩, 0)) := by
        unfold Gd.rnamed; rw [if_neg (show ¬ Gd.bad ⟨1, sn⟩ by unfold Gd.bad; simp only; omega)]; unfold Gd.src; rw [if_neg (by simp), if_pos rfl]; simp only [hg]
      rw [e]
      exact rnamed_1 p bt A G.ts.length ct G.os.length c t' (G.rt t') w hpre (by omega) h.h64 sn _ id hg
    · by_cases h2 : sk = 2
      · subst h2
        have e : G.rnamed t' ⟨2, sn⟩ = (⟨1, 0⟩, 0) := by unfold Gd.rnamed; rw [if_neg (show ¬ Gd.bad ⟨2, sn⟩ by unfold Gd.bad; simp only; omega)]; rfl
        rw [e]
        exact rnamed_2 p t' w sn
      · have e : G.rnamed t' ⟨sk, sn⟩ = (default, 1) := by unfold Gd.rnamed; rw [if_pos (show Gd.bad ⟨sk, sn⟩ by unfold Gd.bad; simp only; omega)]
        rw [e]
        exact rnamed_3 p t' w sk sn h0 h1 h2
end

end Go.Proofs.Ytlogojiphjpknaa
