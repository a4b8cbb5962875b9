/- (*flitref07.Graph).Is, Look: what they tell. No condition. -/
import Derived.Test.YtlogojiphjpknaaGLook
namespace Go.Proofs.Ytlogojiphjpknaa
open Go.RowKit
set_option linter.unusedVariables false

theorem getR_at (r : Rt) (i : Int) {id e : Int} (h : r.get i = (id, e)) (w : World) : Calls Try.prog 22 #[rv r, .int .i64 i] w fun x w' => x = .returned (.tuple #[.int .i64 id, .int .i64 e]) ∧ Below w.heap.size w w' :=
  (getR_any r i w).mono fun x w' hx => by
    unfold GetP at hx
    rw [h] at hx
    exact hx

set_option maxRecDepth 100000 in
set_option maxHeartbeats 1000000 in
theorem is_no (p bt T ct : Nat) (t : Int) (w : World) (c0 : w.cell? ⟨p, 0, none⟩ = some (.slice (some ⟨bt, 0, none⟩) T ct)) (ht : t < 0 ∨ (T : Int) ≤ t) :
    Calls Try.prog 61 #[.pointer (some ⟨p, 0, none⟩), .int .i64 t] w fun e w' => e = .returned (.bool false) ∧ w = w' := by
  by_cases h0 : t < 0
  · have h0' : ¬ 0 ≤ t := by omega
    go_enter Try.func61, Try.ntmps61
    go_wp2_with fail
    go_ret
    exact ⟨rfl, rfl⟩
  · have h0' : 0 ≤ t := by omega
    have h1 : ¬ t < (T : Int) := by omega
    go_enter Try.func61, Try.ntmps61
    go_wp2_with fail
    go_ret
    exact ⟨rfl, rfl⟩
set_option maxRecDepth 100000 in
set_option maxHeartbeats 1000000 in
theorem is_yes (p bt T ct : Nat) (t : Nat) (w : World) (c0 : w.cell? ⟨p, 0, none⟩ = some (.slice (some ⟨bt, 0, none⟩) T ct)) (ht : t < T) :
    Calls Try.prog 61 #[.pointer (some ⟨p, 0, none⟩), .int .i64 t] w fun e w' => e = .returned (.bool true) ∧ w = w' := by
  have h0 : (0 : Int) ≤ (t : Int) := by omega
  have h1 : (t : Int) < (T : Int) := by omega
  go_enter Try.func61, Try.ntmps61
  go_wp2_with fail
  go_ret
  exact ⟨rfl, rfl⟩

def LookNo (w : World) (e' : Int) (e : Ending) (w' : World) : Prop := e = .returned (.tuple #[vv default, .int .i64 e']) ∧ Below w.heap.size w w'
def LookYes (w : World) (v : V) (e : Ending) (w' : World) : Prop := e = .returned (.tuple #[vv v, .int .i64 0]) ∧ Below w.heap.size w w'

set_option maxRecDepth 100000 in
set_option maxHeartbeats 1000000 in
theorem rlook_0 (p bt T ct : Nat) (t i f : Int) (w : World) (c0 : w.cell? ⟨p, 0, none⟩ = some (.slice (some ⟨bt, 0, none⟩) T ct)) (ht : t < 0 ∨ (T : Int) ≤ t) :
    Calls Try.prog 42 #[.pointer (some ⟨p, 0, none⟩), .int .i64 t, .int .i64 i, .int .i64 f] w (LookNo w 1) := by
  have hpl : p < w.heap.size := block_lt c0
  have HIS := Lib.hid (fun w c0 => is_no p bt T ct t w c0 ht)
  go_enter Try.func42, Try.ntmps42
  go_wp2_with fail
  refine (HIS.out _ (by simp [go_sem, c0, hpl])).mono ?_
  rintro e1 w1 ⟨rfl, rfl⟩
  go_wp2_with fail
  refine bodyPost_ret (v := .tuple #[vv default, .int .i64 1]) (by simp [results, Try.results42, go_sem]; exact ⟨rfl, rfl⟩) rfl ⟨rfl, ?_⟩
  exact (Below.refl _ _).alloc (Nat.le_refl _) _

section
variable (p bt : Nat) (A : Option Addr) (T ct M c t : Nat) (r : Rt) (i f : Int) (w : World) (h : FPre w p bt A T ct M c t r) (ht : t < T) (hT : T ≤ 64)
include h ht hT

set_option maxRecDepth 100000 in
set_option maxHeartbeats 1000000 in
theorem rlook_1 (e : Int) (he : e ≠ 0) (id : Int) (hg : r.get i = (id, e)) : Calls Try.prog 42 #[.pointer (some ⟨p, 0, none⟩), .int .i64 t, .int .i64 i, .int .i64 f] w (LookNo w e) := by
  have _hT := hT
  have HGET := Lib.hid (getR_at r i hg)
  have HIS := Lib.hid (fun w c0 => is_yes p bt T ct t w c0 ht)
  obtain ⟨c0, c1, r0, r1, r2, r3, r4, r5, r6, r7, r8, hpl, hbl⟩ := h
  have ht0 : ¬ (t : Int) < 0 := by omega
  have ht1 : (t : Int) < (T : Int) := by omega
  clear hg
  go_enter Try.func42, Try.ntmps42
  go_wp2_with fail
  refine (HIS.out _ (by simp [go_sem, c0, hpl])).mono ?_
  rintro e1 w1 ⟨rfl, rfl⟩
  go_wp2_with fail
  refine (HGET.out _).mono ?_
  rintro e1 w1 ⟨rfl, hb⟩
  obtain ⟨os, d, rfl⟩ := ext_of hb
  clear hb
  go_wp2_with fail
  refine bodyPost_ret (v := .tuple #[vv default, .int .i64 e]) (by simp [results, Try.results42, go_sem]; exact ⟨rfl, rfl⟩) rfl ⟨rfl, ?_⟩
  exact below_ext ((Below.refl _ _).alloc (Nat.le_refl _) _) (by simp) _ _

set_option maxRecDepth 100000 in
set_option maxHeartbeats 1000000 in
theorem rlook_2 (hg : r.get i = (0, 0)) : Calls Try.prog 42 #[.pointer (some ⟨p, 0, none⟩), .int .i64 t, .int .i64 i, .int .i64 f] w (LookNo w 14) := by
  have _hT := hT
  have HGET := Lib.hid (getR_at r i hg)
  have HIS := Lib.hid (fun w c0 => is_yes p bt T ct t w c0 ht)
  obtain ⟨c0, c1, r0, r1, r2, r3, r4, r5, r6, r7, r8, hpl, hbl⟩ := h
  have ht0 : ¬ (t : Int) < 0 := by omega
  have ht1 : (t : Int) < (T : Int) := by omega
  clear hg
  go_enter Try.func42, Try.ntmps42
  go_wp2_with fail
  refine (HIS.out _ (by simp [go_sem, c0, hpl])).mono ?_
  rintro e1 w1 ⟨rfl, rfl⟩
  go_wp2_with fail
  refine (HGET.out _).mono ?_
  rintro e1 w1 ⟨rfl, hb⟩
  obtain ⟨os, d, rfl⟩ := ext_of hb
  clear hb
  go_wp2_with fail
  refine bodyPost_ret (v := .tuple #[vv default, .int .i64 14]) (by simp [results, Try.results42, go_sem]; exact ⟨rfl, rfl⟩) rfl ⟨rfl, ?_⟩
  exact below_ext ((Below.refl _ _).alloc (Nat.le_refl _) _) (by simp) _ _

variable (k : Nat) (hk : k < M) (hM : M ≤ 9223372036854775807) (b g n c2 : Nat) (hA : A = some ⟨b, 0, none⟩) (hb : b < w.heap.size) (hc : w.cell? ⟨b, k, none⟩ = some (.slice (some ⟨g, 0, none⟩) n c2)) (hg : r.get i = ((k : Int) + 1, 0))
include hk hM hA hb hc hg
set_option maxRecDepth 100000 in
set_option maxHeartbeats 1000000 in
theorem rlook_3 (hf : f < 0 ∨ (n : Int) ≤ f) : Calls Try.prog 42 #[.pointer (some ⟨p, 0, none⟩), .int .i64 t, .int .i64 i, .int .i64 f] w (LookNo w 15) := by
  have _hT := hT
  subst hA
  have HGET := Lib.hid (getR_at r i hg)
  have HIS := Lib.hid (fun w c0 => is_yes p bt T ct t w c0 ht)
  obtain ⟨c0, c1, r0, r1, r2, r3, r4, r5, r6, r7, r8, hpl, hbl⟩ := h
  have ht0 : ¬ (t : Int) < 0 := by omega
  have ht1 : (t : Int) < (T : Int) := by omega
  have hk0 : ¬ (k : Int) + 1 = 0 := by omega
  have hk1 : (k : Int) < (M : Int) := by omega
  clear hg
  by_cases hf0 : f < 0
  · clear hf
    go_enter Try.func42, Try.ntmps42
    go_wp2_with fail
    refine (HIS.out _ (by simp [go_sem, c0, hpl])).mono ?_
    rintro e1 w1 ⟨rfl, rfl⟩
    go_wp2_with fail
    refine (HGET.out _).mono ?_
    rintro e1 w1 ⟨rfl, hb⟩
    obtain ⟨os, d, rfl⟩ := ext_of hb
    clear hb
    go_wp2_with fail
    refine bodyPost_ret (v := .tuple #[vv default, .int .i64 15]) (by simp [results, Try.results42, go_sem]; exact ⟨rfl, rfl⟩) rfl ⟨rfl, ?_⟩
    exact below_ext ((Below.refl _ _).alloc (Nat.le_refl _) _) (by simp) _ _
  · have hn : (n : Int) ≤ f := by omega
    clear hf
    go_enter Try.func42, Try.ntmps42
    go_wp2_with fail
    refine (HIS.out _ (by simp [go_sem, c0, hpl])).mono ?_
    rintro e1 w1 ⟨rfl, rfl⟩
    go_wp2_with fail
    refine (HGET.out _).mono ?_
    rintro e1 w1 ⟨rfl, hb⟩
    obtain ⟨os, d, rfl⟩ := ext_of hb
    clear hb
    go_wp2_with fail
    refine bodyPost_ret (v := .tuple #[vv default, .int .i64 15]) (by simp [results, Try.results42, go_sem]; exact ⟨rfl, rfl⟩) rfl ⟨rfl, ?_⟩
    exact below_ext ((Below.refl _ _).alloc (Nat.le_refl _) _) (by simp) _ _

set_option maxRecDepth 100000 in
set_option maxHeartbeats 1000000 in
theorem rlook_5 (l : Nat) (hf : f = l) (hn : l < n) (h7 : n ≤ 7) (hgl : g < w.heap.size) (v : V) (d0 : w.cell? ⟨g, l * 2, none⟩ = some (.int .i64 v.k)) (d1 : w.cell? ⟨g, l * 2 + 1, none⟩ = some (.int .i64 v.n)) :
    Calls Try.prog 42 #[.pointer (some ⟨p, 0, none⟩), .int .i64 t, .int .i64 i, .int .i64 f] w (LookYes w v) := by
  have _hT := hT
  subst hA
  subst hf
  have HGET := Lib.hid (getR_at r i hg)
  have HIS := Lib.hid (fun w c0 => is_yes p bt T ct t w c0 ht)
  obtain ⟨c0, c1, r0, r1, r2, r3, r4, r5, r6, r7, r8, hpl, hbl⟩ := h
  have ht0 : ¬ (t : Int) < 0 := by omega
  have ht1 : (t : Int) < (T : Int) := by omega
  have hk0 : ¬ (k : Int) + 1 = 0 := by omega
  have hk1 : (k : Int) < (M : Int) := by omega
  have hl0 : ¬ (l : Int) < 0 := by omega
  have hl1 : ¬ (n : Int) ≤ l := by omega
  clear hg
  go_enter Try.func42, Try.ntmps42
  go_wp2_with fail
  refine (HIS.out _ (by simp [go_sem, c0, hpl])).mono ?_
  rintro e1 w1 ⟨rfl, rfl⟩
  go_wp2_with fail
  refine (HGET.out _).mono ?_
  rintro e1 w1 ⟨rfl, hb⟩
  obtain ⟨os, d, rfl⟩ := ext_of hb
  clear hb
  go_wp2_with fail
  refine bodyPost_ret (v := .tuple #[vv v, .int .i64 0]) (by simp [results, Try.results42, go_sem]) rfl ⟨rfl, ?_⟩
  exact below_ext ((Below.refl _ _).alloc (Nat.le_refl _) _) (by simp) _ _
end

section
variable {F : Nat → Prop} {w : World} {p : Nat} {G : Gd} {bt ct : Nat} {ov : Value} {gs cs : List Nat}

theorem rlook_yes (h : Vw 91 F w p G bt ct ov gs cs) (hok : G.Ok) (t i f : Int) (he : G.ferr t i f = 0) :
    Calls Try.prog 42 #[.pointer (some ⟨p, 0, none⟩), .int .i64 t, .int .i64 i, .int .i64 f] w (LookYes w (G.fval t i f)) := by
  obtain ⟨hn, hg, hk, hob, hf, hl, hv⟩ := ferr_yes hok he
  unfold Gd.not at hn
  obtain ⟨A, c, hov, hrow⟩ := h.orow
  obtain ⟨b, hA, hb, hc⟩ := hrow _ hk
  obtain ⟨t', rfl⟩ : ∃ t' : Nat, t = t' := ⟨t.toNat, by omega⟩
  have h7 : (G.os.getD (G.at_ t' i) []).length ≤ 7 := by rw [← hob]; exact (hok.ob _).2
  obtain ⟨d0, d1⟩ := h.fcell hk hl
  rw [← hv] at d0 d1
  exact rlook_5 p bt A G.ts.length ct G.os.length c t' (G.rt t') i f w (h.fpre hov (by omega)) (by omega) h.h64 (G.at_ t' i) hk h.olen b _ _ _ hA hb hc hg f.toNat hf hl h7 (h.glt hk) _ d0 d1

theorem rlook_no (h : Vw 91 F w p G bt ct ov gs cs) (hok : G.Ok) (t i f : Int) (he : G.ferr t i f ≠ 0) :
    Calls Try.prog 42 #[.pointer (some ⟨p, 0, none⟩), .int .i64 t, .int .i64 i, .int .i64 f] w (LookNo w (G.ferr t i f)) := by
  by_cases hn : G.not t
  · have e : G.ferr t i f = 1 := by unfold Gd.ferr; rw [if_pos hn]
    rw [e]
    exact rlook_0 p bt G.ts.length ct t i f w h.pcell.1 hn
  have hn' := hn
  unfold Gd.not at hn'
  obtain ⟨A, c, hov, hrow⟩ := h.orow
  obtain ⟨t', rfl⟩ : ∃ t' : Nat, t = t' := ⟨t.toNat, by omega⟩
  have hpre := h.fpre hov (t := t') (by omega)
  by_cases h2 : ((G.rt t').get i).2 = 0
  · by_cases h3 : ((G.rt t').get i).1 = 0
    · have e : G.ferr t' i f = 14 := by unfold Gd.ferr; rw [if_neg hn, if_neg (by simp [h2]), if_pos h3]
      rw [e]
      exact rlook_2 p bt A G.ts.length ct G.os.length c t' (G.rt t') i f w hpre (by omega) h.h64 (Prod.ext h3 h2)
    · have hr := get_rng hok t' i
      have hg : (G.rt t').get i = (((G.at_ t' i : Nat) : Int) + 1, 0) := by
        have h5 : ((G.rt t').get i).1 = ((G.at_ t' i : Nat) : Int) + 1 := by unfold Gd.at_; omega
        rw [← h5, ← h2]
      have hk : G.at_ t' i < G.os.length := by unfold Gd.at_; omega
      have hob : G.ob ((G.rt t').get i).1 = G.os.getD (G.at_ t' i) [] := rfl
      obtain ⟨b, hA, hb, hc⟩ := hrow _ hk
      have e : G.ferr t' i f = if f < 0 ∨ ((G.ob ((G.rt t').get i).1).length : Int) ≤ f then 15 else 0 := by
        unfold Gd.ferr; rw [if_neg hn, if_neg (by simp [h2]), if_neg h3]
      by_cases hf : f < 0 ∨ ((G.ob ((G.rt t').get i).1).length : Int) ≤ f
      · rw [e, if_pos hf]
        rw [hob] at hf
        exact rlook_3 p bt A G.ts.length ct G.os.length c t' (G.rt t') i f w hpre (by omega) h.h64 (G.at_ t' i) hk h.olen b _ _ _ hA hb hc hg hf
      · rw [e, if_neg hf] at he
        exact absurd rfl he
  · have e : G.ferr t' i f = ((G.rt t').get i).2 := by unfold Gd.ferr; rw [if_neg hn, if_pos h2]
    rw [e]
    exact rlook_1 p bt A G.ts.length ct G.os.length c t' (G.rt t') i f w hpre (by omega) h.h64 _ h2 _ rfl

theorem rlook_any (h : Vw 91 F w p G bt ct ov gs cs) (hok : G.Ok) (t i f : Int) : Calls Try.prog 42 #[.pointer (some ⟨p, 0, none⟩), .int .i64 t, .int .i64 i, .int .i64 f] w (LookP w G t i f) := by
  unfold LookP Gd.look
  by_cases he : G.ferr t i f = 0
  · rw [if_pos he]
    exact rlook_yes h hok t i f he
  · rw [if_neg he]
    exact rlook_no h hok t i f he
end

end Go.Proofs.Ytlogojiphjpknaa
