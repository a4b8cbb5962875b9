/- (*graph.Graph).Alloc: a new object and its root. Condition: at most a million objects. -/
import Derived.Test.YtlogojiphjpknaaGTurn
import Derived.Outline
namespace Go.Proofs.Ytlogojiphjpknaa
open Go.RowKit
set_option linter.unusedVariables false

section
variable {F : Nat → Prop} {w : World} {p : Nat} {G : Gd} {bt ct : Nat} {ov : Value} {gs cs : List Nat}

/-- what Alloc's function makes of roots -/
def allocx (M : Nat) (n : Int) (r : Rt) : Rt × Int := if n < 0 ∨ 7 < n then (r, 10) else r.push (M + 1)

set_option maxRecDepth 100000 in
set_option maxHeartbeats 1000000 in
theorem does54 (h : Vw 79 F w p G bt ct ov gs cs) (r : Rt) (b0 b1 : Nat) (i : Int) (hc : w.cell? ⟨b0, 0, none⟩ = some (.int .i64 i)) (hd : w.cell? ⟨b1, 0, none⟩ = some (.pointer (some ⟨p, 0, none⟩))) (hM : G.os.length ≤ 1000000) : Does54 r b0 b1 (allocx G.os.length i r) w := by
  intro os d
  have hlt := block_lt hc
  simp only at hlt
  have hc' := (ext_cell w os d 0 hlt).trans hc
  have hlt2 := block_lt hd
  simp only at hlt2
  have hd' := (ext_cell w os d 0 hlt2).trans hd
  obtain ⟨A, c, hov, _⟩ := h.orow
  have c1 : (ext w os d).cell? ⟨p, 1, none⟩ = some (.slice A G.os.length c) := (ext_cell w os d 1 h.plt).trans (by rw [h.pcell.2, hov])
  have hp2 : p < (ext w os d).heap.size := by simp [go_sem]; exact Nat.lt_of_lt_of_le h.plt (Nat.le_add_right _ _)
  generalize ext w os d = w at *
  have hlt' := block_lt hc'
  have hlt2' := block_lt hd'
  simp only at hlt' hlt2'
  unfold allocx
  generalize G.os.length = M at *
  clear h hc hd hlt hlt2 hov
  obtain ⟨n, a0, a1, a2, a3, a4, a5, a6, a7⟩ := r
  by_cases hi : i < 0
  · rw [if_pos (.inl hi)]
    go_enter Try.func54, Try.ntmps54
    go_wp2_with fail
    refine bodyPost_ret (v := .tuple #[rv ⟨n, a0, a1, a2, a3, a4, a5, a6, a7⟩, .int .i64 10]) (by simp [results, Try.results54, go_sem]) rfl ⟨rfl, ?_⟩
    repeat (first | with_reducible exact Below.refl _ _ | with_reducible refine b_dn ?_ _ | with_reducible refine b_drew ?_ | with_reducible refine b_set ?_ | with_reducible refine b_set0 ?_ | with_reducible refine b_ext ?_ _ _ | with_reducible refine b_alloc ?_ _)
  · by_cases hm : 7 < i
    · rw [if_pos (.inr hm)]
      go_enter Try.func54, Try.ntmps54
      go_wp2_with fail
      refine bodyPost_ret (v := .tuple #[rv ⟨n, a0, a1, a2, a3, a4, a5, a6, a7⟩, .int .i64 10]) (by simp [results, Try.results54, go_sem]) rfl ⟨rfl, ?_⟩
      repeat (first | with_reducible exact Below.refl _ _ | with_reducible refine b_dn ?_ _ | with_reducible refine b_drew ?_ | with_reducible refine b_set ?_ | with_reducible refine b_set0 ?_ | with_reducible refine b_ext ?_ _ _ | with_reducible refine b_alloc ?_ _)
    · rw [if_neg (by omega)]
      obtain ⟨x, y, hxy⟩ : ∃ x y, Rt.push ⟨n, a0, a1, a2, a3, a4, a5, a6, a7⟩ (M + 1) = (x, y) := ⟨_, _, rfl⟩
      have HD := Lib.hid (show ∀ w, Calls Try.prog 16 #[rv ⟨n, a0, a1, a2, a3, a4, a5, a6, a7⟩, .int .i64 (M + 1)] w fun e w' => e = .returned (.tuple #[rv x, .int .i64 y]) ∧ Below w.heap.size w w' from fun w => (push_any _ _ w).mono fun e w' h => by
        unfold PushP at h
        rw [hxy] at h
        exact h)
      rw [hxy]
      clear hxy
      obtain ⟨m, y0, y1, y2, y3, y4, y5, y6, y7⟩ := x
      have hs : IntKind.i64.wrap ((M : Int) + 1) = (M : Int) + 1 := IntWalk.i64_in _ (by omega)
      go_enter Try.func54, Try.ntmps54
      go_wp2_with fail
      go_region_held3 (fun w' => w'.cell? ⟨b1, 0, none⟩ = some (.pointer (some ⟨p, 0, none⟩)) ∧ w'.cell? ⟨p, 1, none⟩ = some (.slice A M c) ∧ w'.cell? ⟨w.heap.size, 0, none⟩ = some (.int .i64 n) ∧ w'.cell? ⟨w.heap.size, 1, none⟩ = some (.int .i64 a0) ∧ w'.cell? ⟨w.heap.size, 2, none⟩ = some (.int .i64 a1) ∧ w'.cell? ⟨w.heap.size, 3, none⟩ = some (.int .i64 a2) ∧ w'.cell? ⟨w.heap.size, 4, none⟩ = some (.int .i64 a3) ∧ w'.cell? ⟨w.heap.size, 5, none⟩ = some (.int .i64 a4) ∧ w'.cell? ⟨w.heap.size, 6, none⟩ = some (.int .i64 a5) ∧ w'.cell? ⟨w.heap.size, 7, none⟩ = some (.int .i64 a6) ∧ w'.cell? ⟨w.heap.size, 8, none⟩ = some (.int .i64 a7)) (go_simp)
        ((go_at_call 16; refine (HD.out _).mono ?_; rintro e w2 ⟨rfl, hb2⟩; obtain ⟨os1, d1, rfl⟩ := ext_of hb2; clear hb2))
      all_goals (
        go_wp2_with fail
        refine bodyPost_ret (v := .tuple #[rv ⟨m, y0, y1, y2, y3, y4, y5, y6, y7⟩, .int .i64 y]) (by simp [results, Try.results54, go_sem]) rfl ⟨rfl, ?_⟩
        repeat (first | with_reducible exact Below.refl _ _ | with_reducible refine b_dn ?_ _ | with_reducible refine b_drew ?_ | with_reducible refine b_set ?_ | with_reducible refine b_set0 ?_ | with_reducible refine b_ext ?_ _ _ | with_reducible refine b_alloc ?_ _))

theorem info67 : (Try.prog.info? 67).map (fun i => (i.zero, i.size, i.bytes)) = some (some (.slice none 0 0), 1, 24) := by kernel_rfl
theorem info46 : (Try.prog.info? 46).map (fun i => (i.zero, i.size, i.bytes)) = some (some (.agg #[.int .i64 0, .int .i64 0]), 2, 16) := by kernel_rfl

theorem getD_app {α : Type} {l : List α} {x d : α} {k : Nat} (h : k < l.length) : (l ++ [x]).getD k d = l.getD k d := by
  rw [List.getD_eq_getElem?_getD, List.getD_eq_getElem?_getD, List.getElem?_append_left h]
theorem getD_last {α : Type} {l : List α} {x d : α} {k : Nat} (h : k = l.length) : (l ++ [x]).getD k d = x := by
  subst h
  rw [List.getD_eq_getElem?_getD]
  simp

theorem ovals_snoc {gs cs : List Nat} {os : List (List V)} (hg : gs.length = os.length) (hc : cs.length = os.length) (g c : Nat) (o : List V) :
    ovals (gs ++ [g]) (cs ++ [c]) (os ++ [o]) = ovals gs cs os ++ [.slice (some ⟨g, 0, none⟩) o.length c] := by
  unfold ovals
  rw [List.length_append, List.length_singleton, List.range_succ, List.map_append]
  congr 1
  · apply List.map_congr_left
    intro k hk
    have hk' : k < os.length := List.mem_range.1 hk
    unfold oval
    rw [getD_app (l := gs) (by omega), getD_app (l := os) hk', getD_app (l := cs) (by omega)]
  · simp only [List.map_cons, List.map_nil, oval]
    rw [getD_last (l := gs) (by omega), getD_last (l := os) rfl, getD_last (l := cs) (by omega)]

/-- a new object, put behind the others -/
theorem Vw.snoc {T : TypeId} (h : Vw T F w p G bt ct ov gs cs) {W3 w2 : World} (hW : Below w.heap.size w W3) {n : Nat} {Z : Array Value} {cz : Nat} (hcz : n ≤ cz) (hcm : cz ≤ maxLen) (hZs : Z.size = cz * 2) {o : List V} (ho : o.length = n) (hZ : Z.toList.take (n * 2) = vflat o) {gz : Nat} (hgz : w.heap.size ≤ gz) (hgzl : gz < W3.heap.size) (hg : W3.heap[gz]? = some (.cells Z 46 (0, 0)))
    {gg cap : Nat} (hown : w2.ownsRow 0 67 1 (.slice (some ⟨gg, 0, none⟩) (G.os.length + 1) cap) (G.os.length + 1) (ovals gs cs G.os ++ [.slice (some ⟨gz, 0, none⟩) n cz])) (hgr : W3.grownBy w2 ov.ownBlock) (hat : ov.ownBlock = some gg ∨ w.heap.size ≤ gg) (hlt : gg < w2.heap.size) :
    Vw T (Grow F w w2) (w2.setCell ⟨p, 1, none⟩ (.slice (some ⟨gg, 0, none⟩) (G.os.length + 1) cap)) p ⟨G.ts, G.os ++ [o]⟩ bt ct (.slice (some ⟨gg, 0, none⟩) (G.os.length + 1) cap) (gs ++ [gz]) (cs ++ [cz]) := by
  have hsame : ∀ k, k < w.heap.size → ov.ownBlock ≠ some k → w2.heap[k]? = w.heap[k]? := fun k hk hn => (hgr.block k (Nat.lt_of_lt_of_le hk hW.size) (fun e => hn e.symm)).trans (hW.block k hk)
  have hgzo : ov.ownBlock ≠ some gz := fun e => by have := (h.hov.lt gz e).2; omega
  have hz2 : w2.heap[gz]? = some (.cells Z 46 (0, 0)) := (hgr.block gz hgzl (fun e => hgzo e.symm)).trans hg
  have hpw2 : Blk w2 p T #[.slice (some ⟨bt, 0, none⟩) G.ts.length ct, ov] := (hsame p h.plt h.p_ov).trans h.hp
  have hset : ∀ k, k ≠ p → ∀ u, (w2.setCell ⟨p, 1, none⟩ u).heap[k]? = w2.heap[k]? := fun k hk u => Below.heap_setCell w2 ⟨p, 1, none⟩ u k hk
  have hsize := Nat.le_trans hW.size hgr.size
  refine ⟨h.hT, ?_, .inl h.fp, .inl h.fbt, ?_, ?_, ?_, ?_, ?_, ?_, ?_, h.h64⟩
  · exact hpw2.set_ 1 _
  · exact own_same h.hts (fun k hk => by
      injection hk with hk
      subst hk
      rw [hset _ (Ne.symm h.p_bt), hsame _ h.btlt h.bt_ov])
  · simp only [List.length_append, List.length_singleton]
    rw [ovals_snoc h.hgl h.hcl, ho]
    refine own_same hown (fun k hk => ?_)
    injection hk with hk
    subst hk
    refine hset _ ?_ _
    intro e
    obtain ⟨_, h1⟩ := own_typ hown rfl
    exact typ_ne h1 hpw2 (Ne.symm h.T1.2.1) e
  · intro g hg'
    injection hg' with hg'
    subst hg'
    rcases hat with h1 | h1
    · exact .inl (h.fov _ h1)
    · exact .inr ⟨h1, hlt⟩
  · simp [h.hgl]
  · simp [h.hcl]
  · rw [List.nodup_append]
    refine ⟨h.hnd, by simp, fun a ha b hb => ?_⟩
    obtain rfl := List.mem_singleton.1 hb
    obtain ⟨k, hk, rfl⟩ := List.mem_iff_getElem.1 ha
    have h1 := h.glt (k := k) (by rw [← h.hgl]; exact hk)
    rw [List.getD_eq_getElem?_getD, List.getElem?_eq_getElem hk] at h1
    simp only [Option.getD_some] at h1
    omega
  · intro k hk
    simp only [List.length_append, List.length_singleton] at hk
    by_cases hkl : k < G.os.length
    · have e1 : (gs ++ [gz]).getD k 0 = gs.getD k 0 := getD_app (by rw [h.hgl]; exact hkl)
      have e2 : (G.os ++ [o]).getD k [] = G.os.getD k [] := getD_app hkl
      have e3 : (cs ++ [cz]).getD k 0 = cs.getD k 0 := getD_app (by rw [h.hcl]; exact hkl)
      have e4 : oval (gs ++ [gz]) (cs ++ [cz]) (G.os ++ [o]) k = oval gs cs G.os k := by unfold oval; rw [e1, e2, e3]
      simp only
      rw [e1, e2, e4]
      refine ⟨.inl (h.hos k hkl).1, own_same (h.hos k hkl).2 (fun j hj => ?_)⟩
      injection hj with hj
      subst hj
      rw [hset _ (Ne.symm (h.p_g hkl)), hsame _ (h.glt hkl) (h.ov_g hkl)]
    · obtain rfl : k = G.os.length := by omega
      have e1 : (gs ++ [gz]).getD G.os.length 0 = gz := getD_last h.hgl.symm
      have e2 : (G.os ++ [o]).getD G.os.length [] = o := getD_last rfl
      have e3 : (cs ++ [cz]).getD G.os.length 0 = cz := getD_last h.hcl.symm
      have e4 : oval (gs ++ [gz]) (cs ++ [cz]) (G.os ++ [o]) G.os.length = .slice (some ⟨gz, 0, none⟩) n cz := by unfold oval; rw [e1, e2, e3, ho]
      simp only
      rw [e1, e2, e4, ho]
      refine ⟨.inr ⟨hgz, Nat.lt_of_lt_of_le hgzl hgr.size⟩, ⟨by rw [vflat_length, ho], .inr ⟨gz, cz, Z, rfl, Nat.zero_le _, ?_, hcz, hcm, hZs, hZ⟩⟩⟩
      rw [hset _ ?_, hz2]
      have := h.plt
      omega

theorem Vw.snoc_only {T : TypeId} (h : Vw T F w p G bt ct ov gs cs) {W3 w2 : World} (hW : Below w.heap.size w W3) (hgr : W3.grownBy w2 ov.ownBlock) (u : Value) : Only F w (w2.setCell ⟨p, 1, none⟩ u) :=
  (Only.grown (Only.of_below hW) hgr (fun g hg => .inl (h.fov g hg))).setCell (.inl h.fp) 1 u
end

end Go.Proofs.Ytlogojiphjpknaa
