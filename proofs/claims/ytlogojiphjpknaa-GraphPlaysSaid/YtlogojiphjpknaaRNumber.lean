/- flitref07.number: an object's number, met now if it was not. Condition: at most a hundred thousand are met. -/
import Derived.Test.YtlogojiphjpknaaGShape
import Derived.Test.YtlogojiphjpknaaRLook
namespace Go.Proofs.Ytlogojiphjpknaa
open Go.RowKit
set_option linter.unusedVariables false

/-- numbers that were met, as a slice -/
def MetV (w : World) (v : Value) (met : List Int) : Prop := w.ownsRow 0 3 1 v met.length (ints met)
def RNumP (w : World) (v0 : Value) (X : List Int × Int) (e : Ending) (w' : World) : Prop := ∃ v, e = .returned (.tuple #[v, .int .i64 X.2]) ∧ MetV w' v X.1 ∧ (v = v0 ∨ ∀ g, v.ownBlock = some g → w.heap.size ≤ g) ∧ Below w.heap.size w w'

theorem ints_at (met : List Int) {k : Nat} (hk : k < met.length) : (ints met)[k]? = some (.int .i64 (met.getD k 0)) := by
  unfold ints
  rw [List.getElem?_map, List.getD_eq_getElem?_getD, List.getElem?_eq_getElem hk]
  rfl
theorem MetV.form {w : World} {v : Value} {met : List Int} (h : MetV w v met) : ∃ A c, v = .slice A met.length c ∧ ∀ k, k < met.length → ∃ b, A = some ⟨b, 0, none⟩ ∧ b < w.heap.size ∧ w.cell? ⟨b, k, none⟩ = some (.int .i64 (met.getD k 0)) := by
  have h1 := h
  unfold MetV at h1
  rcases h1.2 with ⟨q1, q2⟩ | ⟨g, cap, cur, q1, q2, q3, q4⟩
  · exact ⟨none, 0, by rw [q1, q2], fun k hk => by omega⟩
  · refine ⟨_, _, q1, fun k hk => ⟨g, rfl, (h1.lt g (by rw [q1]; rfl)).2, ?_⟩⟩
    rw [q1] at h1
    exact (World.ownsRow.cellAt h1 k (by omega)).trans (ints_at met hk)
theorem MetV.below {w w' : World} {v : Value} {met : List Int} (h : MetV w v met) (hb : Below w.heap.size w w') : MetV w' v met := own_same h (fun k hk => hb.block k (h.lt k hk).2)

set_option maxRecDepth 100000 in
set_option maxHeartbeats 1000000 in
theorem rnum_any (v : Value) (met : List Int) (id : Int) (w : World) (hv : MetV w v met) (hm : met.length ≤ 100000) : Calls Try.prog 64 #[v, .int .i64 id] w (RNumP w v (Gd.num met id)) := by
  have HV := Lib.hid hv
  have HF := Lib.hid hv.form
  obtain ⟨A, c, rfl, _⟩ := hv.form
  clear hv
  obtain ⟨N, hN⟩ : ∃ N, N = met.length := ⟨_, rfl⟩
  have HN := Lib.hid hN
  by_cases h0 : id = 0
  · subst h0
    go_enter Try.func64, Try.ntmps64
    go_wp2_with fail
    go_ret2
    exact ⟨_, rfl, HV.out, .inl rfl, Below.refl _ _⟩
  · have h0' : (id == 0) = false := by simpa using h0
    have H0 := Lib.hid h0
    rw [← hN]
    rw [← hN] at hm
    clear h0 hN
    go_enter Try.func64, Try.ntmps64
    go_wp2_with fail
    go_loopw [6] (fun s6 wr => ∃ j : Nat, j ≤ N ∧ s6 = .int .i64 j ∧ wr = w ∧ ∀ i, i < j → met.getD i 0 ≠ id) (fun s6 _ => N - (intOf s6).toNat)
    case atStart => exact ⟨0, by omega, rfl, rfl, fun i hi => by omega⟩
    case round =>
      obtain ⟨j, hj, rfl, rfl, hne⟩ := hrel
      have HE := Lib.hid hne
      clear hne
      by_cases hjN : j < N
      · obtain ⟨A', c', e, hrow⟩ := HF.out
        obtain ⟨rfl, rfl⟩ : A = A' ∧ c = c' := by injection e with e1 _ e3; exact ⟨e1, e3⟩
        obtain ⟨b, rfl, hb, hc⟩ := hrow j (by rw [← HN.out]; exact hjN)
        clear e hrow
        obtain ⟨x, hx⟩ : ∃ x, x = met.getD j 0 := ⟨_, rfl⟩
        rw [← hx] at hc
        have hj1 : (j : Int) < (N : Int) := by omega
        by_cases hxi : x = id
        · subst hxi
          have HX := Lib.hid hx
          clear hx
          go_wp2_with fail
          go_ret2
          have hjm : j < met.length := by rw [← HN.out]; exact hjN
          have e : Gd.num met x = (met, (j : Int) + 1) := by
            have hm1 : x ∈ met := by
              rw [HX.out, List.getD_eq_getElem?_getD, List.getElem?_eq_getElem hjm]
              exact List.getElem_mem hjm
            unfold Gd.num
            rw [if_neg H0.out, if_pos hm1]
            have h2 : met.idxOf x = j := by
              have h3 : met[met.idxOf x]'(List.idxOf_lt_length_iff.2 hm1) = x := List.getElem_idxOf _
              rcases Nat.lt_trichotomy (met.idxOf x) j with h4 | h4 | h4
              · exfalso
                refine HE.out _ h4 ?_
                rw [List.getD_eq_getElem?_getD, List.getElem?_eq_getElem (List.idxOf_lt_length_iff.2 hm1)]
                exact h3
              · exact h4
              · exfalso
                have h5 : met[j] = x := by
                  have := HX.out
                  rw [List.getD_eq_getElem?_getD, List.getElem?_eq_getElem hjm] at this
                  exact this.symm
                have h6 := List.not_of_lt_findIdx (p := (· == x)) (xs := met) (i := j) (by exact h4)
                simp [h5] at h6
            rw [h2]
          rw [e]
          exact ⟨_, by rw [HN.out]; rfl, HV.out, .inl (by rw [HN.out]), Below.refl _ _⟩
        · have hxd : (x == id) = false := by simpa using hxi
          have HX := Lib.hid (And.intro hx hxi)
          clear hx hxi
          go_wp2_with fail
          go_roundw
          case rel => exact ⟨j + 1, by omega, by go_num, trivial, fun i hi => by
            by_cases hij : i = j
            · rw [hij, ← HX.out.1]; exact HX.out.2
            · exact HE.out i (by omega)⟩
          case measure => simp [intOf]; omega
      · obtain rfl : j = N := by omega
        obtain ⟨i3, hi, hz, hs, hb⟩ := info_parts info3
        have HR := Lib.hid (show Reads (wr.alloc (.cells #[] 3)) wr.heap.size 1 A j (ints met) from by
          have := (Reads.of_own (show wr.ownsRow 0 3 1 (.slice A met.length c) met.length (ints met) from HV.out)).alloc (Nat.le_refl _) (.cells #[] 3)
          rw [← HN.out] at this
          exact this)
        have HO := Lib.hid (show (wr.alloc (.cells #[] 3)).ownsRow wr.heap.size 3 1 (.slice (some ⟨wr.heap.size, 0, none⟩) 0 0) 0 [] from World.ownsRow_lit wr #[] 0 (Nat.le_refl _) (by unfold maxLen; omega) rfl)
        have H1 := Lib.hid (show ∀ u ∈ ints met, u.oneCell' = true from fun u hu => by
          unfold ints at hu
          obtain ⟨x, _, rfl⟩ := List.mem_map.1 hu
          rfl)
        go_wp2_with (at_builtin; first | (refine wpList_append_any _ rfl (.tmp 25) (.tmp 26) _ rfl wr.heap.size 3 i3 _ 1 8 Try.underlying22 hi hz hs hb rfl (by omega) (.slice (some ⟨wr.heap.size, 0, none⟩) 0 0) 0 [] rfl HO.out wr.heap.size A j c (ints met) rfl HR.out H1.out (by unfold maxLen; omega) (by omega) (by simp) ?_; intro v2 w2 hown2 hg2 hat2; have HOWN := Lib.hid (show w2.ownsRow wr.heap.size 3 1 v2 j (ints met) by simpa using hown2); have hws : wr.heap.size < w2.heap.size := by have := hg2.size; simp at this; omega) | (refine wpList_append_lies _ rfl (.tmp 27) (.tmp 29) _ rfl wr.heap.size 3 i3 _ 1 8 Try.underlying22 hi hz hs hb rfl (by omega) v2 j (ints met) (by rfl) (World.ownsRow.alloc HOWN.out _) ⟨w2.heap.size, 0, none⟩ 1 1 [.int .i64 id] (by rfl) (by rfl) (World.news_of_block (cs := #[.int .i64 id]) (t := 3) (fr := (0, 0)) (heap_alloc_new w2 _)) (by simp [Value.oneCell']) (by omega) (by unfold maxLen; omega) (by omega) (by simp; omega) (w2.heap.size + 1) (by simp) ?_; intro gg cap w3 hown3 hg3 hat3 hlt3))
        go_ret2
        have hnm : id ∉ met := fun hmem => by
          obtain ⟨i, hil, hi⟩ := List.getElem_of_mem hmem
          refine HE.out i (by rw [HN.out]; exact hil) ?_
          rw [List.getD_eq_getElem?_getD, List.getElem?_eq_getElem hil]
          exact hi
        have e : Gd.num met id = (met ++ [id], (met.length : Int) + 1) := by
          unfold Gd.num
          rw [if_neg H0.out, if_neg hnm]
        rw [e]
        have hb2 : Below wr.heap.size wr w2 := ((Below.refl _ _).alloc (Nat.le_refl _) _).grown hg2 (by simp) (by simp [Value.ownBlock])
        have hb3 : Below wr.heap.size wr w3 := (hb2.alloc hb2.size _).grown hg3 (by simp; omega) (fun g hg => by
          rcases hat2 with h1 | h1
          · rw [h1] at hg; simp [Value.ownBlock] at hg; omega
          · rw [h1] at hg; simp at hg; omega)
        refine ⟨_, by rw [← HN.out]; rfl, ?_, .inr (fun g hg => ?_), hb3⟩
        rotate_left
        · simp [Value.ownBlock] at hg
          subst hg
          rcases hat3 with h1 | h1
          · rcases hat2 with h2 | h2
            · rw [h2] at h1; simp [Value.ownBlock] at h1; omega
            · rw [h2] at h1; simp at h1; omega
          · omega
        unfold MetV
        have hl : (met ++ [id]).length = j + 1 := by rw [HN.out]; simp
        have hi2 : ints (met ++ [id]) = ints met ++ [.int .i64 id] := by unfold ints; simp
        rw [hl, hi2]
        exact own_base hown3 (Nat.zero_le _)

end Go.Proofs.Ytlogojiphjpknaa
