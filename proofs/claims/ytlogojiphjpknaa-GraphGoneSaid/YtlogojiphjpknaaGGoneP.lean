/- What can not be come to does not change a graph's shape. No program in sight. -/
import Derived.Test.YtlogojiphjpknaaGNumsP
namespace Go.Proofs.Ytlogojiphjpknaa
namespace Gd

/-- what was met stays, ahead of what is met later -/
theorem num_pre (met : List Int) (id : Int) : met <+: (num met id).1 := by
  unfold num
  split
  · exact List.prefix_refl _
  · split
    · exact List.prefix_refl _
    · exact List.prefix_append _ _
theorem nums_pre : ∀ (l : List Int) (met : List Int), met <+: (nums met l).1
  | [], _ => List.prefix_refl _
  | x :: l, met => (num_pre met x).trans (nums_pre l _)
theorem numV_pre (met : List Int) (v : V) : met <+: (numV met v).1 := by
  unfold numV
  split
  · exact num_pre _ _
  · exact List.prefix_refl _
theorem numVs_pre : ∀ (l : List V) (met : List Int), met <+: (numVs met l).1
  | [], _ => List.prefix_refl _
  | x :: l, met => (numV_pre met x).trans (numVs_pre l _)
theorem numRs_pre : ∀ (l : List Rt) (met : List Int), met <+: (numRs met l).1
  | [], _ => List.prefix_refl _
  | x :: l, met => (nums_pre (ids x) met).trans (numRs_pre l _)
theorem run_pre (G : Gd) : ∀ j i, i ≤ j → (G.run i).1 <+: (G.run j).1
  | 0, i, h => by obtain rfl : i = 0 := by omega
                  exact List.prefix_refl _
  | j + 1, i, h => by
    rcases Nat.lt_or_ge i (j + 1) with h1 | h1
    · refine (run_pre G j i (by omega)).trans ?_
      rw [run_met]
      exact numVs_pre _ _
    · obtain rfl : i = j + 1 := by omega
      exact List.prefix_refl _

/-- what is asked for is met -/
theorem num_in {met : List Int} {id : Int} (h : id ≠ 0) : id ∈ (num met id).1 := by
  unfold num
  rw [if_neg h]
  split
  · assumption
  · simp
theorem nums_in : ∀ (l : List Int) (met : List Int) {id : Int}, id ∈ l → id ≠ 0 → id ∈ (nums met l).1
  | [], _, id, h, _ => by cases h
  | x :: l, met, id, h, h0 => by
    rcases List.mem_cons.1 h with rfl | h
    · exact (nums_pre l _).subset (num_in h0)
    · exact nums_in l _ h h0
theorem numVs_in : ∀ (l : List V) (met : List Int) {v : V}, v ∈ l → v.k = 1 → v.n ≠ 0 → v.n ∈ (numVs met l).1
  | [], _, v, h, _, _ => by cases h
  | x :: l, met, v, h, h1, h0 => by
    rcases List.mem_cons.1 h with rfl | h
    · refine (numVs_pre l _).subset ?_
      unfold numV
      rw [if_pos h1]
      exact num_in h0
    · exact numVs_in l _ h h1 h0
theorem numRs_in : ∀ (l : List Rt) (met : List Int) {r : Rt} {id : Int}, r ∈ l → id ∈ ids r → id ≠ 0 → id ∈ (numRs met l).1
  | [], _, r, id, h, _, _ => by cases h
  | x :: l, met, r, id, h, h1, h0 => by
    rcases List.mem_cons.1 h with rfl | h
    · exact (numRs_pre l _).subset (nums_in _ _ h1 h0)
    · exact numRs_in l _ h h1 h0

/-- nothing else is met -/
theorem num_only {T : Int → Prop} {met : List Int} {id : Int} (hm : ∀ x ∈ met, T x) (h : id ≠ 0 → T id) : ∀ x ∈ (num met id).1, T x := by
  unfold num
  split
  · exact hm
  · split
    · exact hm
    · intro x hx
      rcases List.mem_append.1 hx with h1 | h1
      · exact hm x h1
      · obtain rfl := List.mem_singleton.1 h1
        exact h ‹_›
theorem nums_only {T : Int → Prop} : ∀ (l : List Int) {met : List Int}, (∀ x ∈ met, T x) → (∀ id ∈ l, id ≠ 0 → T id) → ∀ x ∈ (nums met l).1, T x
  | [], _, hm, _ => hm
  | y :: l, _, hm, h => nums_only l (num_only hm (h y List.mem_cons_self)) (fun id hid => h id (List.mem_cons_of_mem _ hid))
theorem numV_only {T : Int → Prop} {met : List Int} {v : V} (hm : ∀ x ∈ met, T x) (h : v.k = 1 → v.n ≠ 0 → T v.n) : ∀ x ∈ (numV met v).1, T x := by
  unfold numV
  split
  · exact num_only hm (h ‹_›)
  · exact hm
theorem numVs_only {T : Int → Prop} : ∀ (l : List V) {met : List Int}, (∀ x ∈ met, T x) → (∀ v ∈ l, v.k = 1 → v.n ≠ 0 → T v.n) → ∀ x ∈ (numVs met l).1, T x
  | [], _, hm, _ => hm
  | y :: l, _, hm, h => numVs_only l (numV_only hm (h y List.mem_cons_self)) (fun v hv => h v (List.mem_cons_of_mem _ hv))
theorem numRs_only {T : Int → Prop} : ∀ (l : List Rt) {met : List Int}, (∀ x ∈ met, T x) → (∀ r ∈ l, ∀ id ∈ ids r, id ≠ 0 → T id) → ∀ x ∈ (numRs met l).1, T x
  | [], _, hm, _ => hm
  | y :: l, _, hm, h => numRs_only l (nums_only _ hm (h y List.mem_cons_self)) (fun r hr => h r (List.mem_cons_of_mem _ hr))

/-- what can be come to: the roots, and what is named by what can be come to; nothing else -/
structure Met (G : Gd) (M : List Int) : Prop where
  nd : M.Nodup
  bd : ∀ id ∈ M, 1 ≤ id ∧ id ≤ G.os.length
  rs : ∀ r ∈ G.ts, ∀ id ∈ ids r, id ≠ 0 → id ∈ M
  fs : ∀ id ∈ M, ∀ v ∈ G.ob id, v.k = 1 → v.n ≠ 0 → v.n ∈ M
  only : ∀ T : Int → Prop, (∀ r ∈ G.ts, ∀ id ∈ ids r, id ≠ 0 → T id) → (∀ id : Int, 1 ≤ id → id ≤ (G.os.length : Int) → T id → ∀ v ∈ G.ob id, v.k = 1 → v.n ≠ 0 → T v.n) → ∀ id ∈ M, T id

theorem pre_getD {l m : List Int} (h : l <+: m) {i : Nat} (hi : i < l.length) : m.getD i 0 = l.getD i 0 := by
  obtain ⟨t, rfl⟩ := h
  rw [List.getD_eq_getElem?_getD, List.getElem?_append_left hi, ← List.getD_eq_getElem?_getD]

theorem met_of {G : Gd} (hok : G.Ok) {R : List (List Int)} {L : List (List V)} (h : G.Is R L) : ∃ M, Met G M ∧ L.length = M.length := by
  obtain ⟨rfl, j, rfl, hj, hi⟩ := h
  have hmk := run_ok hok j
  refine ⟨(G.run j).1, ⟨hmk.1, hmk.2, fun r hr id hid h0 => ?_, fun id hid v hv h1 h0 => ?_, fun T h1 h2 => ?_⟩, by rw [run_length, hj]⟩
  · exact (run_pre G j 0 (Nat.zero_le _)).subset (numRs_in _ _ hr hid h0)
  · obtain ⟨i, hil, rfl⟩ := List.getElem_of_mem hid
    have hij : i < j := by omega
    have hg : (G.run j).1.getD i 0 = (G.run i).1.getD i 0 := pre_getD (run_pre G j i (by omega)) (hi i hij)
    have he : (G.run j).1[i] = (G.run i).1.getD i 0 := by
      rw [← hg, List.getD_eq_getElem?_getD, List.getElem?_eq_getElem hil]; rfl
    rw [he] at hv
    refine (run_pre G j (i + 1) (by omega)).subset ?_
    rw [run_met]
    exact numVs_in _ _ hv h1 h0
  · have key : ∀ k, k ≤ j → ∀ id ∈ (G.run k).1, T id := by
      intro k
      induction k with
      | zero => intro _; exact numRs_only _ (fun _ hx => by cases hx) h1
      | succ k ih =>
        intro hk
        rw [run_met]
        refine numVs_only _ (ih (by omega)) (fun v hv => ?_)
        have hkl := hi k (by omega)
        have hmem : (G.run k).1.getD k 0 ∈ (G.run k).1 := by
          rw [List.getD_eq_getElem?_getD, List.getElem?_eq_getElem hkl]
          exact List.getElem_mem hkl
        have hb := (run_ok hok k).2 _ hmem
        exact h2 _ hb.1 hb.2 (ih (by omega) _ hmem) v hv
    exact key j (Nat.le_refl _)

theorem nodup_len {l m : List Int} (hl : l.Nodup) (hm : m.Nodup) (h : ∀ x, x ∈ l ↔ x ∈ m) : l.length = m.length :=
  Nat.le_antisymm (hl.length_le_of_subset fun x hx => (h x).1 hx) (hm.length_le_of_subset fun x hx => (h x).2 hx)

/-- a new object with no names in it, and a root to it: one more can be come to -/
theorem one_more {G H : Gd} (hG : G.Ok) (hH : H.Ok) {o : List V} (ho : H.os = G.os ++ [o]) (hn : ∀ v ∈ o, v.k ≠ 1) (hr1 : ∀ r ∈ G.ts, ∀ id ∈ ids r, ∃ r' ∈ H.ts, id ∈ ids r')
    (hr2 : ∀ r ∈ H.ts, ∀ id ∈ ids r, id = (G.os.length : Int) + 1 ∨ ∃ r' ∈ G.ts, id ∈ ids r') (hr3 : ∃ r ∈ H.ts, (G.os.length : Int) + 1 ∈ ids r)
    {R R' : List (List Int)} {L L' : List (List V)} (h : G.Is R L) (h' : H.Is R' L') : L'.length = L.length + 1 := by
  obtain ⟨M, hM, e⟩ := met_of hG h
  obtain ⟨M', hM', e'⟩ := met_of hH h'
  rw [e, e']
  have hob : ∀ id : Int, 1 ≤ id → id ≤ (G.os.length : Int) → H.ob id = G.ob id := fun id h1 h2 => by
    unfold ob
    rw [ho, List.getD_eq_getElem?_getD, List.getElem?_append_left (by omega), ← List.getD_eq_getElem?_getD]
  have hnew : H.ob ((G.os.length : Int) + 1) = o := by
    unfold ob
    rw [ho, show ((G.os.length : Int) + 1 - 1).toNat = G.os.length by omega, List.getD_eq_getElem?_getD, List.getElem?_append_right (Nat.le_refl _), Nat.sub_self]
    rfl
  have h1 : ∀ id ∈ M', id ∈ M ∨ id = (G.os.length : Int) + 1 := by
    refine hM'.only _ (fun r hr id hid h0 => ?_) (fun id q1 q2 hT v hv k1 n0 => ?_)
    · rcases hr2 r hr id hid with rfl | ⟨r', hr', hid'⟩
      · exact .inr rfl
      · exact .inl (hM.rs r' hr' id hid' h0)
    · rcases hT with hT | rfl
      · have hb := hM.bd id hT
        rw [hob id hb.1 hb.2] at hv
        exact .inl (hM.fs id hT v hv k1 n0)
      · rw [hnew] at hv
        exact absurd k1 (hn v hv)
  have h2 : ∀ id ∈ M, id ∈ M' := by
    have := hM.only (fun id => id ∈ M') (fun r hr id hid h0 => ?_) (fun id q1 q2 hT v hv k1 n0 => ?_)
    · exact this
    · obtain ⟨r', hr', hid'⟩ := hr1 r hr id hid
      exact hM'.rs r' hr' id hid' h0
    · rw [← hob id q1 q2] at hv
      exact hM'.fs id hT v hv k1 n0
  have h3 : (G.os.length : Int) + 1 ∈ M' := by
    obtain ⟨r, hr, hid⟩ := hr3
    exact hM'.rs r hr _ hid (by omega)
  have hnot : (G.os.length : Int) + 1 ∉ M := fun hx => by have := (hM.bd _ hx).2; omega
  have := nodup_len (l := M') (m := ((G.os.length : Int) + 1) :: M) hM'.nd (List.nodup_cons.2 ⟨hnot, hM.nd⟩) (fun x => ⟨fun hx => ?_, fun hx => ?_⟩)
  · simpa using this
  · rcases h1 x hx with h | rfl
    · exact List.mem_cons_of_mem _ h
    · exact List.mem_cons_self
  · rcases List.mem_cons.1 hx with rfl | h
    · exact h3
    · exact h2 x h

/-- an object that nothing names: the shape is as it was -/
theorem unseen {G : Gd} (hok : G.Ok) (o : List V) {R : List (List Int)} {L : List (List V)} (h : (⟨G.ts, G.os ++ [o]⟩ : Gd).Is R L) : G.Is R L := by
  obtain ⟨hR, j, hL, hj, hi⟩ := h
  have key : ∀ k, (∀ i, i < k → i < ((⟨G.ts, G.os ++ [o]⟩ : Gd).run i).1.length) → (⟨G.ts, G.os ++ [o]⟩ : Gd).run k = G.run k := by
    intro k
    induction k with
    | zero => intro _; rfl
    | succ k ih =>
      intro hk
      have e := ih (fun i hi' => hk i (by omega))
      show step _ (run _ k) = step G (G.run k)
      rw [e]
      have hkl : k < (G.run k).1.length := by have := hk k (by omega); rwa [e] at this
      have hmem : (G.run k).1.getD k 0 ∈ (G.run k).1 := by
        rw [List.getD_eq_getElem?_getD, List.getElem?_eq_getElem hkl]
        exact List.getElem_mem hkl
      have hb := (run_ok hok k).2 _ hmem
      have hob : (⟨G.ts, G.os ++ [o]⟩ : Gd).ob ((G.run k).1.getD (G.run k).2.length 0) = G.ob ((G.run k).1.getD (G.run k).2.length 0) := by
        rw [run_length]
        unfold ob
        show (G.os ++ [o]).getD _ [] = _
        rw [List.getD_eq_getElem?_getD, List.getElem?_append_left (by omega), ← List.getD_eq_getElem?_getD]
      unfold step
      rw [hob]
  have e := key j hi
  refine ⟨hR, j, by rw [hL, e], by rw [← e]; exact hj, fun i hi' => ?_⟩
  have := hi i hi'
  rwa [key i (fun i2 h2 => hi i2 (by omega))] at this
theorem of_ids {r : Rt} (h : r.ok) : ∃ l : List Int, l.length ≤ 8 ∧ r = Rt.of l ∧ (l.length : Int) = r.n := by
  obtain ⟨n, a0, a1, a2, a3, a4, a5, a6, a7⟩ := r
  unfold Rt.ok at h
  simp only at h
  obtain ⟨g0, g8, h0, h1, h2, h3, h4, h5, h6, h7⟩ := h
  rcases (show n = 0 ∨ n = 1 ∨ n = 2 ∨ n = 3 ∨ n = 4 ∨ n = 5 ∨ n = 6 ∨ n = 7 ∨ n = 8 by omega) with rfl | rfl | rfl | rfl | rfl | rfl | rfl | rfl | rfl
  · refine ⟨[], by simp, ?_, rfl⟩
    simp_all [Rt.of]
  · refine ⟨[a0], by simp, ?_, rfl⟩
    simp_all [Rt.of]
  · refine ⟨[a0, a1], by simp, ?_, rfl⟩
    simp_all [Rt.of]
  · refine ⟨[a0, a1, a2], by simp, ?_, rfl⟩
    simp_all [Rt.of]
  · refine ⟨[a0, a1, a2, a3], by simp, ?_, rfl⟩
    simp_all [Rt.of]
  · refine ⟨[a0, a1, a2, a3, a4], by simp, ?_, rfl⟩
    simp_all [Rt.of]
  · refine ⟨[a0, a1, a2, a3, a4, a5], by simp, ?_, rfl⟩
    simp_all [Rt.of]
  · refine ⟨[a0, a1, a2, a3, a4, a5, a6], by simp, ?_, rfl⟩
    simp_all [Rt.of]
  · refine ⟨[a0, a1, a2, a3, a4, a5, a6, a7], by simp, ?_, rfl⟩
    simp_all [Rt.of]
theorem ids_of {l : List Int} (h : l.length ≤ 8) : ids (Rt.of l) = l := by
  match l, h with
  | [], _ => rfl
  | [_], _ => rfl
  | [_, _], _ => rfl
  | [_, _, _], _ => rfl
  | [_, _, _, _], _ => rfl
  | [_, _, _, _, _], _ => rfl
  | [_, _, _, _, _, _], _ => rfl
  | [_, _, _, _, _, _, _], _ => rfl
  | [_, _, _, _, _, _, _, _], _ => rfl

/-- the law: two threads; a new object of the first one; a write into it; its root dropped -/
theorem gone {os : List (List V)} {r s : Rt} (hok : (⟨[r, s], os⟩ : Gd).Ok) (n x : Int) (hn : 0 ≤ n ∧ n < 8) (hx : 0 ≤ x ∧ x < 1000) :
    ((⟨[r, s], os⟩ : Gd).alloc 0 n).2 = 13 ∨ (((⟨[r, s], os⟩ : Gd).alloc 0 n).2 = 0 ∧ ∃ k : Nat, k < 8 ∧
      (∀ R L R' L', (⟨[r, s], os⟩ : Gd).Is R L → ((⟨[r, s], os⟩ : Gd).alloc 0 n).1.Is R' L' → L'.length = L.length + 1 ∧ 1 ≤ R'.length ∧ (R'.getD 0 []).length = k + 1) ∧
      ∃ o, ((((⟨[r, s], os⟩ : Gd).alloc 0 n).1.write 0 k 0 ⟨0, x⟩).1.drop 0) = (⟨[r, s], os ++ [o]⟩, 0)) := by
  obtain ⟨l, hl, rfl, _⟩ := of_ids (hok.rs r List.mem_cons_self).1
  have hnot : ∀ os' : List (List V), ∀ q : Rt, ¬ (⟨[q, s], os'⟩ : Gd).not 0 := fun os' q => by unfold Gd.not; simp
  by_cases h8 : l.length = 8
  · left
    unfold alloc
    rw [if_neg (hnot _ _), if_neg (by omega)]
    have e : ((⟨[Rt.of l, s], os⟩ : Gd).rt 0).push ((os.length : Int) + 1) = (Rt.zero, 13) := Rt.of_push_full h8
    rw [e, if_neg (by simp)]
  · right
    have hl7 : l.length < 8 := by omega
    have e : ((⟨[Rt.of l, s], os⟩ : Gd).rt 0).push ((os.length : Int) + 1) = (Rt.of (l ++ [(os.length : Int) + 1]), 0) := Rt.of_push hl7
    have ea : (⟨[Rt.of l, s], os⟩ : Gd).alloc 0 n = (⟨[Rt.of (l ++ [(os.length : Int) + 1]), s], os ++ [List.replicate n.toNat default]⟩, 0) := by
      unfold alloc
      rw [if_neg (hnot _ _), if_neg (by omega), e, if_pos rfl]
      rfl
    have hokA : (⟨[Rt.of (l ++ [(os.length : Int) + 1]), s], os ++ [List.replicate n.toNat default]⟩ : Gd).Ok := by
      have := hok.alloc 0 n
      rwa [ea] at this
    rw [ea]
    refine ⟨rfl, l.length, hl7, fun R L R' L' h h' => ⟨?_, ?_, ?_⟩, ?_⟩
    · refine one_more (G := ⟨[Rt.of l, s], os⟩) (H := ⟨[Rt.of (l ++ [(os.length : Int) + 1]), s], os ++ [List.replicate n.toNat default]⟩) hok hokA rfl (fun v hv => ?_) (fun q hq id hid => ?_) (fun q hq id hid => ?_) ⟨_, List.mem_cons_self, ?_⟩ h h'
      · obtain rfl := (List.mem_replicate.1 hv).2
        decide
      · rcases List.mem_cons.1 hq with rfl | hq
        · rw [ids_of hl] at hid
          exact ⟨_, List.mem_cons_self, by rw [ids_of (by simp; omega)]; exact List.mem_append_left _ hid⟩
        · exact ⟨q, List.mem_cons_of_mem _ hq, hid⟩
      · rcases List.mem_cons.1 hq with rfl | hq
        · rw [ids_of (by simp; omega)] at hid
          rcases List.mem_append.1 hid with h1 | h1
          · exact .inr ⟨_, List.mem_cons_self, by rw [ids_of hl]; exact h1⟩
          · exact .inl (List.mem_singleton.1 h1)
        · exact .inr ⟨q, List.mem_cons_of_mem _ hq, hid⟩
      · rw [ids_of (by simp; omega)]; simp
    · rw [h'.1, numRs_len]; simp
    · rw [h'.1]
      have := (numRs_at [Rt.of (l ++ [(os.length : Int) + 1]), s] [] 0 (by simp)).1
      rw [this, nums_len]
      show (ids (Rt.of (l ++ [(os.length : Int) + 1]))).length = l.length + 1
      rw [ids_of (by simp; omega)]
      simp
    · have hd : ∀ o, ((⟨[Rt.of (l ++ [(os.length : Int) + 1]), s], os ++ [o]⟩ : Gd).drop 0) = (⟨[Rt.of l, s], os ++ [o]⟩, 0) := fun o => by
        unfold drop turn
        rw [if_neg (hnot _ _)]
        have e2 : ((⟨[Rt.of (l ++ [(os.length : Int) + 1]), s], os ++ [o]⟩ : Gd).rt 0).drop = (Rt.of l, 0) := Rt.of_drop hl7
        rw [e2, if_pos rfl]
        rfl
      have hg : ((⟨[Rt.of (l ++ [(os.length : Int) + 1]), s], os ++ [List.replicate n.toNat default]⟩ : Gd).rt 0).get l.length = ((os.length : Int) + 1, 0) := by
        have := Rt.of_get (l := l ++ [(os.length : Int) + 1]) (k := l.length) (by simp; omega) (by simp)
        rw [List.getD_eq_getElem?_getD, List.getElem?_append_right (Nat.le_refl _), Nat.sub_self] at this
        exact this
      unfold write
      split
      · exact ⟨_, hd _⟩
      · split
        · exact ⟨_, hd _⟩
        · have hf : ∀ v, (⟨[Rt.of (l ++ [(os.length : Int) + 1]), s], os ++ [List.replicate n.toNat default]⟩ : Gd).fset 0 l.length 0 v = ⟨[Rt.of (l ++ [(os.length : Int) + 1]), s], os ++ [(List.replicate n.toNat default).set 0 v]⟩ := fun v => by
            unfold fset
            rw [hg]
            have e3 : ((os.length : Int) + 1 - 1).toNat = os.length := by omega
            have e4 : (⟨[Rt.of (l ++ [(os.length : Int) + 1]), s], os ++ [List.replicate n.toNat default]⟩ : Gd).ob ((os.length : Int) + 1) = List.replicate n.toNat default := by
              unfold ob
              show (os ++ [_]).getD _ [] = _
              rw [e3, List.getD_eq_getElem?_getD, List.getElem?_append_right (Nat.le_refl _), Nat.sub_self]
              rfl
            simp only [e3, e4]
            rw [List.set_append_right _ _ (Nat.le_refl _), Nat.sub_self]
            rfl
          rw [hf]
          exact ⟨_, hd _⟩
end Gd
end Go.Proofs.Ytlogojiphjpknaa
