/- The parts of Shape's first loop: a thread's roots as a row of numbers. No condition. -/
import Derived.Test.YtlogojiphjpknaaGShapeM
namespace Go.Proofs.Ytlogojiphjpknaa
open Go.RowKit Go.Maps
set_option linter.unusedVariables false

section
variable {B : Nat} {P C : Nat → Prop} {w w' : World} {b2 b3 b4 b5 : Nat} {met met' : List Int} {R R' : List (List Int)} {L L' : List (List V)}

theorem PartS.turn (h : PartS B P C w b3 b4 b5 met R L) {P' C' : Nat → Prop} (hsz : w.heap.size ≤ w'.heap.size) (hs : ∀ k, k < w.heap.size → ¬ P k → ¬ C k → w'.heap[k]? = w.heap[k]?) (sh' : ShS P' w' b3 R' L')
    (hP' : ∀ k, P' k → (P k ∨ C k ∨ w.heap.size ≤ k) ∧ k < w'.heap.size) (hC' : ∀ k, C' k → (P k ∨ C k ∨ w.heap.size ≤ k) ∧ k < w'.heap.size) : PartS B P' C' w' b3 b4 b5 met R' L' := by
  have hb : ∀ k, (P k ∨ C k ∨ w.heap.size ≤ k) → B ≤ k := fun k hk => by
    rcases hk with h1 | h1 | h1
    · exact (h.pb k h1).1
    · exact (h.cb k h1).1
    · exact Nat.le_trans h.hB h1
  refine ⟨h.num.kept (fun k hf hk => hs k hk hf.2.1 hf.2.2) (fun k hf hk => ⟨hf.1, fun hp => ?_, fun hc => ?_⟩), sh', fun k hk => ⟨hb k (hP' k hk).1, (hP' k hk).2⟩, fun k hk => ⟨hb k (hC' k hk).1, (hC' k hk).2⟩, Nat.le_trans h.hB hsz⟩
  · rcases (hP' k hp).1 with h1 | h1 | h1
    · exact hf.2.1 h1
    · exact hf.2.2 h1
    · omega
  · rcases (hC' k hc).1 with h1 | h1 | h1
    · exact hf.2.1 h1
    · exact hf.2.2 h1
    · omega

theorem ShS.up {P Q : Nat → Prop} {w w' : World} {b3 : Nat} {R : List (List Int)} {L : List (List V)} (h : ShS P w b3 R L) (hs : ∀ k, P k → k < w.heap.size → w'.heap[k]? = w.heap[k]?) (hQ : ∀ k, P k → Q k) : ShS Q w' b3 R L := by
  obtain ⟨Rv, Lv, rg, rc, lg, lc, h⟩ := h.same hs
  exact ⟨Rv, Lv, rg, rc, lg, lc, h.hb, hQ _ h.pb, h.hR, fun g hg => hQ _ (h.pR g hg), h.hL, fun g hg => hQ _ (h.pL g hg), h.rr.same (fun _ _ _ _ => rfl) hQ, h.lr.same (fun _ _ _ _ => rfl) hQ⟩

/-- the result's own block -/
def Two (w : World) (b2 : Nat) : Prop := Blk w b2 65 #[.slice none 0 0, .slice none 0 0]

/-- between threads -/
structure OutSt (B : Nat) (w0 w : World) (b2 b3 b4 b5 : Nat) (met : List Int) (R : List (List Int)) (L : List (List V)) (P : Nat → Prop) : Prop where
  ps : PartS B P (fun k => k = b2) w b3 b4 b5 met R L
  np : ¬ P b2
  b2 : Two w b2
  bl : Below B w0 w

/-- within a thread: the row of its numbers so far, at g; the roots at b8 -/
structure InSt (B : Nat) (w0 w : World) (b2 b3 b4 b5 b8 g c : Nat) (r : Rt) (met : List Int) (row : List Int) (R : List (List Int)) (L : List (List V)) (P : Nat → Prop) : Prop where
  ps : PartS B P (fun k => k = b2 ∨ k = b8 ∨ k = g) w b3 b4 b5 met R L
  np : ¬ P b2
  n8 : ¬ P b8
  ng : ¬ P g
  b2 : Two w b2
  b8 : Blk w b8 26 (rcells r).toArray
  row : w.ownsRow 0 3 1 (.slice (some ⟨g, 0, none⟩) row.length c) row.length (ints row)
  bl : Below B w0 w

variable {w0 : World}

theorem OutSt.start (h : OutSt B w0 w b2 b3 b4 b5 met R L P) {r : Rt} {n : Nat} {Z : Array Value} (hZ : Z.size = n) (hn : n ≤ 8) :
    InSt B w0 ((w.alloc (.cells (rcells r).toArray 26)).alloc (.cells Z 3)) b2 b3 b4 b5 w.heap.size (w.heap.size + 1) n r met [] R L P := by
  have hl2 := h.b2.lt
  have hsame : ∀ k, k < w.heap.size → ((w.alloc (.cells (rcells r).toArray 26)).alloc (.cells Z 3)).heap[k]? = w.heap[k]? := fun k hk => (Below.heap_alloc (w.alloc _) _ k (by simp; omega)).trans (Below.heap_alloc w _ k hk)
  refine ⟨h.ps.turn (by simp; omega) (fun k hk _ _ => hsame k hk) (h.ps.sh.same (fun k _ hk => hsame k hk)) (fun k hk => ⟨.inl hk, by have := (h.ps.pb k hk).2; simp; omega⟩) (fun k hk => ?_), h.np, fun hp => by have := (h.ps.pb _ hp).2; omega, fun hp => by have := (h.ps.pb _ hp).2; omega,
    (hsame _ hl2).trans h.b2, ?_, ?_, ?_⟩
  · rcases hk with rfl | rfl | rfl
    · exact ⟨.inr (.inl rfl), by simp; omega⟩
    · exact ⟨.inr (.inr (Nat.le_refl _)), by simp; omega⟩
    · exact ⟨.inr (.inr (Nat.le_succ _)), by simp⟩
  · exact (Below.heap_alloc (w.alloc _) _ w.heap.size (by simp)).trans (heap_alloc_new w _)
  · refine ⟨rfl, .inr ⟨w.heap.size + 1, n, Z, rfl, Nat.zero_le _, ?_, Nat.zero_le _, by unfold maxLen; omega, by rw [hZ, Nat.mul_one], by simp [ints]⟩⟩
    have := heap_alloc_new (w.alloc (.cells (rcells r).toArray 26)) (.cells Z 3)
    rw [show (w.alloc (.cells (rcells r).toArray 26)).heap.size = w.heap.size + 1 by simp] at this
    exact this
  · exact (h.bl.alloc h.ps.hB _).alloc (by simp; exact Nat.le_succ_of_le h.ps.hB) _

/-- a number asked for -/
theorem InSt.asked {b8 g c : Nat} {r : Rt} {row : List Int} (h : InSt B w0 w b2 b3 b4 b5 b8 g c r met row R L P) (hn : NumS (Grow (Apart B P (fun k => k = b2 ∨ k = b8 ∨ k = g)) w w') w' b4 b5 met') (ho : Only (Apart B P (fun k => k = b2 ∨ k = b8 ∨ k = g)) w w') :
    InSt B w0 w' b2 b3 b4 b5 b8 g c r met' row R L P := by
  obtain ⟨h1, h2, h3⟩ := h.ps.left ho
  exact ⟨h.ps.asked hn ho, h.np, h.n8, h.ng, (h1 _ (.inl rfl)).trans h.b2, (h1 _ (.inr (.inl rfl))).trans h.b8, own_same h.row (fun k hk => h1 k (by injection hk with hk; exact .inr (.inr hk.symm))), h.bl.trans h3⟩

/-- a number put behind the row -/
theorem InSt.put {b8 g c : Nat} {r : Rt} {row : List Int} (h : InSt B w0 w b2 b3 b4 b5 b8 g c r met row R L P) {x : Int} {w2 : World} {gg cap : Nat}
    (hown : w2.ownsRow 0 3 1 (.slice (some ⟨gg, 0, none⟩) (row.length + 1) cap) (row.length + 1) (ints row ++ [.int .i64 x])) (hgr : (w.alloc (.cells #[.int .i64 x] 3)).grownBy w2 (some g)) (hat : g = gg ∨ gg = w.heap.size + 1) (hlt : gg < w2.heap.size) :
    InSt B w0 w2 b2 b3 b4 b5 b8 gg cap r met (row ++ [x]) R L P := by
  have hs2 := hgr.size
  simp at hs2
  have hgl := (h.row.lt g rfl).2
  have hsame : ∀ k, k < w.heap.size → k ≠ g → w2.heap[k]? = w.heap[k]? := fun k hk hn => (hgr.block k (by simp; omega) (by simpa using hn)).trans (Below.heap_alloc w _ k hk)
  obtain ⟨_, hgt⟩ := own_typ h.row rfl
  have n2 : b2 ≠ g := typ_ne h.b2 hgt (by decide)
  have n8 : b8 ≠ g := typ_ne h.b8 hgt (by decide)
  have hgb := (h.ps.cb g (.inr (.inr rfl))).1
  refine ⟨h.ps.turn (by omega) (fun k hk _ hc => hsame k hk (fun e => hc (.inr (.inr e)))) (h.ps.sh.same (fun k hp hk => hsame k hk (fun e => h.ng (e ▸ hp)))) (fun k hk => ⟨.inl hk, by have := (h.ps.pb k hk).2; omega⟩) (fun k hk => ?_), h.np, h.n8, ?_,
    (hsame _ h.b2.lt n2).trans h.b2, (hsame _ h.b8.lt n8).trans h.b8, ?_, ?_⟩
  · rcases hk with rfl | rfl | rfl
    · exact ⟨.inr (.inl (.inl rfl)), by have := h.b2.lt; omega⟩
    · exact ⟨.inr (.inl (.inr (.inl rfl))), by have := h.b8.lt; omega⟩
    · rcases hat with h1 | h1
      · exact ⟨.inr (.inl (.inr (.inr h1.symm))), hlt⟩
      · exact ⟨.inr (.inr (by omega)), hlt⟩
  · rcases hat with h1 | h1
    · exact h1 ▸ h.ng
    · exact fun hp => by have := (h.ps.pb _ hp).2; omega
  · have e : (row ++ [x]).length = row.length + 1 := by simp
    rw [e]
    unfold ints at hown ⊢
    rw [List.map_append]
    exact hown
  · exact (h.bl.alloc h.ps.hB _).grown hgr (by simp; exact Nat.le_succ_of_le h.ps.hB) (fun k hk => by injection hk with hk; omega)

/-- the row put behind the others -/
theorem InSt.stop {b8 g c : Nat} {r : Rt} {row : List Int} (h : InSt B w0 w b2 b3 b4 b5 b8 g c r met row R L P) {Rv Lv : Value} {rg rc lg lc : List Nat} (hsh : ShR P w b3 R L Rv Lv rg rc lg lc) {w2 : World} {gg cap : Nat}
    (hown : w2.ownsRow 0 22 1 (.slice (some ⟨gg, 0, none⟩) (R.length + 1) cap) (R.length + 1) (gvals rg rc R ++ [.slice (some ⟨g, 0, none⟩) row.length c])) (hgr : (w.alloc (.cells #[.slice (some ⟨g, 0, none⟩) row.length c] 22)).grownBy w2 Rv.ownBlock)
    (hat : Rv.ownBlock = some gg ∨ gg = w.heap.size + 1) (hlt : gg < w2.heap.size) :
    ∃ P', OutSt B w0 (w2.setCell ⟨b3, 0, none⟩ (.slice (some ⟨gg, 0, none⟩) (R.length + 1) cap)) b2 b3 b4 b5 met (R ++ [row]) L P' := by
  have hs2 := hgr.size
  simp at hs2
  have hsh' := hsh.addR rfl h.row hown hgr hat hlt
  have hpb3 := h.ps.pb b3 hsh.pb
  have n23 : b2 ≠ b3 := fun e => h.np (e ▸ hsh.pb)
  have n2R : some b2 ≠ Rv.ownBlock := fun e => h.np (hsh.pR _ e.symm)
  have hset : ∀ k, k ≠ b3 → (w2.setCell ⟨b3, 0, none⟩ (.slice (some ⟨gg, 0, none⟩) (R.length + 1) cap)).heap[k]? = w2.heap[k]? := fun k hk => Below.heap_setCell w2 ⟨b3, 0, none⟩ _ k hk
  have hb2 : ∀ k, k < w.heap.size → some k ≠ Rv.ownBlock → w2.heap[k]? = w.heap[k]? := fun k hk hn => (hgr.block k (by simp; omega) hn).trans (Below.heap_alloc w _ k hk)
  have hz : (w2.setCell ⟨b3, 0, none⟩ (.slice (some ⟨gg, 0, none⟩) (R.length + 1) cap)).heap.size = w2.heap.size := by simp [World.setCell]
  have hl2 := h.b2.lt
  refine ⟨_, h.ps.turn (P' := fun k => P k ∨ k = g ∨ (w.heap.size ≤ k ∧ k < w2.heap.size)) (by omega) (fun k hk hp hc => ?_) ⟨_, _, _, _, _, _, hsh'⟩ (fun k hk => ?_) (fun k hk => ?_), ?_, ?_, ?_⟩
  · exact (hset k (fun e => hp (e ▸ hsh.pb))).trans (hb2 k hk (fun e => hp (hsh.pR _ e.symm)))
  · rw [hz]
    rcases hk with hk | rfl | hk
    · exact ⟨.inl hk, by have := (h.ps.pb k hk).2; omega⟩
    · exact ⟨.inr (.inl (.inr (.inr rfl))), by have := (h.row.lt k rfl).2; omega⟩
    · exact ⟨.inr (.inr hk.1), hk.2⟩
  · rw [hz]
    subst hk
    exact ⟨.inr (.inl (.inl rfl)), by omega⟩
  · rintro (hk | hk | hk)
    · exact h.np hk
    · obtain ⟨_, hgt⟩ := own_typ h.row rfl
      exact typ_ne h.b2 hgt (by decide) hk
    · omega
  · exact ((hset _ n23).trans (hb2 _ hl2 n2R)).trans h.b2
  · refine Below.setCell ((h.bl.alloc h.ps.hB _).grown hgr (by simp; exact Nat.le_succ_of_le h.ps.hB) (fun k hk => (h.ps.pb k (hsh.pR _ hk)).1)) (p := ⟨b3, 0, none⟩) hpb3.1 _
end

/-- a root's cell -/
theorem rcell_at (r : Rt) {j : Nat} (hj : j < r.n.toNat) (h8 : j < 8) : (rcells r)[1 + j]? = some (.int .i64 ((Gd.ids r).getD j 0)) := by
  unfold Gd.ids
  rw [List.getD_eq_getElem?_getD, List.getElem?_take_of_lt hj]
  rcases Rt.cases8 h8 with rfl | rfl | rfl | rfl | rfl | rfl | rfl | rfl <;> rfl
theorem ids_length {r : Rt} (h : r.n ≤ 8) : (Gd.ids r).length = r.n.toNat := by
  unfold Gd.ids
  rw [List.length_take]
  simp
  omega

end Go.Proofs.Ytlogojiphjpknaa
