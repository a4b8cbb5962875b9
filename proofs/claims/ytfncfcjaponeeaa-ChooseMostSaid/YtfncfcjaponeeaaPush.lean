/- (*queue).Push, Pop, and container/heap's Push and Pop over choose's queue. Condition: at most a million candidates. -/
import Derived.Test.YtfncfcjaponeeaaDown
import Derived.Deep.AppendLies
import Derived.Deep.RegionLaw
namespace Go.Proofs.Ytfncfcjaponeeaa
open Go.RowKit

theorem info37 : (Try.prog.info? 37).map (fun i => (i.zero, i.size, i.bytes)) = some (some (.agg #[.int .i64 0, .int .i64 0, .int .i64 0]), 3, 24) := by kernel_rfl

/-- what a queue's change leaves as it was -/
structure Turn (w w' : World) (p : Nat) (r : Option Nat) : Prop where
  os : w'.os = w.os
  tape : w'.tape = w.tape
  output : w'.output = w.output
  size : w.heap.size ≤ w'.heap.size
  block : ∀ k, k < w.heap.size → k ≠ p → some k ≠ r → w'.heap[k]? = w.heap[k]?

theorem turn_grown {w w' : World} {p : Nat} {r : Option Nat} (h : w.grownBy w' r) : Turn w w' p r := ⟨h.os, h.tape, h.output, h.size, fun k hk _ hr => h.block k hk hr⟩
theorem turn_set {a w : World} {p : Nat} {r : Option Nat} (h : Turn a w p r) (u : Value) : Turn a (w.setCell ⟨p, 0, none⟩ u) p r :=
  ⟨h.os, h.tape, h.output, by simpa [World.setCell] using h.size, fun k hk hp hr => (Below.heap_setCell w ⟨p, 0, none⟩ u k hp).trans (h.block k hk hp hr)⟩
theorem box_set {w : World} {p : Nat} {v : Value} (h : Box w p v) (u : Value) : Box (w.setCell ⟨p, 0, none⟩ u) p u := by
  unfold Box at h ⊢
  simp [World.setCell, Array.getElem?_modify, h]
theorem Box.frozen {w : World} {p : Nat} {v : Value} (h : Box w p v) : w.frozen? ⟨p, 0, none⟩ = false := by
  unfold Box at h; simp [World.frozen?, h]
theorem Box.ne_own {w : World} {p base n : Nat} {v u : Value} {xs : List Value} (hb : Box w p v) (hr : w.ownsRow base 37 3 u n xs) : u.ownBlock ≠ some p := by
  rcases hr.2 with ⟨rfl, _⟩ | ⟨g', cap, cur, rfl, _, hh, _⟩
  · simp [Value.ownBlock]
  · intro he
    simp only [Value.ownBlock, Option.some.injEq] at he
    subst he
    unfold Box at hb
    rw [hb] at hh
    injection hh with hh
    injection hh with _ ht
    cases ht

theorem assert37 (b l a : Int) (w : World) : (Instr.typeAssert (.iface 37 (.agg #[.int .i64 b, .int .i64 l, .int .i64 a])) 20 37 true).run Try.prog w = .ok (.tuple #[.agg #[.int .i64 b, .int .i64 l, .int .i64 a], .bool true]) w := by kernel_rfl

set_option maxRecDepth 100000 in
set_option maxHeartbeats 2000000 in
theorem qpush_any (base p n : Nat) (v : Value) (h : List C) (x : C) (w : World) (hb : Box w p v) (hr : w.ownsRow base 37 3 v n (flat h)) (hbase : base ≤ w.heap.size) (hn : n ≤ 1000000) :
    Calls Try.prog 37 #[.pointer (some ⟨p, 0, none⟩), .iface 37 (.agg #[.int .i64 x.b, .int .i64 x.l, .int .i64 x.a])] w fun e w' => e = .returned (.tuple #[]) ∧
      ∃ g c, Box w' p (.slice (some ⟨g, 0, none⟩) (n + 1) c) ∧ w'.ownsRow base 37 3 (.slice (some ⟨g, 0, none⟩) (n + 1) c) (n + 1) (flat (h ++ [x])) ∧ Turn w w' p v.ownBlock ∧ (v.ownBlock = some g ∨ w.heap.size ≤ g) := by
  obtain ⟨i0, hi0, hz0, hz1, hz2⟩ := info_parts info37
  have hbc := hb.cell
  have hpl := hb.lt
  have hne := hb.ne_own hr
  have HR := Lib.hid hr
  have HB := Lib.hid hb
  clear hr hb
  have hta := assert37
  have hpf := HB.out.frozen
  have hne0 : v.ownBlock ≠ some w.heap.size := fun h => by have := (HR.out.lt _ h).2; omega
  have HNEW := Lib.hid (show ∀ O : Obj, ((w.alloc O).alloc O).drew.heap[w.heap.size + 1]? = some O from fun O => by have := heap_alloc_new (w.alloc O) O; simpa [World.drew] using this)
  go_enter Try.func37, Try.ntmps37
  go_wp2_with fail
  go_region_law
    ((refine step_append_lies _ (by rfl) _ _ _ (by rfl) base 37 i0 _ 3 24 Try.underlying33 hi0 hz0 hz1 hz2 rfl (by omega) v n (flat h) (by rfl) (((HR.out.alloc _).alloc _).drew)
        ⟨w.heap.size + 1, 0, none⟩ 1 1 [.int .i64 x.b, .int .i64 x.l, .int .i64 x.a] (by rfl) (by rfl) (World.news_of_block (cs := #[.int .i64 x.b, .int .i64 x.l, .int .i64 x.a]) (t := 37) (fr := (0, 0)) (HNEW.out _)) (by simp [Value.oneCell'])
        (by omega) (by unfold maxLen; omega) (by omega) (by simp; omega) (w.heap.size + 2) (by simp) ?_; intro gg cap w1 hown1 hgrow hat hlt; have hcp : w1.cell? ⟨p, 0, none⟩ = some v := (hgrow.cell_far ⟨p, 0, none⟩ (by simp; omega) (Ne.symm hne)).trans (by go_simp); have hfz : w1.frozen? ⟨p, 0, none⟩ = false := (hgrow.frozen_far ⟨p, 0, none⟩ (by simp; omega) (Ne.symm hne)).trans (by go_simp)))
  all_goals (
    go_wp2_with fail
    go_end0
    have hb1 : Box w1 p v := (hgrow.block p (by simp; omega) (Ne.symm hne)).trans ((Below.heap_alloc _ _ p (by simp; omega)).trans ((Below.heap_alloc _ _ p hpl).trans HB.out))
    have hg1 : w.grownBy w1 v.ownBlock := grown_trans (grown_below (((Below.refl _ _).alloc (Nat.le_refl _) _).alloc (by simp) _).drew) hgrow
    refine ⟨rfl, gg, cap, box_set hb1 _, ?_, turn_set (turn_grown hg1) _, ?_⟩
    · rw [flat_append]
      exact ownsRow_setCell_other hown1 (hb1.ne_own hown1) _
    · rcases hat with h1 | h1
      · exact .inl h1
      · exact .inr (by omega))

def SomeVal (e : Ending) : Prop := ∃ y, e = .returned y

theorem Box.alloc {w : World} {p : Nat} {v : Value} (h : Box w p v) (o : Obj) : Box (w.alloc o) p v := (Below.heap_alloc w o p h.lt).trans h
theorem turn_alloc {a w : World} {p : Nat} {r : Option Nat} (h : Turn a w p r) (o : Obj) : Turn a (w.alloc o) p r :=
  ⟨h.os, h.tape, h.output, Nat.le_trans h.size (by simp), fun k hk hp hr => (Below.heap_alloc w o k (Nat.lt_of_lt_of_le hk h.size)).trans (h.block k hk hp hr)⟩

theorem len_any (A : Option Addr) (n c : Nat) (w : World) : Calls Try.prog 33 #[.slice A n c] w fun e w' => e = .returned (.int .i64 n) ∧ w = w' := by
  go_enter Try.func33, Try.ntmps33
  go_wp2
  go_ret
  exact ⟨rfl, rfl⟩

set_option maxRecDepth 100000 in
set_option maxHeartbeats 2000000 in
theorem qpop_any (base p g c n : Nat) (h : List C) (w : World) (hb : Box w p (.slice (some ⟨g, 0, none⟩) (n + 1) c)) (hr : Row w base g c h) (hl : h.length = n + 1) (hn : n ≤ 1000000) :
    Calls Try.prog 36 #[.pointer (some ⟨p, 0, none⟩)] w fun e w' => SomeVal e ∧ Box w' p (.slice (some ⟨g, 0, none⟩) n c) ∧ Row w' base g c (h.take n) ∧ Turn w w' p none := by
  have hbc := hb.cell
  have hpl := hb.lt
  have hpf := hb.frozen
  obtain ⟨x0, x1, x2⟩ := hr.cells (i := n) (by omega)
  have hgl := block_lt x0
  have hnc := hr.len
  rw [hl] at hnc
  obtain ⟨hnc1, hnc2⟩ := hnc
  have HR := Lib.hid hr
  have HB := Lib.hid hb
  have HL := Lib.hid hl
  clear hr hb hl
  go_enter Try.func36, Try.ntmps36
  go_wp2_with fail
  go_ret
  have hne := Box.ne_own HB.out HR.out
  refine ⟨⟨_, rfl⟩, (box_set HB.out _).alloc _, ?_, turn_alloc (turn_set (turn_grown (grown_refl _ _)) _) _⟩
  have h1 : Row w base g c (h.take n ++ [at_ h n]) := by rw [← take_last HL.out]; exact HR.out
  have h2 : (h.take n).length = n := by rw [List.length_take, HL.out]; omega
  unfold Row at h1 ⊢
  rw [flat_append, List.length_append, h2] at h1
  rw [h2]
  exact (ownsRow_setCell_other (ownsRow_pop (by rw [flat_length, h2]) h1) (by simpa [Value.ownBlock] using hne) _).alloc _

end Go.Proofs.Ytfncfcjaponeeaa
