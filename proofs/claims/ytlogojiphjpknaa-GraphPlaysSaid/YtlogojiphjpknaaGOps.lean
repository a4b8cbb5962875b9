/- How long a graph's lists are behind a call; and what a new block leaves as it was. No condition. -/
import Derived.Test.YtlogojiphjpknaaGShown
import Derived.Test.YtlogojiphjpknaaGKind
import Derived.Test.YtlogojiphjpknaaGBadP
import Derived.Test.YtlogojiphjpknaaGNumsP
namespace Go.Proofs.Ytlogojiphjpknaa
open Go.RowKit
set_option linter.unusedVariables false

/-- no call takes a thread away, and only Alloc adds an object, one -/
theorem alloc_len (G : Gd) (t n : Int) : (G.alloc t n).1.os.length ≤ G.os.length + 1 ∧ (G.alloc t n).1.ts.length = G.ts.length := by
  unfold Gd.alloc
  split
  · exact ⟨Nat.le_succ _, rfl⟩
  · split
    · exact ⟨Nat.le_succ _, rfl⟩
    · split
      · exact ⟨by simp, by simp⟩
      · exact ⟨Nat.le_succ _, rfl⟩
theorem write_len (G : Gd) (t i f : Int) (s : V) : (G.write t i f s).1.os.length = G.os.length ∧ (G.write t i f s).1.ts.length = G.ts.length := by
  unfold Gd.write
  split
  · exact ⟨rfl, rfl⟩
  · split
    · exact ⟨rfl, rfl⟩
    · unfold Gd.fset; exact ⟨by simp, rfl⟩
theorem drop_len (G : Gd) (t : Int) : (G.drop t).1.os.length = G.os.length ∧ (G.drop t).1.ts.length = G.ts.length :=
  ⟨by unfold Gd.drop; rw [(Gd.turn_os G t _).1], (Gd.turn_os G t _).2⟩
theorem dup_len (G : Gd) (t i : Int) : (G.dup t i).1.os.length = G.os.length ∧ (G.dup t i).1.ts.length = G.ts.length :=
  ⟨by unfold Gd.dup; rw [(Gd.turn_os G t _).1], (Gd.turn_os G t _).2⟩

theorem GS.keepA {w0 w : World} {p : Nat} {G : Gd} {C : Nat → Prop} (h : GS w0 w p G C) (o : Obj) : Keep C w (w.alloc o) := (h.below ((Below.refl _ _).alloc (Nat.le_refl _) o)).2
/-- a shape is no longer than the graph -/
theorem GS.is_len {w0 w : World} {p : Nat} {G : Gd} {C : Nat → Prop} (h : GS w0 w p G C) {R : List (List Int)} {L : List (List V)} (his : G.Is R L) : R.length ≤ 64 ∧ L.length ≤ G.os.length := by
  obtain ⟨h1, MR, ML, hN⟩ := nums_of h.ok his
  obtain ⟨F, ⟨bt, ct, ov, gs, cs, hv⟩, _⟩ := h.gr
  have := hv.h64
  have h2 := hN.bl L.length 0
  rw [hN.e] at h2
  exact ⟨by omega, h2⟩

end Go.Proofs.Ytlogojiphjpknaa
