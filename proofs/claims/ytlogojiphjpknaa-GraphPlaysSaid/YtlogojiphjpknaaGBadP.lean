/- A call that is refused leaves a graph as it was. No program in sight. -/
import Derived.Test.YtlogojiphjpknaaGPure
namespace Go.Proofs.Ytlogojiphjpknaa
namespace Gd
section
variable (G : Gd)
theorem turn_same (t : Int) (x : Rt × Int) : (G.turn t x).2 = 0 ∨ (G.turn t x).1 = G := by
  unfold turn
  split
  · exact .inr rfl
  · split
    · exact .inl rfl
    · exact .inr rfl
theorem alloc_same (t n : Int) : (G.alloc t n).2 = 0 ∨ (G.alloc t n).1 = G := by
  unfold alloc
  split
  · exact .inr rfl
  · split
    · exact .inr rfl
    · split
      · exact .inl rfl
      · exact .inr rfl
theorem put_same (t i : Int) : (G.put t i).2 = 0 ∨ (G.put t i).1 = G := by
  unfold put
  split
  · exact .inr rfl
  · split
    · exact .inr rfl
    · exact turn_same G _ _
theorem write_same (t i f : Int) (s : V) : (G.write t i f s).2 = 0 ∨ (G.write t i f s).1 = G := by
  unfold write
  split
  · exact .inr rfl
  · split
    · exact .inr rfl
    · exact .inl rfl
theorem swap_same (t i f : Int) (s u : V) : ((G.swap t i f s u).2.2 = 0 ∧ (G.swap t i f s u).2.1 = true) ∨ (G.swap t i f s u).1 = G := by
  unfold swap
  split
  · exact .inr rfl
  · split
    · exact .inr rfl
    · split
      · exact .inl ⟨rfl, rfl⟩
      · exact .inr rfl
theorem put_len (t i : Int) : (G.put t i).1.os.length = G.os.length := by
  unfold put
  split
  · rfl
  · split
    · rfl
    · rw [(turn_os G t _).1]
theorem swap_len (t i f : Int) (s u : V) : (G.swap t i f s u).1.os.length = G.os.length := by
  unfold swap
  split
  · rfl
  · split
    · rfl
    · split
      · unfold fset; simp
      · rfl
end
end Gd
end Go.Proofs.Ytlogojiphjpknaa
