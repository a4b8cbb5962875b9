/- flitlaw06.shown comes to true. No condition. -/
import Derived.Test.YtlogojiphjpknaaMove
namespace Go.Proofs.Ytlogojiphjpknaa
open Go.RowKit

def YesP (w : World) (e : Ending) (w' : World) : Prop := e = .returned (.bool true) ∧ Below w.heap.size w w'

set_option maxRecDepth 100000 in
set_option maxHeartbeats 1000000 in
theorem shown_yes (w : World) : Calls Try.prog 15 #[] w (YesP w) := by
  go_enter Try.func15, Try.ntmps15
  go_wp2_with fail
  refine (push_any Rt.zero 5 _).mono ?_
  rintro e w1 ⟨rfl, hb⟩
  obtain ⟨os, d, rfl⟩ := ext_of hb
  clear hb
  rw [show Rt.push Rt.zero 5 = (⟨1, 5, 0, 0, 0, 0, 0, 0, 0⟩, 0) from rfl]
  go_wp2_with fail
  refine (get_any ⟨1, 5, 0, 0, 0, 0, 0, 0, 0⟩ 0 _).mono ?_
  rintro e w1 ⟨rfl, hb⟩
  obtain ⟨os1, d1, rfl⟩ := ext_of hb
  clear hb
  rw [show Rt.get ⟨1, 5, 0, 0, 0, 0, 0, 0, 0⟩ 0 = (5, 0) from rfl]
  go_wp2_with fail
  refine (get_any ⟨1, 5, 0, 0, 0, 0, 0, 0, 0⟩ 1 _).mono ?_
  rintro e w1 ⟨rfl, hb⟩
  obtain ⟨os2, d2, rfl⟩ := ext_of hb
  clear hb
  rw [show Rt.get ⟨1, 5, 0, 0, 0, 0, 0, 0, 0⟩ 1 = (0, 12) from rfl]
  go_wp2_with fail
  refine (dup_any ⟨1, 5, 0, 0, 0, 0, 0, 0, 0⟩ 0 _).mono ?_
  rintro e w1 ⟨rfl, hb⟩
  obtain ⟨os3, d3, rfl⟩ := ext_of hb
  clear hb
  rw [show Rt.dup ⟨1, 5, 0, 0, 0, 0, 0, 0, 0⟩ 0 = (⟨2, 5, 5, 0, 0, 0, 0, 0, 0⟩, 0) from rfl]
  go_wp2_with fail
  refine (drop_any Rt.zero _).mono ?_
  rintro e w1 ⟨rfl, hb⟩
  obtain ⟨os4, d4, rfl⟩ := ext_of hb
  clear hb
  rw [show Rt.drop Rt.zero = (Rt.zero, 12) from rfl]
  go_wp2
  go_ret
  refine ⟨rfl, ?_⟩
  repeat (first | refine below_ext ?_ (by simp [go_sem]) _ _ | refine Below.alloc ?_ (by simp [go_sem]) _)
  exact Below.refl _ _

end Go.Proofs.Ytlogojiphjpknaa
