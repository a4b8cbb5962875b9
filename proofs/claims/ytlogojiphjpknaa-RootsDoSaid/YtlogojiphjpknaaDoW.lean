/- flitlaw06.RootsDo comes to true, whatever roots and numbers it is handed, and writes nothing that was there. -/
import Derived.Test.YtlogojiphjpknaaMovesW
import Derived.Test.YtlogojiphjpknaaDupsW
namespace Go.Proofs.Ytlogojiphjpknaa
open Go.RowKit

theorem pushR_eq {r s : Rt} {a c : Int} (h : r.push a = (s, c)) (w : World) : Calls Try.prog 20 #[rv r, .int .i64 a] w fun e w' => e = .returned (.tuple #[rv s, .int .i64 c]) ∧ Below w.heap.size w w' :=
  (pushR_any r a w).mono fun _ _ ⟨he, hb⟩ => ⟨by rw [he, h], hb⟩
theorem dropR_eq {r s : Rt} {c : Int} (h : r.drop = (s, c)) (w : World) : Calls Try.prog 21 #[rv r] w fun e w' => e = .returned (.tuple #[rv s, .int .i64 c]) ∧ Below w.heap.size w w' :=
  (dropR_any r w).mono fun _ _ ⟨he, hb⟩ => ⟨by rw [he, h], hb⟩
theorem getR_eq {r : Rt} {i a c : Int} (h : r.get i = (a, c)) (w : World) : Calls Try.prog 22 #[rv r, .int .i64 i] w fun e w' => e = .returned (.tuple #[.int .i64 a, .int .i64 c]) ∧ Below w.heap.size w w' :=
  (getR_any r i w).mono fun _ _ ⟨he, hb⟩ => ⟨by rw [he, h], hb⟩
theorem dupR_eq {r s : Rt} {i c : Int} (h : r.dup i = (s, c)) (w : World) : Calls Try.prog 23 #[rv r, .int .i64 i] w fun e w' => e = .returned (.tuple #[rv s, .int .i64 c]) ∧ Below w.heap.size w w' :=
  (dupR_any r i w).mono fun _ _ ⟨he, hb⟩ => ⟨by rw [he, h], hb⟩
theorem moveR_eq {r s : Rt} {f u : Int} (h : r.move f u = s) (w : World) : Calls Try.prog 25 #[rv r, .int .i64 f, .int .i64 u] w fun e w' => e = .returned (rv s) ∧ Below w.heap.size w w' :=
  (moveR_any r f u w).mono fun _ _ ⟨he, hb⟩ => ⟨by rw [he, h], hb⟩

set_option maxRecDepth 100000 in
set_option maxHeartbeats 4000000 in
theorem do_walk (r : Rt) (x y i : Int) (w : World) : Calls Try.prog 6 #[rv r, .agg #[.int .i64 x, .int .i64 y], .int .i64 i] w (YesP w) := by
  obtain ⟨s1, c1, h1⟩ : ∃ s c, Hid (r.push x = (s, c)) := ⟨_, _, rfl⟩
  obtain ⟨s2, c2, h2⟩ : ∃ s c, Hid (r.drop = (s, c)) := ⟨_, _, rfl⟩
  obtain ⟨v3, c3, h3⟩ : ∃ s c, Hid (r.get i = (s, c)) := ⟨_, _, rfl⟩
  obtain ⟨s4, c4, h4⟩ : ∃ s c, Hid (r.dup i = (s, c)) := ⟨_, _, rfl⟩
  obtain ⟨s5, h5⟩ : ∃ s, Hid (r.move x y = s) := ⟨_, rfl⟩
  have HEQ := eq26
  go_enter Try.func6, Try.ntmps6
  go_wp2_with fail
  refine (shown_yes _).mono ?_
  rintro e w2 ⟨rfl, hb2⟩
  obtain ⟨os0, d0, rfl⟩ := ext_of hb2
  clear hb2
  go_wp2_with fail
  refine (push_eq h1.out _).mono ?_
  rintro e w2 ⟨rfl, hb2⟩
  obtain ⟨os1, d1, rfl⟩ := ext_of hb2
  clear hb2
  go_wp2_with fail
  refine (pushR_eq h1.out _).mono ?_
  rintro e w2 ⟨rfl, hb2⟩
  obtain ⟨os2, d2, rfl⟩ := ext_of hb2
  clear hb2
  go_wp2_with fail
  refine (drop_eq h2.out _).mono ?_
  rintro e w2 ⟨rfl, hb2⟩
  obtain ⟨os3, d3, rfl⟩ := ext_of hb2
  clear hb2
  go_wp2_with fail
  refine (dropR_eq h2.out _).mono ?_
  rintro e w2 ⟨rfl, hb2⟩
  obtain ⟨os4, d4, rfl⟩ := ext_of hb2
  clear hb2
  go_wp2_with fail
  refine (get_eq h3.out _).mono ?_
  rintro e w2 ⟨rfl, hb2⟩
  obtain ⟨os5, d5, rfl⟩ := ext_of hb2
  clear hb2
  go_wp2_with fail
  refine (getR_eq h3.out _).mono ?_
  rintro e w2 ⟨rfl, hb2⟩
  obtain ⟨os6, d6, rfl⟩ := ext_of hb2
  clear hb2
  go_wp2_with fail
  refine (dup_eq h4.out _).mono ?_
  rintro e w2 ⟨rfl, hb2⟩
  obtain ⟨os7, d7, rfl⟩ := ext_of hb2
  clear hb2
  go_wp2_with fail
  refine (dupR_eq h4.out _).mono ?_
  rintro e w2 ⟨rfl, hb2⟩
  obtain ⟨os8, d8, rfl⟩ := ext_of hb2
  clear hb2
  go_wp2_with fail
  go_region_held3 (fun w' => w'.cell? ⟨w.heap.size, 0, none⟩ = some (.int .i64 r.n) ∧ w'.cell? ⟨w.heap.size, 1, none⟩ = some (.int .i64 r.a0) ∧ w'.cell? ⟨w.heap.size, 2, none⟩ = some (.int .i64 r.a1) ∧ w'.cell? ⟨w.heap.size, 3, none⟩ = some (.int .i64 r.a2) ∧ w'.cell? ⟨w.heap.size, 4, none⟩ = some (.int .i64 r.a3) ∧ w'.cell? ⟨w.heap.size, 5, none⟩ = some (.int .i64 r.a4) ∧ w'.cell? ⟨w.heap.size, 6, none⟩ = some (.int .i64 r.a5) ∧ w'.cell? ⟨w.heap.size, 7, none⟩ = some (.int .i64 r.a6) ∧ w'.cell? ⟨w.heap.size, 8, none⟩ = some (.int .i64 r.a7) ∧ w'.cell? ⟨w.heap.size + (2 + (os0.size + (os1.size + (1 + (os2.size + (1 + (os3.size + (1 + (os4.size + (1 + (os5.size + (os6.size + os7.size)))))))))))), 0, none⟩ = some (.int .i64 s4.n) ∧ w'.cell? ⟨w.heap.size + (2 + (os0.size + (os1.size + (1 + (os2.size + (1 + (os3.size + (1 + (os4.size + (1 + (os5.size + (os6.size + os7.size)))))))))))), 1, none⟩ = some (.int .i64 s4.a0) ∧ w'.cell? ⟨w.heap.size + (2 + (os0.size + (os1.size + (1 + (os2.size + (1 + (os3.size + (1 + (os4.size + (1 + (os5.size + (os6.size + os7.size)))))))))))), 2, none⟩ = some (.int .i64 s4.a1) ∧ w'.cell? ⟨w.heap.size + (2 + (os0.size + (os1.size + (1 + (os2.size + (1 + (os3.size + (1 + (os4.size + (1 + (os5.size + (os6.size + os7.size)))))))))))), 3, none⟩ = some (.int .i64 s4.a2) ∧ w'.cell? ⟨w.heap.size + (2 + (os0.size + (os1.size + (1 + (os2.size + (1 + (os3.size + (1 + (os4.size + (1 + (os5.size + (os6.size + os7.size)))))))))))), 4, none⟩ = some (.int .i64 s4.a3) ∧ w'.cell? ⟨w.heap.size + (2 + (os0.size + (os1.size + (1 + (os2.size + (1 + (os3.size + (1 + (os4.size + (1 + (os5.size + (os6.size + os7.size)))))))))))), 5, none⟩ = some (.int .i64 s4.a4) ∧ w'.cell? ⟨w.heap.size + (2 + (os0.size + (os1.size + (1 + (os2.size + (1 + (os3.size + (1 + (os4.size + (1 + (os5.size + (os6.size + os7.size)))))))))))), 6, none⟩ = some (.int .i64 s4.a5) ∧ w'.cell? ⟨w.heap.size + (2 + (os0.size + (os1.size + (1 + (os2.size + (1 + (os3.size + (1 + (os4.size + (1 + (os5.size + (os6.size + os7.size)))))))))))), 7, none⟩ = some (.int .i64 s4.a6) ∧ w'.cell? ⟨w.heap.size + (2 + (os0.size + (os1.size + (1 + (os2.size + (1 + (os3.size + (1 + (os4.size + (1 + (os5.size + (os6.size + os7.size)))))))))))), 8, none⟩ = some (.int .i64 s4.a7) ∧ w'.cell? ⟨w.heap.size + (2 + (os0.size + (os1.size + (1 + (os2.size + (1 + (os3.size + (1 + (os4.size + (1 + (os5.size + (os6.size + (os7.size + (1 + os8.size)))))))))))))), 0, none⟩ = some (.int .i64 s4.n) ∧ w'.cell? ⟨w.heap.size + (2 + (os0.size + (os1.size + (1 + (os2.size + (1 + (os3.size + (1 + (os4.size + (1 + (os5.size + (os6.size + (os7.size + (1 + os8.size)))))))))))))), 1, none⟩ = some (.int .i64 s4.a0) ∧ w'.cell? ⟨w.heap.size + (2 + (os0.size + (os1.size + (1 + (os2.size + (1 + (os3.size + (1 + (os4.size + (1 + (os5.size + (os6.size + (os7.size + (1 + os8.size)))))))))))))), 2, none⟩ = some (.int .i64 s4.a1) ∧ w'.cell? ⟨w.heap.size + (2 + (os0.size + (os1.size + (1 + (os2.size + (1 + (os3.size + (1 + (os4.size + (1 + (os5.size + (os6.size + (os7.size + (1 + os8.size)))))))))))))), 3, none⟩ = some (.int .i64 s4.a2) ∧ w'.cell? ⟨w.heap.size + (2 + (os0.size + (os1.size + (1 + (os2.size + (1 + (os3.size + (1 + (os4.size + (1 + (os5.size + (os6.size + (os7.size + (1 + os8.size)))))))))))))), 4, none⟩ = some (.int .i64 s4.a3) ∧ w'.cell? ⟨w.heap.size + (2 + (os0.size + (os1.size + (1 + (os2.size + (1 + (os3.size + (1 + (os4.size + (1 + (os5.size + (os6.size + (os7.size + (1 + os8.size)))))))))))))), 5, none⟩ = some (.int .i64 s4.a4) ∧ w'.cell? ⟨w.heap.size + (2 + (os0.size + (os1.size + (1 + (os2.size + (1 + (os3.size + (1 + (os4.size + (1 + (os5.size + (os6.size + (os7.size + (1 + os8.size)))))))))))))), 6, none⟩ = some (.int .i64 s4.a5) ∧ w'.cell? ⟨w.heap.size + (2 + (os0.size + (os1.size + (1 + (os2.size + (1 + (os3.size + (1 + (os4.size + (1 + (os5.size + (os6.size + (os7.size + (1 + os8.size)))))))))))))), 7, none⟩ = some (.int .i64 s4.a6) ∧ w'.cell? ⟨w.heap.size + (2 + (os0.size + (os1.size + (1 + (os2.size + (1 + (os3.size + (1 + (os4.size + (1 + (os5.size + (os6.size + (os7.size + (1 + os8.size)))))))))))))), 8, none⟩ = some (.int .i64 s4.a7) ∧ w'.cell? ⟨w.heap.size + 1, 0, none⟩ = some (.int .i64 x) ∧ w'.cell? ⟨w.heap.size + 1, 1, none⟩ = some (.int .i64 y)) (go_simp)
    (first
      | (go_at_call 24; refine (move_eq h5.out _).mono ?_; rintro e w2 ⟨rfl, hb2⟩; obtain ⟨os9, d9, rfl⟩ := ext_of hb2; clear hb2)
      | (go_at_call 25; refine (moveR_eq h5.out _).mono ?_; rintro e w2 ⟨rfl, hb2⟩; obtain ⟨os9, d9, rfl⟩ := ext_of hb2; clear hb2))
  all_goals (
    go_wp2_with fail
    go_ret
    refine ⟨rfl, ?_⟩
    repeat (first | with_reducible exact Below.refl _ _ | refine below_drewN ?_ _ | refine below_ext ?_ (by simp [go_sem]) _ _ | refine Below.alloc ?_ (by simp [go_sem]) _))

end Go.Proofs.Ytlogojiphjpknaa
