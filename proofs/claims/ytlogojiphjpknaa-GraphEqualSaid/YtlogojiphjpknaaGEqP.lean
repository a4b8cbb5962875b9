/- A graph of two objects of one field, and roots that are theirs. No program in sight. -/
import Derived.Test.YtlogojiphjpknaaGPure
namespace Go.Proofs.Ytlogojiphjpknaa

def gE (ids : List Int) (a b : V) : Gd := ⟨[Rt.of ids], [[a], [b]]⟩
def TwoIds (ids : List Int) : Prop := ids.length ≤ 8 ∧ ∀ x ∈ ids, x = 1 ∨ x = 2

section
variable {ids : List Int} {a b : V}
theorem gE_not : ¬ (gE ids a b).not 0 := by unfold Gd.not gE; simp
theorem gE_rt : (gE ids a b).rt 0 = Rt.of ids := rfl
theorem gE_get (h : TwoIds ids) {i : Nat} (hi : i < ids.length) : ((gE ids a b).rt 0).get i = (ids.getD i 0, 0) := Rt.of_get h.1 hi
theorem id_two (h : TwoIds ids) {i : Nat} (hi : i < ids.length) : ids.getD i 0 = 1 ∨ ids.getD i 0 = 2 := by
  rw [List.getD_eq_getElem?_getD, List.getElem?_eq_getElem hi]
  exact h.2 _ (List.getElem_mem hi)

theorem gE_start1 : (Gd.new 1).alloc 0 1 = (⟨[Rt.of [1]], [[default]]⟩, 0) := by rfl
theorem gE_start2 : (⟨[Rt.of [1]], [[default]]⟩ : Gd).alloc 0 1 = (gE [1, 2] default default, 0) := by rfl

theorem gE_dup (h : TwoIds ids) (h8 : ids.length < 8) {i : Nat} (hi : i < ids.length) : (gE ids a b).dup 0 i = (gE (ids ++ [ids.getD i 0]) a b, 0) ∧ TwoIds (ids ++ [ids.getD i 0]) := by
  refine ⟨?_, by simp; omega, fun x hx => ?_⟩
  · unfold Gd.dup Gd.turn
    have h1 : ((gE ids a b).rt 0).dup i = (Rt.of (ids ++ [ids.getD i 0]), 0) := by
      unfold Rt.dup
      rw [gE_get h hi, if_pos rfl, gE_rt]
      exact Rt.of_push h8
    rw [if_neg gE_not, h1, if_pos rfl]
    rfl
  · rcases List.mem_append.1 hx with hx | hx
    · exact h.2 x hx
    · rw [List.mem_singleton.1 hx]; exact id_two h hi
theorem gE_eq (h : TwoIds ids) {i k : Nat} (hi : i < ids.length) (hk : k < ids.length) : (gE ids a b).eq 0 i k = (decide (ids.getD i 0 = ids.getD k 0), 0) := by
  unfold Gd.eq
  rw [if_neg gE_not, gE_get h hi, gE_get h hk]
  rfl
theorem gE_ferr (h : TwoIds ids) {i : Nat} (hi : i < ids.length) : (gE ids a b).ferr 0 i 0 = 0 := by
  unfold Gd.ferr
  rw [if_neg gE_not, gE_get h hi]
  rcases id_two h hi with e | e <;> rw [e] <;> rfl
theorem gE_write (h : TwoIds ids) {i : Nat} (hi : i < ids.length) {x : Int} (hx : 0 ≤ x ∧ x ≤ 5000) : (gE ids a b).write 0 i 0 ⟨0, x⟩ = (gE ids (if ids.getD i 0 = 1 then ⟨0, x⟩ else a) (if ids.getD i 0 = 1 then b else ⟨0, x⟩), 0) := by
  have hs : (gE ids a b).serr 0 ⟨0, x⟩ = 0 := by
    unfold Gd.serr
    rw [if_neg gE_not, if_neg (by unfold Gd.bad; simp only; omega)]
    rfl
  unfold Gd.write
  rw [hs, gE_ferr h hi, if_neg (by simp), if_neg (by simp)]
  unfold Gd.fset
  rw [gE_get h hi]
  rcases id_two h hi with e | e <;> rw [e] <;> rfl
theorem gE_look (h : TwoIds ids) {i : Nat} (hi : i < ids.length) : (gE ids a b).look 0 i 0 = (if ids.getD i 0 = 1 then a else b, 0) := by
  unfold Gd.look
  rw [if_pos (gE_ferr h hi)]
  unfold Gd.fval
  rw [gE_get h hi]
  rcases id_two h hi with e | e <;> rw [e] <;> rfl
end

/-- two writes, and what is told then -/
theorem gE_seen {ids : List Int} (h : TwoIds ids) {i k : Nat} (hi : i < ids.length) (hk : k < ids.length) (a b : V) {x : Int} (hx : 0 ≤ x ∧ x < 1000) :
    ∃ G1 G2, (gE ids a b).write 0 k 0 ⟨0, 5000⟩ = (G1, 0) ∧ G1.write 0 i 0 ⟨0, x⟩ = (G2, 0) ∧ G1.os.length = 2 ∧ G2.look 0 k 0 = (if ids.getD i 0 = ids.getD k 0 then ⟨0, x⟩ else ⟨0, 5000⟩, 0) := by
  refine ⟨_, _, gE_write h hk (by omega), gE_write h hi (by omega), rfl, ?_⟩
  rw [gE_look h hk]
  rcases id_two h hk with ek | ek <;> rcases id_two h hi with ei | ei <;> rw [ek, ei] <;> rfl

end Go.Proofs.Ytlogojiphjpknaa
