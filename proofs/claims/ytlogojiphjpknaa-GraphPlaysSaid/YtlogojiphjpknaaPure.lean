/- Roots as plain data: nine ints; what may be, and what Push, Drop, Get, Dup and Move make of them. No program in sight. -/
namespace Go.Proofs.Ytlogojiphjpknaa

structure Rt where
  n : Int
  a0 : Int
  a1 : Int
  a2 : Int
  a3 : Int
  a4 : Int
  a5 : Int
  a6 : Int
  a7 : Int

namespace Rt
def zero : Rt := ⟨0, 0, 0, 0, 0, 0, 0, 0, 0⟩

def at_ (r : Rt) (i : Int) : Int :=
  if i = 0 then r.a0 else if i = 1 then r.a1 else if i = 2 then r.a2 else if i = 3 then r.a3 else
  if i = 4 then r.a4 else if i = 5 then r.a5 else if i = 6 then r.a6 else r.a7

def set_ (r : Rt) (i v : Int) : Rt :=
  if i = 0 then { r with a0 := v } else if i = 1 then { r with a1 := v } else if i = 2 then { r with a2 := v } else if i = 3 then { r with a3 := v } else
  if i = 4 then { r with a4 := v } else if i = 5 then { r with a5 := v } else if i = 6 then { r with a6 := v } else { r with a7 := v }

def ok (r : Rt) : Prop :=
  0 ≤ r.n ∧ r.n ≤ 8 ∧ (r.n ≤ 0 → r.a0 = 0) ∧ (r.n ≤ 1 → r.a1 = 0) ∧ (r.n ≤ 2 → r.a2 = 0) ∧ (r.n ≤ 3 → r.a3 = 0) ∧
  (r.n ≤ 4 → r.a4 = 0) ∧ (r.n ≤ 5 → r.a5 = 0) ∧ (r.n ≤ 6 → r.a6 = 0) ∧ (r.n ≤ 7 → r.a7 = 0)

instance (r : Rt) : Decidable r.ok := by unfold ok; infer_instance

def may (r : Rt) : Bool := decide r.ok

def push (r : Rt) (a : Int) : Rt × Int :=
  if r.ok then if r.n = 8 then (zero, 13) else ({ r.set_ r.n a with n := r.n + 1 }, 0) else (zero, 1)

def drop (r : Rt) : Rt × Int :=
  if r.ok then if r.n = 0 then (zero, 12) else ({ r.set_ (r.n - 1) 0 with n := r.n - 1 }, 0) else (zero, 1)

def get (r : Rt) (i : Int) : Int × Int :=
  if r.ok then if i < 0 ∨ r.n ≤ i then (0, 12) else (r.at_ i, 0) else (0, 1)

def dup (r : Rt) (i : Int) : Rt × Int :=
  if (r.get i).2 = 0 then r.push (r.get i).1 else (zero, (r.get i).2)

def mv (r : Rt) (f t : Int) (k a : Int) : Int := if k < r.n ∧ a = f then t else a

def move (r : Rt) (f t : Int) : Rt :=
  ⟨r.n, r.mv f t 0 r.a0, r.mv f t 1 r.a1, r.mv f t 2 r.a2, r.mv f t 3 r.a3, r.mv f t 4 r.a4, r.mv f t 5 r.a5, r.mv f t 6 r.a6, r.mv f t 7 r.a7⟩

def size (r : Rt) : Nat := r.n.toNat

theorem ext_ {r s : Rt} (h : r.n = s.n) (h0 : r.a0 = s.a0) (h1 : r.a1 = s.a1) (h2 : r.a2 = s.a2) (h3 : r.a3 = s.a3) (h4 : r.a4 = s.a4) (h5 : r.a5 = s.a5) (h6 : r.a6 = s.a6) (h7 : r.a7 = s.a7) : r = s := by
  cases r; cases s; simp_all

theorem zero_ok : zero.ok := by simp [ok, zero]

/-- the roots that are a list of numbers, of eight at most -/
def of (l : List Int) : Rt := ⟨l.length, l.getD 0 0, l.getD 1 0, l.getD 2 0, l.getD 3 0, l.getD 4 0, l.getD 5 0, l.getD 6 0, l.getD 7 0⟩

theorem of_nil : of [] = zero := rfl

theorem getD_ge {l : List Int} {k : Nat} (h : l.length ≤ k) : l.getD k 0 = 0 := by
  rw [List.getD_eq_getElem?_getD, List.getElem?_eq_none h]; rfl

theorem of_ok {l : List Int} (h : l.length ≤ 8) : (of l).ok := by
  refine ⟨by simp [of], by simp [of]; omega, ?_, ?_, ?_, ?_, ?_, ?_, ?_, ?_⟩ <;>
    (intro hn; simp only [of] at hn; exact getD_ge (by omega))

theorem cases8 {k : Nat} (h : k < 8) : k = 0 ∨ k = 1 ∨ k = 2 ∨ k = 3 ∨ k = 4 ∨ k = 5 ∨ k = 6 ∨ k = 7 := by omega

theorem of_at {l : List Int} {k : Nat} (h : k < 8) : (of l).at_ k = l.getD k 0 := by
  rcases cases8 h with rfl | rfl | rfl | rfl | rfl | rfl | rfl | rfl <;> simp [of, at_]

theorem of_push {l : List Int} {a : Int} (h : l.length < 8) : (of l).push a = (of (l ++ [a]), 0) := by
  unfold push
  rw [if_pos (of_ok (by omega)), if_neg (by simp [of]; omega)]
  congr 1
  match l, h with
  | [], _ => rfl
  | [_], _ => rfl
  | [_, _], _ => rfl
  | [_, _, _], _ => rfl
  | [_, _, _, _], _ => rfl
  | [_, _, _, _, _], _ => rfl
  | [_, _, _, _, _, _], _ => rfl
  | [_, _, _, _, _, _, _], _ => rfl

theorem of_push_full {l : List Int} {a : Int} (h : l.length = 8) : (of l).push a = (zero, 13) := by
  unfold push
  rw [if_pos (of_ok (by omega)), if_pos (by simp [of]; omega)]

theorem of_drop {l : List Int} {a : Int} (h : l.length < 8) : (of (l ++ [a])).drop = (of l, 0) := by
  unfold drop
  rw [if_pos (of_ok (by simp; omega)), if_neg (by simp [of]; omega)]
  congr 1
  match l, h with
  | [], _ => rfl
  | [_], _ => rfl
  | [_, _], _ => rfl
  | [_, _, _], _ => rfl
  | [_, _, _, _], _ => rfl
  | [_, _, _, _, _], _ => rfl
  | [_, _, _, _, _, _], _ => rfl
  | [_, _, _, _, _, _, _], _ => rfl

theorem of_drop_nil : (of []).drop = (zero, 12) := rfl

theorem of_get {l : List Int} {k : Nat} (hl : l.length ≤ 8) (h : k < l.length) : (of l).get k = (l.getD k 0, 0) := by
  unfold get
  rw [if_pos (of_ok hl), if_neg (by simp [of]; omega), of_at (by omega)]

end Rt
end Go.Proofs.Ytlogojiphjpknaa
