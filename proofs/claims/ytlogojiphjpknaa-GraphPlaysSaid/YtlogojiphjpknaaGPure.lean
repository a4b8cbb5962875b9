/- A graph as plain data: threads' roots, and objects of fields; what each call makes of it. No program in sight. -/
import Derived.Test.YtlogojiphjpknaaPure
namespace Go.Proofs.Ytlogojiphjpknaa

/-- what a field has, and what a Src is: a kind and a number -/
structure V where
  k : Int
  n : Int
deriving DecidableEq

instance : Inhabited V := ⟨⟨0, 0⟩⟩

structure Gd where
  ts : List Rt
  os : List (List V)

namespace Gd
def new (n : Nat) : Gd := ⟨List.replicate n Rt.zero, []⟩

/-- there is no such thread -/
def not (G : Gd) (t : Int) : Prop := t < 0 ∨ (G.ts.length : Int) ≤ t
instance (G : Gd) (t : Int) : Decidable (G.not t) := by unfold not; infer_instance

def rt (G : Gd) (t : Int) : Rt := G.ts.getD t.toNat Rt.zero
def ob (G : Gd) (id : Int) : List V := G.os.getD (id - 1).toNat []

/-- a thread's roots turned, if that goes -/
def turn (G : Gd) (t : Int) (x : Rt × Int) : Gd × Int :=
  if G.not t then (G, 1) else if x.2 = 0 then (⟨G.ts.set t.toNat x.1, G.os⟩, 0) else (G, x.2)

def alloc (G : Gd) (t n : Int) : Gd × Int :=
  if G.not t then (G, 1) else if n < 0 ∨ 7 < n then (G, 10)
  else if ((G.rt t).push (G.os.length + 1)).2 = 0 then (⟨G.ts.set t.toNat ((G.rt t).push (G.os.length + 1)).1, G.os ++ [List.replicate n.toNat default]⟩, 0)
  else (G, ((G.rt t).push (G.os.length + 1)).2)

def put (G : Gd) (t id : Int) : Gd × Int :=
  if G.not t then (G, 1) else if id < 0 ∨ (G.os.length : Int) < id then (G, 1) else G.turn t ((G.rt t).push id)

def dup (G : Gd) (t i : Int) : Gd × Int := G.turn t ((G.rt t).dup i)
def drop (G : Gd) (t : Int) : Gd × Int := G.turn t (G.rt t).drop

/-- a field's error: 0 if there is one -/
def ferr (G : Gd) (t i f : Int) : Int :=
  if G.not t then 1 else if ((G.rt t).get i).2 ≠ 0 then ((G.rt t).get i).2 else if ((G.rt t).get i).1 = 0 then 14
  else if f < 0 ∨ ((G.ob ((G.rt t).get i).1).length : Int) ≤ f then 15 else 0

/-- the field itself -/
def fval (G : Gd) (t i f : Int) : V := (G.ob ((G.rt t).get i).1).getD f.toNat default

def fset (G : Gd) (t i f : Int) (v : V) : Gd :=
  ⟨G.ts, G.os.set (((G.rt t).get i).1 - 1).toNat ((G.ob ((G.rt t).get i).1).set f.toNat v)⟩

def look (G : Gd) (t i f : Int) : V × Int := if G.ferr t i f = 0 then (G.fval t i f, 0) else (default, G.ferr t i f)

/-- no such Src -/
def bad (s : V) : Prop := s.k < 0 ∨ 2 < s.k ∨ (s.k = 0 ∧ (s.n < 0 ∨ 1099511627776 < s.n))
instance (s : V) : Decidable (bad s) := by unfold bad; infer_instance

/-- what a Src names, if it is none of the bad ones: with an error -/
def src (G : Gd) (t : Int) (s : V) : V × Int :=
  if s.k = 0 then (⟨0, s.n⟩, 0)
  else if s.k = 1 then (if ((G.rt t).get s.n).2 ≠ 0 then (default, ((G.rt t).get s.n).2) else (⟨1, ((G.rt t).get s.n).1⟩, 0))
  else (⟨1, 0⟩, 0)

def serr (G : Gd) (t : Int) (s : V) : Int := if G.not t then 1 else if bad s then 1 else (G.src t s).2
def serr2 (G : Gd) (t : Int) (s u : V) : Int := if G.not t then 1 else if bad s ∨ bad u then 1 else if (G.src t s).2 ≠ 0 then (G.src t s).2 else (G.src t u).2

def write (G : Gd) (t i f : Int) (s : V) : Gd × Int :=
  if G.serr t s ≠ 0 then (G, G.serr t s) else if G.ferr t i f ≠ 0 then (G, G.ferr t i f) else (G.fset t i f (G.src t s).1, 0)

def swap (G : Gd) (t i f : Int) (s u : V) : Gd × Bool × Int :=
  if G.serr2 t s u ≠ 0 then (G, false, G.serr2 t s u) else if G.ferr t i f ≠ 0 then (G, false, G.ferr t i f)
  else if G.fval t i f = (G.src t s).1 then (G.fset t i f (G.src t u).1, true, 0) else (G, false, 0)

def eq (G : Gd) (t i k : Int) : Bool × Int :=
  if G.not t then (false, 1) else if ((G.rt t).get i).2 ≠ 0 then (false, ((G.rt t).get i).2)
  else if ((G.rt t).get k).2 ≠ 0 then (false, ((G.rt t).get k).2) else (decide (((G.rt t).get i).1 = ((G.rt t).get k).1), 0)

/-- an id that there is, or none -/
def idOk (m : Nat) (id : Int) : Prop := 0 ≤ id ∧ id ≤ m
def rtOk (m : Nat) (r : Rt) : Prop := r.ok ∧ idOk m r.a0 ∧ idOk m r.a1 ∧ idOk m r.a2 ∧ idOk m r.a3 ∧ idOk m r.a4 ∧ idOk m r.a5 ∧ idOk m r.a6 ∧ idOk m r.a7
def vOk (m : Nat) (v : V) : Prop := (v.k = 0 ∨ v.k = 1) ∧ 0 ≤ v.n ∧ v.n ≤ 1099511627776 ∧ (v.k = 1 → v.n ≤ m)

structure Ok (G : Gd) : Prop where
  rs : ∀ r ∈ G.ts, rtOk G.os.length r
  vs : ∀ o ∈ G.os, ∀ v ∈ o, vOk G.os.length v
  fs : ∀ o ∈ G.os, o.length ≤ 7

theorem idOk.mono {m m' : Nat} {id : Int} (h : idOk m id) (hm : m ≤ m') : idOk m' id := ⟨h.1, by have := h.2; omega⟩
theorem rtOk.mono {m m' : Nat} {r : Rt} (h : rtOk m r) (hm : m ≤ m') : rtOk m' r := by
  obtain ⟨h, h0, h1, h2, h3, h4, h5, h6, h7⟩ := h
  exact ⟨h, h0.mono hm, h1.mono hm, h2.mono hm, h3.mono hm, h4.mono hm, h5.mono hm, h6.mono hm, h7.mono hm⟩
theorem vOk.mono {m m' : Nat} {v : V} (h : vOk m v) (hm : m ≤ m') : vOk m' v := ⟨h.1, h.2.1, h.2.2.1, fun hk => by have := h.2.2.2 hk; omega⟩
theorem zero_rt (m : Nat) : rtOk m Rt.zero := ⟨Rt.zero_ok, by simp [idOk, Rt.zero]⟩
theorem def_v (m : Nat) : vOk m default := ⟨.inl rfl, by decide, by decide, fun h => by cases h⟩

theorem rtOk.at_ {m : Nat} {r : Rt} (h : rtOk m r) (i : Int) : idOk m (r.at_ i) := by
  obtain ⟨h, h0, h1, h2, h3, h4, h5, h6, h7⟩ := h
  unfold Rt.at_
  repeat (split; assumption)
  assumption
theorem rtOk.get {m : Nat} {r : Rt} (h : rtOk m r) (i : Int) : idOk m (r.get i).1 := by
  unfold Rt.get
  split
  · split
    · exact ⟨Int.le_refl _, Int.natCast_nonneg m⟩
    · exact h.at_ i
  · exact ⟨Int.le_refl _, Int.natCast_nonneg m⟩

theorem set_ids {m : Nat} {r : Rt} (h : idOk m r.a0 ∧ idOk m r.a1 ∧ idOk m r.a2 ∧ idOk m r.a3 ∧ idOk m r.a4 ∧ idOk m r.a5 ∧ idOk m r.a6 ∧ idOk m r.a7) (i : Int) {v : Int} (hv : idOk m v) (n : Int) :
    let s := { r.set_ i v with n := n }; idOk m s.a0 ∧ idOk m s.a1 ∧ idOk m s.a2 ∧ idOk m s.a3 ∧ idOk m s.a4 ∧ idOk m s.a5 ∧ idOk m s.a6 ∧ idOk m s.a7 := by
  obtain ⟨h0, h1, h2, h3, h4, h5, h6, h7⟩ := h
  unfold Rt.set_
  repeat (split; exact ⟨by assumption, by assumption, by assumption, by assumption, by assumption, by assumption, by assumption, by assumption⟩)
  exact ⟨by assumption, by assumption, by assumption, by assumption, by assumption, by assumption, by assumption, by assumption⟩

theorem push_ok {r : Rt} (h : r.ok) (h8 : r.n ≠ 8) (v : Int) : ({ r.set_ r.n v with n := r.n + 1 } : Rt).ok := by
  obtain ⟨n, a0, a1, a2, a3, a4, a5, a6, a7⟩ := r
  unfold Rt.ok at h ⊢
  unfold Rt.set_
  simp only at h h8 ⊢
  obtain ⟨g0, g8, h0, h1, h2, h3, h4, h5, h6, h7⟩ := h
  rcases (show n = 0 ∨ n = 1 ∨ n = 2 ∨ n = 3 ∨ n = 4 ∨ n = 5 ∨ n = 6 ∨ n = 7 by omega) with rfl | rfl | rfl | rfl | rfl | rfl | rfl | rfl <;> simp_all
theorem drop_ok {r : Rt} (h : r.ok) (h0' : r.n ≠ 0) : ({ r.set_ (r.n - 1) 0 with n := r.n - 1 } : Rt).ok := by
  obtain ⟨n, a0, a1, a2, a3, a4, a5, a6, a7⟩ := r
  unfold Rt.ok at h ⊢
  unfold Rt.set_
  simp only at h h0' ⊢
  obtain ⟨g0, g8, h0, h1, h2, h3, h4, h5, h6, h7⟩ := h
  rcases (show n = 1 ∨ n = 2 ∨ n = 3 ∨ n = 4 ∨ n = 5 ∨ n = 6 ∨ n = 7 ∨ n = 8 by omega) with rfl | rfl | rfl | rfl | rfl | rfl | rfl | rfl <;> simp_all

theorem rtOk.push {m : Nat} {r : Rt} (h : rtOk m r) {id : Int} (hid : idOk m id) : rtOk m (r.push id).1 := by
  unfold Rt.push
  rw [if_pos h.1]
  split
  · exact zero_rt m
  · exact ⟨push_ok h.1 ‹_› id, set_ids h.2 r.n hid (r.n + 1)⟩
theorem rtOk.drop {m : Nat} {r : Rt} (h : rtOk m r) : rtOk m r.drop.1 := by
  unfold Rt.drop
  rw [if_pos h.1]
  split
  · exact zero_rt m
  · exact ⟨drop_ok h.1 ‹_›, set_ids h.2 (r.n - 1) ⟨Int.le_refl _, Int.natCast_nonneg m⟩ (r.n - 1)⟩
theorem rtOk.dup {m : Nat} {r : Rt} (h : rtOk m r) (i : Int) : rtOk m (r.dup i).1 := by
  unfold Rt.dup
  split
  · exact h.push (h.get i)
  · exact zero_rt m

theorem Ok.rt {G : Gd} (h : G.Ok) (t : Int) : rtOk G.os.length (G.rt t) := by
  unfold Gd.rt
  rw [List.getD_eq_getElem?_getD]
  cases hx : G.ts[t.toNat]? with
  | none => exact zero_rt _
  | some r => exact h.rs r (List.mem_of_getElem? hx)
theorem Ok.ob {G : Gd} (h : G.Ok) (id : Int) : (∀ v ∈ G.ob id, vOk G.os.length v) ∧ (G.ob id).length ≤ 7 := by
  unfold Gd.ob
  rw [List.getD_eq_getElem?_getD]
  cases hx : G.os[(id - 1).toNat]? with
  | none => exact ⟨(fun v hv => by cases hv), by simp⟩
  | some o => exact ⟨h.vs o (List.mem_of_getElem? hx), h.fs o (List.mem_of_getElem? hx)⟩
theorem Ok.fval {G : Gd} (h : G.Ok) (t i f : Int) : vOk G.os.length (G.fval t i f) := by
  unfold Gd.fval
  rw [List.getD_eq_getElem?_getD]
  cases hx : (G.ob ((G.rt t).get i).1)[f.toNat]? with
  | none => exact def_v _
  | some v => exact (h.ob _).1 v (List.mem_of_getElem? hx)

theorem ok_new (n : Nat) : (new n).Ok :=
  ⟨fun r hr => by obtain rfl := (List.mem_replicate.1 hr).2; exact zero_rt _, (fun o ho => by cases ho), (fun o ho => by cases ho)⟩
theorem Ok.turn {G : Gd} (h : G.Ok) (t : Int) {x : Rt × Int} (hx : rtOk G.os.length x.1) : (G.turn t x).1.Ok := by
  unfold Gd.turn
  split
  · exact h
  · split
    · exact ⟨fun r hr => (List.mem_or_eq_of_mem_set hr).elim (h.rs r) (fun e => e ▸ hx), h.vs, h.fs⟩
    · exact h
theorem Ok.dup {G : Gd} (h : G.Ok) (t i : Int) : (G.dup t i).1.Ok := h.turn t ((h.rt t).dup i)
theorem Ok.drop {G : Gd} (h : G.Ok) (t : Int) : (G.drop t).1.Ok := h.turn t (h.rt t).drop
theorem Ok.put {G : Gd} (h : G.Ok) (t id : Int) : (G.put t id).1.Ok := by
  unfold Gd.put
  split
  · exact h
  · split
    · exact h
    · exact h.turn t ((h.rt t).push ⟨by omega, by omega⟩)
theorem Ok.alloc {G : Gd} (h : G.Ok) (t n : Int) : (G.alloc t n).1.Ok := by
  unfold Gd.alloc
  split
  · exact h
  · split
    · exact h
    · split
      · refine ⟨fun r hr => ?_, fun o ho v hv => ?_, fun o ho => ?_⟩
        · simp only [List.length_append, List.length_cons, List.length_nil]
          rcases List.mem_or_eq_of_mem_set hr with h1 | h1
          · exact (h.rs r h1).mono (by omega)
          · rw [h1]
            exact ((h.rt t).mono (by omega : G.os.length ≤ G.os.length + 1)).push ⟨by omega, by omega⟩
        · simp only [List.length_append, List.length_cons, List.length_nil]
          rcases List.mem_append.1 ho with h1 | h1
          · exact (h.vs o h1 v hv).mono (by omega)
          · obtain rfl := List.mem_singleton.1 h1
            obtain rfl := (List.mem_replicate.1 hv).2
            exact def_v _
        · rcases List.mem_append.1 ho with h1 | h1
          · exact h.fs o h1
          · obtain rfl := List.mem_singleton.1 h1
            simp only [List.length_replicate]
            omega
      · exact h
theorem Ok.src {G : Gd} (h : G.Ok) (hm : G.os.length ≤ 1000) (t : Int) {s : V} (hb : ¬ bad s) : vOk G.os.length (G.src t s).1 := by
  unfold bad at hb
  unfold Gd.src
  split
  · exact ⟨.inl rfl, by simp only; omega, by simp only; omega, fun h => by cases h⟩
  · split
    · split
      · exact def_v _
      · have := (h.rt t).get s.n
        unfold idOk at this
        exact ⟨.inr rfl, by simp only; omega, by simp only; omega, fun _ => by simp only; omega⟩
    · exact ⟨.inr rfl, by decide, by decide, fun _ => by simp only; omega⟩
theorem Ok.fset {G : Gd} (h : G.Ok) (t i f : Int) {v : V} (hv : vOk G.os.length v) : (G.fset t i f v).Ok := by
  unfold Gd.fset
  refine ⟨fun r hr => by simpa using h.rs r hr, fun o ho u hu => ?_, fun o ho => ?_⟩
  · simp only [List.length_set] at ho ⊢
    rcases List.mem_or_eq_of_mem_set ho with h1 | h1
    · exact h.vs o h1 u hu
    · rw [h1] at hu
      rcases List.mem_or_eq_of_mem_set hu with h2 | h2
      · exact (h.ob _).1 u h2
      · rw [h2]; exact hv
  · simp only at ho
    rcases List.mem_or_eq_of_mem_set ho with h1 | h1
    · exact h.fs o h1
    · rw [h1, List.length_set]; exact (h.ob _).2

theorem turn_os (G : Gd) (t : Int) (x : Rt × Int) : (G.turn t x).1.os = G.os ∧ (G.turn t x).1.ts.length = G.ts.length := by
  unfold Gd.turn
  split
  · exact ⟨rfl, rfl⟩
  · split
    · exact ⟨rfl, by simp⟩
    · exact ⟨rfl, rfl⟩
end Gd
end Go.Proofs.Ytlogojiphjpknaa
