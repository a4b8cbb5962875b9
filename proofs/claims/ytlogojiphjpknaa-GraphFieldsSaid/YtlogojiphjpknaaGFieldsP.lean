/- A graph of an object of seven fields and of one of none, a root to each. No program in sight. -/
import Derived.Test.YtlogojiphjpknaaGPure
namespace Go.Proofs.Ytlogojiphjpknaa

def gF (fs : List V) : Gd := ⟨[Rt.of [1, 2]], [fs, []]⟩
/-- what a Src of the law names -/
def nmd (s : V) : V := if s.k = 0 then ⟨0, s.n⟩ else if s.k = 1 then ⟨1, 1 + s.n⟩ else ⟨1, 0⟩
def SrcOk (s : V) : Prop := (s.k = 0 ∨ s.k = 1 ∨ s.k = 2) ∧ (s.n = 0 ∨ s.n = 1)

theorem gF_start1 : (Gd.new 1).alloc 0 7 = (⟨[Rt.of [1]], [List.replicate 7 default]⟩, 0) := by rfl
theorem gF_start2 : (⟨[Rt.of [1]], [List.replicate 7 default]⟩ : Gd).alloc 0 0 = (gF (List.replicate 7 default), 0) := by rfl

section
variable {fs : List V}
theorem gF_not : ¬ (gF fs).not 0 := by unfold Gd.not gF; simp
theorem gF_bad {s : V} (h : SrcOk s) : ¬ Gd.bad s := by
  obtain ⟨h1, h2⟩ := h
  unfold Gd.bad
  omega
theorem gF_src {s : V} (h : SrcOk s) : (gF fs).src 0 s = (nmd s, 0) := by
  obtain ⟨k, n⟩ := s
  obtain ⟨h1, h2⟩ := h
  simp only at h1 h2
  rcases h1 with rfl | rfl | rfl <;> rcases h2 with rfl | rfl <;> rfl
theorem gF_ferr (hl : fs.length = 7) {f : Nat} (hf : f < 7) : (gF fs).ferr 0 0 f = 0 := by
  unfold Gd.ferr
  rw [if_neg gF_not]
  have e : ((gF fs).rt 0).get 0 = (1, 0) := rfl
  rw [e, if_neg (by simp), if_neg (by simp), if_neg]
  have e2 : (gF fs).ob 1 = fs := rfl
  rw [e2, hl]
  omega
theorem gF_fval {f : Nat} : (gF fs).fval 0 0 f = fs.getD f default := rfl
theorem gF_fset {f : Nat} {v : V} : (gF fs).fset 0 0 f v = gF (fs.set f v) := rfl
theorem gF_look (hl : fs.length = 7) {f : Nat} (hf : f < 7) : (gF fs).look 0 0 f = (fs.getD f default, 0) := by
  unfold Gd.look
  rw [if_pos (gF_ferr hl hf), gF_fval]
theorem gF_write (hl : fs.length = 7) {f : Nat} (hf : f < 7) {s : V} (hs : SrcOk s) : (gF fs).write 0 0 f s = (gF (fs.set f (nmd s)), 0) := by
  have h1 : (gF fs).serr 0 s = 0 := by
    unfold Gd.serr
    rw [if_neg gF_not, if_neg (gF_bad hs), gF_src hs]
  unfold Gd.write
  rw [h1, gF_ferr hl hf, if_neg (by simp), if_neg (by simp), gF_src hs, gF_fset]
theorem gF_swap (hl : fs.length = 7) {f : Nat} (hf : f < 7) {s u : V} (hs : SrcOk s) (hu : SrcOk u) :
    (gF fs).swap 0 0 f s u = if fs.getD f default = nmd s then (gF (fs.set f (nmd u)), true, 0) else (gF fs, false, 0) := by
  have h1 : (gF fs).serr2 0 s u = 0 := by
    unfold Gd.serr2
    rw [if_neg gF_not, if_neg (fun h => h.elim (gF_bad hs) (gF_bad hu)), gF_src hs, if_neg (by simp), gF_src hu]
  unfold Gd.swap
  rw [h1, gF_ferr hl hf, if_neg (by simp), if_neg (by simp), gF_src hs, gF_src hu, gF_fset, gF_fval]
end

end Go.Proofs.Ytlogojiphjpknaa
