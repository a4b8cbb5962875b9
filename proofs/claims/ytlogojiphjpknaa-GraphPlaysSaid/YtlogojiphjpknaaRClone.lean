/- (*graph.Graph).Clone: another graph that is the same. Condition: at most a thousand objects. -/
import Derived.Test.YtlogojiphjpknaaGAllocW
import Derived.Test.YtlogojiphjpknaaGClone
import Derived.Test.YtlogojiphjpknaaGShapeO
import Derived.Deep.RegionLaw
import Derived.Deep.DeepCutAuto
namespace Go.Proofs.Ytlogojiphjpknaa
open Go.RowKit
set_option linter.unusedVariables false

/-- A call of a function by its contract, as one step of a region that draws its order. -/
theorem step_call {P : Program} {ops : Array Oper} {o : Oper} {a : Act} {w : World} {K : Act → World → Prop} {Q : Exit → Act → World → Prop} {E : Prop}
    (hgd : o.guard = none) (f : FuncId) (x : Operand) (t : TypeId) (hop : o.op = Op.call { callee := Callee.value (Operand.func f), args := #[x], argTypes := #[t] })
    (v : Value) (hx : a.eval x = v) (hf : Sem.run P (callFunc f #[v]) w = .ok (.enter f #[v]) w) {R : Ending → World → Prop} (hc : Calls P f #[v] w R) (hK : ∀ e w', R e w' → ∃ r, e = .returned r ∧ K (a.put o.dst r) w') :
    if Region.wanted o (yielded ops a.tmps) = true then Oper.wp P o a w K Q else E := by
  have hw : Region.wanted o (yielded ops a.tmps) = true := by simp [Region.wanted, hgd]
  rw [if_pos hw]
  unfold Oper.wp execOp
  simp only [hop]
  have he : ∀ g, a.eval (Operand.func g) = .func (.func g) #[] #[] := fun g => rfl
  simp [resolve, invoke, hx, he, Deferred.ofValue, hf]
  refine Calls.mono hc fun e w' h => ?_
  obtain ⟨r, rfl, hk⟩ := hK e w' h
  exact hk
theorem call59 (v : Value) (w : World) : Sem.run Try.prog (callFunc 59 #[v]) w = .ok (.enter 59 #[v]) w := by
  have h1 : ¬ Try.f59.name = "runtime.NumGoroutine" := by
    have : (Try.f59.name == "runtime.NumGoroutine") = false := by kernel_rfl
    simpa using this
  have h2 : ¬ Try.f59.body = none := by
    have : Try.f59.body.isNone = false := by kernel_rfl
    intro h
    rw [h] at this
    cases this
  unfold callFunc
  simp [go_sem, Try.func59, h1, h2]

section
variable {F : Nat → Prop} {w : World} {p : Nat} {G : Gd} {bt ct : Nat} {ov : Value} {gs cs : List Nat}

def ClonedP (w : World) (G : Gd) (e : Ending) (w' : World) : Prop := ∃ q, e = .returned (.pointer (some ⟨q, 0, none⟩)) ∧ Gr 79 (fun k => w.heap.size ≤ k ∧ k < w'.heap.size) w' q G ∧ Below w.heap.size w w'

set_option maxRecDepth 100000 in
set_option maxHeartbeats 4000000 in
theorem gclone_any (h : Vw 79 F w p G bt ct ov gs cs) (hok : G.Ok) (hM : G.os.length ≤ 1000) : Calls Try.prog 49 #[.pointer (some ⟨p, 0, none⟩)] w (ClonedP w G) := by
  have HV := Lib.hid h
  have HOK := Lib.hid hok
  have h64 := h.h64
  obtain ⟨c0, c1⟩ := h.pcell
  have hpl := h.plt
  have HCR := Lib.hid (cloneR ⟨bt, 0, none⟩ G.ts.length ct (tflat G.ts) w (Reads.of_own h.hts) (tflat_one G.ts) (by omega))
  obtain ⟨A, c, hov, _⟩ := h.orow
  subst hov
  clear h hok
  go_enter Try.func49, Try.ntmps49
  go_wp2_with fail
  refine (HCR.out).mono ?_
  rintro e w1 ⟨bt2, ct2, rfl, hge, hown, hb1⟩
  have HB1 := Lib.hid hb1
  have HOWN := Lib.hid hown
  have c1' := (hb1.cell (p := ⟨p, 1, none⟩) hpl).trans c1
  have hpl1 : p < w1.heap.size := block_lt c1'
  clear hb1 hown c0 c1
  go_wp2_with fail
  have HST := Lib.hid (show ∃ bt3 ct3 ov3 gs3 cs3, Vw 79 (fun b => w.heap.size ≤ b ∧ b < (w1.alloc (.cells #[.slice (some ⟨bt2, 0, none⟩) G.ts.length ct2, .slice none 0 0] 79)).heap.size) (w1.alloc (.cells #[.slice (some ⟨bt2, 0, none⟩) G.ts.length ct2, .slice none 0 0] 79)) w1.heap.size ⟨G.ts, G.os.take 0⟩ bt3 ct3 ov3 gs3 cs3 by
    have hs := HB1.out.size
    have hl := (HOWN.out.lt bt2 rfl)
    refine ⟨bt2, ct2, .slice none 0 0, [], [], .inl rfl, heap_alloc_new w1 _, by simp; omega, by simp; omega, World.ownsRow.alloc (own_base HOWN.out (Nat.zero_le _)) _, World.ownsRow_nil _ _ _ _, (by intro g hg; cases hg), rfl, rfl, List.Pairwise.nil, (by intro k hk; simp at hk), h64⟩)
  have HBL := Lib.hid (show Below w.heap.size w (w1.alloc (.cells #[.slice (some ⟨bt2, 0, none⟩) G.ts.length ct2, .slice none 0 0] 79)) from HB1.out.alloc HB1.out.size _)
  generalize w1.heap.size = q at *
  go_loopw [18] (fun s18 wr => ∃ (k bt3 ct3 : Nat) (ov3 : Value) (gs3 cs3 : List Nat), k ≤ G.os.length ∧ s18 = .int .i64 k ∧ Vw 79 (fun b => w.heap.size ≤ b ∧ b < wr.heap.size) wr q ⟨G.ts, G.os.take k⟩ bt3 ct3 ov3 gs3 cs3 ∧ Below w.heap.size w wr) (fun s18 _ => G.os.length - (intOf s18).toNat)
  case atStart =>
    obtain ⟨bt3, ct3, ov3, gs3, cs3, h3⟩ := HST.out
    exact ⟨0, bt3, ct3, ov3, gs3, cs3, by omega, rfl, h3, HBL.out⟩
  case round =>
    clear HST HBL
    obtain ⟨k, bt3, ct3, ov3, gs3, cs3, hk, rfl, h3, hbl⟩ := hrel
    by_cases hkM : k < G.os.length
    · obtain ⟨A', c', hov', hrow⟩ := HV.out.orow
      obtain ⟨rfl, rfl⟩ : A = A' ∧ c = c' := by injection hov' with e1 _ e3; exact ⟨e1, e3⟩
      have hkG := hkM
      obtain ⟨bo, hA, hbo, hco⟩ := hrow k hkG
      subst hA
      have cob := (hbl.cell (p := ⟨bo, k, none⟩) hbo).trans hco
      unfold oval at cob
      have hn7 : (G.os.getD k []).length ≤ 7 := by have := (HOK.out.ob ((k : Int) + 1)).2; unfold Gd.ob at this; rwa [show ((k : Int) + 1 - 1).toNat = k by omega] at this
      obtain ⟨o, ho⟩ : ∃ o, o = G.os.getD k [] := ⟨_, rfl⟩
      have HCL := Lib.hid (show ∀ W : World, Below w.heap.size w W → Calls Try.prog 59 #[.slice (some ⟨gs.getD k 0, 0, none⟩) o.length (cs.getD k 0)] W (CloneP W.heap.size 46 2 o.length (vflat o) W) from fun W hW => cloneV _ _ _ _ W (by
        have h1 := (HV.out.below hW).hos k hkG
        have h2 := h1.2
        unfold oval at h2
        rw [← ho] at h2
        exact Reads.of_own h2) (vflat_one o) (by rw [ho]; omega))
      rw [← ho] at cob hn7
      have HTK := Lib.hid (show G.os.take (k + 1) = G.os.take k ++ [o] by
        rw [List.take_succ_eq_append_getElem hkG, ho, List.getD_eq_getElem?_getD, List.getElem?_eq_getElem hkG]
        rfl)
      generalize gs.getD k 0 = ga at *
      generalize cs.getD k 0 = ca at *
      have hlk : (G.os.take k).length = k := by rw [List.length_take]; omega
      obtain ⟨A3, c3, hov3, _⟩ := h3.orow
      simp only [hlk] at hov3
      subst hov3
      have d1 : wr.cell? ⟨q, 1, none⟩ = some (.slice A3 k c3) := h3.pcell.2
      have dfz : ∀ j, wr.frozen? ⟨q, j, none⟩ = false := h3.hp.frozen
      have hql : q < wr.heap.size := h3.plt
      have HRB := Lib.hid (show wr.ownsRow 0 67 1 (.slice A3 k c3) k (ovals gs3 cs3 (G.os.take k)) by have := h3.hov; simp only [hlk] at this; exact this)
      have hqo : some q ≠ Value.ownBlock (.slice A3 k c3) := h3.p_ov.symm
      have HPO := Lib.hid hqo
      have H3 := Lib.hid h3
      have HBL := Lib.hid hbl
      have hbol : bo < wr.heap.size := block_lt cob
      have hk1 : (k : Int) < (G.os.length : Int) := by omega
      obtain ⟨i67, hi67, hz67, hs67, hb67⟩ := info_parts info67
      have HFAR := Lib.hid (show ∀ (x : Value) (w2 w3 : World), w2.cell? ⟨q, 1, none⟩ = some (.slice A3 k c3) → w2.frozen? ⟨q, 1, none⟩ = false → q < w2.heap.size → (w2.alloc (.cells #[x] 67)).grownBy w3 (Value.slice A3 k c3).ownBlock → w3.cell? ⟨q, 1, none⟩ = some (.slice A3 k c3) ∧ w3.frozen? ⟨q, 1, none⟩ = false from fun x w2 w3 g1 g2 g3 hg =>
        ⟨by rw [hg.cell_far _ (by simp; omega) hqo]; simp [go_sem, g1, g3], by rw [hg.frozen_far _ (by simp; omega) hqo]; simp [go_sem, g2, g3]⟩)
      clear hov' hrow hco ho h3 hbl hqo
      go_wp2_with fail
      go_region_law
        ((first | (refine step_call (by rfl) 59 _ _ (by rfl) _ (by rfl) (call59 _ _) (HCL.out _ HBL.out.drew) ?_; rintro e w2 ⟨g2, cap2, rfl, hg2, hown2, hb2⟩; refine ⟨_, rfl, ?_⟩; have d1' : w2.cell? ⟨q, 1, none⟩ = some (.slice A3 k c3) := (hb2.cell (p := ⟨q, 1, none⟩) hql).trans d1; have dfz' : ∀ j, w2.frozen? ⟨q, j, none⟩ = false := fun j => (World.frozen?_of_block (a := ⟨q, j, none⟩) (hb2.block q hql)).trans (dfz j); have hql' : q < w2.heap.size := block_lt d1'; have HRB' := Lib.hid (own_same (w' := w2) HRB.out (fun k hk => hb2.block k (HRB.out.lt k hk).2))) | (refine step_append_lies _ (by rfl) _ _ _ (by rfl) 0 67 i67 _ 1 24 Try.underlying63 hi67 hz67 hs67 hb67 rfl (by omega) (.slice A3 k c3) k (ovals gs3 cs3 (G.os.take k)) (by rfl) (World.ownsRow.alloc HRB'.out _) ⟨w2.heap.size, 0, none⟩ 1 1 [.slice (some ⟨g2, 0, none⟩) o.length cap2] (by rfl) (by rfl) (World.news_of_block (cs := #[.slice (some ⟨g2, 0, none⟩) o.length cap2]) (t := 67) (fr := (0, 0)) (heap_alloc_new w2 _)) (by simp [Value.oneCell']) (by omega) (by unfold maxLen; omega) (by omega) (Nat.zero_le _) (w2.heap.size + 1) (by simp) ?_; intro gg cap w3 hown hgr hat hlt; obtain ⟨e1, efz⟩ := HFAR.out _ _ _ d1' (dfz' 1) hql' hgr)))
      all_goals (
        have HX := Lib.hid (And.intro hg2 (And.intro hown2 (And.intro hb2 (And.intro hown (And.intro hgr (And.intro hat hlt))))))
        clear hg2 hown2 hb2 hown hgr hat hlt e1 efz d1' dfz' hql' HRB'
        go_wp2_with fail
        go_roundw
        case rel =>
          obtain ⟨hg2, hown2, hb2, hown, hgr, hat, hlt⟩ := HX.out
          have hbw2 : Below wr.heap.size wr w2 := (Below.refl wr.heap.size wr).drew.trans hb2
          have hW : Below wr.heap.size wr (w2.alloc (.cells #[.slice (some ⟨g2, 0, none⟩) o.length cap2] 67)) := hbw2.alloc hbw2.size _
          obtain ⟨cur, hc1, hc2, hc3, hc4, hc5⟩ : ∃ cur : Array Value, w2.heap[g2]? = some (.cells cur 46 (0, 0)) ∧ o.length ≤ cap2 ∧ cap2 ≤ maxLen ∧ cur.size = cap2 * 2 ∧ cur.toList.take (o.length * 2) = vflat o := by
            rcases hown2.2 with ⟨h1, _⟩ | ⟨g, cap', cur, h1, _, h2, h3, h4, h5, h6⟩
            · cases h1
            · injection h1 with q1 _ q3
              injection q1 with q1
              injection q1 with q1
              subst q1 q3
              exact ⟨cur, h2, h3, h4, h5, h6⟩
          have hgl := (hown2.lt g2 rfl).2
          have hz46 : (w2.alloc (.cells #[.slice (some ⟨g2, 0, none⟩) o.length cap2] 67)).heap[g2]? = some (.cells cur 46 (0, 0)) := (Below.heap_alloc w2 _ g2 hgl).trans hc1
          have hown' : w3.ownsRow 0 67 1 (.slice (some ⟨gg, 0, none⟩) ((G.os.take k).length + 1) cap) ((G.os.take k).length + 1) (ovals gs3 cs3 (G.os.take k) ++ [.slice (some ⟨g2, 0, none⟩) o.length cap2]) := by rw [hlk]; exact hown
          have hs2 := hbw2.size
          have hvw := H3.out.snoc hW (n := o.length) hc2 hc3 hc4 (o := o) rfl hc5 hg2 (by simp; omega) hz46 hown' hgr (hat.imp id (fun e => by omega)) hlt
          simp only [hlk] at hvw
          have hs3 := hgr.size
          simp at hs3
          have hbl2 := HBL.out.size
          have hvw2 := hvw.mono (E := fun b => w.heap.size ≤ b ∧ b < (w3.setCell ⟨q, 1, none⟩ (.slice (some ⟨gg, 0, none⟩) (k + 1) cap)).heap.size) (fun b hb => by
            rcases hb with hb | hb
            · exact ⟨hb.1, by have := hb.2; simp [World.setCell]; omega⟩
            · exact ⟨by have := hb.1; omega, by simpa [World.setCell] using hb.2⟩)
          exact ⟨k + 1, _, _, _, _, _, by omega, by go_num, by rw [HTK.out]; exact hvw2, Below.setCell ((((HBL.out.trans (hbw2.mono hbl2)).alloc (by omega) _).grown hgr (by simp; omega) (fun b hb => (H3.out.fov b hb).1))) (p := ⟨q, 1, none⟩) H3.out.fp.1 _⟩
        case measure => simp [intOf]; omega)
    · obtain rfl : k = G.os.length := by omega
      have H3 := Lib.hid h3
      have HBL := Lib.hid hbl
      clear h3 hbl
      go_wp2_with fail
      go_ret
      have h3 := H3.out
      rw [List.take_length] at h3
      exact ⟨q, rfl, ⟨_, _, _, _, _, h3⟩, HBL.out⟩
end

end Go.Proofs.Ytlogojiphjpknaa
