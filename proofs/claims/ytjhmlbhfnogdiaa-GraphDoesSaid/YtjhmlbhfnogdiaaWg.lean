/- Do of package graph: refused; and as a whole. -/
import Derived.Test.YtjhmlbhfnogdiaaWf1
import Derived.Test.YtjhmlbhfnogdiaaWf2
import Derived.Test.YtjhmlbhfnogdiaaWf3
namespace Go.Proofs.Ytjhmlbhfnogdiaa.Wg
open Go.RowKit
open Go.Proofs.Ytjhmlbhfnogdiaa Go.Proofs.Ytjhmlbhfnogdiaa.Hd Go.Proofs.Ytjhmlbhfnogdiaa.Gr Go.Proofs.Ytjhmlbhfnogdiaa.Hg Go.Proofs.Ytjhmlbhfnogdiaa.Rr Go.Proofs.Ytjhmlbhfnogdiaa.Wk Go.Proofs.Ytjhmlbhfnogdiaa.Wp Go.Proofs.Ytjhmlbhfnogdiaa.Ws Go.Proofs.Ytjhmlbhfnogdiaa.Wa Go.Proofs.Ytjhmlbhfnogdiaa.Wc Go.Proofs.Ytjhmlbhfnogdiaa.Wd Go.Proofs.Ytjhmlbhfnogdiaa.We Go.Proofs.Ytjhmlbhfnogdiaa.Wf
set_option linter.unusedVariables false

set_option maxRecDepth 100000 in
set_option maxHeartbeats 8000000 in
theorem do_bad (a b : Value) (g : Gph) (th : Int) (o : Opn) (w : World) (h : Gr w a b g) (hbad : (flook o.kind (tbl (w.heap.size + 4) (w.heap.size + 5)) 0).isSome = false ∨ th < 0 ∨ (g.2.length : Int) ≤ th) :
    Calls Try.prog 13 #[.agg #[a, b], .int .i64 th, opv o] w fun e w' => ∃ a' b', e = .returned (.tuple #[.agg #[a', b'], anv (1, 0, false)]) ∧ Gr w' a' b' g ∧ Ext w w' := by
  obtain ⟨x0, y0, rfl⟩ := h.1.form
  obtain ⟨x1, y1, rfl⟩ := Gr.Ma.form h.2
  unfold opv anv
  obtain ⟨hE, hB0, hB1, hB2, hB3, hB4⟩ := five_blks w (.slice x0 g.1.length y0) (.slice x1 g.2.length y1) th o
  have hsz := five_size w (.slice x0 g.1.length y0) (.slice x1 g.2.length y1) th o
  have HGr := Lib.hid h
  obtain ⟨w5, hw5⟩ : ∃ w5, w5 = five w (.slice x0 g.1.length y0) (.slice x1 g.2.length y1) th o := ⟨_, rfl⟩
  rw [← hw5] at hE hB0 hB1 hB2 hB3 hB4 hsz
  unfold five wcells a0 at hw5
  have k0 : w5.cell? ⟨w.heap.size, 0, none⟩ = some (.slice x0 g.1.length y0) := hB0.cell (i := 0) rfl
  have k1 : w5.cell? ⟨w.heap.size, 1, none⟩ = some (.slice x1 g.2.length y1) := hB0.cell (i := 1) rfl
  have hS0 : w5.drew.cell? ⟨w.heap.size + 1, 0, none⟩ = some (.int .i64 o.kind) := hB1.cell (i := 0) rfl
  have hsd : w5.drew.heap.size = w.heap.size + 5 := hsz
  have hAC := acts_any (w.heap.size + 4) w5.drew
  rw [hsd] at hAC
  have HAC := Lib.hid hAC
  have hz0 : ∀ W, (zeroValue 1).run Try.prog W = .ok .nilFunc W := fun _ => by kernel_rfl
  obtain ⟨bb, hbb⟩ : ∃ bb, (flook o.kind (tbl (w.heap.size + 4) (w.heap.size + 5)) 0).isSome = bb := ⟨_, rfl⟩
  rw [hbb] at hbad
  have msm := h.2.small
  have HE := Lib.hid hE
  have HB2 := Lib.hid hB2
  have HB3 := Lib.hid hB3
  clear h hB0 hB1 hB2 hB3 hB4 hAC hE
  have hcase : bb = false ∨ (bb = true ∧ decide (th < 0) = true) ∨ (bb = true ∧ decide (th < 0) = false ∧ decide ((g.2.length : Int) ≤ th) = true) := by
    rcases hbad with h | h | h
    · exact .inl h
    · cases bb
      · exact .inl rfl
      · exact .inr (.inl ⟨rfl, decide_eq_true h⟩)
    · cases bb
      · exact .inl rfl
      · exact .inr (.inr ⟨rfl, decide_eq_false (by omega), decide_eq_true h⟩)
  clear hbad
  rcases hcase with rfl | ⟨rfl, t1⟩ | ⟨rfl, t1, t2⟩
  all_goals
    go_enter Try.func13, Try.ntmps13
    go_wp2_with fail
    rw [← hw5]
    clear hw5
    refine wp_region_noPanic ?_
    refine Rt.begin_ (fun W : World => W.cell? ⟨w.heap.size + 1, 0, none⟩ = some (.int .i64 o.kind)) (fun i => false) (by kernel_rfl) ?_
    simp only [List.length_cons, List.length_nil, Nat.reduceAdd, Array.replicate_succ, Array.replicate_zero]
    refine Rt.takeW 0 (v := ?_) rfl (by kernel_rfl) (fun _ _ _ h => h) rfl ?_ ?_
    rotate_left
    · (intro W; go_simp; try with_reducible rfl)
    try simp only [Act.put, List.setIfInBounds_toArray, List.set_cons_zero, List.set_cons_succ]
    refine Rt.takeW 2 (v := ?_) rfl (by kernel_rfl) (fun _ _ _ h => h) rfl ?_ ?_
    rotate_left
    · (intro W; go_simp; try with_reducible rfl)
    try simp only [Act.put, List.setIfInBounds_toArray, List.set_cons_zero, List.set_cons_succ]
    refine Rt.take 3 (v := ?_) rfl (by kernel_rfl) (fun _ _ _ h => h) rfl ?_ hS0 ?_
    rotate_left
    · (intro W hSW; (try dsimp only at hSW); go_simp; try with_reducible rfl)
    try simp only [Act.put, List.setIfInBounds_toArray, List.set_cons_zero, List.set_cons_succ]
    refine Rt.step 1 rfl (by kernel_rfl) rfl (fun K hK => ?_)
    go_simp
    with_reducible refine HAC.out.mono ?_
    rintro e w6 ⟨M, rfl, hx6, hbC, hFM⟩
    obtain ⟨fv, hlook⟩ : ∃ fv, (Instr.lookup 63 (.map (some M)) (.int .i64 o.kind) true).run Try.prog w6 = .ok (.tuple #[fv, .bool (flook o.kind (tbl (w.heap.size + 4) (w.heap.size + 5)) 0).isSome]) w6 := ⟨_, FM.look hFM Try.underlying63 Try.underlying3 (hz0 w6) o.kind true⟩
    rw [hbb] at hlook
    refine hK _ _ ⟨.inr fun h => hx6.cell h, ?_⟩
    clear hK K
    try simp only [Act.put, List.setIfInBounds_toArray, List.set_cons_zero, List.set_cons_succ]
    refine Rt.step 4 rfl (by kernel_rfl) rfl (fun K hK => ?_)
    go_simp
    refine hK _ _ ⟨.inr id, ?_⟩
    clear hK K
    try simp only [Act.put, List.setIfInBounds_toArray, List.set_cons_zero, List.set_cons_succ]
    refine Rt.takeW 5 (v := ?_) rfl (by kernel_rfl) (fun _ _ _ h => h) rfl ?_ ?_
    rotate_left
    · (intro W; go_simp; try with_reducible rfl)
    try simp only [Act.put, List.setIfInBounds_toArray, List.set_cons_zero, List.set_cons_succ]
    refine Rt.takeW 6 (v := ?_) rfl (by kernel_rfl) (fun _ _ _ h => h) rfl ?_ ?_
    rotate_left
    · (intro W; go_simp; try with_reducible rfl)
    try simp only [Act.put, List.setIfInBounds_toArray, List.set_cons_zero, List.set_cons_succ]
    refine Rt.takeW 7 (v := ?_) rfl (by kernel_rfl) (fun _ _ _ h => h) rfl ?_ ?_
    rotate_left
    · (intro W; go_simp; try with_reducible rfl)
    try simp only [Act.put, List.setIfInBounds_toArray, List.set_cons_zero, List.set_cons_succ]
    refine Rt.takeW 8 (v := ?_) rfl (by kernel_rfl) (fun _ _ _ h => h) rfl ?_ ?_
    rotate_left
    · (intro W; go_simp; try with_reducible rfl)
    try simp only [Act.put, List.setIfInBounds_toArray, List.set_cons_zero, List.set_cons_succ]
    refine Rt.takeW 9 (v := ?_) rfl (by kernel_rfl) (fun _ _ _ h => h) rfl ?_ ?_
    rotate_left
    · (intro W; go_simp; try with_reducible rfl)
    try simp only [Act.put, List.setIfInBounds_toArray, List.set_cons_zero, List.set_cons_succ]
    refine Rt.done (by kernel_rfl) ?_
    refine NoPanic.normal ?_
    have hX6 : Ext w5 w6 := ((Ext.refl w5).drew).trans hx6
    replace k0 := hX6.cell k0
    replace k1 := hX6.cell k1
    have hR2 := HB2.out.ext hX6
    have hR3 := HB3.out.ext hX6
    have hE6 := HE.out.trans hX6
    have z0 : w6.cell? ⟨w.heap.size + 2, 0, none⟩ = some (.slice none 0 0) := hR2.cell (i := 0) rfl
    have z1 : w6.cell? ⟨w.heap.size + 2, 1, none⟩ = some (.slice none 0 0) := hR2.cell (i := 1) rfl
    have z2 : w6.cell? ⟨w.heap.size + 3, 0, none⟩ = some (.int .i64 0) := hR3.cell (i := 0) rfl
    have z3 : w6.cell? ⟨w.heap.size + 3, 1, none⟩ = some (.int .u64 0) := hR3.cell (i := 1) rfl
    have z4 : w6.cell? ⟨w.heap.size + 3, 2, none⟩ = some (.bool false) := hR3.cell (i := 2) rfl
    have y0' := hR2.free 0
    have y1' := hR2.free 1
    have y2' := hR3.free 0
    have y3' := hR3.free 1
    have y4' := hR3.free 2
    obtain ⟨W8, hW8⟩ : ∃ W8, W8 = (((((w6.setCell ⟨w.heap.size + 1 + 1, 0, none⟩ (.slice x0 g.1.length y0)).setCell ⟨w.heap.size + 1 + 1, 1, none⟩ (.slice x1 g.2.length y1)).setCell ⟨w.heap.size + 1 + 1 + 1, 0, none⟩ (.int .i64 1)).setCell ⟨w.heap.size + 1 + 1 + 1, 1, none⟩ (.int .u64 0)).setCell ⟨w.heap.size + 1 + 1 + 1, 2, none⟩ (.bool false)) := ⟨_, rfl⟩
    have HFin := Lib.hid (final0 w w6 (.slice x0 g.1.length y0) (.slice x1 g.2.length y1) g (1, 0, false) hR2 hR3 hE6 (GrS.of_old HGr.out hE6 (Nat.le_refl _)) W8 hW8)
    obtain ⟨q0, q1, q2, q3, q4, _⟩ := HFin.out
    clear hx6 hbC hFM hlook hR2 hR3 hE6 hX6 HAC
    go_wp2_with fail

    rw [← hW8]
    exact bodyPost_ret (v := .tuple #[.agg #[.slice x0 g.1.length y0, .slice x1 g.2.length y1], .agg #[.int .i64 1, .int .u64 0, .bool false]]) (by simp [results, Try.results13, go_sem, q0, q1, q2, q3, q4]) rfl ⟨_, _, rfl, HFin.out.2.2.2.2.2.1, HFin.out.2.2.2.2.2.2⟩

theorem flook_kind {k : Int} {B C : Nat} (h : k < 1 ∨ 11 < k) : (flook k (tbl B C) 0).isSome = false := by
  rw [flook_none]
  · rfl
  · intro p hp
    unfold tbl at hp
    simp at hp
    rcases hp with rfl | rfl | rfl | rfl | rfl | rfl | rfl | rfl | rfl | rfl | rfl <;> simp <;> omega

/-- Do: what is done, as the model says. -/
theorem do_any (a b : Value) (g : Gph) (th : Int) (o : Opn) (w : World) (h : Gr w a b g) (hr : rightG g = true) (hp : posG g) (hm : 0 ≤ o.new.2.2) (hbd : g.1.length ≤ 1000) :
    Calls Try.prog 13 #[.agg #[a, b], .int .i64 th, opv o] w fun e w' => ∃ a' b', e = .returned (.tuple #[.agg #[a', b'], anv (doA g th o)]) ∧ Gr w' a' b' (doG g th o) ∧ Ext w w' := by
  by_cases ht : 0 ≤ th ∧ th < g.2.length
  case neg =>
    have e : res g th o = .error 1 := by unfold res; rw [if_neg ht]
    unfold doG doA
    rw [e]
    exact do_bad a b g th o w h (.inr (by omega))
  case pos =>
  obtain ⟨t, rfl⟩ : ∃ t : Nat, th = (t : Int) := ⟨th.toNat, by omega⟩
  have hth : t < g.2.length := by omega
  have e : res g (t : Int) o = act g t o := by
    unfold res
    rw [if_pos ht]
    congr 1
  unfold doG doA
  rw [e]
  unfold act
  by_cases h1 : o.kind = 1
  · rw [if_pos h1]; exact Wf1.do_1 a b g t o w h hth hr hp hm hbd h1
  rw [if_neg h1]
  by_cases h2 : o.kind = 2
  · rw [if_pos h2]; exact Wf1.do_2 a b g t o w h hth hr hp hm hbd h2
  rw [if_neg h2]
  by_cases h3 : o.kind = 3
  · rw [if_pos h3]; exact Wf1.do_3 a b g t o w h hth hr hp hm hbd h3
  rw [if_neg h3]
  by_cases h4 : o.kind = 4
  · rw [if_pos (.inl h4)]; exact Wf1.do_4 a b g t o w h hth hr hp hm hbd h4
  by_cases h6 : o.kind = 6
  · rw [if_pos (.inr (.inl h6))]; exact Wf2.do_6 a b g t o w h hth hr hp hm hbd h6
  by_cases h7 : o.kind = 7
  · rw [if_pos (.inr (.inr h7))]; exact Wf2.do_7 a b g t o w h hth hr hp hm hbd h7
  rw [if_neg (by omega)]
  by_cases h5 : o.kind = 5
  · rw [if_pos h5]; exact Wf2.do_5 a b g t o w h hth hr hp hm hbd h5
  rw [if_neg h5]
  by_cases h8 : o.kind = 8
  · rw [if_pos h8]; exact Wf3.do_8 a b g t o w h hth hr hp hm hbd h8
  rw [if_neg h8]
  by_cases h9 : o.kind = 9
  · rw [if_pos h9]; exact Wf3.do_9 a b g t o w h hth hr hp hm hbd h9
  rw [if_neg h9]
  by_cases h10 : o.kind = 10
  · rw [if_pos h10]; exact Wf3.do_10 a b g t o w h hth hr hp hm hbd h10
  rw [if_neg h10]
  by_cases h11 : o.kind = 11
  · rw [if_pos h11]; exact Wf3.do_11 a b g t o w h hth hr hp hm hbd h11
  rw [if_neg h11]
  exact do_bad a b g t o w h (.inl (flook_kind (by omega)))
end Go.Proofs.Ytjhmlbhfnogdiaa.Wg
