/- Do of package graph: its kinds 1, 2, 3, 4. -/
import Derived.Test.YtjhmlbhfnogdiaaWf
namespace Go.Proofs.Ytjhmlbhfnogdiaa.Wf1
open Go.RowKit
open Go.Proofs.Ytjhmlbhfnogdiaa Go.Proofs.Ytjhmlbhfnogdiaa.Hd Go.Proofs.Ytjhmlbhfnogdiaa.Gr Go.Proofs.Ytjhmlbhfnogdiaa.Hg Go.Proofs.Ytjhmlbhfnogdiaa.Rr Go.Proofs.Ytjhmlbhfnogdiaa.Wk Go.Proofs.Ytjhmlbhfnogdiaa.Wp Go.Proofs.Ytjhmlbhfnogdiaa.Ws Go.Proofs.Ytjhmlbhfnogdiaa.Wa Go.Proofs.Ytjhmlbhfnogdiaa.Wc Go.Proofs.Ytjhmlbhfnogdiaa.Wd Go.Proofs.Ytjhmlbhfnogdiaa.We Go.Proofs.Ytjhmlbhfnogdiaa.Wf
set_option linter.unusedVariables false

set_option maxRecDepth 100000 in
set_option maxHeartbeats 8000000 in
theorem do_1 (a b : Value) (g : Gph) (th : Nat) (o : Opn) (w : World) (h : Gr w a b g) (hth : th < g.2.length) (hr : rightG g = true) (hp : posG g) (hm : 0 ≤ o.new.2.2) (hbd : g.1.length ≤ 1000) (hk : o.kind = 1) :
    Calls Try.prog 13 #[.agg #[a, b], .int .i64 th, opv o] w fun e w' => ∃ a' b', e = .returned (.tuple #[.agg #[a', b'], anv (resA (actAlloc g th o))]) ∧ Gr w' a' b' (resG g (actAlloc g th o)) ∧ Ext w w' := by
  obtain ⟨x0, y0, rfl⟩ := h.1.form
  obtain ⟨x1, y1, rfl⟩ := Gr.Ma.form h.2
  unfold opv anv
  obtain ⟨gr, hgr⟩ : ∃ gr, resG g (actAlloc g th o) = gr := ⟨_, rfl⟩
  obtain ⟨ar, har⟩ : ∃ ar, resA (actAlloc g th o) = ar := ⟨_, rfl⟩
  have HRA := Lib.hid (And.intro hgr har)
  rw [hgr, har]
  obtain ⟨hE, hB0, hB1, hB2, hB3, hB4⟩ := five_blks w (.slice x0 g.1.length y0) (.slice x1 g.2.length y1) th o
  have hsz := five_size w (.slice x0 g.1.length y0) (.slice x1 g.2.length y1) th o
  have HEnd := Lib.hid (fun w6 w7 => ends w w6 w7 (.slice x0 g.1.length y0) (.slice x1 g.2.length y1) g gr th o ar)
  have HGr := Lib.hid h
  obtain ⟨w5, hw5⟩ : ∃ w5, w5 = five w (.slice x0 g.1.length y0) (.slice x1 g.2.length y1) th o := ⟨_, rfl⟩
  rw [← hw5] at hE hB0 hB1 hB2 hB3 hB4 hsz HEnd
  unfold five wcells a0 at hw5
  have k0 : w5.cell? ⟨w.heap.size, 0, none⟩ = some (.slice x0 g.1.length y0) := hB0.cell (i := 0) rfl
  have k1 : w5.cell? ⟨w.heap.size, 1, none⟩ = some (.slice x1 g.2.length y1) := hB0.cell (i := 1) rfl
  have hS0 : w5.drew.cell? ⟨w.heap.size + 1, 0, none⟩ = some (.int .i64 o.kind) := hB1.cell (i := 0) rfl
  have hsd : w5.drew.heap.size = w.heap.size + 5 := hsz
  have hAC := acts_any (w.heap.size + 4) w5.drew
  rw [hsd] at hAC
  have HAC := Lib.hid hAC
  have hz0 : ∀ W, (zeroValue 1).run Try.prog W = .ok .nilFunc W := fun _ => by kernel_rfl
  have hfl : flook o.kind (tbl (w.heap.size + 4) (w.heap.size + 5)) 0 = flook 1 (tbl (w.heap.size + 4) (w.heap.size + 5)) 0 := by rw [hk]
  rw [show flook 1 (tbl (w.heap.size + 4) (w.heap.size + 5)) 0 = some _ from rfl] at hfl
  have msm := h.2.small
  have t1 : decide ((th : Int) < 0) = false := decide_eq_false (by omega)
  have t2 : decide ((g.2.length : Int) ≤ (th : Int)) = false := decide_eq_false (by omega)
  have HB4 := Lib.hid hB4
  have HE := Lib.hid hE
  clear h hB0 hB1 hB2 hB3 hB4 hgr har hAC hE hk
  go_enter Try.func13, Try.ntmps13
  go_wp2_with fail
  rw [← hw5]
  clear hw5
  refine wp_region_noPanic ?_
  refine Rt.begin_ (fun W : World => W.cell? ⟨w.heap.size + 1, 0, none⟩ = some (.int .i64 o.kind)) (fun i => false) (by kernel_rfl) ?_
  simp only [List.length_cons, List.length_nil, Nat.reduceAdd, Array.replicate_succ, Array.replicate_zero]
  refine Rt.takeW 0 (v := ?_) rfl (by kernel_rfl) (fun _ _ _ h => h) rfl ?_ ?_
  rotate_left
  · (intro W; go_simp; try with_reducible rfl)
  try simp only [Act.put, List.setIfInBounds_toArray, List.set_cons_zero, List.set_cons_succ]
  refine Rt.takeW 2 (v := ?_) rfl (by kernel_rfl) (fun _ _ _ h => h) rfl ?_ ?_
  rotate_left
  · (intro W; go_simp; try with_reducible rfl)
  try simp only [Act.put, List.setIfInBounds_toArray, List.set_cons_zero, List.set_cons_succ]
  refine Rt.take 3 (v := ?_) rfl (by kernel_rfl) (fun _ _ _ h => h) rfl ?_ hS0 ?_
  rotate_left
  · (intro W hSW; (try dsimp only at hSW); go_simp; try with_reducible rfl)
  try simp only [Act.put, List.setIfInBounds_toArray, List.set_cons_zero, List.set_cons_succ]
  refine Rt.step 1 rfl (by kernel_rfl) rfl (fun K hK => ?_)
  go_simp
  with_reducible refine HAC.out.mono ?_
  rintro e w6 ⟨M, rfl, hx6, hbC, hFM⟩
  have hlook := FM.look hFM Try.underlying63 Try.underlying3 (hz0 w6) o.kind true
  rw [hfl] at hlook
  refine hK _ _ ⟨.inr fun h => hx6.cell h, ?_⟩
  clear hK K
  try simp only [Act.put, List.setIfInBounds_toArray, List.set_cons_zero, List.set_cons_succ]
  refine Rt.step 4 rfl (by kernel_rfl) rfl (fun K hK => ?_)
  go_simp
  refine hK _ _ ⟨.inr id, ?_⟩
  clear hK K
  try simp only [Act.put, List.setIfInBounds_toArray, List.set_cons_zero, List.set_cons_succ]
  refine Rt.takeW 5 (v := ?_) rfl (by kernel_rfl) (fun _ _ _ h => h) rfl ?_ ?_
  rotate_left
  · (intro W; go_simp; try with_reducible rfl)
  try simp only [Act.put, List.setIfInBounds_toArray, List.set_cons_zero, List.set_cons_succ]
  refine Rt.takeW 6 (v := ?_) rfl (by kernel_rfl) (fun _ _ _ h => h) rfl ?_ ?_
  rotate_left
  · (intro W; go_simp; try with_reducible rfl)
  try simp only [Act.put, List.setIfInBounds_toArray, List.set_cons_zero, List.set_cons_succ]
  refine Rt.takeW 7 (v := ?_) rfl (by kernel_rfl) (fun _ _ _ h => h) rfl ?_ ?_
  rotate_left
  · (intro W; go_simp; try with_reducible rfl)
  try simp only [Act.put, List.setIfInBounds_toArray, List.set_cons_zero, List.set_cons_succ]
  refine Rt.takeW 8 (v := ?_) rfl (by kernel_rfl) (fun _ _ _ h => h) rfl ?_ ?_
  rotate_left
  · (intro W; go_simp; try with_reducible rfl)
  try simp only [Act.put, List.setIfInBounds_toArray, List.set_cons_zero, List.set_cons_succ]
  refine Rt.takeW 9 (v := ?_) rfl (by kernel_rfl) (fun _ _ _ h => h) rfl ?_ ?_
  rotate_left
  · (intro W; go_simp; try with_reducible rfl)
  try simp only [Act.put, List.setIfInBounds_toArray, List.set_cons_zero, List.set_cons_succ]
  refine Rt.done (by kernel_rfl) ?_
  refine NoPanic.normal ?_
  have HX6 := Lib.hid (((Ext.refl w5).drew).trans hx6)
  have hWk : Wk (w.heap.size + 4) w6 g th o a0 := ⟨x0, y0, x1, y1, HB4.out.ext HX6.out, GrS.of_old HGr.out (HE.out.trans HX6.out) (Nat.le_refl _)⟩
  have HAct : Hid (Calls Try.prog 50 #[.pointer (some ⟨w.heap.size + 4, 0, none⟩)] w6 fun r w' => r = .returned (.tuple #[]) ∧ Done (w.heap.size + 4) w6 g th o (actAlloc g th o) w') := by
    refine (alloc_any (w.heap.size + 4) g th o a0 w6 hWk hth hm hbd).mono ?_
    rintro r w' ⟨rfl, ⟨ho, hp⟩ | ⟨ho, hl, hp⟩ | ⟨ho, hl, hp⟩⟩
    · exact ⟨rfl, by unfold actAlloc; rw [if_pos ho]; exact hp⟩
    · exact ⟨rfl, by unfold actAlloc; rw [if_neg (by rw [ho]; simp), if_pos hl]; exact hp⟩
    · exact ⟨rfl, by unfold actAlloc; rw [if_neg (by rw [ho]; simp), if_neg (by omega)]; exact hp⟩
  replace k0 := HX6.out.cell k0
  replace k1 := HX6.out.cell k1
  clear hx6 hbC hFM hlook hWk
  try simp only [Option.map_some, Option.getD_some, Option.isSome_some, if_true]
  go_wp2_with fail
  with_reducible refine HAct.out.mono ?_
  rintro r w7 ⟨rfl, hd⟩
  have hpw := done_out hd
  rw [HRA.out.1, HRA.out.2] at hpw
  obtain ⟨na, nc, sa, sc, e0, e1, e11, e12, e13, hR2, hR3, hE7, hG7⟩ := HEnd.out w6 w7 HX6.out hpw
  have hS0 : w7.drew.cell? ⟨w.heap.size + 4, 0, none⟩ = some (.slice na gr.1.length nc) ∧ w7.drew.cell? ⟨w.heap.size + 4, 1, none⟩ = some (.slice sa gr.2.length sc) ∧ w7.drew.cell? ⟨w.heap.size + 4, 11, none⟩ = some (.int .i64 ar.1) ∧ w7.drew.cell? ⟨w.heap.size + 4, 12, none⟩ = some (.int .u64 ar.2.1) ∧ w7.drew.cell? ⟨w.heap.size + 4, 13, none⟩ = some (.bool ar.2.2) := ⟨e0, e1, e11, e12, e13⟩
  have z0 : w7.cell? ⟨w.heap.size + 2, 0, none⟩ = some (.slice none 0 0) := hR2.cell (i := 0) rfl
  have z1 : w7.cell? ⟨w.heap.size + 2, 1, none⟩ = some (.slice none 0 0) := hR2.cell (i := 1) rfl
  have z2 : w7.cell? ⟨w.heap.size + 3, 0, none⟩ = some (.int .i64 0) := hR3.cell (i := 0) rfl
  have z3 : w7.cell? ⟨w.heap.size + 3, 1, none⟩ = some (.int .u64 0) := hR3.cell (i := 1) rfl
  have z4 : w7.cell? ⟨w.heap.size + 3, 2, none⟩ = some (.bool false) := hR3.cell (i := 2) rfl
  have y0' := hR2.free 0
  have y1' := hR2.free 1
  have y2' := hR3.free 0
  have y3' := hR3.free 1
  have y4' := hR3.free 2
  have far : ∀ (o : Nat) (v : Value), w7.cell? ⟨w.heap.size + 4, o, none⟩ = some v → (((w7.setCell ⟨w.heap.size + 2, 0, none⟩ (.slice na gr.1.length nc)).setCell ⟨w.heap.size + 2, 1, none⟩ (.slice sa gr.2.length sc)).drew).cell? ⟨w.heap.size + 4, o, none⟩ = some v := fun o v h => far_set (far_set h (by simp) _) (by simp) _
  have hS8 := Lib.hid (And.intro (far _ _ e0) (And.intro (far _ _ e1) (And.intro (far _ _ e11) (And.intro (far _ _ e12) (far _ _ e13)))))
  have HR2 := Lib.hid hR2
  have HR3 := Lib.hid hR3
  have HE7 := Lib.hid hE7
  have HG7 := Lib.hid hG7
  clear hd hpw hR2 hR3 hE7 hG7 far
  go_wp2_with fail
  refine wp_region_noPanic ?_
  refine Rt.begin_ (fun W : World => W.cell? ⟨w.heap.size + 4, 0, none⟩ = some (.slice na gr.1.length nc) ∧ W.cell? ⟨w.heap.size + 4, 1, none⟩ = some (.slice sa gr.2.length sc) ∧ W.cell? ⟨w.heap.size + 4, 11, none⟩ = some (.int .i64 ar.1) ∧ W.cell? ⟨w.heap.size + 4, 12, none⟩ = some (.int .u64 ar.2.1) ∧ W.cell? ⟨w.heap.size + 4, 13, none⟩ = some (.bool ar.2.2)) (fun i => i == 9) (by kernel_rfl) ?_
  simp only [List.length_cons, List.length_nil, Nat.reduceAdd, Array.replicate_succ, Array.replicate_zero]
  refine Rt.takeW 0 (v := ?_) rfl (by kernel_rfl) (fun _ _ _ h => h) rfl ?_ ?_
  rotate_left
  · (intro W; go_simp; try with_reducible rfl)
  try simp only [Act.put, List.setIfInBounds_toArray, List.set_cons_zero, List.set_cons_succ]
  refine Rt.takeW 1 (v := ?_) rfl (by kernel_rfl) (fun _ _ _ h => h) rfl ?_ ?_
  rotate_left
  · (intro W; go_simp; try with_reducible rfl)
  try simp only [Act.put, List.setIfInBounds_toArray, List.set_cons_zero, List.set_cons_succ]
  refine Rt.takeW 2 (v := ?_) rfl (by kernel_rfl) (fun _ _ _ h => h) rfl ?_ ?_
  rotate_left
  · (intro W; go_simp; try with_reducible rfl)
  try simp only [Act.put, List.setIfInBounds_toArray, List.set_cons_zero, List.set_cons_succ]
  refine Rt.take 3 (v := ?_) rfl (by kernel_rfl) (fun _ _ _ h => h) rfl ?_ hS0 ?_
  rotate_left
  · (intro W hSW; (try dsimp only at hSW); go_simp; try with_reducible rfl)
  try simp only [Act.put, List.setIfInBounds_toArray, List.set_cons_zero, List.set_cons_succ]
  refine Rt.takeW 4 (v := ?_) rfl (by kernel_rfl) (fun _ _ _ h => h) rfl ?_ ?_
  rotate_left
  · (intro W; go_simp; try with_reducible rfl)
  try simp only [Act.put, List.setIfInBounds_toArray, List.set_cons_zero, List.set_cons_succ]
  refine Rt.takeW 5 (v := ?_) rfl (by kernel_rfl) (fun _ _ _ h => h) rfl ?_ ?_
  rotate_left
  · (intro W; go_simp; try with_reducible rfl)
  try simp only [Act.put, List.setIfInBounds_toArray, List.set_cons_zero, List.set_cons_succ]
  refine Rt.takeW 6 (v := ?_) rfl (by kernel_rfl) (fun _ _ _ h => h) rfl ?_ ?_
  rotate_left
  · (intro W; go_simp; try with_reducible rfl)
  try simp only [Act.put, List.setIfInBounds_toArray, List.set_cons_zero, List.set_cons_succ]
  refine Rt.take 7 (v := ?_) rfl (by kernel_rfl) (fun _ _ _ h => h) rfl ?_ hS0 ?_
  rotate_left
  · (intro W hSW; (try dsimp only at hSW); go_simp; try with_reducible rfl)
  try simp only [Act.put, List.setIfInBounds_toArray, List.set_cons_zero, List.set_cons_succ]
  refine Rt.step 8 rfl (by kernel_rfl) rfl (fun K hK => ?_)
  go_simp
  refine hK _ _ ⟨.inr fun _ => hS8.out, ?_⟩
  clear hK K
  try simp only [Act.put, List.setIfInBounds_toArray, List.set_cons_zero, List.set_cons_succ]
  refine Rt.step 9 rfl (by kernel_rfl) rfl (fun K hK => ?_)
  go_simp
  refine hK _ _ ⟨.inl rfl, ?_⟩
  clear hK K
  try simp only [Act.put, List.setIfInBounds_toArray, List.set_cons_zero, List.set_cons_succ]
  refine Rt.done (by kernel_rfl) ?_
  refine NoPanic.normal ?_
  obtain ⟨W8, hW8⟩ : ∃ W8, W8 = (((((w7.setCell ⟨w.heap.size + 1 + 1, 0, none⟩ (.slice na gr.1.length nc)).setCell ⟨w.heap.size + 1 + 1, 1, none⟩ (.slice sa gr.2.length sc)).setCell ⟨w.heap.size + 1 + 1 + 1, 0, none⟩ (.int .i64 ar.1)).setCell ⟨w.heap.size + 1 + 1 + 1, 1, none⟩ (.int .u64 ar.2.1)).setCell ⟨w.heap.size + 1 + 1 + 1, 2, none⟩ (.bool ar.2.2)).drew := ⟨_, rfl⟩
  rw [← hW8]
  have HFin := Lib.hid (final w w7 (.slice na gr.1.length nc) (.slice sa gr.2.length sc) gr ar HR2.out HR3.out HE7.out HG7.out W8 hW8)
  obtain ⟨q0, q1, q2, q3, q4, _⟩ := HFin.out
  clear hW8 hS8 hS0 HEnd HRA HAC HB4 HE HX6 HR2 HR3 HE7 HG7
  go_wp2_with fail
  exact bodyPost_ret (v := .tuple #[.agg #[.slice na gr.1.length nc, .slice sa gr.2.length sc], .agg #[.int .i64 ar.1, .int .u64 ar.2.1, .bool ar.2.2]]) (by simp [results, Try.results13, go_sem, q0, q1, q2, q3, q4]) rfl ⟨_, _, rfl, HFin.out.2.2.2.2.2.1, HFin.out.2.2.2.2.2.2⟩

set_option maxRecDepth 100000 in
set_option maxHeartbeats 8000000 in
theorem do_2 (a b : Value) (g : Gph) (th : Nat) (o : Opn) (w : World) (h : Gr w a b g) (hth : th < g.2.length) (hr : rightG g = true) (hp : posG g) (hm : 0 ≤ o.new.2.2) (hbd : g.1.length ≤ 1000) (hk : o.kind = 2) :
    Calls Try.prog 13 #[.agg #[a, b], .int .i64 th, opv o] w fun e w' => ∃ a' b', e = .returned (.tuple #[.agg #[a', b'], anv (resA (actGet g th o))]) ∧ Gr w' a' b' (resG g (actGet g th o)) ∧ Ext w w' := by
  obtain ⟨x0, y0, rfl⟩ := h.1.form
  obtain ⟨x1, y1, rfl⟩ := Gr.Ma.form h.2
  unfold opv anv
  obtain ⟨gr, hgr⟩ : ∃ gr, resG g (actGet g th o) = gr := ⟨_, rfl⟩
  obtain ⟨ar, har⟩ : ∃ ar, resA (actGet g th o) = ar := ⟨_, rfl⟩
  have HRA := Lib.hid (And.intro hgr har)
  rw [hgr, har]
  obtain ⟨hE, hB0, hB1, hB2, hB3, hB4⟩ := five_blks w (.slice x0 g.1.length y0) (.slice x1 g.2.length y1) th o
  have hsz := five_size w (.slice x0 g.1.length y0) (.slice x1 g.2.length y1) th o
  have HEnd := Lib.hid (fun w6 w7 => ends w w6 w7 (.slice x0 g.1.length y0) (.slice x1 g.2.length y1) g gr th o ar)
  have HGr := Lib.hid h
  obtain ⟨w5, hw5⟩ : ∃ w5, w5 = five w (.slice x0 g.1.length y0) (.slice x1 g.2.length y1) th o := ⟨_, rfl⟩
  rw [← hw5] at hE hB0 hB1 hB2 hB3 hB4 hsz HEnd
  unfold five wcells a0 at hw5
  have k0 : w5.cell? ⟨w.heap.size, 0, none⟩ = some (.slice x0 g.1.length y0) := hB0.cell (i := 0) rfl
  have k1 : w5.cell? ⟨w.heap.size, 1, none⟩ = some (.slice x1 g.2.length y1) := hB0.cell (i := 1) rfl
  have hS0 : w5.drew.cell? ⟨w.heap.size + 1, 0, none⟩ = some (.int .i64 o.kind) := hB1.cell (i := 0) rfl
  have hsd : w5.drew.heap.size = w.heap.size + 5 := hsz
  have hAC := acts_any (w.heap.size + 4) w5.drew
  rw [hsd] at hAC
  have HAC := Lib.hid hAC
  have hz0 : ∀ W, (zeroValue 1).run Try.prog W = .ok .nilFunc W := fun _ => by kernel_rfl
  have hfl : flook o.kind (tbl (w.heap.size + 4) (w.heap.size + 5)) 0 = flook 2 (tbl (w.heap.size + 4) (w.heap.size + 5)) 0 := by rw [hk]
  rw [show flook 2 (tbl (w.heap.size + 4) (w.heap.size + 5)) 0 = some _ from rfl] at hfl
  have msm := h.2.small
  have t1 : decide ((th : Int) < 0) = false := decide_eq_false (by omega)
  have t2 : decide ((g.2.length : Int) ≤ (th : Int)) = false := decide_eq_false (by omega)
  have HB4 := Lib.hid hB4
  have HE := Lib.hid hE
  clear h hB0 hB1 hB2 hB3 hB4 hgr har hAC hE hk
  go_enter Try.func13, Try.ntmps13
  go_wp2_with fail
  rw [← hw5]
  clear hw5
  refine wp_region_noPanic ?_
  refine Rt.begin_ (fun W : World => W.cell? ⟨w.heap.size + 1, 0, none⟩ = some (.int .i64 o.kind)) (fun i => false) (by kernel_rfl) ?_
  simp only [List.length_cons, List.length_nil, Nat.reduceAdd, Array.replicate_succ, Array.replicate_zero]
  refine Rt.takeW 0 (v := ?_) rfl (by kernel_rfl) (fun _ _ _ h => h) rfl ?_ ?_
  rotate_left
  · (intro W; go_simp; try with_reducible rfl)
  try simp only [Act.put, List.setIfInBounds_toArray, List.set_cons_zero, List.set_cons_succ]
  refine Rt.takeW 2 (v := ?_) rfl (by kernel_rfl) (fun _ _ _ h => h) rfl ?_ ?_
  rotate_left
  · (intro W; go_simp; try with_reducible rfl)
  try simp only [Act.put, List.setIfInBounds_toArray, List.set_cons_zero, List.set_cons_succ]
  refine Rt.take 3 (v := ?_) rfl (by kernel_rfl) (fun _ _ _ h => h) rfl ?_ hS0 ?_
  rotate_left
  · (intro W hSW; (try dsimp only at hSW); go_simp; try with_reducible rfl)
  try simp only [Act.put, List.setIfInBounds_toArray, List.set_cons_zero, List.set_cons_succ]
  refine Rt.step 1 rfl (by kernel_rfl) rfl (fun K hK => ?_)
  go_simp
  with_reducible refine HAC.out.mono ?_
  rintro e w6 ⟨M, rfl, hx6, hbC, hFM⟩
  have hlook := FM.look hFM Try.underlying63 Try.underlying3 (hz0 w6) o.kind true
  rw [hfl] at hlook
  refine hK _ _ ⟨.inr fun h => hx6.cell h, ?_⟩
  clear hK K
  try simp only [Act.put, List.setIfInBounds_toArray, List.set_cons_zero, List.set_cons_succ]
  refine Rt.step 4 rfl (by kernel_rfl) rfl (fun K hK => ?_)
  go_simp
  refine hK _ _ ⟨.inr id, ?_⟩
  clear hK K
  try simp only [Act.put, List.setIfInBounds_toArray, List.set_cons_zero, List.set_cons_succ]
  refine Rt.takeW 5 (v := ?_) rfl (by kernel_rfl) (fun _ _ _ h => h) rfl ?_ ?_
  rotate_left
  · (intro W; go_simp; try with_reducible rfl)
  try simp only [Act.put, List.setIfInBounds_toArray, List.set_cons_zero, List.set_cons_succ]
  refine Rt.takeW 6 (v := ?_) rfl (by kernel_rfl) (fun _ _ _ h => h) rfl ?_ ?_
  rotate_left
  · (intro W; go_simp; try with_reducible rfl)
  try simp only [Act.put, List.setIfInBounds_toArray, List.set_cons_zero, List.set_cons_succ]
  refine Rt.takeW 7 (v := ?_) rfl (by kernel_rfl) (fun _ _ _ h => h) rfl ?_ ?_
  rotate_left
  · (intro W; go_simp; try with_reducible rfl)
  try simp only [Act.put, List.setIfInBounds_toArray, List.set_cons_zero, List.set_cons_succ]
  refine Rt.takeW 8 (v := ?_) rfl (by kernel_rfl) (fun _ _ _ h => h) rfl ?_ ?_
  rotate_left
  · (intro W; go_simp; try with_reducible rfl)
  try simp only [Act.put, List.setIfInBounds_toArray, List.set_cons_zero, List.set_cons_succ]
  refine Rt.takeW 9 (v := ?_) rfl (by kernel_rfl) (fun _ _ _ h => h) rfl ?_ ?_
  rotate_left
  · (intro W; go_simp; try with_reducible rfl)
  try simp only [Act.put, List.setIfInBounds_toArray, List.set_cons_zero, List.set_cons_succ]
  refine Rt.done (by kernel_rfl) ?_
  refine NoPanic.normal ?_
  have HX6 := Lib.hid (((Ext.refl w5).drew).trans hx6)
  have hWk : Wk (w.heap.size + 4) w6 g th o a0 := ⟨x0, y0, x1, y1, HB4.out.ext HX6.out, GrS.of_old HGr.out (HE.out.trans HX6.out) (Nat.le_refl _)⟩
  have HAct := Lib.hid (get_any (w.heap.size + 4) (w.heap.size + 5) g th o w6 hWk hbC (by omega) hth hr hp)
  replace k0 := HX6.out.cell k0
  replace k1 := HX6.out.cell k1
  clear hx6 hbC hFM hlook hWk
  try simp only [Option.map_some, Option.getD_some, Option.isSome_some, if_true]
  go_wp2_with fail
  with_reducible refine HAct.out.mono ?_
  rintro r w7 ⟨rfl, hd⟩
  have hpw := done_out hd
  rw [HRA.out.1, HRA.out.2] at hpw
  obtain ⟨na, nc, sa, sc, e0, e1, e11, e12, e13, hR2, hR3, hE7, hG7⟩ := HEnd.out w6 w7 HX6.out hpw
  have hS0 : w7.drew.cell? ⟨w.heap.size + 4, 0, none⟩ = some (.slice na gr.1.length nc) ∧ w7.drew.cell? ⟨w.heap.size + 4, 1, none⟩ = some (.slice sa gr.2.length sc) ∧ w7.drew.cell? ⟨w.heap.size + 4, 11, none⟩ = some (.int .i64 ar.1) ∧ w7.drew.cell? ⟨w.heap.size + 4, 12, none⟩ = some (.int .u64 ar.2.1) ∧ w7.drew.cell? ⟨w.heap.size + 4, 13, none⟩ = some (.bool ar.2.2) := ⟨e0, e1, e11, e12, e13⟩
  have z0 : w7.cell? ⟨w.heap.size + 2, 0, none⟩ = some (.slice none 0 0) := hR2.cell (i := 0) rfl
  have z1 : w7.cell? ⟨w.heap.size + 2, 1, none⟩ = some (.slice none 0 0) := hR2.cell (i := 1) rfl
  have z2 : w7.cell? ⟨w.heap.size + 3, 0, none⟩ = some (.int .i64 0) := hR3.cell (i := 0) rfl
  have z3 : w7.cell? ⟨w.heap.size + 3, 1, none⟩ = some (.int .u64 0) := hR3.cell (i := 1) rfl
  have z4 : w7.cell? ⟨w.heap.size + 3, 2, none⟩ = some (.bool false) := hR3.cell (i := 2) rfl
  have y0' := hR2.free 0
  have y1' := hR2.free 1
  have y2' := hR3.free 0
  have y3' := hR3.free 1
  have y4' := hR3.free 2
  have far : ∀ (o : Nat) (v : Value), w7.cell? ⟨w.heap.size + 4, o, none⟩ = some v → (((w7.setCell ⟨w.heap.size + 2, 0, none⟩ (.slice na gr.1.length nc)).setCell ⟨w.heap.size + 2, 1, none⟩ (.slice sa gr.2.length sc)).drew).cell? ⟨w.heap.size + 4, o, none⟩ = some v := fun o v h => far_set (far_set h (by simp) _) (by simp) _
  have hS8 := Lib.hid (And.intro (far _ _ e0) (And.intro (far _ _ e1) (And.intro (far _ _ e11) (And.intro (far _ _ e12) (far _ _ e13)))))
  have HR2 := Lib.hid hR2
  have HR3 := Lib.hid hR3
  have HE7 := Lib.hid hE7
  have HG7 := Lib.hid hG7
  clear hd hpw hR2 hR3 hE7 hG7 far
  go_wp2_with fail
  refine wp_region_noPanic ?_
  refine Rt.begin_ (fun W : World => W.cell? ⟨w.heap.size + 4, 0, none⟩ = some (.slice na gr.1.length nc) ∧ W.cell? ⟨w.heap.size + 4, 1, none⟩ = some (.slice sa gr.2.length sc) ∧ W.cell? ⟨w.heap.size + 4, 11, none⟩ = some (.int .i64 ar.1) ∧ W.cell? ⟨w.heap.size + 4, 12, none⟩ = some (.int .u64 ar.2.1) ∧ W.cell? ⟨w.heap.size + 4, 13, none⟩ = some (.bool ar.2.2)) (fun i => i == 9) (by kernel_rfl) ?_
  simp only [List.length_cons, List.length_nil, Nat.reduceAdd, Array.replicate_succ, Array.replicate_zero]
  refine Rt.takeW 0 (v := ?_) rfl (by kernel_rfl) (fun _ _ _ h => h) rfl ?_ ?_
  rotate_left
  · (intro W; go_simp; try with_reducible rfl)
  try simp only [Act.put, List.setIfInBounds_toArray, List.set_cons_zero, List.set_cons_succ]
  refine Rt.takeW 1 (v := ?_) rfl (by kernel_rfl) (fun _ _ _ h => h) rfl ?_ ?_
  rotate_left
  · (intro W; go_simp; try with_reducible rfl)
  try simp only [Act.put, List.setIfInBounds_toArray, List.set_cons_zero, List.set_cons_succ]
  refine Rt.takeW 2 (v := ?_) rfl (by kernel_rfl) (fun _ _ _ h => h) rfl ?_ ?_
  rotate_left
  · (intro W; go_simp; try with_reducible rfl)
  try simp only [Act.put, List.setIfInBounds_toArray, List.set_cons_zero, List.set_cons_succ]
  refine Rt.take 3 (v := ?_) rfl (by kernel_rfl) (fun _ _ _ h => h) rfl ?_ hS0 ?_
  rotate_left
  · (intro W hSW; (try dsimp only at hSW); go_simp; try with_reducible rfl)
  try simp only [Act.put, List.setIfInBounds_toArray, List.set_cons_zero, List.set_cons_succ]
  refine Rt.takeW 4 (v := ?_) rfl (by kernel_rfl) (fun _ _ _ h => h) rfl ?_ ?_
  rotate_left
  · (intro W; go_simp; try with_reducible rfl)
  try simp only [Act.put, List.setIfInBounds_toArray, List.set_cons_zero, List.set_cons_succ]
  refine Rt.takeW 5 (v := ?_) rfl (by kernel_rfl) (fun _ _ _ h => h) rfl ?_ ?_
  rotate_left
  · (intro W; go_simp; try with_reducible rfl)
  try simp only [Act.put, List.setIfInBounds_toArray, List.set_cons_zero, List.set_cons_succ]
  refine Rt.takeW 6 (v := ?_) rfl (by kernel_rfl) (fun _ _ _ h => h) rfl ?_ ?_
  rotate_left
  · (intro W; go_simp; try with_reducible rfl)
  try simp only [Act.put, List.setIfInBounds_toArray, List.set_cons_zero, List.set_cons_succ]
  refine Rt.take 7 (v := ?_) rfl (by kernel_rfl) (fun _ _ _ h => h) rfl ?_ hS0 ?_
  rotate_left
  · (intro W hSW; (try dsimp only at hSW); go_simp; try with_reducible rfl)
  try simp only [Act.put, List.setIfInBounds_toArray, List.set_cons_zero, List.set_cons_succ]
  refine Rt.step 8 rfl (by kernel_rfl) rfl (fun K hK => ?_)
  go_simp
  refine hK _ _ ⟨.inr fun _ => hS8.out, ?_⟩
  clear hK K
  try simp only [Act.put, List.setIfInBounds_toArray, List.set_cons_zero, List.set_cons_succ]
  refine Rt.step 9 rfl (by kernel_rfl) rfl (fun K hK => ?_)
  go_simp
  refine hK _ _ ⟨.inl rfl, ?_⟩
  clear hK K
  try simp only [Act.put, List.setIfInBounds_toArray, List.set_cons_zero, List.set_cons_succ]
  refine Rt.done (by kernel_rfl) ?_
  refine NoPanic.normal ?_
  obtain ⟨W8, hW8⟩ : ∃ W8, W8 = (((((w7.setCell ⟨w.heap.size + 1 + 1, 0, none⟩ (.slice na gr.1.length nc)).setCell ⟨w.heap.size + 1 + 1, 1, none⟩ (.slice sa gr.2.length sc)).setCell ⟨w.heap.size + 1 + 1 + 1, 0, none⟩ (.int .i64 ar.1)).setCell ⟨w.heap.size + 1 + 1 + 1, 1, none⟩ (.int .u64 ar.2.1)).setCell ⟨w.heap.size + 1 + 1 + 1, 2, none⟩ (.bool ar.2.2)).drew := ⟨_, rfl⟩
  rw [← hW8]
  have HFin := Lib.hid (final w w7 (.slice na gr.1.length nc) (.slice sa gr.2.length sc) gr ar HR2.out HR3.out HE7.out HG7.out W8 hW8)
  obtain ⟨q0, q1, q2, q3, q4, _⟩ := HFin.out
  clear hW8 hS8 hS0 HEnd HRA HAC HB4 HE HX6 HR2 HR3 HE7 HG7
  go_wp2_with fail
  exact bodyPost_ret (v := .tuple #[.agg #[.slice na gr.1.length nc, .slice sa gr.2.length sc], .agg #[.int .i64 ar.1, .int .u64 ar.2.1, .bool ar.2.2]]) (by simp [results, Try.results13, go_sem, q0, q1, q2, q3, q4]) rfl ⟨_, _, rfl, HFin.out.2.2.2.2.2.1, HFin.out.2.2.2.2.2.2⟩

set_option maxRecDepth 100000 in
set_option maxHeartbeats 8000000 in
theorem do_3 (a b : Value) (g : Gph) (th : Nat) (o : Opn) (w : World) (h : Gr w a b g) (hth : th < g.2.length) (hr : rightG g = true) (hp : posG g) (hm : 0 ≤ o.new.2.2) (hbd : g.1.length ≤ 1000) (hk : o.kind = 3) :
    Calls Try.prog 13 #[.agg #[a, b], .int .i64 th, opv o] w fun e w' => ∃ a' b', e = .returned (.tuple #[.agg #[a', b'], anv (resA (actFollow g th o))]) ∧ Gr w' a' b' (resG g (actFollow g th o)) ∧ Ext w w' := by
  obtain ⟨x0, y0, rfl⟩ := h.1.form
  obtain ⟨x1, y1, rfl⟩ := Gr.Ma.form h.2
  unfold opv anv
  obtain ⟨gr, hgr⟩ : ∃ gr, resG g (actFollow g th o) = gr := ⟨_, rfl⟩
  obtain ⟨ar, har⟩ : ∃ ar, resA (actFollow g th o) = ar := ⟨_, rfl⟩
  have HRA := Lib.hid (And.intro hgr har)
  rw [hgr, har]
  obtain ⟨hE, hB0, hB1, hB2, hB3, hB4⟩ := five_blks w (.slice x0 g.1.length y0) (.slice x1 g.2.length y1) th o
  have hsz := five_size w (.slice x0 g.1.length y0) (.slice x1 g.2.length y1) th o
  have HEnd := Lib.hid (fun w6 w7 => ends w w6 w7 (.slice x0 g.1.length y0) (.slice x1 g.2.length y1) g gr th o ar)
  have HGr := Lib.hid h
  obtain ⟨w5, hw5⟩ : ∃ w5, w5 = five w (.slice x0 g.1.length y0) (.slice x1 g.2.length y1) th o := ⟨_, rfl⟩
  rw [← hw5] at hE hB0 hB1 hB2 hB3 hB4 hsz HEnd
  unfold five wcells a0 at hw5
  have k0 : w5.cell? ⟨w.heap.size, 0, none⟩ = some (.slice x0 g.1.length y0) := hB0.cell (i := 0) rfl
  have k1 : w5.cell? ⟨w.heap.size, 1, none⟩ = some (.slice x1 g.2.length y1) := hB0.cell (i := 1) rfl
  have hS0 : w5.drew.cell? ⟨w.heap.size + 1, 0, none⟩ = some (.int .i64 o.kind) := hB1.cell (i := 0) rfl
  have hsd : w5.drew.heap.size = w.heap.size + 5 := hsz
  have hAC := acts_any (w.heap.size + 4) w5.drew
  rw [hsd] at hAC
  have HAC := Lib.hid hAC
  have hz0 : ∀ W, (zeroValue 1).run Try.prog W = .ok .nilFunc W := fun _ => by kernel_rfl
  have hfl : flook o.kind (tbl (w.heap.size + 4) (w.heap.size + 5)) 0 = flook 3 (tbl (w.heap.size + 4) (w.heap.size + 5)) 0 := by rw [hk]
  rw [show flook 3 (tbl (w.heap.size + 4) (w.heap.size + 5)) 0 = some _ from rfl] at hfl
  have msm := h.2.small
  have t1 : decide ((th : Int) < 0) = false := decide_eq_false (by omega)
  have t2 : decide ((g.2.length : Int) ≤ (th : Int)) = false := decide_eq_false (by omega)
  have HB4 := Lib.hid hB4
  have HE := Lib.hid hE
  clear h hB0 hB1 hB2 hB3 hB4 hgr har hAC hE hk
  go_enter Try.func13, Try.ntmps13
  go_wp2_with fail
  rw [← hw5]
  clear hw5
  refine wp_region_noPanic ?_
  refine Rt.begin_ (fun W : World => W.cell? ⟨w.heap.size + 1, 0, none⟩ = some (.int .i64 o.kind)) (fun i => false) (by kernel_rfl) ?_
  simp only [List.length_cons, List.length_nil, Nat.reduceAdd, Array.replicate_succ, Array.replicate_zero]
  refine Rt.takeW 0 (v := ?_) rfl (by kernel_rfl) (fun _ _ _ h => h) rfl ?_ ?_
  rotate_left
  · (intro W; go_simp; try with_reducible rfl)
  try simp only [Act.put, List.setIfInBounds_toArray, List.set_cons_zero, List.set_cons_succ]
  refine Rt.takeW 2 (v := ?_) rfl (by kernel_rfl) (fun _ _ _ h => h) rfl ?_ ?_
  rotate_left
  · (intro W; go_simp; try with_reducible rfl)
  try simp only [Act.put, List.setIfInBounds_toArray, List.set_cons_zero, List.set_cons_succ]
  refine Rt.take 3 (v := ?_) rfl (by kernel_rfl) (fun _ _ _ h => h) rfl ?_ hS0 ?_
  rotate_left
  · (intro W hSW; (try dsimp only at hSW); go_simp; try with_reducible rfl)
  try simp only [Act.put, List.setIfInBounds_toArray, List.set_cons_zero, List.set_cons_succ]
  refine Rt.step 1 rfl (by kernel_rfl) rfl (fun K hK => ?_)
  go_simp
  with_reducible refine HAC.out.mono ?_
  rintro e w6 ⟨M, rfl, hx6, hbC, hFM⟩
  have hlook := FM.look hFM Try.underlying63 Try.underlying3 (hz0 w6) o.kind true
  rw [hfl] at hlook
  refine hK _ _ ⟨.inr fun h => hx6.cell h, ?_⟩
  clear hK K
  try simp only [Act.put, List.setIfInBounds_toArray, List.set_cons_zero, List.set_cons_succ]
  refine Rt.step 4 rfl (by kernel_rfl) rfl (fun K hK => ?_)
  go_simp
  refine hK _ _ ⟨.inr id, ?_⟩
  clear hK K
  try simp only [Act.put, List.setIfInBounds_toArray, List.set_cons_zero, List.set_cons_succ]
  refine Rt.takeW 5 (v := ?_) rfl (by kernel_rfl) (fun _ _ _ h => h) rfl ?_ ?_
  rotate_left
  · (intro W; go_simp; try with_reducible rfl)
  try simp only [Act.put, List.setIfInBounds_toArray, List.set_cons_zero, List.set_cons_succ]
  refine Rt.takeW 6 (v := ?_) rfl (by kernel_rfl) (fun _ _ _ h => h) rfl ?_ ?_
  rotate_left
  · (intro W; go_simp; try with_reducible rfl)
  try simp only [Act.put, List.setIfInBounds_toArray, List.set_cons_zero, List.set_cons_succ]
  refine Rt.takeW 7 (v := ?_) rfl (by kernel_rfl) (fun _ _ _ h => h) rfl ?_ ?_
  rotate_left
  · (intro W; go_simp; try with_reducible rfl)
  try simp only [Act.put, List.setIfInBounds_toArray, List.set_cons_zero, List.set_cons_succ]
  refine Rt.takeW 8 (v := ?_) rfl (by kernel_rfl) (fun _ _ _ h => h) rfl ?_ ?_
  rotate_left
  · (intro W; go_simp; try with_reducible rfl)
  try simp only [Act.put, List.setIfInBounds_toArray, List.set_cons_zero, List.set_cons_succ]
  refine Rt.takeW 9 (v := ?_) rfl (by kernel_rfl) (fun _ _ _ h => h) rfl ?_ ?_
  rotate_left
  · (intro W; go_simp; try with_reducible rfl)
  try simp only [Act.put, List.setIfInBounds_toArray, List.set_cons_zero, List.set_cons_succ]
  refine Rt.done (by kernel_rfl) ?_
  refine NoPanic.normal ?_
  have HX6 := Lib.hid (((Ext.refl w5).drew).trans hx6)
  have hWk : Wk (w.heap.size + 4) w6 g th o a0 := ⟨x0, y0, x1, y1, HB4.out.ext HX6.out, GrS.of_old HGr.out (HE.out.trans HX6.out) (Nat.le_refl _)⟩
  have HAct := Lib.hid (follow_any (w.heap.size + 4) (w.heap.size + 5) g th o w6 hWk hbC (by omega) hth hr hp)
  replace k0 := HX6.out.cell k0
  replace k1 := HX6.out.cell k1
  clear hx6 hbC hFM hlook hWk
  try simp only [Option.map_some, Option.getD_some, Option.isSome_some, if_true]
  go_wp2_with fail
  with_reducible refine HAct.out.mono ?_
  rintro r w7 ⟨rfl, hd⟩
  have hpw := done_out hd
  rw [HRA.out.1, HRA.out.2] at hpw
  obtain ⟨na, nc, sa, sc, e0, e1, e11, e12, e13, hR2, hR3, hE7, hG7⟩ := HEnd.out w6 w7 HX6.out hpw
  have hS0 : w7.drew.cell? ⟨w.heap.size + 4, 0, none⟩ = some (.slice na gr.1.length nc) ∧ w7.drew.cell? ⟨w.heap.size + 4, 1, none⟩ = some (.slice sa gr.2.length sc) ∧ w7.drew.cell? ⟨w.heap.size + 4, 11, none⟩ = some (.int .i64 ar.1) ∧ w7.drew.cell? ⟨w.heap.size + 4, 12, none⟩ = some (.int .u64 ar.2.1) ∧ w7.drew.cell? ⟨w.heap.size + 4, 13, none⟩ = some (.bool ar.2.2) := ⟨e0, e1, e11, e12, e13⟩
  have z0 : w7.cell? ⟨w.heap.size + 2, 0, none⟩ = some (.slice none 0 0) := hR2.cell (i := 0) rfl
  have z1 : w7.cell? ⟨w.heap.size + 2, 1, none⟩ = some (.slice none 0 0) := hR2.cell (i := 1) rfl
  have z2 : w7.cell? ⟨w.heap.size + 3, 0, none⟩ = some (.int .i64 0) := hR3.cell (i := 0) rfl
  have z3 : w7.cell? ⟨w.heap.size + 3, 1, none⟩ = some (.int .u64 0) := hR3.cell (i := 1) rfl
  have z4 : w7.cell? ⟨w.heap.size + 3, 2, none⟩ = some (.bool false) := hR3.cell (i := 2) rfl
  have y0' := hR2.free 0
  have y1' := hR2.free 1
  have y2' := hR3.free 0
  have y3' := hR3.free 1
  have y4' := hR3.free 2
  have far : ∀ (o : Nat) (v : Value), w7.cell? ⟨w.heap.size + 4, o, none⟩ = some v → (((w7.setCell ⟨w.heap.size + 2, 0, none⟩ (.slice na gr.1.length nc)).setCell ⟨w.heap.size + 2, 1, none⟩ (.slice sa gr.2.length sc)).drew).cell? ⟨w.heap.size + 4, o, none⟩ = some v := fun o v h => far_set (far_set h (by simp) _) (by simp) _
  have hS8 := Lib.hid (And.intro (far _ _ e0) (And.intro (far _ _ e1) (And.intro (far _ _ e11) (And.intro (far _ _ e12) (far _ _ e13)))))
  have HR2 := Lib.hid hR2
  have HR3 := Lib.hid hR3
  have HE7 := Lib.hid hE7
  have HG7 := Lib.hid hG7
  clear hd hpw hR2 hR3 hE7 hG7 far
  go_wp2_with fail
  refine wp_region_noPanic ?_
  refine Rt.begin_ (fun W : World => W.cell? ⟨w.heap.size + 4, 0, none⟩ = some (.slice na gr.1.length nc) ∧ W.cell? ⟨w.heap.size + 4, 1, none⟩ = some (.slice sa gr.2.length sc) ∧ W.cell? ⟨w.heap.size + 4, 11, none⟩ = some (.int .i64 ar.1) ∧ W.cell? ⟨w.heap.size + 4, 12, none⟩ = some (.int .u64 ar.2.1) ∧ W.cell? ⟨w.heap.size + 4, 13, none⟩ = some (.bool ar.2.2)) (fun i => i == 9) (by kernel_rfl) ?_
  simp only [List.length_cons, List.length_nil, Nat.reduceAdd, Array.replicate_succ, Array.replicate_zero]
  refine Rt.takeW 0 (v := ?_) rfl (by kernel_rfl) (fun _ _ _ h => h) rfl ?_ ?_
  rotate_left
  · (intro W; go_simp; try with_reducible rfl)
  try simp only [Act.put, List.setIfInBounds_toArray, List.set_cons_zero, List.set_cons_succ]
  refine Rt.takeW 1 (v := ?_) rfl (by kernel_rfl) (fun _ _ _ h => h) rfl ?_ ?_
  rotate_left
  · (intro W; go_simp; try with_reducible rfl)
  try simp only [Act.put, List.setIfInBounds_toArray, List.set_cons_zero, List.set_cons_succ]
  refine Rt.takeW 2 (v := ?_) rfl (by kernel_rfl) (fun _ _ _ h => h) rfl ?_ ?_
  rotate_left
  · (intro W; go_simp; try with_reducible rfl)
  try simp only [Act.put, List.setIfInBounds_toArray, List.set_cons_zero, List.set_cons_succ]
  refine Rt.take 3 (v := ?_) rfl (by kernel_rfl) (fun _ _ _ h => h) rfl ?_ hS0 ?_
  rotate_left
  · (intro W hSW; (try dsimp only at hSW); go_simp; try with_reducible rfl)
  try simp only [Act.put, List.setIfInBounds_toArray, List.set_cons_zero, List.set_cons_succ]
  refine Rt.takeW 4 (v := ?_) rfl (by kernel_rfl) (fun _ _ _ h => h) rfl ?_ ?_
  rotate_left
  · (intro W; go_simp; try with_reducible rfl)
  try simp only [Act.put, List.setIfInBounds_toArray, List.set_cons_zero, List.set_cons_succ]
  refine Rt.takeW 5 (v := ?_) rfl (by kernel_rfl) (fun _ _ _ h => h) rfl ?_ ?_
  rotate_left
  · (intro W; go_simp; try with_reducible rfl)
  try simp only [Act.put, List.setIfInBounds_toArray, List.set_cons_zero, List.set_cons_succ]
  refine Rt.takeW 6 (v := ?_) rfl (by kernel_rfl) (fun _ _ _ h => h) rfl ?_ ?_
  rotate_left
  · (intro W; go_simp; try with_reducible rfl)
  try simp only [Act.put, List.setIfInBounds_toArray, List.set_cons_zero, List.set_cons_succ]
  refine Rt.take 7 (v := ?_) rfl (by kernel_rfl) (fun _ _ _ h => h) rfl ?_ hS0 ?_
  rotate_left
  · (intro W hSW; (try dsimp only at hSW); go_simp; try with_reducible rfl)
  try simp only [Act.put, List.setIfInBounds_toArray, List.set_cons_zero, List.set_cons_succ]
  refine Rt.step 8 rfl (by kernel_rfl) rfl (fun K hK => ?_)
  go_simp
  refine hK _ _ ⟨.inr fun _ => hS8.out, ?_⟩
  clear hK K
  try simp only [Act.put, List.setIfInBounds_toArray, List.set_cons_zero, List.set_cons_succ]
  refine Rt.step 9 rfl (by kernel_rfl) rfl (fun K hK => ?_)
  go_simp
  refine hK _ _ ⟨.inl rfl, ?_⟩
  clear hK K
  try simp only [Act.put, List.setIfInBounds_toArray, List.set_cons_zero, List.set_cons_succ]
  refine Rt.done (by kernel_rfl) ?_
  refine NoPanic.normal ?_
  obtain ⟨W8, hW8⟩ : ∃ W8, W8 = (((((w7.setCell ⟨w.heap.size + 1 + 1, 0, none⟩ (.slice na gr.1.length nc)).setCell ⟨w.heap.size + 1 + 1, 1, none⟩ (.slice sa gr.2.length sc)).setCell ⟨w.heap.size + 1 + 1 + 1, 0, none⟩ (.int .i64 ar.1)).setCell ⟨w.heap.size + 1 + 1 + 1, 1, none⟩ (.int .u64 ar.2.1)).setCell ⟨w.heap.size + 1 + 1 + 1, 2, none⟩ (.bool ar.2.2)).drew := ⟨_, rfl⟩
  rw [← hW8]
  have HFin := Lib.hid (final w w7 (.slice na gr.1.length nc) (.slice sa gr.2.length sc) gr ar HR2.out HR3.out HE7.out HG7.out W8 hW8)
  obtain ⟨q0, q1, q2, q3, q4, _⟩ := HFin.out
  clear hW8 hS8 hS0 HEnd HRA HAC HB4 HE HX6 HR2 HR3 HE7 HG7
  go_wp2_with fail
  exact bodyPost_ret (v := .tuple #[.agg #[.slice na gr.1.length nc, .slice sa gr.2.length sc], .agg #[.int .i64 ar.1, .int .u64 ar.2.1, .bool ar.2.2]]) (by simp [results, Try.results13, go_sem, q0, q1, q2, q3, q4]) rfl ⟨_, _, rfl, HFin.out.2.2.2.2.2.1, HFin.out.2.2.2.2.2.2⟩

set_option maxRecDepth 100000 in
set_option maxHeartbeats 8000000 in
theorem do_4 (a b : Value) (g : Gph) (th : Nat) (o : Opn) (w : World) (h : Gr w a b g) (hth : th < g.2.length) (hr : rightG g = true) (hp : posG g) (hm : 0 ≤ o.new.2.2) (hbd : g.1.length ≤ 1000) (hk : o.kind = 4) :
    Calls Try.prog 13 #[.agg #[a, b], .int .i64 th, opv o] w fun e w' => ∃ a' b', e = .returned (.tuple #[.agg #[a', b'], anv (resA (actWrite g th o))]) ∧ Gr w' a' b' (resG g (actWrite g th o)) ∧ Ext w w' := by
  obtain ⟨x0, y0, rfl⟩ := h.1.form
  obtain ⟨x1, y1, rfl⟩ := Gr.Ma.form h.2
  unfold opv anv
  obtain ⟨gr, hgr⟩ : ∃ gr, resG g (actWrite g th o) = gr := ⟨_, rfl⟩
  obtain ⟨ar, har⟩ : ∃ ar, resA (actWrite g th o) = ar := ⟨_, rfl⟩
  have HRA := Lib.hid (And.intro hgr har)
  rw [hgr, har]
  obtain ⟨hE, hB0, hB1, hB2, hB3, hB4⟩ := five_blks w (.slice x0 g.1.length y0) (.slice x1 g.2.length y1) th o
  have hsz := five_size w (.slice x0 g.1.length y0) (.slice x1 g.2.length y1) th o
  have HEnd := Lib.hid (fun w6 w7 => ends w w6 w7 (.slice x0 g.1.length y0) (.slice x1 g.2.length y1) g gr th o ar)
  have HGr := Lib.hid h
  obtain ⟨w5, hw5⟩ : ∃ w5, w5 = five w (.slice x0 g.1.length y0) (.slice x1 g.2.length y1) th o := ⟨_, rfl⟩
  rw [← hw5] at hE hB0 hB1 hB2 hB3 hB4 hsz HEnd
  unfold five wcells a0 at hw5
  have k0 : w5.cell? ⟨w.heap.size, 0, none⟩ = some (.slice x0 g.1.length y0) := hB0.cell (i := 0) rfl
  have k1 : w5.cell? ⟨w.heap.size, 1, none⟩ = some (.slice x1 g.2.length y1) := hB0.cell (i := 1) rfl
  have hS0 : w5.drew.cell? ⟨w.heap.size + 1, 0, none⟩ = some (.int .i64 o.kind) := hB1.cell (i := 0) rfl
  have hsd : w5.drew.heap.size = w.heap.size + 5 := hsz
  have hAC := acts_any (w.heap.size + 4) w5.drew
  rw [hsd] at hAC
  have HAC := Lib.hid hAC
  have hz0 : ∀ W, (zeroValue 1).run Try.prog W = .ok .nilFunc W := fun _ => by kernel_rfl
  have hfl : flook o.kind (tbl (w.heap.size + 4) (w.heap.size + 5)) 0 = flook 4 (tbl (w.heap.size + 4) (w.heap.size + 5)) 0 := by rw [hk]
  rw [show flook 4 (tbl (w.heap.size + 4) (w.heap.size + 5)) 0 = some _ from rfl] at hfl
  have msm := h.2.small
  have t1 : decide ((th : Int) < 0) = false := decide_eq_false (by omega)
  have t2 : decide ((g.2.length : Int) ≤ (th : Int)) = false := decide_eq_false (by omega)
  have HB4 := Lib.hid hB4
  have HE := Lib.hid hE
  clear h hB0 hB1 hB2 hB3 hB4 hgr har hAC hE hk
  go_enter Try.func13, Try.ntmps13
  go_wp2_with fail
  rw [← hw5]
  clear hw5
  refine wp_region_noPanic ?_
  refine Rt.begin_ (fun W : World => W.cell? ⟨w.heap.size + 1, 0, none⟩ = some (.int .i64 o.kind)) (fun i => false) (by kernel_rfl) ?_
  simp only [List.length_cons, List.length_nil, Nat.reduceAdd, Array.replicate_succ, Array.replicate_zero]
  refine Rt.takeW 0 (v := ?_) rfl (by kernel_rfl) (fun _ _ _ h => h) rfl ?_ ?_
  rotate_left
  · (intro W; go_simp; try with_reducible rfl)
  try simp only [Act.put, List.setIfInBounds_toArray, List.set_cons_zero, List.set_cons_succ]
  refine Rt.takeW 2 (v := ?_) rfl (by kernel_rfl) (fun _ _ _ h => h) rfl ?_ ?_
  rotate_left
  · (intro W; go_simp; try with_reducible rfl)
  try simp only [Act.put, List.setIfInBounds_toArray, List.set_cons_zero, List.set_cons_succ]
  refine Rt.take 3 (v := ?_) rfl (by kernel_rfl) (fun _ _ _ h => h) rfl ?_ hS0 ?_
  rotate_left
  · (intro W hSW; (try dsimp only at hSW); go_simp; try with_reducible rfl)
  try simp only [Act.put, List.setIfInBounds_toArray, List.set_cons_zero, List.set_cons_succ]
  refine Rt.step 1 rfl (by kernel_rfl) rfl (fun K hK => ?_)
  go_simp
  with_reducible refine HAC.out.mono ?_
  rintro e w6 ⟨M, rfl, hx6, hbC, hFM⟩
  have hlook := FM.look hFM Try.underlying63 Try.underlying3 (hz0 w6) o.kind true
  rw [hfl] at hlook
  refine hK _ _ ⟨.inr fun h => hx6.cell h, ?_⟩
  clear hK K
  try simp only [Act.put, List.setIfInBounds_toArray, List.set_cons_zero, List.set_cons_succ]
  refine Rt.step 4 rfl (by kernel_rfl) rfl (fun K hK => ?_)
  go_simp
  refine hK _ _ ⟨.inr id, ?_⟩
  clear hK K
  try simp only [Act.put, List.setIfInBounds_toArray, List.set_cons_zero, List.set_cons_succ]
  refine Rt.takeW 5 (v := ?_) rfl (by kernel_rfl) (fun _ _ _ h => h) rfl ?_ ?_
  rotate_left
  · (intro W; go_simp; try with_reducible rfl)
  try simp only [Act.put, List.setIfInBounds_toArray, List.set_cons_zero, List.set_cons_succ]
  refine Rt.takeW 6 (v := ?_) rfl (by kernel_rfl) (fun _ _ _ h => h) rfl ?_ ?_
  rotate_left
  · (intro W; go_simp; try with_reducible rfl)
  try simp only [Act.put, List.setIfInBounds_toArray, List.set_cons_zero, List.set_cons_succ]
  refine Rt.takeW 7 (v := ?_) rfl (by kernel_rfl) (fun _ _ _ h => h) rfl ?_ ?_
  rotate_left
  · (intro W; go_simp; try with_reducible rfl)
  try simp only [Act.put, List.setIfInBounds_toArray, List.set_cons_zero, List.set_cons_succ]
  refine Rt.takeW 8 (v := ?_) rfl (by kernel_rfl) (fun _ _ _ h => h) rfl ?_ ?_
  rotate_left
  · (intro W; go_simp; try with_reducible rfl)
  try simp only [Act.put, List.setIfInBounds_toArray, List.set_cons_zero, List.set_cons_succ]
  refine Rt.takeW 9 (v := ?_) rfl (by kernel_rfl) (fun _ _ _ h => h) rfl ?_ ?_
  rotate_left
  · (intro W; go_simp; try with_reducible rfl)
  try simp only [Act.put, List.setIfInBounds_toArray, List.set_cons_zero, List.set_cons_succ]
  refine Rt.done (by kernel_rfl) ?_
  refine NoPanic.normal ?_
  have HX6 := Lib.hid (((Ext.refl w5).drew).trans hx6)
  have hWk : Wk (w.heap.size + 4) w6 g th o a0 := ⟨x0, y0, x1, y1, HB4.out.ext HX6.out, GrS.of_old HGr.out (HE.out.trans HX6.out) (Nat.le_refl _)⟩
  have HAct := Lib.hid (write_any (w.heap.size + 4) g th o w6 hWk hth hr hp)
  replace k0 := HX6.out.cell k0
  replace k1 := HX6.out.cell k1
  clear hx6 hbC hFM hlook hWk
  try simp only [Option.map_some, Option.getD_some, Option.isSome_some, if_true]
  go_wp2_with fail
  with_reducible refine HAct.out.mono ?_
  rintro r w7 ⟨rfl, hd⟩
  have hpw := done_out hd
  rw [HRA.out.1, HRA.out.2] at hpw
  obtain ⟨na, nc, sa, sc, e0, e1, e11, e12, e13, hR2, hR3, hE7, hG7⟩ := HEnd.out w6 w7 HX6.out hpw
  have hS0 : w7.drew.cell? ⟨w.heap.size + 4, 0, none⟩ = some (.slice na gr.1.length nc) ∧ w7.drew.cell? ⟨w.heap.size + 4, 1, none⟩ = some (.slice sa gr.2.length sc) ∧ w7.drew.cell? ⟨w.heap.size + 4, 11, none⟩ = some (.int .i64 ar.1) ∧ w7.drew.cell? ⟨w.heap.size + 4, 12, none⟩ = some (.int .u64 ar.2.1) ∧ w7.drew.cell? ⟨w.heap.size + 4, 13, none⟩ = some (.bool ar.2.2) := ⟨e0, e1, e11, e12, e13⟩
  have z0 : w7.cell? ⟨w.heap.size + 2, 0, none⟩ = some (.slice none 0 0) := hR2.cell (i := 0) rfl
  have z1 : w7.cell? ⟨w.heap.size + 2, 1, none⟩ = some (.slice none 0 0) := hR2.cell (i := 1) rfl
  have z2 : w7.cell? ⟨w.heap.size + 3, 0, none⟩ = some (.int .i64 0) := hR3.cell (i := 0) rfl
  have z3 : w7.cell? ⟨w.heap.size + 3, 1, none⟩ = some (.int .u64 0) := hR3.cell (i := 1) rfl
  have z4 : w7.cell? ⟨w.heap.size + 3, 2, none⟩ = some (.bool false) := hR3.cell (i := 2) rfl
  have y0' := hR2.free 0
  have y1' := hR2.free 1
  have y2' := hR3.free 0
  have y3' := hR3.free 1
  have y4' := hR3.free 2
  have far : ∀ (o : Nat) (v : Value), w7.cell? ⟨w.heap.size + 4, o, none⟩ = some v → (((w7.setCell ⟨w.heap.size + 2, 0, none⟩ (.slice na gr.1.length nc)).setCell ⟨w.heap.size + 2, 1, none⟩ (.slice sa gr.2.length sc)).drew).cell? ⟨w.heap.size + 4, o, none⟩ = some v := fun o v h => far_set (far_set h (by simp) _) (by simp) _
  have hS8 := Lib.hid (And.intro (far _ _ e0) (And.intro (far _ _ e1) (And.intro (far _ _ e11) (And.intro (far _ _ e12) (far _ _ e13)))))
  have HR2 := Lib.hid hR2
  have HR3 := Lib.hid hR3
  have HE7 := Lib.hid hE7
  have HG7 := Lib.hid hG7
  clear hd hpw hR2 hR3 hE7 hG7 far
  go_wp2_with fail
  refine wp_region_noPanic ?_
  refine Rt.begin_ (fun W : World => W.cell? ⟨w.heap.size + 4, 0, none⟩ = some (.slice na gr.1.length nc) ∧ W.cell? ⟨w.heap.size + 4, 1, none⟩ = some (.slice sa gr.2.length sc) ∧ W.cell? ⟨w.heap.size + 4, 11, none⟩ = some (.int .i64 ar.1) ∧ W.cell? ⟨w.heap.size + 4, 12, none⟩ = some (.int .u64 ar.2.1) ∧ W.cell? ⟨w.heap.size + 4, 13, none⟩ = some (.bool ar.2.2)) (fun i => i == 9) (by kernel_rfl) ?_
  simp only [List.length_cons, List.length_nil, Nat.reduceAdd, Array.replicate_succ, Array.replicate_zero]
  refine Rt.takeW 0 (v := ?_) rfl (by kernel_rfl) (fun _ _ _ h => h) rfl ?_ ?_
  rotate_left
  · (intro W; go_simp; try with_reducible rfl)
  try simp only [Act.put, List.setIfInBounds_toArray, List.set_cons_zero, List.set_cons_succ]
  refine Rt.takeW 1 (v := ?_) rfl (by kernel_rfl) (fun _ _ _ h => h) rfl ?_ ?_
  rotate_left
  · (intro W; go_simp; try with_reducible rfl)
  try simp only [Act.put, List.setIfInBounds_toArray, List.set_cons_zero, List.set_cons_succ]
  refine Rt.takeW 2 (v := ?_) rfl (by kernel_rfl) (fun _ _ _ h => h) rfl ?_ ?_
  rotate_left
  · (intro W; go_simp; try with_reducible rfl)
  try simp only [Act.put, List.setIfInBounds_toArray, List.set_cons_zero, List.set_cons_succ]
  refine Rt.take 3 (v := ?_) rfl (by kernel_rfl) (fun _ _ _ h => h) rfl ?_ hS0 ?_
  rotate_left
  · (intro W hSW; (try dsimp only at hSW); go_simp; try with_reducible rfl)
  try simp only [Act.put, List.setIfInBounds_toArray, List.set_cons_zero, List.set_cons_succ]
  refine Rt.takeW 4 (v := ?_) rfl (by kernel_rfl) (fun _ _ _ h => h) rfl ?_ ?_
  rotate_left
  · (intro W; go_simp; try with_reducible rfl)
  try simp only [Act.put, List.setIfInBounds_toArray, List.set_cons_zero, List.set_cons_succ]
  refine Rt.takeW 5 (v := ?_) rfl (by kernel_rfl) (fun _ _ _ h => h) rfl ?_ ?_
  rotate_left
  · (intro W; go_simp; try with_reducible rfl)
  try simp only [Act.put, List.setIfInBounds_toArray, List.set_cons_zero, List.set_cons_succ]
  refine Rt.takeW 6 (v := ?_) rfl (by kernel_rfl) (fun _ _ _ h => h) rfl ?_ ?_
  rotate_left
  · (intro W; go_simp; try with_reducible rfl)
  try simp only [Act.put, List.setIfInBounds_toArray, List.set_cons_zero, List.set_cons_succ]
  refine Rt.take 7 (v := ?_) rfl (by kernel_rfl) (fun _ _ _ h => h) rfl ?_ hS0 ?_
  rotate_left
  · (intro W hSW; (try dsimp only at hSW); go_simp; try with_reducible rfl)
  try simp only [Act.put, List.setIfInBounds_toArray, List.set_cons_zero, List.set_cons_succ]
  refine Rt.step 8 rfl (by kernel_rfl) rfl (fun K hK => ?_)
  go_simp
  refine hK _ _ ⟨.inr fun _ => hS8.out, ?_⟩
  clear hK K
  try simp only [Act.put, List.setIfInBounds_toArray, List.set_cons_zero, List.set_cons_succ]
  refine Rt.step 9 rfl (by kernel_rfl) rfl (fun K hK => ?_)
  go_simp
  refine hK _ _ ⟨.inl rfl, ?_⟩
  clear hK K
  try simp only [Act.put, List.setIfInBounds_toArray, List.set_cons_zero, List.set_cons_succ]
  refine Rt.done (by kernel_rfl) ?_
  refine NoPanic.normal ?_
  obtain ⟨W8, hW8⟩ : ∃ W8, W8 = (((((w7.setCell ⟨w.heap.size + 1 + 1, 0, none⟩ (.slice na gr.1.length nc)).setCell ⟨w.heap.size + 1 + 1, 1, none⟩ (.slice sa gr.2.length sc)).setCell ⟨w.heap.size + 1 + 1 + 1, 0, none⟩ (.int .i64 ar.1)).setCell ⟨w.heap.size + 1 + 1 + 1, 1, none⟩ (.int .u64 ar.2.1)).setCell ⟨w.heap.size + 1 + 1 + 1, 2, none⟩ (.bool ar.2.2)).drew := ⟨_, rfl⟩
  rw [← hW8]
  have HFin := Lib.hid (final w w7 (.slice na gr.1.length nc) (.slice sa gr.2.length sc) gr ar HR2.out HR3.out HE7.out HG7.out W8 hW8)
  obtain ⟨q0, q1, q2, q3, q4, _⟩ := HFin.out
  clear hW8 hS8 hS0 HEnd HRA HAC HB4 HE HX6 HR2 HR3 HE7 HG7
  go_wp2_with fail
  exact bodyPost_ret (v := .tuple #[.agg #[.slice na gr.1.length nc, .slice sa gr.2.length sc], .agg #[.int .i64 ar.1, .int .u64 ar.2.1, .bool ar.2.2]]) (by simp [results, Try.results13, go_sem, q0, q1, q2, q3, q4]) rfl ⟨_, _, rfl, HFin.out.2.2.2.2.2.1, HFin.out.2.2.2.2.2.2⟩
end Go.Proofs.Ytjhmlbhfnogdiaa.Wf1
