/- The graph that goes on: a field is set. -/
import Derived.Test.YtjhmlbhfnogdiaaWp
namespace Go.Proofs.Ytjhmlbhfnogdiaa.Ws
open Go.RowKit
open Go.Proofs.Ytjhmlbhfnogdiaa Go.Proofs.Ytjhmlbhfnogdiaa.Hd Go.Proofs.Ytjhmlbhfnogdiaa.Gr Go.Proofs.Ytjhmlbhfnogdiaa.Hg Go.Proofs.Ytjhmlbhfnogdiaa.Ps Go.Proofs.Ytjhmlbhfnogdiaa.Rr Go.Proofs.Ytjhmlbhfnogdiaa.Wk Go.Proofs.Ytjhmlbhfnogdiaa.Wp
set_option linter.unusedVariables false

theorem own_form {w : World} {base : Nat} {e : TypeId} {s n : Nat} {v : Value} {cs : List Value} (h : w.ownsRow base e s v n cs) : ∃ a c, v = .slice a n c := by
  obtain ⟨_, ⟨rfl, rfl⟩ | ⟨g, cap, cur, rfl, _⟩⟩ := h
  · exact ⟨none, 0, rfl⟩
  · exact ⟨_, cap, rfl⟩

set_option maxHeartbeats 8000000 in
theorem set_any (B : Nat) (g : Gph) (th : Nat) (o : Opn) (a : Ans) (n : Nat) (v : Int) (i : Nat) (w : World) (hW : Wk B w g th o a) (hn : n < g.1.length) (hoi : o.i = (i : Int)) (hi : i < (node g n).2.length) :
    Calls Try.prog 58 #[.pointer (some ⟨B, 0, none⟩), .int .i64 n, .int .u64 v] w fun r w' => r = .returned (.tuple #[]) ∧ Pw B w (setG g n i v) th o a w' := by
  obtain ⟨na, nc, sa, sc, hb, hs⟩ := hW
  have c0 : w.cell? ⟨B, 0, none⟩ = some (.slice na g.1.length nc) := hb.cell (i := 0) rfl
  have c5 : w.cell? ⟨B, 5, none⟩ = some (.int .i64 o.i) := hb.cell (i := 5) rfl
  rw [hoi] at c5
  have hlt := hb.lt
  have nlen := hs.here.1.len
  have nsm := hs.here.1.small
  obtain ⟨b1, o1, s1, ua, uc, hix, e0, e1, e2, e3, hF⟩ := hs.1.at_ n hn
  replace e0 : w.cell? ⟨b1, o1, s1⟩ = some (.int .i64 (node g n).1.1) := e0
  replace e1 : w.cell? ⟨b1, o1 + 1, none⟩ = some (.int .i64 (node g n).1.2.1) := e1
  replace e2 : w.cell? ⟨b1, o1 + 2, none⟩ = some (.int .u64 (node g n).1.2.2) := e2
  obtain ⟨fl, hfl⟩ : ∃ fl, (node g n).2.length = fl := ⟨_, rfl⟩
  replace e3 : w.cell? ⟨b1, o1 + 3, none⟩ = some (.slice ua (node g n).2.length uc) := e3
  replace hF : St B w (fun W => Sl .u64 W (.slice ua (node g n).2.length uc) (node g n).2) := hF
  obtain ⟨fl', hfl'⟩ : ∃ fl', ((node g n).2.set i v).length = fl' := ⟨_, rfl⟩
  rw [hfl] at e3 hF
  obtain ⟨wX, hwX⟩ : ∃ wX, wX = w.alloc (.cells #[.int .i64 (node g n).1.1, .int .i64 (node g n).1.2.1, .int .u64 (node g n).1.2.2, .slice ua fl uc] 67) := ⟨_, rfl⟩
  have hxX : Ext w wX := hwX ▸ (Ext.refl w).alloc _
  have hbX : Blk wX w.heap.size #[.int .i64 (node g n).1.1, .int .i64 (node g n).1.2.1, .int .u64 (node g n).1.2.2, .slice ua fl uc] 67 := hwX ▸ Blk.new w _ _
  have HBX := Lib.hid hbX
  have hC1 := Wi.with_u (.slice ua fl uc) (node g n).2 i v wX.drew ((hF.here.ext hxX).ext ((Ext.refl wX).drew)) (by omega)
  rw [hfl'] at hC1
  have HC1 := Lib.hid hC1
  have d3 : wX.cell? ⟨w.heap.size, 3, none⟩ = some (.slice ua fl uc) := hbX.cell (i := 3) rfl
  have d5 := hxX.cell c5
  have hS0 : wX.drew.cell? ⟨w.heap.size, 3, none⟩ = some (.slice ua fl uc) ∧ wX.drew.cell? ⟨B, 5, none⟩ = some (.int .i64 i) := ⟨d3, d5⟩
  have HB := Lib.hid hb
  have HGS := Lib.hid hs
  have hXB : B < w.heap.size := hlt
  have hsX : w.heap.size < wX.heap.size := by rw [hwX]; simp
  have HF := Lib.hid hF
  clear hF hb hs hC1 hbX
  go_enter Try.func58, Try.ntmps58
  go_wp2_with fail
  rw [← hwX]
  clear hwX
  refine wp_region_noPanic ?_
  refine Rt.begin_ (fun W : World => W.cell? ⟨w.heap.size, 3, none⟩ = some (.slice ua fl uc) ∧ W.cell? ⟨B, 5, none⟩ = some (.int .i64 i)) (fun i => i == 8 || i == 10) (by kernel_rfl) ?_
  simp only [List.length_cons, List.length_nil, Nat.reduceAdd, Array.replicate_succ, Array.replicate_zero]
  refine Rt.takeW 0 (v := ?_) rfl (by kernel_rfl) (fun _ _ _ h => h) rfl ?_ ?_
  rotate_left
  · (intro W; go_simp; try with_reducible rfl)
  try simp only [Act.put, List.setIfInBounds_toArray, List.set_cons_zero, List.set_cons_succ]
  refine Rt.take 1 (v := ?_) rfl (by kernel_rfl) (fun _ _ _ h => h) rfl ?_ hS0 ?_
  rotate_left
  · (intro W hSW; (try dsimp only at hSW); go_simp; try with_reducible rfl)
  try simp only [Act.put, List.setIfInBounds_toArray, List.set_cons_zero, List.set_cons_succ]
  refine Rt.takeW 2 (v := ?_) rfl (by kernel_rfl) (fun _ _ _ h => h) rfl ?_ ?_
  rotate_left
  · (intro W; go_simp; try with_reducible rfl)
  try simp only [Act.put, List.setIfInBounds_toArray, List.set_cons_zero, List.set_cons_succ]
  refine Rt.takeW 3 (v := ?_) rfl (by kernel_rfl) (fun _ _ _ h => h) rfl ?_ ?_
  rotate_left
  · (intro W; go_simp; try with_reducible rfl)
  try simp only [Act.put, List.setIfInBounds_toArray, List.set_cons_zero, List.set_cons_succ]
  refine Rt.takeW 4 (v := ?_) rfl (by kernel_rfl) (fun _ _ _ h => h) rfl ?_ ?_
  rotate_left
  · (intro W; go_simp; try with_reducible rfl)
  try simp only [Act.put, List.setIfInBounds_toArray, List.set_cons_zero, List.set_cons_succ]
  refine Rt.takeW 5 (v := ?_) rfl (by kernel_rfl) (fun _ _ _ h => h) rfl ?_ ?_
  rotate_left
  · (intro W; go_simp; try with_reducible rfl)
  try simp only [Act.put, List.setIfInBounds_toArray, List.set_cons_zero, List.set_cons_succ]
  refine Rt.take 6 (v := ?_) rfl (by kernel_rfl) (fun _ _ _ h => h) rfl ?_ hS0 ?_
  rotate_left
  · (intro W hSW; (try dsimp only at hSW); go_simp; try with_reducible rfl)
  try simp only [Act.put, List.setIfInBounds_toArray, List.set_cons_zero, List.set_cons_succ]
  refine Rt.takeW 7 (v := ?_) rfl (by kernel_rfl) (fun _ _ _ h => h) rfl ?_ ?_
  rotate_left
  · (intro W; go_simp; try with_reducible rfl)
  try simp only [Act.put, List.setIfInBounds_toArray, List.set_cons_zero, List.set_cons_succ]
  refine Rt.step 8 rfl (by kernel_rfl) rfl (fun K hK => ?_)
  go_simp
  refine HC1.out.mono ?_; rintro e w3 ⟨v', rfl, hown, hx3⟩
  obtain ⟨va, vc, hvf⟩ := own_form hown
  subst hvf
  have k3 : w3.cell? ⟨w.heap.size, 3, none⟩ = some (.slice ua fl uc) := (HBX.out.ext ((Ext.refl _).drew.trans hx3)).cell (i := 3) rfl
  have f3 := (HBX.out.ext ((Ext.refl _).drew.trans hx3)).free 3
  refine hK _ _ ⟨.inl rfl, ?_⟩
  clear hK K
  try simp only [Act.put, List.setIfInBounds_toArray, List.set_cons_zero, List.set_cons_succ]
  refine Rt.takeW 9 (v := ?_) rfl (by kernel_rfl) (fun _ _ _ h => h) rfl ?_ ?_
  rotate_left
  · (intro W; go_simp; try with_reducible rfl)
  try simp only [Act.put, List.setIfInBounds_toArray, List.set_cons_zero, List.set_cons_succ]
  refine Rt.step 10 rfl (by kernel_rfl) rfl (fun K hK => ?_)
  go_simp
  refine hK _ _ ⟨.inl rfl, ?_⟩
  clear hK K
  try simp only [Act.put, List.setIfInBounds_toArray, List.set_cons_zero, List.set_cons_succ]
  refine Rt.done (by kernel_rfl) ?_
  refine NoPanic.normal ?_
  have hx4 : Ext w (w3.setCell ⟨w.heap.size, 3, none⟩ (.slice va fl' vc)) := ((hxX.trans ((Ext.refl wX).drew)).trans hx3).setCell (p := ⟨w.heap.size, 3, none⟩) (Nat.le_refl _) _
  have hown4 : (w3.setCell ⟨w.heap.size, 3, none⟩ (.slice va fl' vc)).ownsRow wX.drew.heap.size 26 1 (.slice va fl' vc) fl' (((node g n).2.set i v).map (Value.int .u64)) := hown.kept (grown_set _ _ _ _) (by
    cases hv : (Value.slice va fl' vc).ownBlock with
    | none => exact .inl rfl
    | some z =>
      right
      have h1 := (hown.lt z hv).1
      have h2 : wX.drew.heap.size = wX.heap.size := rfl
      intro e; cases e; omega)
  have hb4 : Blk (w3.setCell ⟨w.heap.size, 3, none⟩ (.slice va fl' vc)) w.heap.size #[.int .i64 (node g n).1.1, .int .i64 (node g n).1.2.1, .int .u64 (node g n).1.2.2, .slice va fl' vc] 67 := (HBX.out.ext ((Ext.refl _).drew.trans hx3)).set 3 _
  obtain ⟨w4, hw4⟩ : ∃ w4, w4 = w3.setCell ⟨w.heap.size, 3, none⟩ (.slice va fl' vc) := ⟨_, rfl⟩
  rw [← hw4] at hx4 hown4 hb4
  go_wp2_with fail
  rw [← hw4]
  clear hw4 hown hx3 k3 f3
  have hbig : fl' * 8 ≤ 140737488355328 := by
    have h1 := HF.out.here.2.1
    have h2 : fl' = fl := by rw [← hfl', ← hfl]; simp
    rw [hfl] at h1
    rw [h2]; exact h1
  have hSt4 : St B w4 (fun W => Sl .u64 W (.slice va fl' vc) ((node g n).2.set i v)) := (St.of_own (B := B) (b := 8) hown4 (by have h2 : wX.drew.heap.size = wX.heap.size := rfl; omega) hbig (by omega)).imp fun W hW => Sl.of_row hW rfl
  have hB4 := HB.out.ext hx4
  have HB4 := Lib.hid hB4
  have HC2 := Lib.hid (with_node B (.slice na g.1.length nc) (node g n).1 va fl' vc g.1 n ((node g n).2.set i v) w4.drew (Blk.ext hB4 ((Ext.refl w4).drew)).lt (HGS.out.1.step (grown_of_ext (hx4.trans ((Ext.refl w4).drew)) _)) (hSt4.ext ((Ext.refl w4).drew)) hn)
  have q0 : w4.cell? ⟨w.heap.size, 0, none⟩ = some (.int .i64 (node g n).1.1) := hb4.cell (i := 0) rfl
  have q1 : w4.cell? ⟨w.heap.size, 1, none⟩ = some (.int .i64 (node g n).1.2.1) := hb4.cell (i := 1) rfl
  have q2 : w4.cell? ⟨w.heap.size, 2, none⟩ = some (.int .u64 (node g n).1.2.2) := hb4.cell (i := 2) rfl
  have q3 : w4.cell? ⟨w.heap.size, 3, none⟩ = some (.slice va fl' vc) := hb4.cell (i := 3) rfl
  have qB : w4.cell? ⟨B, 0, none⟩ = some (.slice na g.1.length nc) := hB4.cell (i := 0) rfl
  have hS4 : w4.drew.cell? ⟨B, 0, none⟩ = some (.slice na g.1.length nc) ∧ w4.drew.cell? ⟨w.heap.size, 0, none⟩ = some (.int .i64 (node g n).1.1) ∧ w4.drew.cell? ⟨w.heap.size, 1, none⟩ = some (.int .i64 (node g n).1.2.1) ∧ w4.drew.cell? ⟨w.heap.size, 2, none⟩ = some (.int .u64 (node g n).1.2.2) ∧ w4.drew.cell? ⟨w.heap.size, 3, none⟩ = some (.slice va fl' vc) := ⟨qB, q0, q1, q2, q3⟩
  have HFin : Hid (∀ w5 a5 c5, Ext w4.drew w5 → NoS B w5 (.slice a5 g.1.length c5) (g.1.set n ((node g n).1, (node g n).2.set i v)) → Pw B w (setG g n i v) th o a (w5.setCell ⟨B, 0, none⟩ (.slice a5 g.1.length c5))) := fun w5 a5 c5 hx5 hN => by
    have hx : Ext w w5 := hx4.trans ((Ext.refl w4).drew.trans hx5)
    have hb5 := HB.out.ext hx
    have e : (setG g n i v).1.length = g.1.length := by simp [setG]
    refine ⟨⟨a5, c5, sa, sc, ?_, ?_, ?_⟩, (grown_of_ext hx _).trans (grown_set _ _ _ _)⟩
    · rw [e]; exact hb5.set 0 _
    · rw [e]; exact hN.step (grown_set _ _ _ _)
    · exact (HGS.out.2.step (grown_of_ext hx _)).step (grown_set _ _ _ _)
  clear hSt4 hB4 hb4 hown4 hbig
  refine wp_region_noPanic ?_
  refine Rt.begin_ (fun W : World => W.cell? ⟨B, 0, none⟩ = some (.slice na g.1.length nc) ∧ W.cell? ⟨w.heap.size, 0, none⟩ = some (.int .i64 (node g n).1.1) ∧ W.cell? ⟨w.heap.size, 1, none⟩ = some (.int .i64 (node g n).1.2.1) ∧ W.cell? ⟨w.heap.size, 2, none⟩ = some (.int .u64 (node g n).1.2.2) ∧ W.cell? ⟨w.heap.size, 3, none⟩ = some (.slice va fl' vc)) (fun i => i == 8 || i == 12) (by kernel_rfl) ?_
  simp only [List.length_cons, List.length_nil, Nat.reduceAdd, Array.replicate_succ, Array.replicate_zero]
  refine Rt.takeW 0 (v := ?_) rfl (by kernel_rfl) (fun _ _ _ h => h) rfl ?_ ?_
  rotate_left
  · (intro W; go_simp; try with_reducible rfl)
  try simp only [Act.put, List.setIfInBounds_toArray, List.set_cons_zero, List.set_cons_succ]
  refine Rt.takeW 1 (v := ?_) rfl (by kernel_rfl) (fun _ _ _ h => h) rfl ?_ ?_
  rotate_left
  · (intro W; go_simp; try with_reducible rfl)
  try simp only [Act.put, List.setIfInBounds_toArray, List.set_cons_zero, List.set_cons_succ]
  refine Rt.takeW 2 (v := ?_) rfl (by kernel_rfl) (fun _ _ _ h => h) rfl ?_ ?_
  rotate_left
  · (intro W; go_simp; try with_reducible rfl)
  try simp only [Act.put, List.setIfInBounds_toArray, List.set_cons_zero, List.set_cons_succ]
  refine Rt.takeW 3 (v := ?_) rfl (by kernel_rfl) (fun _ _ _ h => h) rfl ?_ ?_
  rotate_left
  · (intro W; go_simp; try with_reducible rfl)
  try simp only [Act.put, List.setIfInBounds_toArray, List.set_cons_zero, List.set_cons_succ]
  refine Rt.takeW 4 (v := ?_) rfl (by kernel_rfl) (fun _ _ _ h => h) rfl ?_ ?_
  rotate_left
  · (intro W; go_simp; try with_reducible rfl)
  try simp only [Act.put, List.setIfInBounds_toArray, List.set_cons_zero, List.set_cons_succ]
  refine Rt.take 5 (v := ?_) rfl (by kernel_rfl) (fun _ _ _ h => h) rfl ?_ hS4 ?_
  rotate_left
  · (intro W hSW; (try dsimp only at hSW); go_simp; try with_reducible rfl)
  try simp only [Act.put, List.setIfInBounds_toArray, List.set_cons_zero, List.set_cons_succ]
  refine Rt.takeW 6 (v := ?_) rfl (by kernel_rfl) (fun _ _ _ h => h) rfl ?_ ?_
  rotate_left
  · (intro W; go_simp; try with_reducible rfl)
  try simp only [Act.put, List.setIfInBounds_toArray, List.set_cons_zero, List.set_cons_succ]
  refine Rt.take 7 (v := ?_) rfl (by kernel_rfl) (fun _ _ _ h => h) rfl ?_ hS4 ?_
  rotate_left
  · (intro W hSW; (try dsimp only at hSW); go_simp; try with_reducible rfl)
  try simp only [Act.put, List.setIfInBounds_toArray, List.set_cons_zero, List.set_cons_succ]
  refine Rt.step 8 rfl (by kernel_rfl) rfl (fun K hK => ?_)
  go_simp
  refine HC2.out.mono ?_; rintro e w5 ⟨a5, c5', rfl, hN5, hx5⟩
  have k5 : w5.cell? ⟨B, 0, none⟩ = some (.slice na g.1.length nc) := (HB4.out.ext ((Ext.refl _).drew.trans hx5)).cell (i := 0) rfl
  have f5 := (HB4.out.ext ((Ext.refl _).drew.trans hx5)).free 0
  refine hK _ _ ⟨.inl rfl, ?_⟩
  clear hK K
  try simp only [Act.put, List.setIfInBounds_toArray, List.set_cons_zero, List.set_cons_succ]
  refine Rt.takeW 9 (v := ?_) rfl (by kernel_rfl) (fun _ _ _ h => h) rfl ?_ ?_
  rotate_left
  · (intro W; go_simp; try with_reducible rfl)
  try simp only [Act.put, List.setIfInBounds_toArray, List.set_cons_zero, List.set_cons_succ]
  refine Rt.takeW 10 (v := ?_) rfl (by kernel_rfl) (fun _ _ _ h => h) rfl ?_ ?_
  rotate_left
  · (intro W; go_simp; try with_reducible rfl)
  try simp only [Act.put, List.setIfInBounds_toArray, List.set_cons_zero, List.set_cons_succ]
  refine Rt.takeW 11 (v := ?_) rfl (by kernel_rfl) (fun _ _ _ h => h) rfl ?_ ?_
  rotate_left
  · (intro W; go_simp; try with_reducible rfl)
  try simp only [Act.put, List.setIfInBounds_toArray, List.set_cons_zero, List.set_cons_succ]
  refine Rt.step 12 rfl (by kernel_rfl) rfl (fun K hK => ?_)
  go_simp
  refine hK _ _ ⟨.inl rfl, ?_⟩
  clear hK K
  try simp only [Act.put, List.setIfInBounds_toArray, List.set_cons_zero, List.set_cons_succ]
  refine Rt.done (by kernel_rfl) ?_
  refine NoPanic.normal ?_
  have HP := Lib.hid (HFin.out _ _ _ hx5 hN5)
  clear hx5 hN5 k5 f5
  go_wp2_with fail
  (first | go_end0 | ((try simp only [Exit.inBlock, Exit.then]); refine bodyPost_ret (results_none rfl _ _ _) rfl ?_))
  exact ⟨rfl, HP.out⟩
end Go.Proofs.Ytjhmlbhfnogdiaa.Ws
