/- The graph that goes on, in memory: a row of handles or a node is another; a handle is pushed; a field is set. -/
import Derived.Test.YtjhmlbhfnogdiaaWk
import Derived.Test.YtjhmlbhfnogdiaaRt
namespace Go.Proofs.Ytjhmlbhfnogdiaa.Wp
open Go.RowKit
open Go.Proofs.Ytjhmlbhfnogdiaa Go.Proofs.Ytjhmlbhfnogdiaa.Hd Go.Proofs.Ytjhmlbhfnogdiaa.Gr Go.Proofs.Ytjhmlbhfnogdiaa.Hg Go.Proofs.Ytjhmlbhfnogdiaa.Ps Go.Proofs.Ytjhmlbhfnogdiaa.Rr Go.Proofs.Ytjhmlbhfnogdiaa.Wk
set_option linter.unusedVariables false

theorem with_row (B : Nat) (v : Value) (ua : Option Addr) (ul uc : Nat) (rows : List (List Int)) (th : Nat) (r : List Int) (w : World) (hB : B < w.heap.size) (h : MaS B w v rows) (hu : St B w (fun W => Sl .i64 W (.slice ua ul uc) r)) (hth : th < rows.length) :
    Calls Try.prog 63 #[v, .int .i64 th, .slice ua ul uc] w fun e w' => ∃ a c, e = .returned (.slice a rows.length c) ∧ MaS B w' (.slice a rows.length c) (rows.set th r) ∧ Ext w w' := by
  obtain ⟨vs, hl, hr, h1, hs⟩ := h
  have hb := hr.here.2.1
  refine (Wi.with_s v _ vs th w hr.here h1 (by omega) ua ul uc rfl).mono ?_
  rintro e w' ⟨v', rfl, hown, hx⟩
  have hlen : (vs.set th (.slice ua ul uc)).length = rows.length := by simp [hl]
  have hS := St.of_own (B := B) hown hB (by rw [hlen, ← hl]; exact hb) (by rw [hlen, ← hl]; omega)
  obtain ⟨a, c, hf⟩ := Row.form hS.here
  rw [hlen] at hf
  subst hf
  exact ⟨a, c, rfl, MaS.set hl h1 (fun i u r hi hr' => (hs i u r hi hr').ext hx) rfl (hu.ext hx) hS, hx⟩

theorem with_node (B : Nat) (v : Value) (x : Hd) (ua : Option Addr) (ul uc : Nat) (ns : List Nd) (n : Nat) (f : List Int) (w : World) (hB : B < w.heap.size) (h : NoS B w v ns) (hu : St B w (fun W => Sl .u64 W (.slice ua ul uc) f)) (hn : n < ns.length) :
    Calls Try.prog 76 #[v, .int .i64 n, .agg #[.int .i64 x.1, .int .i64 x.2.1, .int .u64 x.2.2, .slice ua ul uc]] w fun e w' => ∃ a c, e = .returned (.slice a ns.length c) ∧ NoS B w' (.slice a ns.length c) (ns.set n (x, f)) ∧ Ext w w' := by
  obtain ⟨ps, hl, hr, hs⟩ := h
  have hb := hr.here.2.1
  have h1 : ∀ p ∈ ps, p.2.oneCell' = true := fun p hp => by
    obtain ⟨i, hi, rfl⟩ := List.mem_iff_getElem.1 hp
    exact sl_one (hs i ps[i] ns[i] (by simp [hi]) (by simp)).2.here
  refine (Wi.with_n v ps n x ua ul uc w hr.here h1 (by omega)).mono ?_
  rintro e w' ⟨v', rfl, hown, hx⟩
  have hlen : (ps.set n (x, .slice ua ul uc)).length = ps.length := by simp
  rw [← hlen] at hown
  have hS := St.of_own (B := B) hown hB (by rw [hlen]; exact hb) (by rw [hlen]; omega)
  obtain ⟨a, c, hf⟩ := Row.form hS.here
  rw [hlen, hl] at hf
  subst hf
  exact ⟨a, c, rfl, NoS.set hl (fun i p n hp hn => ⟨(hs i p n hp hn).1, (hs i p n hp hn).2.ext hx⟩) (hu.ext hx) hS, hx⟩

/-- A region's condition: of block B the cell at o alone may be another. -/
def Rs (B o : Nat) (w : World) (cs : Array Value) (W : World) : Prop := w.grownBy W (some B) ∧ ∃ cs' : Array Value, Blk W B cs' 61 ∧ ∀ i, i ≠ o → cs'[i]? = cs[i]?
section
variable {B o : Nat} {w W W' : World} {cs : Array Value}
theorem Rs.here (h : Blk w B cs 61) (o : Nat) : Rs B o w cs w := ⟨grown_refl _ _, cs, h, fun _ _ => rfl⟩
theorem Rs.ext (h : Rs B o w cs W) (he : Ext W W') : Rs B o w cs W' := ⟨h.1.trans (grown_of_ext he _), h.2.imp fun x hx => ⟨hx.1.ext he, hx.2⟩⟩
theorem Rs.set (h : Rs B o w cs W) (y : Value) : Rs B o w cs (W.setCell ⟨B, o, none⟩ y) := ⟨h.1.trans (grown_set _ _ _ _), by
  obtain ⟨x, hx, hi⟩ := h.2
  exact ⟨_, hx.set o y, fun i h => by rw [Array.getElem?_setIfInBounds_ne (Ne.symm h)]; exact hi i h⟩⟩
theorem Rs.cell (h : Rs B o w cs W) {i : Nat} {v : Value} (hi : i ≠ o) (hv : cs[i]? = some v) : W.cell? ⟨B, i, none⟩ = some v := by
  obtain ⟨x, hx, h'⟩ := h.2
  exact hx.cell (by rw [h' i hi]; exact hv)
end

/-- At a step of a region that draws its order: an append whose run is known. -/
theorem step_append_run {P : Program} {w : World} {ops : Array Oper} {o : Oper} {a : Act} {K : Act → World → Prop} {Q : Exit → Act → World → Prop} {X : Prop} (hgd : o.guard = none) (s x : Operand) (t : TypeId)
    (ho : o.op = .call { callee := .builtin .append, args := #[s, x], argTypes := #[t, t] }) (vs vx : Value) (hs : a.eval s = vs) (hx : a.eval x = vx) (v' : Value) (w' : World) (hr : (Builtin.append_ #[t, t] o.type #[vs, vx]).run P w = .ok v' w') (h : K (a.put o.dst v') w') :
    if Region.wanted o (yielded ops a.tmps) = true then Oper.wp P o a w K Q else X := by
  rw [if_pos (by simp [Region.wanted, hgd])]
  exact Lib.wp_append_run w s x t t ho vs vx hs hx v' w' hr h

theorem one_i (w : World) (x : Int) : Row (w.alloc (.cells #[.int .i64 x] 3)) 1 8 (.slice (some ⟨w.heap.size, 0, none⟩) 1 1) 1 [.int .i64 x] := ⟨rfl, by omega, by omega, .inr ⟨_, 1, rfl, Nat.le_refl _, by unfold maxLen; omega, cell_one_new _ _ _⟩⟩

def pushG (g : Gph) (th : Nat) (h : Int) : Gph := (g.1, g.2.set th (rowOf g th ++ [h]))
def setG (g : Gph) (n : Nat) (i : Nat) (v : Int) : Gph := (g.1.set n ((node g n).1, (node g n).2.set i v), g.2)

/-- 'append(row[:len(row):len(row)], h)'. -/
theorem appended {B : Nat} {w W : World} {v : Value} {xs : List Int} (h : St B w (fun W => Sl .i64 W v xs)) (hE : Ext w W) (hB : B < w.heap.size) (x : Int) (hl : xs.length < 16) :
    ∃ u v' w', (∀ w', (Instr.sliceAt 42 v none (some (.int .i64 (xs.length : Nat))) (some (.int .i64 (xs.length : Nat)))).run Try.prog w' = .ok u w') ∧
      (Builtin.append_ #[42, 42] 42 #[u, .slice (some ⟨W.heap.size, 0, none⟩) 1 1]).run Try.prog (W.alloc (.cells #[.int .i64 x] 3)).drew = .ok v' w' ∧
      Ext w w' ∧ (∃ a c, v' = .slice a (xs ++ [x]).length c) ∧ St B w' (fun W => Sl .i64 W v' (xs ++ [x])) := by
  obtain ⟨i0, hi, hz0, hz1, hz2⟩ := info_i
  obtain ⟨u, hu, hr, hf⟩ := Row.slice3 uI szI h.here (k := xs.length) (Nat.le_refl _)
  rw [Nat.mul_one, List.take_of_length_le (by simp)] at hr
  have hE2 : Ext w (W.alloc (.cells #[.int .i64 x] 3)).drew := (hE.alloc _).drew
  obtain ⟨v', w', hrun, hrow, hext, hown⟩ := append_full (ty := 42) uI hi hz0 hz1 hz2 rfl (by decide) (hr.ext hE2) hf ((one_i W x).ext ((Ext.refl _).drew)) (by simp [Value.oneCell']) (by omega) (by decide)
  have ho := hown (by omega)
  have hlen : (xs ++ [x]).length = xs.length + 1 := by simp
  have hS := St.of_own (B := B) (b := 8) ho (Nat.lt_of_lt_of_le hB hE2.size) (by omega) (by omega)
  obtain ⟨a, c, hfm⟩ := Row.form hrow
  refine ⟨u, v', w', hu, hrun, hE2.trans hext, ⟨a, c, by rw [hlen]; exact hfm⟩, hS.imp fun W' hW => Sl.of_row hW (by simp)⟩

set_option maxHeartbeats 8000000 in
theorem push_any (B : Nat) (g : Gph) (th : Nat) (o : Opn) (a : Ans) (x : Int) (w : World) (hW : Wk B w g th o a) (hth : th < g.2.length) :
    Calls Try.prog 54 #[.pointer (some ⟨B, 0, none⟩), .int .i64 x] w fun r w' => r = .returned (.tuple #[]) ∧
      (((rowOf g th).length < 16 ∧ Pw B w (pushG g th x) th o a w') ∨ (16 ≤ (rowOf g th).length ∧ Pw B w g th o (4, 0, false) w')) := by
  have HW := Lib.hid hW
  obtain ⟨na, nc, sa, sc, hb, hs⟩ := hW
  have c1 : w.cell? ⟨B, 1, none⟩ = some (.slice sa g.2.length sc) := hb.cell (i := 1) rfl
  have c2 : w.cell? ⟨B, 2, none⟩ = some (.int .i64 th) := hb.cell (i := 2) rfl
  have f1 := hb.free 1
  have mlen := hs.here.2.len uS
  have msm := hs.here.2.small
  have hlt := hb.lt
  obtain ⟨p, ua, uc, hp, hpc, hS⟩ := hs.2.at_ th hth
  have hS : St B w (fun W => Sl .i64 W (.slice ua (rowOf g th).length uc) (rowOf g th)) := hS
  replace hpc : w.cell? p = some (.slice ua (rowOf g th).length uc) := hpc
  have husm := hS.here.small
  by_cases hfull : (rowOf g th).length < 16
  · have d1 : decide ((16 : Int) ≤ ((rowOf g th).length : Int)) = false := decide_eq_false (by omega)
    have HS := Lib.hid hS
    have HB := Lib.hid hb
    have HGS := Lib.hid hs
    have HFU := Lib.hid hfull
    have HTH := Lib.hid hth
    obtain ⟨rl, hrl⟩ : ∃ rl, (rowOf g th).length = rl := ⟨_, rfl⟩
    have HRL := Lib.hid hrl
    rw [hrl] at hpc d1 husm
    clear hb hs hS hfull hrl
    go_enter Try.func54, Try.ntmps54
    go_wp2_with fail
    go_quiet (fail)
    go_wp2_with fail
    obtain ⟨wq, hwq⟩ : ∃ wq, wq = w.drewN nq := ⟨_, rfl⟩
    have hxq : Ext w wq := hwq ▸ (Ext.refl w).drewN _
    rw [← hwq]
    clear hwq
    have hbq := HB.out.ext hxq
    have hSq := HS.out.ext hxq
    have hGq := HGS.out.ext hxq
    replace c1 := hxq.cell c1
    replace c2 := hxq.cell c2
    replace hpc := hxq.cell hpc
    obtain ⟨u, v', w2, hsl, hrun, hx2, ⟨va, vc, rfl⟩, hS2⟩ := appended hSq (Ext.refl wq) hbq.lt x HFU.out
    rw [HRL.out] at hSq hsl
    have hlen2 : (rowOf g th ++ [x]).length = rl + 1 := by simp [HRL.out]
    rw [hlen2] at hrun hS2
    have hb2 := hbq.ext hx2
    have HCall := Lib.hid (with_row B (.slice sa g.2.length sc) va (rl + 1) vc g.2 th (rowOf g th ++ [x]) w2 hb2.lt (hGq.2.step (grown_of_ext hx2 _)) hS2 HTH.out)
    have k1 : w2.cell? ⟨B, 1, none⟩ = some (.slice sa g.2.length sc) := hb2.cell (i := 1) rfl
    have HK : Hid (∀ W, Ext wq W → W.cell? ⟨B, 1, none⟩ = some (.slice sa g.2.length sc) ∧ W.cell? ⟨B, 2, none⟩ = some (.int .i64 th)) := fun W h => ⟨h.cell c1, h.cell c2⟩
    have hS0 := HK.out _ ((Ext.refl wq).drew)
    have hS1 := Lib.hid (HK.out _ (((Ext.refl wq).alloc (.cells #[.int .i64 x] 3)).drew))
    have hS2' := Lib.hid (HK.out _ hx2)
    have HFin : Hid (∀ w3 a3 c3, Ext w2 w3 → MaS B w3 (.slice a3 g.2.length c3) (g.2.set th (rowOf g th ++ [x])) → Pw B w (pushG g th x) th o a (w3.setCell ⟨B, 1, none⟩ (.slice a3 g.2.length c3))) := fun w3 a3 c3 hx3 hM => by
      have hb3 := hb2.ext hx3
      have hg3 : w.grownBy (w3.setCell ⟨B, 1, none⟩ (.slice a3 g.2.length c3)) (some B) := (grown_of_ext (hxq.trans (hx2.trans hx3)) _).trans (grown_set _ _ _ _)
      refine ⟨⟨na, nc, a3, c3, ?_, ((hGq.1.step (grown_of_ext (hx2.trans hx3) _)).step (grown_set _ _ _ _)), ?_⟩, hg3⟩
      · have e : (pushG g th x).2.length = g.2.length := by simp [pushG]
        rw [e]
        exact hb3.set 1 _
      · have e : (pushG g th x).2.length = g.2.length := by simp [pushG]
        rw [e]
        exact hM.step (grown_set _ _ _ _)
    have HB2 := Lib.hid hb2
    have HX2 := Lib.hid hx2
    clear hbq hSq hGq hS2 hb2 hlen2
    refine wp_region_noPanic ?_
    refine Rt.begin_ (fun W : World => W.cell? ⟨B, 1, none⟩ = some (.slice sa g.2.length sc) ∧ W.cell? ⟨B, 2, none⟩ = some (.int .i64 th)) (fun i => i == 19 || i == 23) (by kernel_rfl) ?_
    simp only [List.length_cons, List.length_nil, Nat.reduceAdd, Array.replicate_succ, Array.replicate_zero]
    refine Rt.takeW 0 (v := ?_) rfl (by kernel_rfl) (fun _ _ _ h => h) rfl ?_ ?_
    rotate_left
    · (intro W; go_simp; try with_reducible rfl)
    try simp only [Act.put, List.setIfInBounds_toArray, List.set_cons_zero, List.set_cons_succ]
    refine Rt.takeW 1 (v := ?_) rfl (by kernel_rfl) (fun _ _ _ h => h) rfl ?_ ?_
    rotate_left
    · (intro W; go_simp; try with_reducible rfl)
    try simp only [Act.put, List.setIfInBounds_toArray, List.set_cons_zero, List.set_cons_succ]
    refine Rt.takeW 2 (v := ?_) rfl (by kernel_rfl) (fun _ _ _ h => h) rfl ?_ ?_
    rotate_left
    · (intro W; go_simp; try with_reducible rfl)
    try simp only [Act.put, List.setIfInBounds_toArray, List.set_cons_zero, List.set_cons_succ]
    refine Rt.takeW 3 (v := ?_) rfl (by kernel_rfl) (fun _ _ _ h => h) rfl ?_ ?_
    rotate_left
    · (intro W; go_simp; try with_reducible rfl)
    try simp only [Act.put, List.setIfInBounds_toArray, List.set_cons_zero, List.set_cons_succ]
    refine Rt.takeW 4 (v := ?_) rfl (by kernel_rfl) (fun _ _ _ h => h) rfl ?_ ?_
    rotate_left
    · (intro W; go_simp; try with_reducible rfl)
    try simp only [Act.put, List.setIfInBounds_toArray, List.set_cons_zero, List.set_cons_succ]
    refine Rt.take 5 (v := ?_) rfl (by kernel_rfl) (fun _ _ _ h => h) rfl ?_ hS0 ?_
    rotate_left
    · (intro W hSW; (try dsimp only at hSW); go_simp; try with_reducible rfl)
    try simp only [Act.put, List.setIfInBounds_toArray, List.set_cons_zero, List.set_cons_succ]
    refine Rt.takeW 6 (v := ?_) rfl (by kernel_rfl) (fun _ _ _ h => h) rfl ?_ ?_
    rotate_left
    · (intro W; go_simp; try with_reducible rfl)
    try simp only [Act.put, List.setIfInBounds_toArray, List.set_cons_zero, List.set_cons_succ]
    refine Rt.takeW 7 (v := ?_) rfl (by kernel_rfl) (fun _ _ _ h => h) rfl ?_ ?_
    rotate_left
    · (intro W; go_simp; try with_reducible rfl)
    try simp only [Act.put, List.setIfInBounds_toArray, List.set_cons_zero, List.set_cons_succ]
    refine Rt.takeW 8 (v := ?_) rfl (by kernel_rfl) (fun _ _ _ h => h) rfl ?_ ?_
    rotate_left
    · (intro W; go_simp; try with_reducible rfl)
    try simp only [Act.put, List.setIfInBounds_toArray, List.set_cons_zero, List.set_cons_succ]
    refine Rt.take 9 (v := ?_) rfl (by kernel_rfl) (fun _ _ _ h => h) rfl ?_ hS0 ?_
    rotate_left
    · (intro W hSW; (try dsimp only at hSW); go_simp; try with_reducible rfl)
    try simp only [Act.put, List.setIfInBounds_toArray, List.set_cons_zero, List.set_cons_succ]
    refine Rt.takeW 10 (v := ?_) rfl (by kernel_rfl) (fun _ _ _ h => h) rfl ?_ ?_
    rotate_left
    · (intro W; go_simp; try with_reducible rfl)
    try simp only [Act.put, List.setIfInBounds_toArray, List.set_cons_zero, List.set_cons_succ]
    refine Rt.takeW 11 (v := ?_) rfl (by kernel_rfl) (fun _ _ _ h => h) rfl ?_ ?_
    rotate_left
    · (intro W; go_simp; try with_reducible rfl)
    try simp only [Act.put, List.setIfInBounds_toArray, List.set_cons_zero, List.set_cons_succ]
    refine Rt.takeW 12 (v := ?_) rfl (by kernel_rfl) (fun _ _ _ h => h) rfl ?_ ?_
    rotate_left
    · (intro W; go_simp; try with_reducible rfl)
    try simp only [Act.put, List.setIfInBounds_toArray, List.set_cons_zero, List.set_cons_succ]
    refine Rt.takeW 13 (v := ?_) rfl (by kernel_rfl) (fun _ _ _ h => h) rfl ?_ ?_
    rotate_left
    · (intro W; go_simp; try with_reducible rfl)
    try simp only [Act.put, List.setIfInBounds_toArray, List.set_cons_zero, List.set_cons_succ]
    refine Rt.takeW 14 (v := ?_) rfl (by kernel_rfl) (fun _ _ _ h => h) rfl ?_ ?_
    rotate_left
    · (intro W; go_simp; try with_reducible rfl)
    try simp only [Act.put, List.setIfInBounds_toArray, List.set_cons_zero, List.set_cons_succ]
    refine Rt.takeW 15 (v := ?_) rfl (by kernel_rfl) (fun _ _ _ h => h) rfl ?_ ?_
    rotate_left
    · (intro W; go_simp; try with_reducible rfl)
    try simp only [Act.put, List.setIfInBounds_toArray, List.set_cons_zero, List.set_cons_succ]
    refine Rt.takeW 16 (v := ?_) rfl (by kernel_rfl) (fun _ _ _ h => h) rfl ?_ ?_
    rotate_left
    · (intro W; go_simp; try with_reducible rfl)
    try simp only [Act.put, List.setIfInBounds_toArray, List.set_cons_zero, List.set_cons_succ]
    refine Rt.step 17 rfl (by kernel_rfl) rfl (fun K hK => ?_)
    go_simp
    refine hK _ _ ⟨.inr fun _ => hS1.out, ?_⟩
    clear hK K
    try simp only [Act.put, List.setIfInBounds_toArray, List.set_cons_zero, List.set_cons_succ]
    refine Rt.step 18 rfl (by kernel_rfl) rfl (fun K hK => ?_)
    with_reducible refine Lib.wp_append_run _ (.tmp 36) (.tmp 38) 42 42 ?_ _ _ ?_ ?_ _ _ hrun ?_
    rfl
    rfl
    rfl
    refine hK _ _ ⟨.inr fun _ => hS2'.out, ?_⟩
    clear hK K
    try simp only [Act.put, List.setIfInBounds_toArray, List.set_cons_zero, List.set_cons_succ]
    refine Rt.step 19 rfl (by kernel_rfl) rfl (fun K hK => ?_)
    go_simp
    refine HCall.out.mono ?_; rintro e w3 ⟨a3, c3, rfl, hM3, hx3⟩
    have k3 : w3.cell? ⟨B, 1, none⟩ = some (.slice sa g.2.length sc) := (HB2.out.ext hx3).cell (i := 1) rfl
    have f3 := (HB2.out.ext hx3).free 1
    refine hK _ _ ⟨.inl rfl, ?_⟩
    clear hK K
    try simp only [Act.put, List.setIfInBounds_toArray, List.set_cons_zero, List.set_cons_succ]
    refine Rt.takeW 20 (v := ?_) rfl (by kernel_rfl) (fun _ _ _ h => h) rfl ?_ ?_
    rotate_left
    · (intro W; go_simp; try with_reducible rfl)
    try simp only [Act.put, List.setIfInBounds_toArray, List.set_cons_zero, List.set_cons_succ]
    refine Rt.takeW 21 (v := ?_) rfl (by kernel_rfl) (fun _ _ _ h => h) rfl ?_ ?_
    rotate_left
    · (intro W; go_simp; try with_reducible rfl)
    try simp only [Act.put, List.setIfInBounds_toArray, List.set_cons_zero, List.set_cons_succ]
    refine Rt.takeW 22 (v := ?_) rfl (by kernel_rfl) (fun _ _ _ h => h) rfl ?_ ?_
    rotate_left
    · (intro W; go_simp; try with_reducible rfl)
    try simp only [Act.put, List.setIfInBounds_toArray, List.set_cons_zero, List.set_cons_succ]
    refine Rt.step 23 rfl (by kernel_rfl) rfl (fun K hK => ?_)
    go_simp
    refine hK _ _ ⟨.inl rfl, ?_⟩
    clear hK K
    try simp only [Act.put, List.setIfInBounds_toArray, List.set_cons_zero, List.set_cons_succ]
    refine Rt.done (by kernel_rfl) ?_
    refine NoPanic.normal ?_
    all_goals
      have HF := Lib.hid (HFin.out _ _ _ hx3 hM3)
      have HFU2 : Hid ((rowOf g th).length < 16) := HFU.out
      go_wp2_with fail
      (first | go_end0 | ((try simp only [Exit.inBlock, Exit.then]); refine bodyPost_ret (results_none rfl _ _ _) rfl ?_))
      exact ⟨rfl, .inl ⟨HFU2.out, HF.out⟩⟩
  · have d1 : decide ((16 : Int) ≤ ((rowOf g th).length : Int)) = true := decide_eq_true (by omega)
    have hfl : 16 ≤ (rowOf g th).length := by omega
    generalize (rowOf g th).length = rl at *
    clear hb hs hS hfull
    go_enter Try.func54, Try.ntmps54
    go_wp2_with fail
    go_quiet (fail)
    go_wp2_with fail
    refine (no_any B g th o a 4 _ (HW.out.ext ((Ext.refl w).drewN _))).mono ?_; rintro e w1 ⟨rfl, hp1⟩
    have HP := Lib.hid (Pw.trans (g := g) (a := a) (grown_of_ext ((Ext.refl w).drewN _) _) hp1)
    clear hp1
    go_wp2_with fail
    (first | go_end0 | ((try simp only [Exit.inBlock, Exit.then]); refine bodyPost_ret (results_none rfl _ _ _) rfl ?_))
    exact ⟨rfl, .inr ⟨hfl, HP.out⟩⟩
end Go.Proofs.Ytjhmlbhfnogdiaa.Wp
