/- The graph that goes on: a node is made. -/
import Derived.Test.YtjhmlbhfnogdiaaWs
import Derived.Laws.OwnMore
namespace Go.Proofs.Ytjhmlbhfnogdiaa.Wa
open Go.RowKit
open Go.Proofs.Ytjhmlbhfnogdiaa Go.Proofs.Ytjhmlbhfnogdiaa.Hd Go.Proofs.Ytjhmlbhfnogdiaa.Gr Go.Proofs.Ytjhmlbhfnogdiaa.Hg Go.Proofs.Ytjhmlbhfnogdiaa.Ps Go.Proofs.Ytjhmlbhfnogdiaa.Rr Go.Proofs.Ytjhmlbhfnogdiaa.Wk Go.Proofs.Ytjhmlbhfnogdiaa.Wp Go.Proofs.Ytjhmlbhfnogdiaa.Ws
set_option linter.unusedVariables false

theorem mk_any (n : Nat) (n1 : n ≤ 1048576) (u : World) : (Instr.makeSlice 65 (.int .i64 n) (.int .i64 n)).run Try.prog u =
    .ok (.slice (some ⟨u.heap.size, 0, none⟩) n n) (u.alloc (.cells (madeCells #[.int .u64 0] n) 26)) := by
  obtain ⟨i0, hi, hz0, hz1, hz2⟩ := info_u
  have h := run_make (P := Try.prog) u 65 26 i0 (.int .u64 0) uU hi hz0 .i64 .i64 n n (by omega) (Int.le_refl _) (by rw [hz2]; omega) (by omega)
  simpa [hz1, Value.cells] using h
theorem made_own (w : World) (n : Nat) (hn : n ≤ maxLen) : (w.alloc (.cells (madeCells #[.int .u64 0] n) 26)).ownsRow w.heap.size 26 1 (.slice (some ⟨w.heap.size, 0, none⟩) n n) n ((List.replicate n (0 : Int)).map (Value.int .u64)) := by
  refine ⟨by simp, .inr ⟨w.heap.size, n, _, rfl, Nat.le_refl _, Blk.new w _ _, Nat.le_refl _, hn, by simp [size_madeCells], ?_⟩⟩
  rw [toList_madeCells_one, List.map_replicate]
  simp

def addG (g : Gph) (x : Hd) : Gph := (g.1 ++ [(x, List.replicate x.2.1.toNat 0)], g.2)

theorem one_n {w : World} {b : Nat} {x : Hd} {f : Value} (h : Blk w b #[.int .i64 x.1, .int .i64 x.2.1, .int .u64 x.2.2, f] 67) : Row w 4 48 (.slice (some ⟨b, 0, none⟩) 1 1) 1 (ncs [(x, f)]) := by
  refine ⟨rfl, by omega, by omega, .inr ⟨_, 1, rfl, Nat.le_refl _, by unfold maxLen; omega, fun j c hj => ?_⟩⟩
  have hadd : (⟨b, 0, none⟩ : Addr).add j = ⟨b, j, none⟩ := by unfold Addr.add; split <;> simp_all
  rw [hadd]
  refine h.cell ?_
  simpa [ncs, nc] using hj

/-- 'append(nodes[:len:len], Node{H: x, F: make(..)})'. -/
theorem allocated {B : Nat} {W : World} {v : Value} {ns : List Nd} (h : NoS B W v ns) (hB : B < W.heap.size) (t m : Int) (l : Nat) (hl : l ≤ 16) (hn : ns.length ≤ 1000) :
    ∃ u v' w', (∀ w', (Instr.sliceAt 22 v none (some (.int .i64 (ns.length : Nat))) (some (.int .i64 (ns.length : Nat)))).run Try.prog w' = .ok u w') ∧
      (Builtin.append_ #[22, 22] 22 #[u, .slice (some ⟨W.heap.size + 1, 0, none⟩) 1 1]).run Try.prog (((W.alloc (.cells (madeCells #[.int .u64 0] l) 26)).alloc (.cells #[.int .i64 t, .int .i64 l, .int .u64 m, .slice (some ⟨W.heap.size, 0, none⟩) l l] 67))).drew = .ok v' w' ∧
      Ext W w' ∧ (∃ a c, v' = .slice a (ns.length + 1) c) ∧ NoS B w' v' (ns ++ [((t, (l : Int), m), List.replicate l 0)]) := by
  obtain ⟨i0, hi, hz0, hz1, hz2⟩ := info_n
  obtain ⟨ps, hpl, hr, hs⟩ := h
  obtain ⟨u, hu, hr3, hf⟩ := Row.slice3 uN szN hr.here (k := ps.length) (Nat.le_refl _)
  rw [List.take_of_length_le (by rw [ncs_len]; omega)] at hr3
  rw [hpl] at hu
  have hE1 : Ext W (W.alloc (.cells (madeCells #[.int .u64 0] l) 26)) := (Ext.refl W).alloc _
  have hE2 : Ext (W.alloc (.cells (madeCells #[.int .u64 0] l) 26)) (((W.alloc (.cells (madeCells #[.int .u64 0] l) 26)).alloc (.cells #[.int .i64 t, .int .i64 l, .int .u64 m, .slice (some ⟨W.heap.size, 0, none⟩) l l] 67))).drew := ((Ext.refl _).alloc _).drew
  have hE := hE1.trans hE2
  have hbn : Blk (((W.alloc (.cells (madeCells #[.int .u64 0] l) 26)).alloc (.cells #[.int .i64 t, .int .i64 l, .int .u64 m, .slice (some ⟨W.heap.size, 0, none⟩) l l] 67))).drew (W.heap.size + 1) #[.int .i64 t, .int .i64 l, .int .u64 m, .slice (some ⟨W.heap.size, 0, none⟩) l l] 67 := by
    have := Blk.new (W.alloc (.cells (madeCells #[.int .u64 0] l) 26)) #[.int .i64 t, .int .i64 l, .int .u64 m, .slice (some ⟨W.heap.size, 0, none⟩) l l] 67
    rw [World.size_alloc] at this
    exact this.ext ((Ext.refl _).drew)
  have hlps : ps.length ≤ 1000 := by omega
  obtain ⟨v', w', hrun, hrow, hext, hown⟩ := append_full (ty := 22) uN hi hz0 hz1 hz2 rfl (by decide) (hr3.ext hE) hf (one_n (x := (t, (l : Int), m)) hbn) (Wi.ncs_one (fun p hp => by simp at hp; subst hp; rfl)) (by omega) (by decide)
  have ho := hown (by omega)
  have hW2 : Ext W w' := hE.trans hext
  have hmo := own_ext (made_own W l (by unfold maxLen; omega)) (hE2.trans hext)
  have hSF : St B w' (fun W' => Sl .u64 W' (.slice (some ⟨W.heap.size, 0, none⟩) l l) (List.replicate l 0)) := (St.of_own (B := B) (b := 8) hmo hB (by omega) (by omega)).imp fun W' hW => Sl.of_row hW rfl
  have hlen : (ps ++ [(((t, (l : Int), m) : Hd), Value.slice (some ⟨W.heap.size, 0, none⟩) l l)]).length = ps.length + 1 := by simp
  have hSN := St.of_own (B := B) (b := 48) ho (Nat.lt_of_lt_of_le hB hE.size) (by omega) (by omega)
  obtain ⟨a, c, hfm⟩ := Row.form hrow
  refine ⟨u, v', w', hu, hrun, hW2, ⟨a, c, by rw [← hpl]; exact hfm⟩, NoS.snoc hpl (fun i p n hp hn => ⟨(hs i p n hp hn).1, (hs i p n hp hn).2.ext hW2⟩) hSF ?_⟩
  rw [hlen, ncs_append]
  exact hSN

theorem obj_len {h : Hd} (hobj : isObj h = true) (hm : 0 ≤ h.2.2) : 0 ≤ h.2.1 ∧ h.2.1 ≤ 16 ∧ h.2.2 ≤ 65535 := by
  unfold isObj at hobj
  simp only [Bool.and_eq_true, beq_iff_eq, bne_iff_ne] at hobj
  obtain ⟨_, _, h5, _, h6, h7⟩ := right_zero hobj.1 hm
  exact ⟨h5, (h7 hobj.2).2, h6⟩

set_option maxHeartbeats 4000000 in
theorem alloc_any (B : Nat) (g : Gph) (th : Nat) (o : Opn) (a : Ans) (w : World) (hW : Wk B w g th o a) (hth : th < g.2.length) (hm : 0 ≤ o.new.2.2) (hbd : g.1.length ≤ 1000) :
    Calls Try.prog 50 #[.pointer (some ⟨B, 0, none⟩)] w fun r w' => r = .returned (.tuple #[]) ∧
      ((isObj o.new = false ∧ Pw B w g th o (1, 0, false) w') ∨ (isObj o.new = true ∧ 16 ≤ (rowOf g th).length ∧ Pw B w g th o (4, 0, false) w') ∨
       (isObj o.new = true ∧ (rowOf g th).length < 16 ∧ Pw B w (pushG (addG g o.new) th ((g.1.length : Int) + 1)) th o a w')) := by
  have HW := Lib.hid hW
  obtain ⟨na, nc, sa, sc, hb, hs⟩ := hW
  have c0 : w.cell? ⟨B, 0, none⟩ = some (.slice na g.1.length nc) := hb.cell (i := 0) rfl
  have c1 : w.cell? ⟨B, 1, none⟩ = some (.slice sa g.2.length sc) := hb.cell (i := 1) rfl
  have c2 : w.cell? ⟨B, 2, none⟩ = some (.int .i64 th) := hb.cell (i := 2) rfl
  have c8 : w.cell? ⟨B, 8, none⟩ = some (.int .i64 o.new.1) := hb.cell (i := 8) rfl
  have c9 : w.cell? ⟨B, 9, none⟩ = some (.int .i64 o.new.2.1) := hb.cell (i := 9) rfl
  have c10 : w.cell? ⟨B, 10, none⟩ = some (.int .u64 o.new.2.2) := hb.cell (i := 10) rfl
  have mlen := hs.here.2.len uS
  have msm := hs.here.2.small
  obtain ⟨p, ua, uc, hp, hpc, hS⟩ := hs.2.at_ th hth
  replace hpc : w.cell? p = some (.slice ua (rowOf g th).length uc) := hpc
  have husm : ((rowOf g th).length : Int) ≤ 140737488355328 := hS.here.small
  have hOB : ∀ w, Calls Try.prog 32 #[.agg #[.int .i64 o.new.1, .int .i64 o.new.2.1, .int .u64 o.new.2.2]] w fun e w' => e = .returned (.bool (isObj o.new)) ∧ Ext w w' := fun w => object_any o.new.1 o.new.2.1 o.new.2.2 w
  have hol := @obj_len o.new
  obtain ⟨t, ht⟩ : ∃ t, o.new.1 = t := ⟨_, rfl⟩
  obtain ⟨lz, hlz⟩ : ∃ lz, o.new.2.1 = lz := ⟨_, rfl⟩
  obtain ⟨m, hm2⟩ : ∃ m, o.new.2.2 = m := ⟨_, rfl⟩
  rw [ht] at c8 hOB
  rw [hlz] at c9 hOB hol
  rw [hm2] at c10 hOB hol hm
  have HNEW : Hid (o.new = (t, lz, m)) := by show _ = _; rw [← ht, ← hlz, ← hm2]
  clear ht hlz hm2
  have HB := Lib.hid hb
  have HGS := Lib.hid hs
  have HTH := Lib.hid hth
  clear hb hs hS
  cases hobj : isObj o.new with
  | false =>
    rw [hobj] at hOB
    have HO := Lib.hid hOB
    clear hOB
    go_enter Try.func50, Try.ntmps50
    go_wp2_with fail
    (with_reducible refine (HO.out _).mono ?_); rintro e w1 ⟨rfl, hx1⟩
    have HW1 := Lib.hid (HW.out.ext hx1)
    have HG1 := Lib.hid (grown_of_ext hx1 (some B))
    clear hx1
    go_wp2_with fail
    refine (no_any B g th o a 1 _ HW1.out).mono ?_; rintro e w2 ⟨rfl, hp2⟩
    have HP := Lib.hid (Pw.trans (g := g) (a := a) HG1.out hp2)
    clear hp2
    go_wp2_with fail
    (first | go_end0 | ((try simp only [Exit.inBlock, Exit.then]); refine bodyPost_ret (results_none rfl _ _ _) rfl ?_))
    exact ⟨rfl, .inl ⟨by first | rfl | trivial, HP.out⟩⟩
  | true =>
    rw [hobj] at hOB
    obtain ⟨l0, l1, m1⟩ := hol hobj hm
    obtain ⟨l, rfl⟩ : ∃ l : Nat, lz = (l : Int) := ⟨lz.toNat, by omega⟩
    have HO := Lib.hid hOB
    clear hOB hol
    by_cases hfull : (rowOf g th).length < 16
    case neg =>
      have d1 : decide ((16 : Int) ≤ ((rowOf g th).length : Int)) = true := decide_eq_true (by omega)
      have hfl : 16 ≤ (rowOf g th).length := by omega
      have HFL := Lib.hid hfl
      generalize (rowOf g th).length = rl at *
      clear hfull hfl
      go_enter Try.func50, Try.ntmps50
      go_wp2_with fail
      (with_reducible refine (HO.out _).mono ?_); rintro e w1 ⟨rfl, hx1⟩
      have HW1 := Lib.hid (HW.out.ext hx1)
      have HG1 := Lib.hid hx1
      replace c1 := hx1.cell c1
      replace c2 := hx1.cell c2
      replace hpc := hx1.cell hpc
      clear hx1
      go_wp2_with fail
      go_quiet (fail)
      go_wp2_with fail
      refine (no_any B g th o a 4 _ (HW1.out.ext ((Ext.refl w1).drewN _))).mono ?_; rintro e w2 ⟨rfl, hp2⟩
      have HP := Lib.hid (Pw.trans (g := g) (a := a) (grown_of_ext (HG1.out.drewN _) (some B)) hp2)
      clear hp2
      go_wp2_with fail
      (first | go_end0 | ((try simp only [Exit.inBlock, Exit.then]); refine bodyPost_ret (results_none rfl _ _ _) rfl ?_))
      exact ⟨rfl, .inr (.inl ⟨by first | rfl | trivial, HFL.out, HP.out⟩)⟩
    case pos =>
    have d1 : decide ((16 : Int) ≤ ((rowOf g th).length : Int)) = false := decide_eq_false (by omega)
    have HFU := Lib.hid hfull
    obtain ⟨rl, hrl⟩ : ∃ rl, (rowOf g th).length = rl := ⟨_, rfl⟩
    rw [hrl] at hpc husm d1
    clear hrl hfull
    go_enter Try.func50, Try.ntmps50
    go_wp2_with fail
    (with_reducible refine (HO.out _).mono ?_); rintro e w1 ⟨rfl, hx1⟩
    have HX1 := Lib.hid hx1
    replace c1 := hx1.cell c1
    replace c2 := hx1.cell c2
    replace hpc := hx1.cell hpc
    clear hx1
    go_wp2_with fail
    go_quiet (fail)
    go_wp2_with fail
    obtain ⟨wq, hwq⟩ : ∃ wq, wq = w1.drewN nq := ⟨_, rfl⟩
    have hxq : Ext w wq := hwq ▸ HX1.out.drewN _
    rw [← hwq]
    clear hwq
    have hbq := HB.out.ext hxq
    have hGq := HGS.out.step (grown_of_ext hxq (some B))
    have hnl := hGq.here.1.len
    have hnsm := hGq.here.1.small
    obtain ⟨u, v', w2, hsl, hrun, hx2, ⟨va, vc, rfl⟩, hN2⟩ := allocated hGq.1 hbq.lt t m l (by omega) hbd
    have hmk := mk_any l (by omega)
    have hHK : ∀ W, Ext wq W → W.cell? ⟨B, 0, none⟩ = some (.slice na g.1.length nc) ∧ W.cell? ⟨B, 8, none⟩ = some (.int .i64 t) ∧ W.cell? ⟨B, 9, none⟩ = some (.int .i64 l) ∧ W.cell? ⟨B, 10, none⟩ = some (.int .u64 m) := fun W h => ⟨(hbq.ext h).cell (i := 0) rfl, h.cell (hxq.cell c8), h.cell (hxq.cell c9), h.cell (hxq.cell c10)⟩
    have hS0 := hHK _ ((Ext.refl wq).drew)
    have hSa := Lib.hid (hHK _ (((Ext.refl wq).alloc (.cells (madeCells #[.int .u64 0] l) 26)).drew))
    have hSb := Lib.hid (hHK _ ((((Ext.refl wq).alloc (.cells (madeCells #[.int .u64 0] l) 26)).alloc (.cells #[.int .i64 t, .int .i64 l, .int .u64 m, .slice (some ⟨wq.heap.size, 0, none⟩) l l] 67)).drew))
    have hSc := Lib.hid (hHK _ hx2)
    have hb2 := hbq.ext hx2
    have k2 : w2.cell? ⟨B, 0, none⟩ = some (.slice na g.1.length nc) := hb2.cell (i := 0) rfl
    have f2 := hb2.free 0
    have hW3 : Pw B w (addG g o.new) th o a (w2.setCell ⟨B, 0, none⟩ (.slice va (g.1.length + 1) vc)) := by
      have e : (addG g o.new).1.length = g.1.length + 1 := by simp [addG]
      have e2 : (addG g o.new).1 = g.1 ++ [((t, (l : Int), m), List.replicate l 0)] := by unfold addG; rw [HNEW.out]; simp
      refine ⟨⟨va, vc, sa, sc, ?_, ?_, ?_⟩, (grown_of_ext (hxq.trans hx2) _).trans (grown_set _ _ _ _)⟩
      · rw [e]; exact hb2.set 0 _
      · rw [e, e2]; exact hN2.step (grown_set _ _ _ _)
      · exact (hGq.2.step (grown_of_ext hx2 _)).step (grown_set _ _ _ _)
    have HW3 := Lib.hid hW3
    have e3 : (addG g o.new).1.length = g.1.length + 1 := by simp [addG]
    have e4 : rowOf (addG g o.new) th = rowOf g th := rfl
    have hPU := push_any B (addG g o.new) th o a ((g.1.length : Int) + 1) _ hW3.1 HTH.out
    rw [e4] at hPU
    have HPU := Lib.hid hPU
    have hc3 : (w2.setCell ⟨B, 0, none⟩ (.slice va (g.1.length + 1) vc)).cell? ⟨B, 0, none⟩ = some (.slice va (g.1.length + 1) vc) := (hb2.set 0 _).cell (i := 0) rfl
    clear hHK hb2 hN2 hx2 hGq hbq hW3 hPU e3 e4 hxq

    refine wp_region_noPanic ?_
    refine Rt.begin_ (fun W : World => W.cell? ⟨B, 0, none⟩ = some (.slice na g.1.length nc) ∧ W.cell? ⟨B, 8, none⟩ = some (.int .i64 t) ∧ W.cell? ⟨B, 9, none⟩ = some (.int .i64 l) ∧ W.cell? ⟨B, 10, none⟩ = some (.int .u64 m)) (fun i => i == 37) (by kernel_rfl) ?_
    simp only [List.length_cons, List.length_nil, Nat.reduceAdd, Array.replicate_succ, Array.replicate_zero]
    refine Rt.takeW 0 (v := ?_) rfl (by kernel_rfl) (fun _ _ _ h => h) rfl ?_ ?_
    rotate_left
    · (intro W; go_simp; try with_reducible rfl)
    try simp only [Act.put, List.setIfInBounds_toArray, List.set_cons_zero, List.set_cons_succ]
    refine Rt.takeW 1 (v := ?_) rfl (by kernel_rfl) (fun _ _ _ h => h) rfl ?_ ?_
    rotate_left
    · (intro W; go_simp; try with_reducible rfl)
    try simp only [Act.put, List.setIfInBounds_toArray, List.set_cons_zero, List.set_cons_succ]
    refine Rt.takeW 2 (v := ?_) rfl (by kernel_rfl) (fun _ _ _ h => h) rfl ?_ ?_
    rotate_left
    · (intro W; go_simp; try with_reducible rfl)
    try simp only [Act.put, List.setIfInBounds_toArray, List.set_cons_zero, List.set_cons_succ]
    refine Rt.takeW 3 (v := ?_) rfl (by kernel_rfl) (fun _ _ _ h => h) rfl ?_ ?_
    rotate_left
    · (intro W; go_simp; try with_reducible rfl)
    try simp only [Act.put, List.setIfInBounds_toArray, List.set_cons_zero, List.set_cons_succ]
    refine Rt.takeW 4 (v := ?_) rfl (by kernel_rfl) (fun _ _ _ h => h) rfl ?_ ?_
    rotate_left
    · (intro W; go_simp; try with_reducible rfl)
    try simp only [Act.put, List.setIfInBounds_toArray, List.set_cons_zero, List.set_cons_succ]
    refine Rt.take 5 (v := ?_) rfl (by kernel_rfl) (fun _ _ _ h => h) rfl ?_ hS0 ?_
    rotate_left
    · (intro W hSW; (try dsimp only at hSW); go_simp; try with_reducible rfl)
    try simp only [Act.put, List.setIfInBounds_toArray, List.set_cons_zero, List.set_cons_succ]
    refine Rt.takeW 6 (v := ?_) rfl (by kernel_rfl) (fun _ _ _ h => h) rfl ?_ ?_
    rotate_left
    · (intro W; go_simp; try with_reducible rfl)
    try simp only [Act.put, List.setIfInBounds_toArray, List.set_cons_zero, List.set_cons_succ]
    refine Rt.takeW 7 (v := ?_) rfl (by kernel_rfl) (fun _ _ _ h => h) rfl ?_ ?_
    rotate_left
    · (intro W; go_simp; try with_reducible rfl)
    try simp only [Act.put, List.setIfInBounds_toArray, List.set_cons_zero, List.set_cons_succ]
    refine Rt.takeW 8 (v := ?_) rfl (by kernel_rfl) (fun _ _ _ h => h) rfl ?_ ?_
    rotate_left
    · (intro W; go_simp; try with_reducible rfl)
    try simp only [Act.put, List.setIfInBounds_toArray, List.set_cons_zero, List.set_cons_succ]
    refine Rt.takeW 9 (v := ?_) rfl (by kernel_rfl) (fun _ _ _ h => h) rfl ?_ ?_
    rotate_left
    · (intro W; go_simp; try with_reducible rfl)
    try simp only [Act.put, List.setIfInBounds_toArray, List.set_cons_zero, List.set_cons_succ]
    refine Rt.take 10 (v := ?_) rfl (by kernel_rfl) (fun _ _ _ h => h) rfl ?_ hS0 ?_
    rotate_left
    · (intro W hSW; (try dsimp only at hSW); go_simp; try with_reducible rfl)
    try simp only [Act.put, List.setIfInBounds_toArray, List.set_cons_zero, List.set_cons_succ]
    refine Rt.takeW 11 (v := ?_) rfl (by kernel_rfl) (fun _ _ _ h => h) rfl ?_ ?_
    rotate_left
    · (intro W; go_simp; try with_reducible rfl)
    try simp only [Act.put, List.setIfInBounds_toArray, List.set_cons_zero, List.set_cons_succ]
    refine Rt.takeW 12 (v := ?_) rfl (by kernel_rfl) (fun _ _ _ h => h) rfl ?_ ?_
    rotate_left
    · (intro W; go_simp; try with_reducible rfl)
    try simp only [Act.put, List.setIfInBounds_toArray, List.set_cons_zero, List.set_cons_succ]
    refine Rt.takeW 13 (v := ?_) rfl (by kernel_rfl) (fun _ _ _ h => h) rfl ?_ ?_
    rotate_left
    · (intro W; go_simp; try with_reducible rfl)
    try simp only [Act.put, List.setIfInBounds_toArray, List.set_cons_zero, List.set_cons_succ]
    refine Rt.takeW 14 (v := ?_) rfl (by kernel_rfl) (fun _ _ _ h => h) rfl ?_ ?_
    rotate_left
    · (intro W; go_simp; try with_reducible rfl)
    try simp only [Act.put, List.setIfInBounds_toArray, List.set_cons_zero, List.set_cons_succ]
    refine Rt.takeW 15 (v := ?_) rfl (by kernel_rfl) (fun _ _ _ h => h) rfl ?_ ?_
    rotate_left
    · (intro W; go_simp; try with_reducible rfl)
    try simp only [Act.put, List.setIfInBounds_toArray, List.set_cons_zero, List.set_cons_succ]
    refine Rt.take 16 (v := ?_) rfl (by kernel_rfl) (fun _ _ _ h => h) rfl ?_ hS0 ?_
    rotate_left
    · (intro W hSW; (try dsimp only at hSW); go_simp; try with_reducible rfl)
    try simp only [Act.put, List.setIfInBounds_toArray, List.set_cons_zero, List.set_cons_succ]
    refine Rt.takeW 17 (v := ?_) rfl (by kernel_rfl) (fun _ _ _ h => h) rfl ?_ ?_
    rotate_left
    · (intro W; go_simp; try with_reducible rfl)
    try simp only [Act.put, List.setIfInBounds_toArray, List.set_cons_zero, List.set_cons_succ]
    refine Rt.takeW 18 (v := ?_) rfl (by kernel_rfl) (fun _ _ _ h => h) rfl ?_ ?_
    rotate_left
    · (intro W; go_simp; try with_reducible rfl)
    try simp only [Act.put, List.setIfInBounds_toArray, List.set_cons_zero, List.set_cons_succ]
    refine Rt.takeW 19 (v := ?_) rfl (by kernel_rfl) (fun _ _ _ h => h) rfl ?_ ?_
    rotate_left
    · (intro W; go_simp; try with_reducible rfl)
    try simp only [Act.put, List.setIfInBounds_toArray, List.set_cons_zero, List.set_cons_succ]
    refine Rt.takeW 20 (v := ?_) rfl (by kernel_rfl) (fun _ _ _ h => h) rfl ?_ ?_
    rotate_left
    · (intro W; go_simp; try with_reducible rfl)
    try simp only [Act.put, List.setIfInBounds_toArray, List.set_cons_zero, List.set_cons_succ]
    refine Rt.takeW 21 (v := ?_) rfl (by kernel_rfl) (fun _ _ _ h => h) rfl ?_ ?_
    rotate_left
    · (intro W; go_simp; try with_reducible rfl)
    try simp only [Act.put, List.setIfInBounds_toArray, List.set_cons_zero, List.set_cons_succ]
    refine Rt.takeW 22 (v := ?_) rfl (by kernel_rfl) (fun _ _ _ h => h) rfl ?_ ?_
    rotate_left
    · (intro W; go_simp; try with_reducible rfl)
    try simp only [Act.put, List.setIfInBounds_toArray, List.set_cons_zero, List.set_cons_succ]
    refine Rt.take 23 (v := ?_) rfl (by kernel_rfl) (fun _ _ _ h => h) rfl ?_ hS0 ?_
    rotate_left
    · (intro W hSW; (try dsimp only at hSW); go_simp; try with_reducible rfl)
    try simp only [Act.put, List.setIfInBounds_toArray, List.set_cons_zero, List.set_cons_succ]
    refine Rt.takeW 24 (v := ?_) rfl (by kernel_rfl) (fun _ _ _ h => h) rfl ?_ ?_
    rotate_left
    · (intro W; go_simp; try with_reducible rfl)
    try simp only [Act.put, List.setIfInBounds_toArray, List.set_cons_zero, List.set_cons_succ]
    refine Rt.takeW 25 (v := ?_) rfl (by kernel_rfl) (fun _ _ _ h => h) rfl ?_ ?_
    rotate_left
    · (intro W; go_simp; try with_reducible rfl)
    try simp only [Act.put, List.setIfInBounds_toArray, List.set_cons_zero, List.set_cons_succ]
    refine Rt.takeW 26 (v := ?_) rfl (by kernel_rfl) (fun _ _ _ h => h) rfl ?_ ?_
    rotate_left
    · (intro W; go_simp; try with_reducible rfl)
    try simp only [Act.put, List.setIfInBounds_toArray, List.set_cons_zero, List.set_cons_succ]
    refine Rt.takeW 27 (v := ?_) rfl (by kernel_rfl) (fun _ _ _ h => h) rfl ?_ ?_
    rotate_left
    · (intro W; go_simp; try with_reducible rfl)
    try simp only [Act.put, List.setIfInBounds_toArray, List.set_cons_zero, List.set_cons_succ]
    refine Rt.takeW 28 (v := ?_) rfl (by kernel_rfl) (fun _ _ _ h => h) rfl ?_ ?_
    rotate_left
    · (intro W; go_simp; try with_reducible rfl)
    try simp only [Act.put, List.setIfInBounds_toArray, List.set_cons_zero, List.set_cons_succ]
    refine Rt.take 29 (v := ?_) rfl (by kernel_rfl) (fun _ _ _ h => h) rfl ?_ hS0 ?_
    rotate_left
    · (intro W hSW; (try dsimp only at hSW); go_simp; try with_reducible rfl)
    try simp only [Act.put, List.setIfInBounds_toArray, List.set_cons_zero, List.set_cons_succ]
    refine Rt.step 30 rfl (by kernel_rfl) rfl (fun K hK => ?_)
    go_simp
    refine hK _ _ ⟨.inr fun _ => hSa.out, ?_⟩
    clear hK K
    try simp only [Act.put, List.setIfInBounds_toArray, List.set_cons_zero, List.set_cons_succ]
    refine Rt.takeW 31 (v := ?_) rfl (by kernel_rfl) (fun _ _ _ h => h) rfl ?_ ?_
    rotate_left
    · (intro W; go_simp; try with_reducible rfl)
    try simp only [Act.put, List.setIfInBounds_toArray, List.set_cons_zero, List.set_cons_succ]
    refine Rt.step 32 rfl (by kernel_rfl) rfl (fun K hK => ?_)
    go_simp
    refine hK _ _ ⟨.inr fun _ => hSb.out, ?_⟩
    clear hK K
    try simp only [Act.put, List.setIfInBounds_toArray, List.set_cons_zero, List.set_cons_succ]
    refine Rt.step 33 rfl (by kernel_rfl) rfl (fun K hK => ?_)
    with_reducible refine Lib.wp_append_run _ (.tmp 20) (.tmp 34) 22 22 ?_ _ _ ?_ ?_ _ _ hrun ?_
    rfl
    rfl
    rfl
    refine hK _ _ ⟨.inr fun _ => hSc.out, ?_⟩
    clear hK K
    try simp only [Act.put, List.setIfInBounds_toArray, List.set_cons_zero, List.set_cons_succ]
    refine Rt.takeW 34 (v := ?_) rfl (by kernel_rfl) (fun _ _ _ h => h) rfl ?_ ?_
    rotate_left
    · (intro W; go_simp; try with_reducible rfl)
    try simp only [Act.put, List.setIfInBounds_toArray, List.set_cons_zero, List.set_cons_succ]
    refine Rt.takeW 35 (v := ?_) rfl (by kernel_rfl) (fun _ _ _ h => h) rfl ?_ ?_
    rotate_left
    · (intro W; go_simp; try with_reducible rfl)
    try simp only [Act.put, List.setIfInBounds_toArray, List.set_cons_zero, List.set_cons_succ]
    refine Rt.takeW 36 (v := ?_) rfl (by kernel_rfl) (fun _ _ _ h => h) rfl ?_ ?_
    rotate_left
    · (intro W; go_simp; try with_reducible rfl)
    try simp only [Act.put, List.setIfInBounds_toArray, List.set_cons_zero, List.set_cons_succ]
    refine Rt.step 37 rfl (by kernel_rfl) rfl (fun K hK => ?_)
    go_simp
    refine hK _ _ ⟨.inl rfl, ?_⟩
    clear hK K
    try simp only [Act.put, List.setIfInBounds_toArray, List.set_cons_zero, List.set_cons_succ]
    refine Rt.done (by kernel_rfl) ?_
    refine NoPanic.normal ?_

    obtain ⟨w3, hw3⟩ : ∃ w3, w3 = w2.setCell ⟨B, 0, none⟩ (.slice va (g.1.length + 1) vc) := ⟨_, rfl⟩
    rw [← hw3] at HW3 HPU hc3
    go_wp2_with fail
    rw [← hw3]
    clear hw3
    with_reducible refine HPU.out.mono ?_
    rintro e w4 ⟨rfl, ⟨_, hp⟩ | ⟨hge, hp⟩⟩
    · have HP := Lib.hid (Pw.trans (g := g) (a := a) HW3.out.2 hp)
      clear hp
      go_wp2_with fail
      (first | go_end0 | ((try simp only [Exit.inBlock, Exit.then]); refine bodyPost_ret (results_none rfl _ _ _) rfl ?_))
      exact ⟨rfl, .inr (.inr ⟨by first | rfl | trivial, HFU.out, HP.out⟩)⟩
    · exact absurd HFU.out (by omega)
end Go.Proofs.Ytjhmlbhfnogdiaa.Wa
