/- The reference's Do: rows, new objects; whatever is asked. -/
import Derived.Test.YtjhmlbhfnogdiaaEb
namespace Go.Proofs.Ytjhmlbhfnogdiaa.Ds
open Go.RowKit
open Go.Proofs.Ytjhmlbhfnogdiaa Go.Proofs.Ytjhmlbhfnogdiaa.Hd Go.Proofs.Ytjhmlbhfnogdiaa.Gr Go.Proofs.Ytjhmlbhfnogdiaa.Hg Go.Proofs.Ytjhmlbhfnogdiaa.Ps Go.Proofs.Ytjhmlbhfnogdiaa.Rr Go.Proofs.Ytjhmlbhfnogdiaa.Wk Go.Proofs.Ytjhmlbhfnogdiaa.Wp Go.Proofs.Ytjhmlbhfnogdiaa.Wa Go.Proofs.Ytjhmlbhfnogdiaa.Wc Go.Proofs.Ytjhmlbhfnogdiaa.Wf Go.Proofs.Ytjhmlbhfnogdiaa.Pl Go.Proofs.Ytjhmlbhfnogdiaa.Vf Go.Proofs.Ytjhmlbhfnogdiaa.Co Go.Proofs.Ytjhmlbhfnogdiaa.Ro Go.Proofs.Ytjhmlbhfnogdiaa.Cy Go.Proofs.Ytjhmlbhfnogdiaa.Pv Go.Proofs.Ytjhmlbhfnogdiaa.Dh Go.Proofs.Ytjhmlbhfnogdiaa.Db
set_option linter.unusedVariables false

theorem own_take {P : Program} {T E : TypeId} {w : World} {base n : Nat} {v : Value} {xs : List Value} (ht : P.underlying T = some (.slice E)) (hsz : ∀ w, (sizeOf E).run P w = .ok 1 w) (h : w.ownsRow base E 1 v n xs) {k : Nat} (hk : k ≤ n) :
    ∃ ua uc, (∀ w', (Instr.sliceAt T v none (some (.int .i64 k)) none).run P w' = .ok (.slice ua k uc) w') ∧ w.ownsRow base E 1 (.slice ua k uc) k (xs.take k) := by
  obtain ⟨hl, ⟨rfl, rfl⟩ | ⟨g, cap, cur, rfl, hb, hg, hn, hc, hcs, htake⟩⟩ := h
  · obtain rfl : k = 0 := by omega
    refine ⟨none, 0, fun w' => ?_, by rw [List.take_zero]; exact World.ownsRow_nil _ _ _ _⟩
    simp [Instr.sliceAt, Instr.slice, Instr.sliceBounds, Instr.sliceBound, run_underlying ht, asIntOf, hsz]
  · have hkc : k ≤ cap := by omega
    refine ⟨some ⟨g, 0, none⟩, cap, fun w' => ?_, ⟨by rw [List.length_take, hl]; omega, .inr ⟨g, cap, cur, rfl, hb, hg, hkc, hc, hcs, ?_⟩⟩⟩
    · simp [Instr.sliceAt, Instr.slice, Instr.sliceBounds, Instr.sliceBound, run_underlying ht, asIntOf, hsz, hkc, Addr.add]
    · rw [← htake, List.take_take]
      congr 1
      omega
theorem rowAt {wE w : World} {base : Nat} {a b : Value} {g : Gph} (h : GrO wE base a b g w) {th : Nat} (hth : th < g.2.length) :
    ∃ gb ya yc, b.ownBlock = some gb ∧ (∀ w', (Instr.indexAt 23 b (.int .i64 th)).run Try.prog w' = .ok (.pointer (some ⟨gb, th, none⟩)) w') ∧ w.cell? ⟨gb, th, none⟩ = some (.slice ya (rowOf g th).length yc) ∧ w.ownsRow base 3 1 (.slice ya (rowOf g th).length yc) (rowOf g th).length ((rowOf g th).map (Value.int .i64)) ∧ (rowOf g th).length * 8 ≤ 140737488355328 := by
  obtain ⟨vs, hl, ho, h1, hs⟩ := id h.rw
  have hlt : th < vs.length := by omega
  obtain ⟨gb, hgb, _, _, hix, hcell, _, _⟩ := own_at (P := Try.prog) uS szS ho hlt
  have h4 := hs th vs[th] (rowOf g th) (by simp [hlt]) (by unfold rowOf; simp [List.getD_eq_getElem?_getD, hth])
  obtain ⟨ya, yc, hf⟩ := Vc.own_form h4.1
  have hc := hcell vs[th] (by simp [hlt])
  rw [hf] at hc h4
  exact ⟨gb, ya, yc, hgb, hix, hc, h4.1, h4.2.1⟩

set_option maxRecDepth 100000 in
set_option maxHeartbeats 8000000 in
theorem rdo_10 (a b : Value) (g : Gph) (th : Nat) (hh i kk v : Int) (x : Hd) (w : World) (h : Gr w a b g) (hth : th < g.2.length) (hr : rightG g = true) (hp : posG g) (hn : g.1.length ≤ 100) (hm : g.2.length ≤ 1048576) (hv0 : 0 ≤ v) (hv1 : v ≤ 18446744073709551615) (hx0 : 0 ≤ x.2.2) (hu : ∀ n ∈ g.1, ∀ y ∈ n.2, y ≤ 18446744073709551615) :
    Calls Try.prog 20 #[.agg #[a, b], .int .i64 th, opv ⟨10, hh, i, kk, v, x⟩] w fun e w' => ∃ a' b', e = .returned (.tuple #[.agg #[a', b'], anv (doA g (th : Int) ⟨10, hh, i, kk, v, x⟩)]) ∧ Gr w' a' b' (doG g (th : Int) ⟨10, hh, i, kk, v, x⟩) ∧ Ext w w' := by
  obtain ⟨a0, c0, rfl⟩ := h.1.form
  obtain ⟨b0, d0, rfl⟩ := Gr.Ma.form h.2
  obtain ⟨B, hB⟩ : ∃ B, B = w.heap.size := ⟨_, rfl⟩
  obtain ⟨w4, hw4⟩ : ∃ w4, w4 = (((w.alloc (.cells #[.slice a0 g.1.length c0, .slice b0 g.2.length d0] 25)).alloc (.cells #[.int .i64 (10 : Int), .int .i64 hh, .int .i64 i, .int .i64 kk, .int .u64 v, .int .i64 x.1, .int .i64 x.2.1, .int .u64 x.2.2] 30)).alloc (.cells #[.slice none 0 0, .slice none 0 0] 25)).alloc (.cells #[.int .i64 0, .int .u64 0, .bool false] 35) := ⟨_, rfl⟩
  obtain ⟨hbx, hx4, hs4⟩ := bx_start (o := ⟨10, hh, i, kk, v, x⟩) hB hw4
  have HBX := Lib.hid hbx
  have HX4 := Lib.hid hx4
  have HS4 := Lib.hid hs4
  have HBB := Lib.hid hB
  have HG := Lib.hid h
  have hsm := h.2.small
  have hlen := h.2.len uS
  try dsimp only at hw4
  clear hbx hx4 hs4
  have t1 : decide ((th : Int) < 0) = false := decide_eq_false (by omega)
  have t2 : decide ((g.2.length : Int) ≤ (th : Int)) = false := decide_eq_false (by omega)
  have hact : act g th ⟨10, hh, i, kk, v, x⟩ = actPop g th := by unfold act; simp
  obtain ⟨p, u, hpx, hpc, hus⟩ := HG.out.2.at_ uS szS (i := (th : Int)) (by omega) (by omega)
  rw [Int.toNat_natCast] at hus
  replace hus : Sl .i64 w u (rowOf g th) := hus
  obtain ⟨ua, uc, rfl⟩ := Row.form hus
  obtain ⟨rl, hrl⟩ : ∃ rl, (rowOf g th).length = rl := ⟨_, rfl⟩
  replace hpc : w.cell? p = some (.slice ua rl uc) := by rw [← hrl]; exact hpc
  have husm := hus.small
  have hulen := hus.len uI
  rw [hrl] at husm hulen
  obtain ⟨q, hq⟩ : ∃ q : Int, (rl : Int) = q := ⟨_, rfl⟩
  rw [hq] at husm hulen
  have kp := HX4.out.cell hpc
  rw [hw4] at kp
  clear hus hpc
  by_cases hz : rl = 0
  · have hq0 : (q == 0) = true := by rw [← hq, hz]; rfl
    have hd := of_err (e := 9) hth (hact.trans (by unfold actPop; rw [hrl, if_pos hz]))
    rw [hd.1, hd.2]
    clear hd hact hz hrl hq
    unfold opv anv
    clear h
    go_enter Try.func20, Try.ntmps20
    go_wp2_with fail
    rw [← hw4, ← hB]
    clear hw4 hB
    try rw [show B + 1 + 1 + 1 = B + 3 from rfl]
    try rw [show B + 1 + 1 = B + 2 from rfl]
    clear kp
    refine (rno_any _ _ g (9) w4 (HG.out.ext (HX4.out.trans (Ext.refl w4)))).mono ?_; rintro r w6 ⟨rfl, hxn⟩
    unfold anv
    have hx9 := ((Ext.refl w4)).trans hxn
    clear hxn
    obtain ⟨g0, g1, o0, o1, o2, o3, o4, o5, o6, o7, r0, r1, s0, s1, s2, f0, f1, f2, f3, f4⟩ := (HBX.out.ext hx9).cells
    try dsimp only at o0 o1 o2 o3 o4 o5 o6 o7
    obtain ⟨W8, hW8⟩ : ∃ W8, W8 = ((((w6.setCell ⟨B + 2, 0, none⟩ (.slice a0 g.1.length c0)).setCell ⟨B + 2, 1, none⟩ (.slice b0 g.2.length d0)).setCell ⟨B + 3, 0, none⟩ (.int .i64 (9))).setCell ⟨B + 3, 1, none⟩ (.int .u64 (0))).setCell ⟨B + 3, 2, none⟩ (.bool (false)) := ⟨_, rfl⟩
    obtain ⟨q0, q1, q2, q3, q4, hGr, hXr⟩ := fin HBB.out (HBX.out.ext hx9) (HX4.out.trans hx9) (sb_old HBB.out HG.out (HX4.out.trans hx9)) W8 hW8
    have HF := Lib.hid (And.intro hGr hXr)
    clear hGr hXr
    go_wp2_with fail
    rw [← hW8]
    clear hW8
    exact bodyPost_ret (v := .tuple #[.agg #[.slice a0 g.1.length c0, .slice b0 g.2.length d0], .agg #[.int .i64 (9), .int .u64 (0), .bool (false)]]) (by simp [results, Try.results20, go_sem, q0, q1, q2, q3, q4]) rfl ⟨_, _, rfl, HF.out⟩
  have hq0 : (q == 0) = false := by simp; omega
  have hd := of_ok (G := popG g th) (v := 0) (b := false) hth (hact.trans (by unfold actPop; rw [hrl, if_neg hz]))
  rw [hd.1, hd.2]
  clear hd hact
  obtain ⟨m, rfl⟩ : ∃ m, rl = m + 1 := ⟨rl - 1, by omega⟩
  have hqw : IntKind.i64.wrap (q - 1) = q - 1 := by rw [IntKind.wrap_i64]; omega
  have HQ : Hid ((m : Int) = q - 1 ∧ ((m + 1 : Nat) : Int) = q ∧ (rowOf g th).length = m + 1) := ⟨by omega, hq, hrl⟩
  clear hq hrl hz
  unfold opv anv
  clear h
  go_enter Try.func20, Try.ntmps20
  go_wp2_with fail
  rw [← hw4, ← hB]
  clear hw4 hB
  try rw [show B + 1 + 1 + 1 = B + 3 from rfl]
  try rw [show B + 1 + 1 = B + 2 from rfl]
  clear kp hpx
  refine (copied_any (.slice a0 g.1.length c0) (.slice b0 g.2.length d0) g w w4 w4.heap.size (GI.of HG.out HX4.out) (by omega) hm).mono ?_; rintro r w3 ⟨na, nc, ra, rc, rfl, hG3, hx3, hna, hra⟩
  obtain ⟨w5, hw5⟩ : ∃ w5, w5 = w3.alloc (.cells #[.slice na g.1.length nc, .slice ra g.2.length rc] 25) := ⟨_, rfl⟩
  obtain ⟨ob, hob⟩ : ∃ ob, ob = w3.heap.size := ⟨_, rfl⟩
  have hx5 : Ext w3 w5 := hw5 ▸ (Ext.refl w3).alloc _
  have hb5 : Blk w5 ob #[.slice na g.1.length nc, .slice ra g.2.length rc] 25 := by rw [hw5, hob]; exact Blk.new w3 _ _
  have hG5 := hG3.ext' hx5
  obtain ⟨gb, ya, yc, hgb, hgx, hgc, hgo, hg8⟩ := rowAt hG5 hth
  obtain ⟨u2, uc2, hsl, hto⟩ := own_take uI szI hgo (k := m) (by rw [HQ.out.2.2]; omega)
  have hylen := (Row.of_own (b := 8) hgo hg8 (by omega)).len uI
  have hml : ((rowOf g th).take m).length = m := by rw [List.length_take, HQ.out.2.2]; omega
  rw [← List.map_take] at hto
  obtain ⟨gb', y, hgb', _, hyc, hyf, hG6⟩ := hG5.setRow hth (u := .slice u2 m uc2) (r := (rowOf g th).take m) (by rw [hml]; exact hto) (by rw [hml]; have := HQ.out.2.2; omega)
  obtain rfl : gb = gb' := by rw [hgb] at hgb'; exact Option.some.inj hgb'
  have hpop : (g.1, g.2.set th ((rowOf g th).take m)) = popG g th := by unfold popG; rw [List.dropLast_eq_take, HQ.out.2.2]; rfl
  rw [hpop] at hG6
  rw [HQ.out.2.2] at hgc hsl hylen
  rw [HQ.out.1] at hsl
  rw [HQ.out.2.1] at hylen
  have hgl : gb < ob ∧ w4.heap.size ≤ gb := ⟨by rw [hob]; exact (hG3.rw.lt gb hgb).2, hra gb hgb⟩
  have o1' : w5.cell? ⟨ob, 1, none⟩ = some (.slice ra g.2.length rc) := hb5.cell (i := 1) rfl
  have hS0 : w5.drew.cell? ⟨ob, 1, none⟩ = some (.slice ra g.2.length rc) ∧ w5.drew.cell? ⟨gb, th, none⟩ = some (.slice ya (m + 1) yc) := ⟨o1', hgc⟩
  have HG6 := Lib.hid hG6
  have HX5 := Lib.hid (hx3.trans hx5)
  have HB5 := Lib.hid (And.intro hb5 hgl)
  clear hG3 hG5 hG6 hgo hg8 hto hml hpop hna hra hgb hgb' hgl hb5 hx3 hx5 o1'
  go_wp2_with fail
  rw [← hw5, ← hob]
  clear hw5 hob
  refine wp_region_noPanic ?_
  refine Rt.begin_ (fun W : World => W.cell? ⟨ob, 1, none⟩ = some (.slice ra g.2.length rc) ∧ W.cell? ⟨gb, th, none⟩ = some (.slice ya (m + 1) yc)) (fun i => i == 17) (by kernel_rfl) ?_
  simp only [List.length_cons, List.length_nil, Nat.reduceAdd, Array.replicate_succ, Array.replicate_zero]
  refine Rt.takeW 0 (v := ?_) rfl (by kernel_rfl) (fun _ _ _ h => h) rfl ?_ ?_
  rotate_left
  · (intro W; go_simp; try with_reducible rfl)
  try simp only [Act.put, List.setIfInBounds_toArray, List.set_cons_zero, List.set_cons_succ]
  refine Rt.take 1 (v := ?_) rfl (by kernel_rfl) (fun _ _ _ h => h) rfl ?_ hS0 ?_
  rotate_left
  · (intro W hSW; (try dsimp only at hSW); go_simp; try with_reducible rfl)
  try simp only [Act.put, List.setIfInBounds_toArray, List.set_cons_zero, List.set_cons_succ]
  refine Rt.takeW 2 (v := ?_) rfl (by kernel_rfl) (fun _ _ _ h => h) rfl ?_ ?_
  rotate_left
  · (intro W; go_simp; try with_reducible rfl)
  try simp only [Act.put, List.setIfInBounds_toArray, List.set_cons_zero, List.set_cons_succ]
  refine Rt.takeW 3 (v := ?_) rfl (by kernel_rfl) (fun _ _ _ h => h) rfl ?_ ?_
  rotate_left
  · (intro W; go_simp; try with_reducible rfl)
  try simp only [Act.put, List.setIfInBounds_toArray, List.set_cons_zero, List.set_cons_succ]
  refine Rt.take 4 (v := ?_) rfl (by kernel_rfl) (fun _ _ _ h => h) rfl ?_ hS0 ?_
  rotate_left
  · (intro W hSW; (try dsimp only at hSW); go_simp; try with_reducible rfl)
  try simp only [Act.put, List.setIfInBounds_toArray, List.set_cons_zero, List.set_cons_succ]
  refine Rt.takeW 5 (v := ?_) rfl (by kernel_rfl) (fun _ _ _ h => h) rfl ?_ ?_
  rotate_left
  · (intro W; go_simp; try with_reducible rfl)
  try simp only [Act.put, List.setIfInBounds_toArray, List.set_cons_zero, List.set_cons_succ]
  refine Rt.takeW 6 (v := ?_) rfl (by kernel_rfl) (fun _ _ _ h => h) rfl ?_ ?_
  rotate_left
  · (intro W; go_simp; try with_reducible rfl)
  try simp only [Act.put, List.setIfInBounds_toArray, List.set_cons_zero, List.set_cons_succ]
  refine Rt.take 7 (v := ?_) rfl (by kernel_rfl) (fun _ _ _ h => h) rfl ?_ hS0 ?_
  rotate_left
  · (intro W hSW; (try dsimp only at hSW); go_simp; try with_reducible rfl)
  try simp only [Act.put, List.setIfInBounds_toArray, List.set_cons_zero, List.set_cons_succ]
  refine Rt.takeW 8 (v := ?_) rfl (by kernel_rfl) (fun _ _ _ h => h) rfl ?_ ?_
  rotate_left
  · (intro W; go_simp; try with_reducible rfl)
  try simp only [Act.put, List.setIfInBounds_toArray, List.set_cons_zero, List.set_cons_succ]
  refine Rt.take 9 (v := ?_) rfl (by kernel_rfl) (fun _ _ _ h => h) rfl ?_ hS0 ?_
  rotate_left
  · (intro W hSW; (try dsimp only at hSW); go_simp; try with_reducible rfl)
  try simp only [Act.put, List.setIfInBounds_toArray, List.set_cons_zero, List.set_cons_succ]
  refine Rt.takeW 10 (v := ?_) rfl (by kernel_rfl) (fun _ _ _ h => h) rfl ?_ ?_
  rotate_left
  · (intro W; go_simp; try with_reducible rfl)
  try simp only [Act.put, List.setIfInBounds_toArray, List.set_cons_zero, List.set_cons_succ]
  refine Rt.takeW 11 (v := ?_) rfl (by kernel_rfl) (fun _ _ _ h => h) rfl ?_ ?_
  rotate_left
  · (intro W; go_simp; try with_reducible rfl)
  try simp only [Act.put, List.setIfInBounds_toArray, List.set_cons_zero, List.set_cons_succ]
  refine Rt.take 12 (v := ?_) rfl (by kernel_rfl) (fun _ _ _ h => h) rfl ?_ hS0 ?_
  rotate_left
  · (intro W hSW; (try dsimp only at hSW); go_simp; try with_reducible rfl)
  try simp only [Act.put, List.setIfInBounds_toArray, List.set_cons_zero, List.set_cons_succ]
  refine Rt.takeW 13 (v := ?_) rfl (by kernel_rfl) (fun _ _ _ h => h) rfl ?_ ?_
  rotate_left
  · (intro W; go_simp; try with_reducible rfl)
  try simp only [Act.put, List.setIfInBounds_toArray, List.set_cons_zero, List.set_cons_succ]
  refine Rt.takeW 14 (v := ?_) rfl (by kernel_rfl) (fun _ _ _ h => h) rfl ?_ ?_
  rotate_left
  · (intro W; go_simp; try with_reducible rfl)
  try simp only [Act.put, List.setIfInBounds_toArray, List.set_cons_zero, List.set_cons_succ]
  refine Rt.takeW 15 (v := ?_) rfl (by kernel_rfl) (fun _ _ _ h => h) rfl ?_ ?_
  rotate_left
  · (intro W; go_simp; try with_reducible rfl)
  try simp only [Act.put, List.setIfInBounds_toArray, List.set_cons_zero, List.set_cons_succ]
  refine Rt.takeW 16 (v := ?_) rfl (by kernel_rfl) (fun _ _ _ h => h) rfl ?_ ?_
  rotate_left
  · (intro W; go_simp; try with_reducible rfl)
  try simp only [Act.put, List.setIfInBounds_toArray, List.set_cons_zero, List.set_cons_succ]
  refine Rt.step 17 rfl (by kernel_rfl) rfl (fun K hK => ?_)
  go_simp
  refine hK _ _ ⟨.inl rfl, ?_⟩
  clear hK K
  try simp only [Act.put, List.setIfInBounds_toArray, List.set_cons_zero, List.set_cons_succ]
  refine Rt.done (by kernel_rfl) ?_
  refine NoPanic.normal ?_
  obtain ⟨w8, hw8⟩ : ∃ w8, w8 = (w5.setCell ⟨gb, th, none⟩ (.slice u2 m uc2)).drew := ⟨_, rfl⟩
  rw [← hw8]
  have hgl := HB5.out.2
  have hG8 : GrO w w4.heap.size (.slice na g.1.length nc) (.slice ra g.2.length rc) (popG g th) w8 := by rw [hw8]; exact HG6.out.ext' ((Ext.refl _).drew)
  have hbk : Blk w8 ob #[.slice na g.1.length nc, .slice ra g.2.length rc] 25 := by rw [hw8]; exact (HB5.out.1.other (p := ⟨gb, th, none⟩) (by show ob ≠ gb; omega) _).ext ((Ext.refl _).drew)
  have hx8 : Ext w4 w8 := by rw [hw8]; exact (HX5.out.setCell (p := ⟨gb, th, none⟩) hgl.2 _).drew
  have n0 : w8.cell? ⟨ob, 0, none⟩ = some (.slice na g.1.length nc) := hbk.cell (i := 0) rfl
  have n1 : w8.cell? ⟨ob, 1, none⟩ = some (.slice ra g.2.length rc) := hbk.cell (i := 1) rfl
  clear hw8 hS0 hgc hyc hyf hbk hgl
  obtain ⟨g0, g1, o0, o1, o2, o3, o4, o5, o6, o7, r0, r1, s0, s1, s2, f0, f1, f2, f3, f4⟩ := (HBX.out.ext hx8).cells
  try dsimp only at o0 o1 o2 o3 o4 o5 o6 o7
  obtain ⟨W8, hW8⟩ : ∃ W8, W8 = ((((w8.setCell ⟨B + 2, 0, none⟩ (.slice na g.1.length nc)).setCell ⟨B + 2, 1, none⟩ (.slice ra g.2.length rc)).setCell ⟨B + 3, 0, none⟩ (.int .i64 (0))).setCell ⟨B + 3, 1, none⟩ (.int .u64 (0))).setCell ⟨B + 3, 2, none⟩ (.bool (false)) := ⟨_, rfl⟩
  obtain ⟨q0, q1, q2, q3, q4, hGr, hXr⟩ := fin HBB.out (HBX.out.ext hx8) (HX4.out.trans hx8) (sb_gro HBB.out hG8 (by have := HS4.out; omega)) W8 hW8
  have HF := Lib.hid (And.intro hGr hXr)
  clear hGr hXr
  go_wp2_with fail
  rw [← hW8]
  clear hW8
  exact bodyPost_ret (v := .tuple #[.agg #[.slice na g.1.length nc, .slice ra g.2.length rc], .agg #[.int .i64 (0), .int .u64 (0), .bool (false)]]) (by simp [results, Try.results20, go_sem, q0, q1, q2, q3, q4]) rfl ⟨_, _, rfl, HF.out⟩

end Go.Proofs.Ytjhmlbhfnogdiaa.Ds

namespace Go.Proofs.Ytjhmlbhfnogdiaa.Du
open Go.RowKit
open Go.Proofs.Ytjhmlbhfnogdiaa Go.Proofs.Ytjhmlbhfnogdiaa.Hd Go.Proofs.Ytjhmlbhfnogdiaa.Gr Go.Proofs.Ytjhmlbhfnogdiaa.Hg Go.Proofs.Ytjhmlbhfnogdiaa.Ps Go.Proofs.Ytjhmlbhfnogdiaa.Rr Go.Proofs.Ytjhmlbhfnogdiaa.Wk Go.Proofs.Ytjhmlbhfnogdiaa.Wp Go.Proofs.Ytjhmlbhfnogdiaa.Wa Go.Proofs.Ytjhmlbhfnogdiaa.Wc Go.Proofs.Ytjhmlbhfnogdiaa.Wf Go.Proofs.Ytjhmlbhfnogdiaa.Pl Go.Proofs.Ytjhmlbhfnogdiaa.Vf Go.Proofs.Ytjhmlbhfnogdiaa.Co Go.Proofs.Ytjhmlbhfnogdiaa.Ro Go.Proofs.Ytjhmlbhfnogdiaa.Cy Go.Proofs.Ytjhmlbhfnogdiaa.Pv Go.Proofs.Ytjhmlbhfnogdiaa.Dh Go.Proofs.Ytjhmlbhfnogdiaa.Db
set_option linter.unusedVariables false

set_option maxRecDepth 100000 in
set_option maxHeartbeats 8000000 in
theorem rdo_1 (a b : Value) (g : Gph) (th : Nat) (hh i kk v : Int) (x : Hd) (w : World) (h : Gr w a b g) (hth : th < g.2.length) (hr : rightG g = true) (hp : posG g) (hn : g.1.length ≤ 100) (hm : g.2.length ≤ 1048576) (hv0 : 0 ≤ v) (hv1 : v ≤ 18446744073709551615) (hx0 : 0 ≤ x.2.2) (hu : ∀ n ∈ g.1, ∀ y ∈ n.2, y ≤ 18446744073709551615) :
    Calls Try.prog 20 #[.agg #[a, b], .int .i64 th, opv ⟨1, hh, i, kk, v, x⟩] w fun e w' => ∃ a' b', e = .returned (.tuple #[.agg #[a', b'], anv (doA g (th : Int) ⟨1, hh, i, kk, v, x⟩)]) ∧ Gr w' a' b' (doG g (th : Int) ⟨1, hh, i, kk, v, x⟩) ∧ Ext w w' := by
  obtain ⟨a0, c0, rfl⟩ := h.1.form
  obtain ⟨b0, d0, rfl⟩ := Gr.Ma.form h.2
  obtain ⟨B, hB⟩ : ∃ B, B = w.heap.size := ⟨_, rfl⟩
  obtain ⟨w4, hw4⟩ : ∃ w4, w4 = (((w.alloc (.cells #[.slice a0 g.1.length c0, .slice b0 g.2.length d0] 25)).alloc (.cells #[.int .i64 (1 : Int), .int .i64 hh, .int .i64 i, .int .i64 kk, .int .u64 v, .int .i64 x.1, .int .i64 x.2.1, .int .u64 x.2.2] 30)).alloc (.cells #[.slice none 0 0, .slice none 0 0] 25)).alloc (.cells #[.int .i64 0, .int .u64 0, .bool false] 35) := ⟨_, rfl⟩
  obtain ⟨hbx, hx4, hs4⟩ := bx_start (o := ⟨1, hh, i, kk, v, x⟩) hB hw4
  have HBX := Lib.hid hbx
  have HX4 := Lib.hid hx4
  have HS4 := Lib.hid hs4
  have HBB := Lib.hid hB
  have HG := Lib.hid h
  have hsm := h.2.small
  have hlen := h.2.len uS
  try dsimp only at hw4
  clear hbx hx4 hs4
  have t1 : decide ((th : Int) < 0) = false := decide_eq_false (by omega)
  have t2 : decide ((g.2.length : Int) ≤ (th : Int)) = false := decide_eq_false (by omega)
  have hact : act g th ⟨1, hh, i, kk, v, x⟩ = actAlloc g th ⟨1, hh, i, kk, v, x⟩ := by unfold act; simp
  have HRt := Lib.hid (rright_any x.1 x.2.1 x.2.2 hx0 w4)
  obtain ⟨E, hE⟩ : ∃ E, rightE x.1 x.2.1 x.2.2 = E := ⟨_, rfl⟩
  rw [hE] at HRt
  by_cases hz : E = 0
  case neg =>
    have ho : isObj x = false := by unfold isObj; rw [hE]; simp [hz]
    have hz0 : (E == 0) = false := by simpa using hz
    have hd := of_err (e := 1) hth (hact.trans (by unfold actAlloc; rw [if_pos ho]))
    rw [hd.1, hd.2]
    clear hd hact ho hE hz
    unfold opv anv
    clear h
    go_enter Try.func20, Try.ntmps20
    go_wp2_with fail
    rw [← hw4, ← hB]
    clear hw4 hB
    try rw [show B + 1 + 1 + 1 = B + 3 from rfl]
    try rw [show B + 1 + 1 = B + 2 from rfl]
    refine HRt.out.mono ?_; rintro r w5 ⟨rfl, hx5⟩
    obtain ⟨g0, g1, o0, o1, o2, o3, o4, o5, o6, o7, r0, r1, s0, s1, s2, f0, f1, f2, f3, f4⟩ := (HBX.out.ext hx5).cells
    try dsimp only at o0 o1 o2 o3 o4 o5 o6 o7
    go_wp2_with fail
    refine (rno_any _ _ g (1) w5 (HG.out.ext (HX4.out.trans hx5))).mono ?_; rintro r w6 ⟨rfl, hxn⟩
    unfold anv
    have hx9 := (hx5).trans hxn
    clear hxn
    clear g0 g1 o0 o1 o2 o3 o4 o5 o6 o7 r0 r1 s0 s1 s2 f0 f1 f2 f3 f4
    obtain ⟨g0, g1, o0, o1, o2, o3, o4, o5, o6, o7, r0, r1, s0, s1, s2, f0, f1, f2, f3, f4⟩ := (HBX.out.ext hx9).cells
    try dsimp only at o0 o1 o2 o3 o4 o5 o6 o7
    obtain ⟨W8, hW8⟩ : ∃ W8, W8 = ((((w6.setCell ⟨B + 2, 0, none⟩ (.slice a0 g.1.length c0)).setCell ⟨B + 2, 1, none⟩ (.slice b0 g.2.length d0)).setCell ⟨B + 3, 0, none⟩ (.int .i64 (1))).setCell ⟨B + 3, 1, none⟩ (.int .u64 (0))).setCell ⟨B + 3, 2, none⟩ (.bool (false)) := ⟨_, rfl⟩
    obtain ⟨q0, q1, q2, q3, q4, hGr, hXr⟩ := fin HBB.out (HBX.out.ext hx9) (HX4.out.trans hx9) (sb_old HBB.out HG.out (HX4.out.trans hx9)) W8 hW8
    have HF := Lib.hid (And.intro hGr hXr)
    clear hGr hXr
    go_wp2_with fail
    rw [← hW8]
    clear hW8
    exact bodyPost_ret (v := .tuple #[.agg #[.slice a0 g.1.length c0, .slice b0 g.2.length d0], .agg #[.int .i64 (1), .int .u64 (0), .bool (false)]]) (by simp [results, Try.results20, go_sem, q0, q1, q2, q3, q4]) rfl ⟨_, _, rfl, HF.out⟩
  subst hz
  by_cases ht : x.1 = 255
  case pos =>
    have ho : isObj x = false := by unfold isObj; rw [ht]; simp
    have ht0 : (x.1 == 255) = true := by rw [ht]; rfl
    have hd := of_err (e := 1) hth (hact.trans (by unfold actAlloc; rw [if_pos ho]))
    rw [hd.1, hd.2]
    clear hd hact ho hE ht
    unfold opv anv
    clear h
    go_enter Try.func20, Try.ntmps20
    go_wp2_with fail
    rw [← hw4, ← hB]
    clear hw4 hB
    try rw [show B + 1 + 1 + 1 = B + 3 from rfl]
    try rw [show B + 1 + 1 = B + 2 from rfl]
    refine HRt.out.mono ?_; rintro r w5 ⟨rfl, hx5⟩
    obtain ⟨g0, g1, o0, o1, o2, o3, o4, o5, o6, o7, r0, r1, s0, s1, s2, f0, f1, f2, f3, f4⟩ := (HBX.out.ext hx5).cells
    try dsimp only at o0 o1 o2 o3 o4 o5 o6 o7
    go_wp2_with fail
    refine (rno_any _ _ g (1) w5 (HG.out.ext (HX4.out.trans hx5))).mono ?_; rintro r w6 ⟨rfl, hxn⟩
    unfold anv
    have hx9 := (hx5).trans hxn
    clear hxn
    clear g0 g1 o0 o1 o2 o3 o4 o5 o6 o7 r0 r1 s0 s1 s2 f0 f1 f2 f3 f4
    obtain ⟨g0, g1, o0, o1, o2, o3, o4, o5, o6, o7, r0, r1, s0, s1, s2, f0, f1, f2, f3, f4⟩ := (HBX.out.ext hx9).cells
    try dsimp only at o0 o1 o2 o3 o4 o5 o6 o7
    obtain ⟨W8, hW8⟩ : ∃ W8, W8 = ((((w6.setCell ⟨B + 2, 0, none⟩ (.slice a0 g.1.length c0)).setCell ⟨B + 2, 1, none⟩ (.slice b0 g.2.length d0)).setCell ⟨B + 3, 0, none⟩ (.int .i64 (1))).setCell ⟨B + 3, 1, none⟩ (.int .u64 (0))).setCell ⟨B + 3, 2, none⟩ (.bool (false)) := ⟨_, rfl⟩
    obtain ⟨q0, q1, q2, q3, q4, hGr, hXr⟩ := fin HBB.out (HBX.out.ext hx9) (HX4.out.trans hx9) (sb_old HBB.out HG.out (HX4.out.trans hx9)) W8 hW8
    have HF := Lib.hid (And.intro hGr hXr)
    clear hGr hXr
    go_wp2_with fail
    rw [← hW8]
    clear hW8
    exact bodyPost_ret (v := .tuple #[.agg #[.slice a0 g.1.length c0, .slice b0 g.2.length d0], .agg #[.int .i64 (1), .int .u64 (0), .bool (false)]]) (by simp [results, Try.results20, go_sem, q0, q1, q2, q3, q4]) rfl ⟨_, _, rfl, HF.out⟩
  have ho : isObj x = true := by unfold isObj; rw [hE]; simp [ht]
  have ht0 : (x.1 == 255) = false := by simpa using ht
  obtain ⟨xl0, xl1, _⟩ := obj_len ho hx0
  obtain ⟨ln, hln⟩ : ∃ ln : Nat, x.2.1 = (ln : Int) := ⟨x.2.1.toNat, by omega⟩
  have hln16 : ln ≤ 16 := by omega
  have hmk : ∀ u : World, (Instr.makeSlice 65 (.int .i64 x.2.1) (.int .i64 x.2.1)).run Try.prog u = .ok (.slice (some ⟨u.heap.size, 0, none⟩) ln ln) (u.alloc (.cells (madeCells #[.int .u64 0] ln) 26)) := fun u => by rw [hln]; exact mk_any ln (by omega) u
  have HADD : Hid (addG g x = (g.1 ++ [(x, List.replicate ln 0)], g.2)) := by show _ = _; unfold addG; rw [hln, Int.toNat_natCast]
  have hfe : full (addG g x) th = full g th := rfl
  have hal : (addG g x).1.length = g.1.length + 1 := by simp [addG]
  clear hE ht xl0 xl1 hln
  cases hfu : full g th
  case false =>
    have hd := of_ok (G := pushG (addG g x) th ((g.1.length : Int) + 1)) (v := 0) (b := false) hth (hact.trans (by unfold actAlloc; rw [if_neg (by rw [ho]; decide), if_neg (by unfold full at hfu; simpa using hfu)]))
    rw [hd.1, hd.2]
    clear hd hact ho
    rw [hfu] at hfe
    have hre : re (addG g x) th = 0 := by unfold re; rw [hfe]; rfl
    have HRE := Lib.hid hre
    have HFE := Lib.hid hfe
    clear hfu hfe hre
    unfold opv anv
    clear h
    go_enter Try.func20, Try.ntmps20
    go_wp2_with fail
    rw [← hw4, ← hB]
    clear hw4 hB
    try rw [show B + 1 + 1 + 1 = B + 3 from rfl]
    try rw [show B + 1 + 1 = B + 2 from rfl]
    refine HRt.out.mono ?_; rintro r w5 ⟨rfl, hx5⟩
    obtain ⟨g0, g1, o0, o1, o2, o3, o4, o5, o6, o7, r0, r1, s0, s1, s2, f0, f1, f2, f3, f4⟩ := (HBX.out.ext hx5).cells
    try dsimp only at o0 o1 o2 o3 o4 o5 o6 o7
    go_wp2_with fail
    refine (copied_any (.slice a0 g.1.length c0) (.slice b0 g.2.length d0) g w w5 w5.heap.size (GI.of HG.out (HX4.out.trans hx5)) (by omega) hm).mono ?_; rintro r w3 ⟨na, nc, ra, rc, rfl, hG3, hx3, hna, hra⟩
    obtain ⟨w6, hw6⟩ : ∃ w6, w6 = w3.alloc (.cells #[.slice na g.1.length nc, .slice ra g.2.length rc] 25) := ⟨_, rfl⟩
    obtain ⟨kb, hkb⟩ : ∃ kb, kb = w3.heap.size := ⟨_, rfl⟩
    have hx36 : Ext w3 w6 := hw6 ▸ (Ext.refl w3).alloc _
    have hb6 : Blk w6 kb #[.slice na g.1.length nc, .slice ra g.2.length rc] 25 := by rw [hw6, hkb]; exact Blk.new w3 _ _
    have hx6 : Ext w4 w6 := hx5.trans (hx3.trans hx36)
    have hb5 : B + 4 ≤ w5.heap.size := by have := hx5.size; have := HS4.out; omega
    have hkb5 : w5.heap.size ≤ kb := by rw [hkb]; exact hx3.size
    clear g0 g1 o0 o1 o2 o3 o4 o5 o6 o7 r0 r1 s0 s1 s2 f0 f1 f2 f3 f4
    obtain ⟨g0, g1, o0, o1, o2, o3, o4, o5, o6, o7, r0, r1, s0, s1, s2, f0, f1, f2, f3, f4⟩ := (HBX.out.ext hx6).cells
    try dsimp only at o0 o1 o2 o3 o4 o5 o6 o7
    have hxd : Ext w6 w6.drew := (Ext.refl w6).drew
    have hxm : Ext w6.drew (w6.drew.alloc (.cells (madeCells #[.int .u64 0] ln) 26)) := (Ext.refl _).alloc _
    have hown := made_own w6.drew ln (by unfold maxLen; omega)
    have hbw : w5.heap.size ≤ w6.drew.heap.size := Nat.le_trans hx3.size (Nat.le_trans hx36.size hxd.size)
    have hGm := hG3.ext' (hx36.trans (hxd.trans hxm))
    obtain ⟨a7, w7, hrun, ⟨ga, gc, rfl⟩, hch, hG7⟩ := hGm.pushN (by omega) x (f := List.replicate ln 0) (own_le (by rw [List.length_replicate]; exact hown) hbw) (by rw [List.length_replicate]; omega)
    rw [World.size_alloc] at hrun
    have hnk : ¬ (Value.slice na g.1.length nc).ownBlock = some kb := fun e => by
      obtain ⟨ps, _, p2, _⟩ := hG3.nd
      have := (p2.lt kb e).2
      omega
    have hb7 := hch.blk (hb6.ext (hxd.trans hxm)) hnk
    have q7 : w7.cell? ⟨kb, 0, none⟩ = some (.slice na g.1.length nc) := hb7.cell (i := 0) rfl
    have f7 := hb7.free 0
    have hc8 : Ch (fun k => k = kb) w7 (w7.setCell ⟨kb, 0, none⟩ (.slice ga (g.1.length + 1) gc)) := Ch.set _ _ _ _ rfl
    have hG8 := hG7.ch hc8 fun k hk => ⟨by have := HX4.out.size; have := hx5.size; omega, .inr ⟨_, hk ▸ hb7⟩⟩
    rw [← HADD.out] at hG8
    have hb8 := hb7.set 0 (.slice ga (g.1.length + 1) gc)
    have hx7 : Ext w4 w7 := hch.ext (hx6.trans (hxd.trans hxm)) fun k hk => by have := hna k hk; have := hx5.size; omega
    have hx8 : Ext w4 (w7.setCell ⟨kb, 0, none⟩ (.slice ga (g.1.length + 1) gc)) := hx7.setCell (p := ⟨kb, 0, none⟩) (by have := hx5.size; show w4.heap.size ≤ kb; omega) _
    have o0' : w6.cell? ⟨kb, 0, none⟩ = some (.slice na g.1.length nc) := hb6.cell (i := 0) rfl
    have hS0 : w6.drew.cell? ⟨kb, 0, none⟩ = some (.slice na g.1.length nc) ∧ w6.drew.cell? ⟨B + 1, 5, none⟩ = some (.int .i64 x.1) ∧ w6.drew.cell? ⟨B + 1, 6, none⟩ = some (.int .i64 x.2.1) ∧ w6.drew.cell? ⟨B + 1, 7, none⟩ = some (.int .u64 x.2.2) := ⟨o0', o5, o6, o7⟩
    have HSx : Hid (∀ W : World, Ext w6.drew W → W.cell? ⟨kb, 0, none⟩ = some (.slice na g.1.length nc) ∧ W.cell? ⟨B + 1, 5, none⟩ = some (.int .i64 x.1) ∧ W.cell? ⟨B + 1, 6, none⟩ = some (.int .i64 x.2.1) ∧ W.cell? ⟨B + 1, 7, none⟩ = some (.int .u64 x.2.2)) := fun W h => ⟨h.cell o0', h.cell o5, h.cell o6, h.cell o7⟩
    obtain ⟨w8, hw8⟩ : ∃ w8, w8 = w7.setCell ⟨kb, 0, none⟩ (.slice ga (g.1.length + 1) gc) := ⟨_, rfl⟩
    rw [← hw8] at hG8 hb8 hx8
    have hnl8 := hG8.gr.1.len
    have HG8 := Lib.hid hG8
    have HB8 := Lib.hid hb8
    have HX8 := Lib.hid hx8
    have HXM := Lib.hid hxm
    clear hG3 hx3 hna hra hx36 hb6 hx6 hb5 hkb5 hxd hown hbw hGm hch hG7 hnk hb7 hc8 hG8 hb8 hx7 hx8 o0' hxm
    clear g0 g1 o0 o1 o2 o3 o4 o5 o6 o7 r0 r1 s0 s1 s2 f0 f1 f2 f3 f4
    go_wp2_with fail
    rw [← hw6, ← hkb]
    clear hw6 hkb
    refine wp_region_noPanic ?_
    refine Rt.begin_ (fun W : World => W.cell? ⟨kb, 0, none⟩ = some (.slice na g.1.length nc) ∧ W.cell? ⟨B + 1, 5, none⟩ = some (.int .i64 x.1) ∧ W.cell? ⟨B + 1, 6, none⟩ = some (.int .i64 x.2.1) ∧ W.cell? ⟨B + 1, 7, none⟩ = some (.int .u64 x.2.2)) (fun i => i == 10 || i == 12) (by kernel_rfl) ?_
    simp only [List.length_cons, List.length_nil, Nat.reduceAdd, Array.replicate_succ, Array.replicate_zero]
    refine Rt.takeW 0 (v := ?_) rfl (by kernel_rfl) (fun _ _ _ h => h) rfl ?_ ?_
    rotate_left
    · (intro W; go_simp; try with_reducible rfl)
    try simp only [Act.put, List.setIfInBounds_toArray, List.set_cons_zero, List.set_cons_succ]
    refine Rt.take 1 (v := ?_) rfl (by kernel_rfl) (fun _ _ _ h => h) rfl ?_ hS0 ?_
    rotate_left
    · (intro W hSW; (try dsimp only at hSW); go_simp; try with_reducible rfl)
    try simp only [Act.put, List.setIfInBounds_toArray, List.set_cons_zero, List.set_cons_succ]
    refine Rt.takeW 2 (v := ?_) rfl (by kernel_rfl) (fun _ _ _ h => h) rfl ?_ ?_
    rotate_left
    · (intro W; go_simp; try with_reducible rfl)
    try simp only [Act.put, List.setIfInBounds_toArray, List.set_cons_zero, List.set_cons_succ]
    refine Rt.take 3 (v := ?_) rfl (by kernel_rfl) (fun _ _ _ h => h) rfl ?_ hS0 ?_
    rotate_left
    · (intro W hSW; (try dsimp only at hSW); go_simp; try with_reducible rfl)
    try simp only [Act.put, List.setIfInBounds_toArray, List.set_cons_zero, List.set_cons_succ]
    refine Rt.takeW 4 (v := ?_) rfl (by kernel_rfl) (fun _ _ _ h => h) rfl ?_ ?_
    rotate_left
    · (intro W; go_simp; try with_reducible rfl)
    try simp only [Act.put, List.setIfInBounds_toArray, List.set_cons_zero, List.set_cons_succ]
    refine Rt.takeW 5 (v := ?_) rfl (by kernel_rfl) (fun _ _ _ h => h) rfl ?_ ?_
    rotate_left
    · (intro W; go_simp; try with_reducible rfl)
    try simp only [Act.put, List.setIfInBounds_toArray, List.set_cons_zero, List.set_cons_succ]
    refine Rt.take 6 (v := ?_) rfl (by kernel_rfl) (fun _ _ _ h => h) rfl ?_ hS0 ?_
    rotate_left
    · (intro W hSW; (try dsimp only at hSW); go_simp; try with_reducible rfl)
    try simp only [Act.put, List.setIfInBounds_toArray, List.set_cons_zero, List.set_cons_succ]
    refine Rt.step 7 rfl (by kernel_rfl) rfl (fun K hK => ?_)
    go_simp
    refine hK _ _ ⟨.inr fun _ => HSx.out _ HXM.out, ?_⟩
    clear hK K
    try simp only [Act.put, List.setIfInBounds_toArray, List.set_cons_zero, List.set_cons_succ]
    refine Rt.takeW 8 (v := ?_) rfl (by kernel_rfl) (fun _ _ _ h => h) rfl ?_ ?_
    rotate_left
    · (intro W; go_simp; try with_reducible rfl)
    try simp only [Act.put, List.setIfInBounds_toArray, List.set_cons_zero, List.set_cons_succ]
    refine Rt.step 9 rfl (by kernel_rfl) rfl (fun K hK => ?_)
    go_simp
    refine hK _ _ ⟨.inr fun _ => HSx.out _ (HXM.out.alloc _), ?_⟩
    clear hK K
    try simp only [Act.put, List.setIfInBounds_toArray, List.set_cons_zero, List.set_cons_succ]
    refine Rt.step 10 rfl (by kernel_rfl) rfl (fun K hK => ?_)
    with_reducible refine Lib.wp_append_run _ (.tmp 71) (.tmp 79) 22 22 ?_ _ _ ?_ ?_ _ _ hrun ?_
    rfl
    rfl
    rfl
    refine hK _ _ ⟨.inl rfl, ?_⟩
    clear hK K
    try simp only [Act.put, List.setIfInBounds_toArray, List.set_cons_zero, List.set_cons_succ]
    refine Rt.takeW 11 (v := ?_) rfl (by kernel_rfl) (fun _ _ _ h => h) rfl ?_ ?_
    rotate_left
    · (intro W; go_simp; try with_reducible rfl)
    try simp only [Act.put, List.setIfInBounds_toArray, List.set_cons_zero, List.set_cons_succ]
    refine Rt.step 12 rfl (by kernel_rfl) rfl (fun K hK => ?_)
    go_simp
    refine hK _ _ ⟨.inl rfl, ?_⟩
    clear hK K
    try simp only [Act.put, List.setIfInBounds_toArray, List.set_cons_zero, List.set_cons_succ]
    refine Rt.done (by kernel_rfl) ?_
    refine NoPanic.normal ?_
    rw [← hw8]
    clear hw8 hS0 q7 f7 hrun
    have n0 : w8.cell? ⟨kb, 0, none⟩ = some (.slice ga (g.1.length + 1) gc) := HB8.out.cell (i := 0) rfl
    have n1 : w8.cell? ⟨kb, 1, none⟩ = some (.slice ra g.2.length rc) := HB8.out.cell (i := 1) rfl
    rw [hal] at hnl8
    obtain ⟨g0, g1, o0, o1, o2, o3, o4, o5, o6, o7, r0, r1, s0, s1, s2, f0, f1, f2, f3, f4⟩ := (HBX.out.ext HX8.out).cells
    try dsimp only at o0 o1 o2 o3 o4 o5 o6 o7
    have HPu := Lib.hid (rpush_any (.slice ga (g.1.length + 1) gc) (.slice ra g.2.length rc) (addG g x) th ((g.1.length + 1 : Nat) : Int) w w8 w5.heap.size (GI.of_gro HG8.out) hth (by omega) hm)
    obtain ⟨N1, hN1⟩ : ∃ N1, g.1.length + 1 = N1 := ⟨_, rfl⟩
    have HN1 : Hid ((N1 : Int) = (g.1.length : Int) + 1) := by show _ = _; omega
    rw [hN1] at n0 hnl8 HPu ⊢
    clear hN1
    go_wp2_with fail
    refine HPu.out.mono ?_; rintro r w9 ⟨a', b', rfl, hful, hnf, hx9⟩
    rw [HRE.out]
    have hGf := hnf HFE.out
    clear hful hnf
    obtain ⟨aa, al, ac, ba, bl, bc, rfl, rfl⟩ := gr_form hGf.gr
    obtain ⟨w10, hw10⟩ : ∃ w10, w10 = w9.alloc (.cells #[.slice aa al ac, .slice ba bl bc] 25) := ⟨_, rfl⟩
    have hxa : Ext w9 w10 := hw10 ▸ (Ext.refl w9).alloc _
    have hx10 : Ext w4 w10 := HX8.out.trans (hx9.trans hxa)
    clear g0 g1 o0 o1 o2 o3 o4 o5 o6 o7 r0 r1 s0 s1 s2 f0 f1 f2 f3 f4
    obtain ⟨g0, g1, o0, o1, o2, o3, o4, o5, o6, o7, r0, r1, s0, s1, s2, f0, f1, f2, f3, f4⟩ := (HBX.out.ext hx10).cells
    try dsimp only at o0 o1 o2 o3 o4 o5 o6 o7
    have hb5 : B + 4 ≤ w5.heap.size := by have := hx5.size; have := HS4.out; omega
    rw [HN1.out] at hGf
    have hsb := sb_gro HBB.out (hGf.ext' hxa) hb5
    obtain ⟨W8, hW8⟩ : ∃ W8, W8 = ((((w10.setCell ⟨B + 2, 0, none⟩ (.slice aa al ac)).setCell ⟨B + 2, 1, none⟩ (.slice ba bl bc)).setCell ⟨B + 3, 0, none⟩ (.int .i64 (0))).setCell ⟨B + 3, 1, none⟩ (.int .u64 (0))).setCell ⟨B + 3, 2, none⟩ (.bool (false)) := ⟨_, rfl⟩
    obtain ⟨q0, q1, q2, q3, q4, hGr, hXr⟩ := fin HBB.out (HBX.out.ext hx10) (HX4.out.trans hx10) hsb W8 hW8
    have HF := Lib.hid (And.intro hGr hXr)
    clear hGr hXr hsb hx10 hxa hGf hb5
    rw [hw10] at g0 g1 o0 o1 o2 o3 o4 o5 o6 o7 r0 r1 s0 s1 s2 f0 f1 f2 f3 f4 hW8
    clear hw10
    go_wp2_with fail
    rw [← hW8]
    clear hW8
    exact bodyPost_ret (v := .tuple #[.agg #[.slice aa al ac, .slice ba bl bc], .agg #[.int .i64 0, .int .u64 0, .bool false]]) (by simp [results, Try.results20, go_sem, q0, q1, q2, q3, q4]) rfl ⟨_, _, rfl, HF.out⟩
  case true =>
    have hd := of_err (e := 4) hth (hact.trans (by unfold actAlloc; rw [if_neg (by rw [ho]; decide), if_pos (by unfold full at hfu; simpa using hfu)]))
    rw [hd.1, hd.2]
    clear hd hact ho
    rw [hfu] at hfe
    have hre : re (addG g x) th = 4 := by unfold re; rw [hfe]; rfl
    have HRE := Lib.hid hre
    have HFE := Lib.hid hfe
    clear hfu hfe hre
    unfold opv anv
    clear h
    go_enter Try.func20, Try.ntmps20
    go_wp2_with fail
    rw [← hw4, ← hB]
    clear hw4 hB
    try rw [show B + 1 + 1 + 1 = B + 3 from rfl]
    try rw [show B + 1 + 1 = B + 2 from rfl]
    refine HRt.out.mono ?_; rintro r w5 ⟨rfl, hx5⟩
    obtain ⟨g0, g1, o0, o1, o2, o3, o4, o5, o6, o7, r0, r1, s0, s1, s2, f0, f1, f2, f3, f4⟩ := (HBX.out.ext hx5).cells
    try dsimp only at o0 o1 o2 o3 o4 o5 o6 o7
    go_wp2_with fail
    refine (copied_any (.slice a0 g.1.length c0) (.slice b0 g.2.length d0) g w w5 w5.heap.size (GI.of HG.out (HX4.out.trans hx5)) (by omega) hm).mono ?_; rintro r w3 ⟨na, nc, ra, rc, rfl, hG3, hx3, hna, hra⟩
    obtain ⟨w6, hw6⟩ : ∃ w6, w6 = w3.alloc (.cells #[.slice na g.1.length nc, .slice ra g.2.length rc] 25) := ⟨_, rfl⟩
    obtain ⟨kb, hkb⟩ : ∃ kb, kb = w3.heap.size := ⟨_, rfl⟩
    have hx36 : Ext w3 w6 := hw6 ▸ (Ext.refl w3).alloc _
    have hb6 : Blk w6 kb #[.slice na g.1.length nc, .slice ra g.2.length rc] 25 := by rw [hw6, hkb]; exact Blk.new w3 _ _
    have hx6 : Ext w4 w6 := hx5.trans (hx3.trans hx36)
    have hb5 : B + 4 ≤ w5.heap.size := by have := hx5.size; have := HS4.out; omega
    have hkb5 : w5.heap.size ≤ kb := by rw [hkb]; exact hx3.size
    clear g0 g1 o0 o1 o2 o3 o4 o5 o6 o7 r0 r1 s0 s1 s2 f0 f1 f2 f3 f4
    obtain ⟨g0, g1, o0, o1, o2, o3, o4, o5, o6, o7, r0, r1, s0, s1, s2, f0, f1, f2, f3, f4⟩ := (HBX.out.ext hx6).cells
    try dsimp only at o0 o1 o2 o3 o4 o5 o6 o7
    have hxd : Ext w6 w6.drew := (Ext.refl w6).drew
    have hxm : Ext w6.drew (w6.drew.alloc (.cells (madeCells #[.int .u64 0] ln) 26)) := (Ext.refl _).alloc _
    have hown := made_own w6.drew ln (by unfold maxLen; omega)
    have hbw : w5.heap.size ≤ w6.drew.heap.size := Nat.le_trans hx3.size (Nat.le_trans hx36.size hxd.size)
    have hGm := hG3.ext' (hx36.trans (hxd.trans hxm))
    obtain ⟨a7, w7, hrun, ⟨ga, gc, rfl⟩, hch, hG7⟩ := hGm.pushN (by omega) x (f := List.replicate ln 0) (own_le (by rw [List.length_replicate]; exact hown) hbw) (by rw [List.length_replicate]; omega)
    rw [World.size_alloc] at hrun
    have hnk : ¬ (Value.slice na g.1.length nc).ownBlock = some kb := fun e => by
      obtain ⟨ps, _, p2, _⟩ := hG3.nd
      have := (p2.lt kb e).2
      omega
    have hb7 := hch.blk (hb6.ext (hxd.trans hxm)) hnk
    have q7 : w7.cell? ⟨kb, 0, none⟩ = some (.slice na g.1.length nc) := hb7.cell (i := 0) rfl
    have f7 := hb7.free 0
    have hc8 : Ch (fun k => k = kb) w7 (w7.setCell ⟨kb, 0, none⟩ (.slice ga (g.1.length + 1) gc)) := Ch.set _ _ _ _ rfl
    have hG8 := hG7.ch hc8 fun k hk => ⟨by have := HX4.out.size; have := hx5.size; omega, .inr ⟨_, hk ▸ hb7⟩⟩
    rw [← HADD.out] at hG8
    have hb8 := hb7.set 0 (.slice ga (g.1.length + 1) gc)
    have hx7 : Ext w4 w7 := hch.ext (hx6.trans (hxd.trans hxm)) fun k hk => by have := hna k hk; have := hx5.size; omega
    have hx8 : Ext w4 (w7.setCell ⟨kb, 0, none⟩ (.slice ga (g.1.length + 1) gc)) := hx7.setCell (p := ⟨kb, 0, none⟩) (by have := hx5.size; show w4.heap.size ≤ kb; omega) _
    have o0' : w6.cell? ⟨kb, 0, none⟩ = some (.slice na g.1.length nc) := hb6.cell (i := 0) rfl
    have hS0 : w6.drew.cell? ⟨kb, 0, none⟩ = some (.slice na g.1.length nc) ∧ w6.drew.cell? ⟨B + 1, 5, none⟩ = some (.int .i64 x.1) ∧ w6.drew.cell? ⟨B + 1, 6, none⟩ = some (.int .i64 x.2.1) ∧ w6.drew.cell? ⟨B + 1, 7, none⟩ = some (.int .u64 x.2.2) := ⟨o0', o5, o6, o7⟩
    have HSx : Hid (∀ W : World, Ext w6.drew W → W.cell? ⟨kb, 0, none⟩ = some (.slice na g.1.length nc) ∧ W.cell? ⟨B + 1, 5, none⟩ = some (.int .i64 x.1) ∧ W.cell? ⟨B + 1, 6, none⟩ = some (.int .i64 x.2.1) ∧ W.cell? ⟨B + 1, 7, none⟩ = some (.int .u64 x.2.2)) := fun W h => ⟨h.cell o0', h.cell o5, h.cell o6, h.cell o7⟩
    obtain ⟨w8, hw8⟩ : ∃ w8, w8 = w7.setCell ⟨kb, 0, none⟩ (.slice ga (g.1.length + 1) gc) := ⟨_, rfl⟩
    rw [← hw8] at hG8 hb8 hx8
    have hnl8 := hG8.gr.1.len
    have HG8 := Lib.hid hG8
    have HB8 := Lib.hid hb8
    have HX8 := Lib.hid hx8
    have HXM := Lib.hid hxm
    clear hG3 hx3 hna hra hx36 hb6 hx6 hb5 hkb5 hxd hown hbw hGm hch hG7 hnk hb7 hc8 hG8 hb8 hx7 hx8 o0' hxm
    clear g0 g1 o0 o1 o2 o3 o4 o5 o6 o7 r0 r1 s0 s1 s2 f0 f1 f2 f3 f4
    go_wp2_with fail
    rw [← hw6, ← hkb]
    clear hw6 hkb
    refine wp_region_noPanic ?_
    refine Rt.begin_ (fun W : World => W.cell? ⟨kb, 0, none⟩ = some (.slice na g.1.length nc) ∧ W.cell? ⟨B + 1, 5, none⟩ = some (.int .i64 x.1) ∧ W.cell? ⟨B + 1, 6, none⟩ = some (.int .i64 x.2.1) ∧ W.cell? ⟨B + 1, 7, none⟩ = some (.int .u64 x.2.2)) (fun i => i == 10 || i == 12) (by kernel_rfl) ?_
    simp only [List.length_cons, List.length_nil, Nat.reduceAdd, Array.replicate_succ, Array.replicate_zero]
    refine Rt.takeW 0 (v := ?_) rfl (by kernel_rfl) (fun _ _ _ h => h) rfl ?_ ?_
    rotate_left
    · (intro W; go_simp; try with_reducible rfl)
    try simp only [Act.put, List.setIfInBounds_toArray, List.set_cons_zero, List.set_cons_succ]
    refine Rt.take 1 (v := ?_) rfl (by kernel_rfl) (fun _ _ _ h => h) rfl ?_ hS0 ?_
    rotate_left
    · (intro W hSW; (try dsimp only at hSW); go_simp; try with_reducible rfl)
    try simp only [Act.put, List.setIfInBounds_toArray, List.set_cons_zero, List.set_cons_succ]
    refine Rt.takeW 2 (v := ?_) rfl (by kernel_rfl) (fun _ _ _ h => h) rfl ?_ ?_
    rotate_left
    · (intro W; go_simp; try with_reducible rfl)
    try simp only [Act.put, List.setIfInBounds_toArray, List.set_cons_zero, List.set_cons_succ]
    refine Rt.take 3 (v := ?_) rfl (by kernel_rfl) (fun _ _ _ h => h) rfl ?_ hS0 ?_
    rotate_left
    · (intro W hSW; (try dsimp only at hSW); go_simp; try with_reducible rfl)
    try simp only [Act.put, List.setIfInBounds_toArray, List.set_cons_zero, List.set_cons_succ]
    refine Rt.takeW 4 (v := ?_) rfl (by kernel_rfl) (fun _ _ _ h => h) rfl ?_ ?_
    rotate_left
    · (intro W; go_simp; try with_reducible rfl)
    try simp only [Act.put, List.setIfInBounds_toArray, List.set_cons_zero, List.set_cons_succ]
    refine Rt.takeW 5 (v := ?_) rfl (by kernel_rfl) (fun _ _ _ h => h) rfl ?_ ?_
    rotate_left
    · (intro W; go_simp; try with_reducible rfl)
    try simp only [Act.put, List.setIfInBounds_toArray, List.set_cons_zero, List.set_cons_succ]
    refine Rt.take 6 (v := ?_) rfl (by kernel_rfl) (fun _ _ _ h => h) rfl ?_ hS0 ?_
    rotate_left
    · (intro W hSW; (try dsimp only at hSW); go_simp; try with_reducible rfl)
    try simp only [Act.put, List.setIfInBounds_toArray, List.set_cons_zero, List.set_cons_succ]
    refine Rt.step 7 rfl (by kernel_rfl) rfl (fun K hK => ?_)
    go_simp
    refine hK _ _ ⟨.inr fun _ => HSx.out _ HXM.out, ?_⟩
    clear hK K
    try simp only [Act.put, List.setIfInBounds_toArray, List.set_cons_zero, List.set_cons_succ]
    refine Rt.takeW 8 (v := ?_) rfl (by kernel_rfl) (fun _ _ _ h => h) rfl ?_ ?_
    rotate_left
    · (intro W; go_simp; try with_reducible rfl)
    try simp only [Act.put, List.setIfInBounds_toArray, List.set_cons_zero, List.set_cons_succ]
    refine Rt.step 9 rfl (by kernel_rfl) rfl (fun K hK => ?_)
    go_simp
    refine hK _ _ ⟨.inr fun _ => HSx.out _ (HXM.out.alloc _), ?_⟩
    clear hK K
    try simp only [Act.put, List.setIfInBounds_toArray, List.set_cons_zero, List.set_cons_succ]
    refine Rt.step 10 rfl (by kernel_rfl) rfl (fun K hK => ?_)
    with_reducible refine Lib.wp_append_run _ (.tmp 71) (.tmp 79) 22 22 ?_ _ _ ?_ ?_ _ _ hrun ?_
    rfl
    rfl
    rfl
    refine hK _ _ ⟨.inl rfl, ?_⟩
    clear hK K
    try simp only [Act.put, List.setIfInBounds_toArray, List.set_cons_zero, List.set_cons_succ]
    refine Rt.takeW 11 (v := ?_) rfl (by kernel_rfl) (fun _ _ _ h => h) rfl ?_ ?_
    rotate_left
    · (intro W; go_simp; try with_reducible rfl)
    try simp only [Act.put, List.setIfInBounds_toArray, List.set_cons_zero, List.set_cons_succ]
    refine Rt.step 12 rfl (by kernel_rfl) rfl (fun K hK => ?_)
    go_simp
    refine hK _ _ ⟨.inl rfl, ?_⟩
    clear hK K
    try simp only [Act.put, List.setIfInBounds_toArray, List.set_cons_zero, List.set_cons_succ]
    refine Rt.done (by kernel_rfl) ?_
    refine NoPanic.normal ?_
    rw [← hw8]
    clear hw8 hS0 q7 f7 hrun
    have n0 : w8.cell? ⟨kb, 0, none⟩ = some (.slice ga (g.1.length + 1) gc) := HB8.out.cell (i := 0) rfl
    have n1 : w8.cell? ⟨kb, 1, none⟩ = some (.slice ra g.2.length rc) := HB8.out.cell (i := 1) rfl
    rw [hal] at hnl8
    obtain ⟨g0, g1, o0, o1, o2, o3, o4, o5, o6, o7, r0, r1, s0, s1, s2, f0, f1, f2, f3, f4⟩ := (HBX.out.ext HX8.out).cells
    try dsimp only at o0 o1 o2 o3 o4 o5 o6 o7
    have HPu := Lib.hid (rpush_any (.slice ga (g.1.length + 1) gc) (.slice ra g.2.length rc) (addG g x) th ((g.1.length + 1 : Nat) : Int) w w8 w5.heap.size (GI.of_gro HG8.out) hth (by omega) hm)
    obtain ⟨N1, hN1⟩ : ∃ N1, g.1.length + 1 = N1 := ⟨_, rfl⟩
    have HN1 : Hid ((N1 : Int) = (g.1.length : Int) + 1) := by show _ = _; omega
    rw [hN1] at n0 hnl8 HPu ⊢
    clear hN1
    go_wp2_with fail
    refine HPu.out.mono ?_; rintro r w9 ⟨a', b', rfl, hful, hnf, hx9⟩
    rw [HRE.out]
    obtain ⟨rfl, rfl⟩ := hful HFE.out
    clear hful hnf
    obtain ⟨w10, hw10⟩ : ∃ w10, w10 = w9.alloc (.cells #[.slice ga N1 gc, .slice ra g.2.length rc] 25) := ⟨_, rfl⟩
    have hxa : Ext w9 w10 := hw10 ▸ (Ext.refl w9).alloc _
    have hx10 : Ext w4 w10 := HX8.out.trans (hx9.trans hxa)
    clear g0 g1 o0 o1 o2 o3 o4 o5 o6 o7 r0 r1 s0 s1 s2 f0 f1 f2 f3 f4
    obtain ⟨g0, g1, o0, o1, o2, o3, o4, o5, o6, o7, r0, r1, s0, s1, s2, f0, f1, f2, f3, f4⟩ := (HBX.out.ext hx10).cells
    try dsimp only at o0 o1 o2 o3 o4 o5 o6 o7
    rw [hw10] at g0 g1 o0 o1 o2 o3 o4 o5 o6 o7 r0 r1 s0 s1 s2 f0 f1 f2 f3 f4
    go_wp2_with fail
    rw [← hw10]
    rw [← hw10] at g0 g1 o0 o1 o2 o3 o4 o5 o6 o7 r0 r1 s0 s1 s2 f0 f1 f2 f3 f4
    clear hw10
    refine (rno_any _ _ g (4) w10 (HG.out.ext (HX4.out.trans hx10))).mono ?_; rintro r w11 ⟨rfl, hxn⟩
    unfold anv
    have hx9 := (hx10).trans hxn
    clear hxn
    clear g0 g1 o0 o1 o2 o3 o4 o5 o6 o7 r0 r1 s0 s1 s2 f0 f1 f2 f3 f4
    obtain ⟨g0, g1, o0, o1, o2, o3, o4, o5, o6, o7, r0, r1, s0, s1, s2, f0, f1, f2, f3, f4⟩ := (HBX.out.ext hx9).cells
    try dsimp only at o0 o1 o2 o3 o4 o5 o6 o7
    obtain ⟨W8, hW8⟩ : ∃ W8, W8 = ((((w11.setCell ⟨B + 2, 0, none⟩ (.slice a0 g.1.length c0)).setCell ⟨B + 2, 1, none⟩ (.slice b0 g.2.length d0)).setCell ⟨B + 3, 0, none⟩ (.int .i64 (4))).setCell ⟨B + 3, 1, none⟩ (.int .u64 (0))).setCell ⟨B + 3, 2, none⟩ (.bool (false)) := ⟨_, rfl⟩
    obtain ⟨q0, q1, q2, q3, q4, hGr, hXr⟩ := fin HBB.out (HBX.out.ext hx9) (HX4.out.trans hx9) (sb_old HBB.out HG.out (HX4.out.trans hx9)) W8 hW8
    have HF := Lib.hid (And.intro hGr hXr)
    clear hGr hXr
    go_wp2_with fail
    rw [← hW8]
    clear hW8
    exact bodyPost_ret (v := .tuple #[.agg #[.slice a0 g.1.length c0, .slice b0 g.2.length d0], .agg #[.int .i64 (4), .int .u64 (0), .bool (false)]]) (by simp [results, Try.results20, go_sem, q0, q1, q2, q3, q4]) rfl ⟨_, _, rfl, HF.out⟩

end Go.Proofs.Ytjhmlbhfnogdiaa.Du

namespace Go.Proofs.Ytjhmlbhfnogdiaa.Dj
open Go.RowKit
open Go.Proofs.Ytjhmlbhfnogdiaa Go.Proofs.Ytjhmlbhfnogdiaa.Hd Go.Proofs.Ytjhmlbhfnogdiaa.Gr Go.Proofs.Ytjhmlbhfnogdiaa.Hg Go.Proofs.Ytjhmlbhfnogdiaa.Rr Go.Proofs.Ytjhmlbhfnogdiaa.Wk Go.Proofs.Ytjhmlbhfnogdiaa.Wc Go.Proofs.Ytjhmlbhfnogdiaa.Wf
set_option linter.unusedVariables false

theorem rdo_any (a b : Value) (g : Gph) (th : Int) (o : Opn) (w : World) (h : Gr w a b g) (hr : rightG g = true) (hp : posG g) (hn : g.1.length ≤ 100) (hm : g.2.length ≤ 1048576) (hv0 : 0 ≤ o.v) (hv1 : o.v ≤ 18446744073709551615) (hx0 : 0 ≤ o.new.2.2) (hu : ∀ n ∈ g.1, ∀ y ∈ n.2, y ≤ 18446744073709551615) :
    Calls Try.prog 20 #[.agg #[a, b], .int .i64 th, opv o] w fun e w' => ∃ a' b', e = .returned (.tuple #[.agg #[a', b'], anv (doA g th o)]) ∧ Gr w' a' b' (doG g th o) ∧ Ext w w' := by
  obtain ⟨kind, hh, i, kk, v, x⟩ := o
  dsimp only at hv0 hv1 hx0
  by_cases hbad : th < 0 ∨ (g.2.length : Int) ≤ th ∨ kind < 1 ∨ 11 < kind
  · exact Do.rdo_bad a b g th kind hh i kk v x w h hr hp hn hm hv0 hv1 hx0 hu hbad
  · obtain ⟨t, rfl⟩ : ∃ t : Nat, th = (t : Int) := ⟨th.toNat, by omega⟩
    have hth : t < g.2.length := by omega
    have hk : kind = 1 ∨ kind = 2 ∨ kind = 3 ∨ kind = 4 ∨ kind = 5 ∨ kind = 6 ∨ kind = 7 ∨ kind = 8 ∨ kind = 9 ∨ kind = 10 ∨ kind = 11 := by omega
    rcases hk with rfl | rfl | rfl | rfl | rfl | rfl | rfl | rfl | rfl | rfl | rfl
    · exact Du.rdo_1 a b g t hh i kk v x w h hth hr hp hn hm hv0 hv1 hx0 hu
    · exact Do.rdo_2 a b g t hh i kk v x w h hth hr hp hn hm hv0 hv1 hx0 hu
    · exact Dp.rdo_3 a b g t hh i kk v x w h hth hr hp hn hm hv0 hv1 hx0 hu
    · exact Do.rdo_4 a b g t hh i kk v x w h hth hr hp hn hm hv0 hv1 hx0 hu
    · exact Dq.rdo_5 a b g t hh i kk v x w h hth hr hp hn hm hv0 hv1 hx0 hu
    · exact Do.rdo_6 a b g t hh i kk v x w h hth hr hp hn hm hv0 hv1 hx0 hu
    · exact Do.rdo_7 a b g t hh i kk v x w h hth hr hp hn hm hv0 hv1 hx0 hu
    · exact Dq.rdo_8 a b g t hh i kk v x w h hth hr hp hn hm hv0 hv1 hx0 hu
    · exact Dq.rdo_9 a b g t hh i kk v x w h hth hr hp hn hm hv0 hv1 hx0 hu
    · exact Ds.rdo_10 a b g t hh i kk v x w h hth hr hp hn hm hv0 hv1 hx0 hu
    · exact Dq.rdo_11 a b g t hh i kk v x w h hth hr hp hn hm hv0 hv1 hx0 hu
end Go.Proofs.Ytjhmlbhfnogdiaa.Dj
