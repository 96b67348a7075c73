/- The reference's Do: pointers, links, handles. -/
import Derived.Test.YtjhmlbhfnogdiaaEa
namespace Go.Proofs.Ytjhmlbhfnogdiaa.Dp
open Go.RowKit
open Go.Proofs.Ytjhmlbhfnogdiaa Go.Proofs.Ytjhmlbhfnogdiaa.Hd Go.Proofs.Ytjhmlbhfnogdiaa.Gr Go.Proofs.Ytjhmlbhfnogdiaa.Hg Go.Proofs.Ytjhmlbhfnogdiaa.Ps Go.Proofs.Ytjhmlbhfnogdiaa.Rr Go.Proofs.Ytjhmlbhfnogdiaa.Wk Go.Proofs.Ytjhmlbhfnogdiaa.Wp Go.Proofs.Ytjhmlbhfnogdiaa.Wa Go.Proofs.Ytjhmlbhfnogdiaa.Wc Go.Proofs.Ytjhmlbhfnogdiaa.Wf Go.Proofs.Ytjhmlbhfnogdiaa.Pl Go.Proofs.Ytjhmlbhfnogdiaa.Vf Go.Proofs.Ytjhmlbhfnogdiaa.Co Go.Proofs.Ytjhmlbhfnogdiaa.Ro Go.Proofs.Ytjhmlbhfnogdiaa.Cy Go.Proofs.Ytjhmlbhfnogdiaa.Pv Go.Proofs.Ytjhmlbhfnogdiaa.Dh Go.Proofs.Ytjhmlbhfnogdiaa.Db
set_option linter.unusedVariables false

set_option maxRecDepth 100000 in
set_option maxHeartbeats 8000000 in
theorem rdo_3 (a b : Value) (g : Gph) (th : Nat) (hh i kk v : Int) (x : Hd) (w : World) (h : Gr w a b g) (hth : th < g.2.length) (hr : rightG g = true) (hp : posG g) (hn : g.1.length ≤ 100) (hm : g.2.length ≤ 1048576) (hv0 : 0 ≤ v) (hv1 : v ≤ 18446744073709551615) (hx0 : 0 ≤ x.2.2) (hu : ∀ n ∈ g.1, ∀ y ∈ n.2, y ≤ 18446744073709551615) :
    Calls Try.prog 20 #[.agg #[a, b], .int .i64 th, opv ⟨3, hh, i, kk, v, x⟩] w fun e w' => ∃ a' b', e = .returned (.tuple #[.agg #[a', b'], anv (doA g (th : Int) ⟨3, hh, i, kk, v, x⟩)]) ∧ Gr w' a' b' (doG g (th : Int) ⟨3, hh, i, kk, v, x⟩) ∧ Ext w w' := by
  obtain ⟨a0, c0, rfl⟩ := h.1.form
  obtain ⟨b0, d0, rfl⟩ := Gr.Ma.form h.2
  obtain ⟨B, hB⟩ : ∃ B, B = w.heap.size := ⟨_, rfl⟩
  obtain ⟨w4, hw4⟩ : ∃ w4, w4 = (((w.alloc (.cells #[.slice a0 g.1.length c0, .slice b0 g.2.length d0] 25)).alloc (.cells #[.int .i64 (3 : Int), .int .i64 hh, .int .i64 i, .int .i64 kk, .int .u64 v, .int .i64 x.1, .int .i64 x.2.1, .int .u64 x.2.2] 30)).alloc (.cells #[.slice none 0 0, .slice none 0 0] 25)).alloc (.cells #[.int .i64 0, .int .u64 0, .bool false] 35) := ⟨_, rfl⟩
  obtain ⟨hbx, hx4, hs4⟩ := bx_start (o := ⟨3, hh, i, kk, v, x⟩) hB hw4
  have HBX := Lib.hid hbx
  have HX4 := Lib.hid hx4
  have HS4 := Lib.hid hs4
  have HBB := Lib.hid hB
  have HG := Lib.hid h
  have hsm := h.2.small
  have hlen := h.2.len uS
  try dsimp only at hw4
  clear hbx hx4 hs4
  have HFd := Lib.hid (rfield_any (.slice a0 g.1.length c0) (.slice b0 g.2.length d0) g th ⟨3, hh, i, kk, v, x⟩ true w4 (HG.out.ext HX4.out) hr hp hth)
  unfold opv at HFd
  have hact : act g th ⟨3, hh, i, kk, v, x⟩ = actFollow g th ⟨3, hh, i, kk, v, x⟩ := by unfold act; simp
  have t1 : decide ((th : Int) < 0) = false := decide_eq_false (by omega)
  have t2 : decide ((g.2.length : Int) ≤ (th : Int)) = false := decide_eq_false (by omega)
  cases hf : field g th ⟨3, hh, i, kk, v, x⟩ true with
  | error e =>
    have hrf : rf g th ⟨3, hh, i, kk, v, x⟩ true = (0, e) := by unfold rf; rw [hf]
    rw [hrf] at HFd
    have hee : (e == 0) = false := by have := field_err hf; simp; omega
    have hd := of_err hth (hact.trans (by unfold actFollow; rw [hf]))
    rw [hd.1, hd.2]
    clear hd hact hf hrf
    unfold opv anv
    clear h
    go_enter Try.func20, Try.ntmps20
    go_wp2_with fail
    rw [← hw4, ← hB]
    clear hw4 hB
    try rw [show B + 1 + 1 + 1 = B + 3 from rfl]
    try rw [show B + 1 + 1 = B + 2 from rfl]
    refine HFd.out.mono ?_; rintro r w5 ⟨rfl, hx5⟩
    obtain ⟨g0, g1, o0, o1, o2, o3, o4, o5, o6, o7, r0, r1, s0, s1, s2, f0, f1, f2, f3, f4⟩ := (HBX.out.ext hx5).cells
    try dsimp only at o0 o1 o2 o3 o4 o5 o6 o7
    go_wp2_with fail
    refine (rno_any _ _ g (e) w5 (HG.out.ext (HX4.out.trans hx5))).mono ?_; rintro r w6 ⟨rfl, hxn⟩
    unfold anv
    have hx9 := (hx5).trans hxn
    clear hxn
    clear g0 g1 o0 o1 o2 o3 o4 o5 o6 o7 r0 r1 s0 s1 s2 f0 f1 f2 f3 f4
    obtain ⟨g0, g1, o0, o1, o2, o3, o4, o5, o6, o7, r0, r1, s0, s1, s2, f0, f1, f2, f3, f4⟩ := (HBX.out.ext hx9).cells
    try dsimp only at o0 o1 o2 o3 o4 o5 o6 o7
    obtain ⟨W8, hW8⟩ : ∃ W8, W8 = ((((w6.setCell ⟨B + 2, 0, none⟩ (.slice a0 g.1.length c0)).setCell ⟨B + 2, 1, none⟩ (.slice b0 g.2.length d0)).setCell ⟨B + 3, 0, none⟩ (.int .i64 (e))).setCell ⟨B + 3, 1, none⟩ (.int .u64 (0))).setCell ⟨B + 3, 2, none⟩ (.bool (false)) := ⟨_, rfl⟩
    obtain ⟨q0, q1, q2, q3, q4, hGr, hXr⟩ := fin HBB.out (HBX.out.ext hx9) (HX4.out.trans hx9) (sb_old HBB.out HG.out (HX4.out.trans hx9)) W8 hW8
    have HF := Lib.hid (And.intro hGr hXr)
    clear hGr hXr
    go_wp2_with fail
    rw [← hW8]
    clear hW8
    exact bodyPost_ret (v := .tuple #[.agg #[.slice a0 g.1.length c0, .slice b0 g.2.length d0], .agg #[.int .i64 (e), .int .u64 (0), .bool (false)]]) (by simp [results, Try.results20, go_sem, q0, q1, q2, q3, q4]) rfl ⟨_, _, rfl, HF.out⟩
  | ok n =>
    have hrf : rf g th ⟨3, hh, i, kk, v, x⟩ true = ((n : Int), 0) := by unfold rf; rw [hf]
    rw [hrf] at HFd
    obtain ⟨hnl, i0, hoi, hil⟩ := word_in hr hth hf
    obtain rfl : i = (i0 : Int) := hoi
    obtain ⟨nl0, nl1, _, _⟩ := right_head hr hp hnl
    obtain ⟨_, _, hlenN, _⟩ := right_node hr hnl
    have hfl : (node g n).2.length ≤ 1000000 := by omega
    have hwl : i0 < (node g n).2.length := hil
    have hwm : (node g n).2.getD i0 0 ∈ (node g n).2 := by simp [List.getD_eq_getElem?_getD, hwl]
    have hwv : word g n ⟨3, hh, (i0 : Int), kk, v, x⟩ = (node g n).2.getD i0 0 := by unfold word; simp
    have hw0 := (pos_node hp hnl).2 _ hwm
    have hw1 := hu _ (node_mem hnl) _ hwm
    obtain ⟨nb1, no1, ns1, u, hix, _, _, _, e3, hus⟩ := HG.out.1.at_ n hnl
    replace hus : Sl .u64 w u (node g n).2 := hus
    obtain ⟨ua, uc, rfl⟩ := Row.form hus
    obtain ⟨q, hqx, hqc⟩ := hus.at_ uU szU (i := (i0 : Int)) (by omega) (by omega)
    rw [Int.toNat_natCast] at hqc
    obtain ⟨fl, hfle⟩ : ∃ fl, (node g n).2.length = fl := ⟨_, rfl⟩
    rw [hfle] at e3 hqx
    obtain ⟨wd, hwd⟩ : ∃ wd, (node g n).2.getD i0 0 = wd := ⟨_, rfl⟩
    rw [hwd] at hwv hw0 hw1 hqc
    have HE3 := Lib.hid e3
    have HQC := Lib.hid hqc
    have hwp := word_ptr hr hp hth hf
    rw [hwv] at hwp
    have hyw : IntKind.i64.wrap wd = wd := by rw [IntKind.wrap_i64]; omega
    have hact2 : act g th ⟨3, hh, (i0 : Int), kk, v, x⟩ = pushed g th wd := hact.trans (by unfold actFollow; rw [hf]; show pushed g th (word g n ⟨3, hh, (i0 : Int), kk, v, x⟩) = _; rw [hwv])
    clear hact hf hrf
    have hd : doG g (th : Int) ⟨3, hh, (i0 : Int), kk, v, x⟩ = (if full g th = true then g else pushG g th wd) ∧ doA g (th : Int) ⟨3, hh, (i0 : Int), kk, v, x⟩ = (re g th, 0, false) := by
      unfold re
      cases hfu : full g th with
      | true =>
        rw [if_pos rfl, if_pos rfl]
        exact of_err hth (hact2.trans (by unfold pushed; rw [if_neg (by unfold full at hfu; simpa using hfu)]))
      | false =>
        rw [if_neg (by decide), if_neg (by decide)]
        exact of_ok hth (hact2.trans (by unfold pushed; rw [if_pos (by unfold full at hfu; simpa using hfu)]))
    rw [hd.1, hd.2]
    clear hd hact2
    obtain ⟨ree, hree⟩ : ∃ ree, re g th = ree := ⟨_, rfl⟩
    have HRE := Lib.hid hree
    rw [hree]
    obtain ⟨GG, hGG⟩ : ∃ GG, (if full g th = true then g else pushG g th wd) = GG := ⟨_, rfl⟩
    have HGG := Lib.hid hGG
    rw [hGG]
    clear hree hGG
    unfold opv anv
    clear h
    go_enter Try.func20, Try.ntmps20
    go_wp2_with fail
    rw [← hw4, ← hB]
    clear hw4 hB
    try rw [show B + 1 + 1 + 1 = B + 3 from rfl]
    try rw [show B + 1 + 1 = B + 2 from rfl]
    refine HFd.out.mono ?_; rintro r w5 ⟨rfl, hx5⟩
    obtain ⟨g0, g1, o0, o1, o2, o3, o4, o5, o6, o7, r0, r1, s0, s1, s2, f0, f1, f2, f3, f4⟩ := (HBX.out.ext hx5).cells
    try dsimp only at o0 o1 o2 o3 o4 o5 o6 o7
    have hS0 : w5.drew.cell? ⟨B, 0, none⟩ = some (.slice a0 g.1.length c0) ∧ w5.drew.cell? ⟨B, 1, none⟩ = some (.slice b0 g.2.length d0) ∧ w5.drew.cell? ⟨nb1, no1 + 3, none⟩ = some (.slice ua fl uc) ∧ w5.drew.cell? ⟨B + 1, 2, none⟩ = some (.int .i64 i0) ∧ w5.drew.cell? q = some (.int .u64 wd) := ⟨g0, g1, (HX4.out.trans hx5).cell HE3.out, o2, (HX4.out.trans hx5).cell HQC.out⟩
    have hS1 : Hid (∀ o : Obj, (w5.drew.alloc o).cell? ⟨B, 0, none⟩ = some (.slice a0 g.1.length c0) ∧ (w5.drew.alloc o).cell? ⟨B, 1, none⟩ = some (.slice b0 g.2.length d0) ∧ (w5.drew.alloc o).cell? ⟨nb1, no1 + 3, none⟩ = some (.slice ua fl uc) ∧ (w5.drew.alloc o).cell? ⟨B + 1, 2, none⟩ = some (.int .i64 i0) ∧ (w5.drew.alloc o).cell? q = some (.int .u64 wd)) := fun o => by
      have hE := ((Ext.refl w5).drew).alloc o
      exact ⟨hE.cell g0, hE.cell g1, hE.cell ((HX4.out.trans hx5).cell HE3.out), hE.cell o2, hE.cell ((HX4.out.trans hx5).cell HQC.out)⟩
    have hxd : Ext w4 w5.drew := hx5.drew
    go_wp2_with fail
    refine wp_region_noPanic ?_
    refine Rt.begin_ (fun W : World => W.cell? ⟨B, 0, none⟩ = some (.slice a0 g.1.length c0) ∧ W.cell? ⟨B, 1, none⟩ = some (.slice b0 g.2.length d0) ∧ W.cell? ⟨nb1, no1 + 3, none⟩ = some (.slice ua fl uc) ∧ W.cell? ⟨B + 1, 2, none⟩ = some (.int .i64 i0) ∧ W.cell? q = some (.int .u64 wd)) (fun i => i == 13 || i == 18) (by kernel_rfl) ?_
    simp only [List.length_cons, List.length_nil, Nat.reduceAdd, Array.replicate_succ, Array.replicate_zero]
    refine Rt.take 0 (v := ?_) rfl (by kernel_rfl) (fun _ _ _ h => h) rfl ?_ hS0 ?_
    rotate_left
    · (intro W hSW; (try dsimp only at hSW); go_simp; try with_reducible rfl)
    try simp only [Act.put, List.setIfInBounds_toArray, List.set_cons_zero, List.set_cons_succ]
    refine Rt.takeW 1 (v := ?_) rfl (by kernel_rfl) (fun _ _ _ h => h) rfl ?_ ?_
    rotate_left
    · (intro W; go_simp; try with_reducible rfl)
    try simp only [Act.put, List.setIfInBounds_toArray, List.set_cons_zero, List.set_cons_succ]
    refine Rt.takeW 2 (v := ?_) rfl (by kernel_rfl) (fun _ _ _ h => h) rfl ?_ ?_
    rotate_left
    · (intro W; go_simp; try with_reducible rfl)
    try simp only [Act.put, List.setIfInBounds_toArray, List.set_cons_zero, List.set_cons_succ]
    refine Rt.take 3 (v := ?_) rfl (by kernel_rfl) (fun _ _ _ h => h) rfl ?_ hS0 ?_
    rotate_left
    · (intro W hSW; (try dsimp only at hSW); go_simp; try with_reducible rfl)
    try simp only [Act.put, List.setIfInBounds_toArray, List.set_cons_zero, List.set_cons_succ]
    refine Rt.takeW 4 (v := ?_) rfl (by kernel_rfl) (fun _ _ _ h => h) rfl ?_ ?_
    rotate_left
    · (intro W; go_simp; try with_reducible rfl)
    try simp only [Act.put, List.setIfInBounds_toArray, List.set_cons_zero, List.set_cons_succ]
    refine Rt.takeW 5 (v := ?_) rfl (by kernel_rfl) (fun _ _ _ h => h) rfl ?_ ?_
    rotate_left
    · (intro W; go_simp; try with_reducible rfl)
    try simp only [Act.put, List.setIfInBounds_toArray, List.set_cons_zero, List.set_cons_succ]
    refine Rt.takeW 6 (v := ?_) rfl (by kernel_rfl) (fun _ _ _ h => h) rfl ?_ ?_
    rotate_left
    · (intro W; go_simp; try with_reducible rfl)
    try simp only [Act.put, List.setIfInBounds_toArray, List.set_cons_zero, List.set_cons_succ]
    refine Rt.take 7 (v := ?_) rfl (by kernel_rfl) (fun _ _ _ h => h) rfl ?_ hS0 ?_
    rotate_left
    · (intro W hSW; (try dsimp only at hSW); go_simp; try with_reducible rfl)
    try simp only [Act.put, List.setIfInBounds_toArray, List.set_cons_zero, List.set_cons_succ]
    refine Rt.takeW 8 (v := ?_) rfl (by kernel_rfl) (fun _ _ _ h => h) rfl ?_ ?_
    rotate_left
    · (intro W; go_simp; try with_reducible rfl)
    try simp only [Act.put, List.setIfInBounds_toArray, List.set_cons_zero, List.set_cons_succ]
    refine Rt.take 9 (v := ?_) rfl (by kernel_rfl) (fun _ _ _ h => h) rfl ?_ hS0 ?_
    rotate_left
    · (intro W hSW; (try dsimp only at hSW); go_simp; try with_reducible rfl)
    try simp only [Act.put, List.setIfInBounds_toArray, List.set_cons_zero, List.set_cons_succ]
    refine Rt.takeW 10 (v := ?_) rfl (by kernel_rfl) (fun _ _ _ h => h) rfl ?_ ?_
    rotate_left
    · (intro W; go_simp; try with_reducible rfl)
    try simp only [Act.put, List.setIfInBounds_toArray, List.set_cons_zero, List.set_cons_succ]
    refine Rt.take 11 (v := ?_) rfl (by kernel_rfl) (fun _ _ _ h => h) rfl ?_ hS0 ?_
    rotate_left
    · (intro W hSW; (try dsimp only at hSW); go_simp; try with_reducible rfl)
    try simp only [Act.put, List.setIfInBounds_toArray, List.set_cons_zero, List.set_cons_succ]
    refine Rt.takeW 12 (v := ?_) rfl (by kernel_rfl) (fun _ _ _ h => h) rfl ?_ ?_
    rotate_left
    · (intro W; go_simp; try with_reducible rfl)
    try simp only [Act.put, List.setIfInBounds_toArray, List.set_cons_zero, List.set_cons_succ]
    refine two 13 17 rfl rfl (by kernel_rfl) rfl rfl (fun K hK => ?_) (fun K hK => ?_)
    · go_simp
      refine (rpush_any (.slice a0 g.1.length c0) (.slice b0 g.2.length d0) g th wd w w5.drew w5.drew.heap.size (GI.of HG.out (HX4.out.trans hxd)) hth (by omega) hm).mono ?_; rintro r w7 ⟨a', b', rfl, hful, hnf, hx7⟩
      rw [HRE.out]
      have hgr7 : ∃ a0 l c b0 m d, a' = .slice a0 l c ∧ b' = .slice b0 m d := by
        cases hfu : full g th with
        | true => obtain ⟨rfl, rfl⟩ := hful hfu; exact ⟨_, _, _, _, _, _, rfl, rfl⟩
        | false => exact gr_form (hnf hfu).gr
      obtain ⟨aa, al, ac, ba, bl, bc, rfl, rfl⟩ := hgr7
      have HXS := Lib.hid (hxd.trans hx7)
      have HSB : Hid (∀ W, (Ext w7 W ∨ (∃ kb cs, Blk w7 kb cs 25 ∧ w.heap.size ≤ kb ∧ Ch (fun k => k = kb) w7 W)) → Sb B W (.slice aa al ac) (.slice ba bl bc) GG) := fun W hW => by
        rw [← HGG.out]
        have hbs : B + 4 ≤ (World.heap (w5.drew)).size := by have := (hxd).size; have := HS4.out; omega
        cases hfu : full g th with
        | true =>
          obtain ⟨h1, h2⟩ := hful hfu
          rw [h1, h2, if_pos rfl]
          refine sb_old HBB.out HG.out ?_
          rcases hW with hW | ⟨kb, cs, _, hk, hc⟩
          · exact (HX4.out.trans HXS.out).trans hW
          · exact hc.ext (HX4.out.trans HXS.out) fun j hj => by omega
        | false =>
          rw [if_neg (by decide)]
          rcases hW with hW | ⟨kb, cs, hb, hk, hc⟩
          · exact sb_gro HBB.out ((hnf hfu).ext' hW) hbs
          · exact sb_gro HBB.out ((hnf hfu).ch hc fun j hj => ⟨by omega, .inr ⟨cs, hj ▸ hb⟩⟩) hbs
      clear hful hnf
      refine hK _ _ ⟨.inl rfl, ?_⟩
      clear hK K
      try simp only [Act.put, List.setIfInBounds_toArray, List.set_cons_zero, List.set_cons_succ]
      refine Rt.takeW 14 (v := ?_) rfl (by kernel_rfl) (fun _ _ _ h => h) rfl ?_ ?_
      rotate_left
      · (intro W; go_simp; try with_reducible rfl)
      try simp only [Act.put, List.setIfInBounds_toArray, List.set_cons_zero, List.set_cons_succ]
      refine Rt.takeW 15 (v := ?_) rfl (by kernel_rfl) (fun _ _ _ h => h) rfl ?_ ?_
      rotate_left
      · (intro W; go_simp; try with_reducible rfl)
      try simp only [Act.put, List.setIfInBounds_toArray, List.set_cons_zero, List.set_cons_succ]
      refine Rt.takeW 16 (v := ?_) rfl (by kernel_rfl) (fun _ _ _ h => h) rfl ?_ ?_
      rotate_left
      · (intro W; go_simp; try with_reducible rfl)
      try simp only [Act.put, List.setIfInBounds_toArray, List.set_cons_zero, List.set_cons_succ]
      refine Rt.step 17 rfl (by kernel_rfl) rfl (fun K hK => ?_)
      go_simp
      refine hK _ _ ⟨.inr fun hs => ⟨((Ext.refl _).alloc _).cell hs.1, ((Ext.refl _).alloc _).cell hs.2.1, ((Ext.refl _).alloc _).cell hs.2.2.1, ((Ext.refl _).alloc _).cell hs.2.2.2.1, ((Ext.refl _).alloc _).cell hs.2.2.2.2⟩, ?_⟩
      clear hK K
      try simp only [Act.put, List.setIfInBounds_toArray, List.set_cons_zero, List.set_cons_succ]
      refine Rt.step 18 rfl (by kernel_rfl) rfl (fun K hK => ?_)
      go_simp
      refine hK _ _ ⟨.inl rfl, ?_⟩
      clear hK K
      try simp only [Act.put, List.setIfInBounds_toArray, List.set_cons_zero, List.set_cons_succ]
      refine Rt.step 19 rfl (by kernel_rfl) rfl (fun K hK => ?_)
      go_simp
      refine hK _ _ ⟨.inr id, ?_⟩
      clear hK K
      try simp only [Act.put, List.setIfInBounds_toArray, List.set_cons_zero, List.set_cons_succ]
      refine Rt.done (by kernel_rfl) ?_
      refine NoPanic.normal ?_
      obtain ⟨w8, hw8⟩ : ∃ w8, w8 = w7.alloc (.cells #[.slice aa al ac, .slice ba bl bc] 25) := ⟨_, rfl⟩
      obtain ⟨kb, hkb⟩ : ∃ kb, kb = w7.heap.size := ⟨_, rfl⟩
      have hxa : Ext w7 w8 := hw8 ▸ (Ext.refl w7).alloc _
      have hbk : Blk w8 kb #[.slice aa al ac, .slice ba bl bc] 25 := by rw [hw8, hkb]; exact Blk.new w7 _ _
      rw [← hw8, ← hkb]
      have hsb2 : Sb B w8 (.slice aa al ac) (.slice ba bl bc) GG := HSB.out _ (.inl hxa)
      have hx8 : Ext w4 w8 := HXS.out.trans hxa
      clear hw8 hkb hxa hS0
      clear g0 g1 o0 o1 o2 o3 o4 o5 o6 o7 r0 r1 s0 s1 s2 f0 f1 f2 f3 f4
      obtain ⟨g0, g1, o0, o1, o2, o3, o4, o5, o6, o7, r0, r1, s0, s1, s2, f0, f1, f2, f3, f4⟩ := (HBX.out.ext hx8).cells
      try dsimp only at o0 o1 o2 o3 o4 o5 o6 o7
      have n0 : w8.cell? ⟨kb, 0, none⟩ = some (.slice aa al ac) := hbk.cell (i := 0) rfl
      have n1 : w8.cell? ⟨kb, 1, none⟩ = some (.slice ba bl bc) := hbk.cell (i := 1) rfl
      obtain ⟨W8, hW8⟩ : ∃ W8, W8 = ((((w8.setCell ⟨B + 2, 0, none⟩ (.slice aa al ac)).setCell ⟨B + 2, 1, none⟩ (.slice ba bl bc)).setCell ⟨B + 3, 0, none⟩ (.int .i64 (ree))).setCell ⟨B + 3, 1, none⟩ (.int .u64 (0))).setCell ⟨B + 3, 2, none⟩ (.bool (false)) := ⟨_, rfl⟩
      obtain ⟨q0, q1, q2, q3, q4, hGr, hXr⟩ := fin HBB.out (HBX.out.ext hx8) (HX4.out.trans hx8) hsb2 W8 hW8
      have HF := Lib.hid (And.intro hGr hXr)
      clear hGr hXr
      go_wp2_with fail
      rw [← hW8]
      clear hW8
      exact bodyPost_ret (v := .tuple #[.agg #[.slice aa al ac, .slice ba bl bc], .agg #[.int .i64 (ree), .int .u64 (0), .bool (false)]]) (by simp [results, Try.results20, go_sem, q0, q1, q2, q3, q4]) rfl ⟨_, _, rfl, HF.out⟩
    · go_simp
      refine hK _ _ ⟨.inr fun _ => hS1.out _, ?_⟩
      clear hK K
      try simp only [Act.put, List.setIfInBounds_toArray, List.set_cons_zero, List.set_cons_succ]
      refine Rt.step 13 rfl (by kernel_rfl) rfl (fun K hK => ?_)
      go_simp
      refine (rpush_any (.slice a0 g.1.length c0) (.slice b0 g.2.length d0) g th wd w (w5.drew.alloc (.cells #[.slice none 0 0, .slice none 0 0] 25)) (World.heap (w5.drew.alloc (.cells #[.slice none 0 0, .slice none 0 0] 25))).size (GI.of HG.out (HX4.out.trans (hxd.alloc _))) hth (by omega) hm).mono ?_; rintro r w7 ⟨a', b', rfl, hful, hnf, hx7⟩
      rw [HRE.out]
      have hz : Blk w7 w5.heap.size #[.slice none 0 0, .slice none 0 0] 25 := (Blk.new w5.drew _ _).ext hx7
      have hgr7 : ∃ a0 l c b0 m d, a' = .slice a0 l c ∧ b' = .slice b0 m d := by
        cases hfu : full g th with
        | true => obtain ⟨rfl, rfl⟩ := hful hfu; exact ⟨_, _, _, _, _, _, rfl, rfl⟩
        | false => exact gr_form (hnf hfu).gr
      obtain ⟨aa, al, ac, ba, bl, bc, rfl, rfl⟩ := hgr7
      have HXS := Lib.hid ((hxd.alloc _).trans hx7)
      have HSB : Hid (∀ W, (Ext w7 W ∨ (∃ kb cs, Blk w7 kb cs 25 ∧ w.heap.size ≤ kb ∧ Ch (fun k => k = kb) w7 W)) → Sb B W (.slice aa al ac) (.slice ba bl bc) GG) := fun W hW => by
        rw [← HGG.out]
        have hbs : B + 4 ≤ (World.heap (w5.drew.alloc (.cells #[.slice none 0 0, .slice none 0 0] 25))).size := by have := (hxd.alloc (.cells #[.slice none 0 0, .slice none 0 0] 25)).size; have := HS4.out; omega
        cases hfu : full g th with
        | true =>
          obtain ⟨h1, h2⟩ := hful hfu
          rw [h1, h2, if_pos rfl]
          refine sb_old HBB.out HG.out ?_
          rcases hW with hW | ⟨kb, cs, _, hk, hc⟩
          · exact (HX4.out.trans HXS.out).trans hW
          · exact hc.ext (HX4.out.trans HXS.out) fun j hj => by omega
        | false =>
          rw [if_neg (by decide)]
          rcases hW with hW | ⟨kb, cs, hb, hk, hc⟩
          · exact sb_gro HBB.out ((hnf hfu).ext' hW) hbs
          · exact sb_gro HBB.out ((hnf hfu).ch hc fun j hj => ⟨by omega, .inr ⟨cs, hj ▸ hb⟩⟩) hbs
      clear hful hnf
      have z0 : w7.cell? ⟨w5.heap.size, 0, none⟩ = some (.slice none 0 0) := hz.cell (i := 0) rfl
      have z1 : w7.cell? ⟨w5.heap.size, 1, none⟩ = some (.slice none 0 0) := hz.cell (i := 1) rfl
      have y0 := hz.free 0
      have y1 := hz.free 1
      refine hK _ _ ⟨.inl rfl, ?_⟩
      clear hK K
      try simp only [Act.put, List.setIfInBounds_toArray, List.set_cons_zero, List.set_cons_succ]
      refine Rt.takeW 14 (v := ?_) rfl (by kernel_rfl) (fun _ _ _ h => h) rfl ?_ ?_
      rotate_left
      · (intro W; go_simp; try with_reducible rfl)
      try simp only [Act.put, List.setIfInBounds_toArray, List.set_cons_zero, List.set_cons_succ]
      refine Rt.takeW 15 (v := ?_) rfl (by kernel_rfl) (fun _ _ _ h => h) rfl ?_ ?_
      rotate_left
      · (intro W; go_simp; try with_reducible rfl)
      try simp only [Act.put, List.setIfInBounds_toArray, List.set_cons_zero, List.set_cons_succ]
      refine Rt.takeW 16 (v := ?_) rfl (by kernel_rfl) (fun _ _ _ h => h) rfl ?_ ?_
      rotate_left
      · (intro W; go_simp; try with_reducible rfl)
      try simp only [Act.put, List.setIfInBounds_toArray, List.set_cons_zero, List.set_cons_succ]
      refine Rt.step 18 rfl (by kernel_rfl) rfl (fun K hK => ?_)
      go_simp
      refine hK _ _ ⟨.inl rfl, ?_⟩
      clear hK K
      try simp only [Act.put, List.setIfInBounds_toArray, List.set_cons_zero, List.set_cons_succ]
      refine Rt.step 19 rfl (by kernel_rfl) rfl (fun K hK => ?_)
      go_simp
      refine hK _ _ ⟨.inr id, ?_⟩
      clear hK K
      try simp only [Act.put, List.setIfInBounds_toArray, List.set_cons_zero, List.set_cons_succ]
      refine Rt.done (by kernel_rfl) ?_
      refine NoPanic.normal ?_
      obtain ⟨kb, hkb⟩ : ∃ kb, kb = w5.heap.size := ⟨_, rfl⟩
      rw [← hkb] at hz ⊢
      obtain ⟨w8, hw8⟩ : ∃ w8, w8 = (w7.setCell ⟨kb, 0, none⟩ (.slice aa al ac)).setCell ⟨kb, 1, none⟩ (.slice ba bl bc) := ⟨_, rfl⟩
      rw [← hw8]
      have hch : Ch (fun k => k = kb) w7 w8 := by
        rw [hw8]
        exact (Ch.set (fun k => k = kb) _ _ _ rfl).trans (Ch.set (fun k => k = kb) _ _ _ rfl) (fun _ _ h => h)
      have hkb4 : w4.heap.size ≤ kb := by rw [hkb]; exact hx5.size
      have hkw : w.heap.size ≤ kb := by have := HX4.out.size; omega
      have hbk : Blk w8 kb #[.slice aa al ac, .slice ba bl bc] 25 := by rw [hw8]; exact (hz.set 0 _).set 1 _
      have hsb2 : Sb B w8 (.slice aa al ac) (.slice ba bl bc) GG := HSB.out _ (.inr ⟨kb, _, hz, hkw, hch⟩)
      have hx8 : Ext w4 w8 := hch.ext HXS.out fun j hj => by omega
      clear hw8 hkb hch hkb4 hkw hS0 z0 z1 y0 y1 hz
      clear g0 g1 o0 o1 o2 o3 o4 o5 o6 o7 r0 r1 s0 s1 s2 f0 f1 f2 f3 f4
      obtain ⟨g0, g1, o0, o1, o2, o3, o4, o5, o6, o7, r0, r1, s0, s1, s2, f0, f1, f2, f3, f4⟩ := (HBX.out.ext hx8).cells
      try dsimp only at o0 o1 o2 o3 o4 o5 o6 o7
      have n0 : w8.cell? ⟨kb, 0, none⟩ = some (.slice aa al ac) := hbk.cell (i := 0) rfl
      have n1 : w8.cell? ⟨kb, 1, none⟩ = some (.slice ba bl bc) := hbk.cell (i := 1) rfl
      obtain ⟨W8, hW8⟩ : ∃ W8, W8 = ((((w8.setCell ⟨B + 2, 0, none⟩ (.slice aa al ac)).setCell ⟨B + 2, 1, none⟩ (.slice ba bl bc)).setCell ⟨B + 3, 0, none⟩ (.int .i64 (ree))).setCell ⟨B + 3, 1, none⟩ (.int .u64 (0))).setCell ⟨B + 3, 2, none⟩ (.bool (false)) := ⟨_, rfl⟩
      obtain ⟨q0, q1, q2, q3, q4, hGr, hXr⟩ := fin HBB.out (HBX.out.ext hx8) (HX4.out.trans hx8) hsb2 W8 hW8
      have HF := Lib.hid (And.intro hGr hXr)
      clear hGr hXr
      go_wp2_with fail
      rw [← hW8]
      clear hW8
      exact bodyPost_ret (v := .tuple #[.agg #[.slice aa al ac, .slice ba bl bc], .agg #[.int .i64 (ree), .int .u64 (0), .bool (false)]]) (by simp [results, Try.results20, go_sem, q0, q1, q2, q3, q4]) rfl ⟨_, _, rfl, HF.out⟩

end Go.Proofs.Ytjhmlbhfnogdiaa.Dp

namespace Go.Proofs.Ytjhmlbhfnogdiaa.Dq
open Go.RowKit
open Go.Proofs.Ytjhmlbhfnogdiaa Go.Proofs.Ytjhmlbhfnogdiaa.Hd Go.Proofs.Ytjhmlbhfnogdiaa.Gr Go.Proofs.Ytjhmlbhfnogdiaa.Hg Go.Proofs.Ytjhmlbhfnogdiaa.Ps Go.Proofs.Ytjhmlbhfnogdiaa.Rr Go.Proofs.Ytjhmlbhfnogdiaa.Wk Go.Proofs.Ytjhmlbhfnogdiaa.Wp Go.Proofs.Ytjhmlbhfnogdiaa.Wa Go.Proofs.Ytjhmlbhfnogdiaa.Wc Go.Proofs.Ytjhmlbhfnogdiaa.Wf Go.Proofs.Ytjhmlbhfnogdiaa.Pl Go.Proofs.Ytjhmlbhfnogdiaa.Vf Go.Proofs.Ytjhmlbhfnogdiaa.Co Go.Proofs.Ytjhmlbhfnogdiaa.Ro Go.Proofs.Ytjhmlbhfnogdiaa.Cy Go.Proofs.Ytjhmlbhfnogdiaa.Pv Go.Proofs.Ytjhmlbhfnogdiaa.Dh Go.Proofs.Ytjhmlbhfnogdiaa.Db
set_option linter.unusedVariables false

set_option maxRecDepth 100000 in
set_option maxHeartbeats 8000000 in
theorem rdo_5 (a b : Value) (g : Gph) (th : Nat) (hh i kk v : Int) (x : Hd) (w : World) (h : Gr w a b g) (hth : th < g.2.length) (hr : rightG g = true) (hp : posG g) (hn : g.1.length ≤ 100) (hm : g.2.length ≤ 1048576) (hv0 : 0 ≤ v) (hv1 : v ≤ 18446744073709551615) (hx0 : 0 ≤ x.2.2) (hu : ∀ n ∈ g.1, ∀ y ∈ n.2, y ≤ 18446744073709551615) :
    Calls Try.prog 20 #[.agg #[a, b], .int .i64 th, opv ⟨5, hh, i, kk, v, x⟩] w fun e w' => ∃ a' b', e = .returned (.tuple #[.agg #[a', b'], anv (doA g (th : Int) ⟨5, hh, i, kk, v, x⟩)]) ∧ Gr w' a' b' (doG g (th : Int) ⟨5, hh, i, kk, v, x⟩) ∧ Ext w w' := by
  obtain ⟨a0, c0, rfl⟩ := h.1.form
  obtain ⟨b0, d0, rfl⟩ := Gr.Ma.form h.2
  obtain ⟨B, hB⟩ : ∃ B, B = w.heap.size := ⟨_, rfl⟩
  obtain ⟨w4, hw4⟩ : ∃ w4, w4 = (((w.alloc (.cells #[.slice a0 g.1.length c0, .slice b0 g.2.length d0] 25)).alloc (.cells #[.int .i64 (5 : Int), .int .i64 hh, .int .i64 i, .int .i64 kk, .int .u64 v, .int .i64 x.1, .int .i64 x.2.1, .int .u64 x.2.2] 30)).alloc (.cells #[.slice none 0 0, .slice none 0 0] 25)).alloc (.cells #[.int .i64 0, .int .u64 0, .bool false] 35) := ⟨_, rfl⟩
  obtain ⟨hbx, hx4, hs4⟩ := bx_start (o := ⟨5, hh, i, kk, v, x⟩) hB hw4
  have HBX := Lib.hid hbx
  have HX4 := Lib.hid hx4
  have HS4 := Lib.hid hs4
  have HBB := Lib.hid hB
  have HG := Lib.hid h
  have hsm := h.2.small
  have hlen := h.2.len uS
  try dsimp only at hw4
  clear hbx hx4 hs4
  have HFd := Lib.hid (rfield_any (.slice a0 g.1.length c0) (.slice b0 g.2.length d0) g th ⟨5, hh, i, kk, v, x⟩ true w4 (HG.out.ext HX4.out) hr hp hth)
  unfold opv at HFd
  have hact : act g th ⟨5, hh, i, kk, v, x⟩ = actLink g th ⟨5, hh, i, kk, v, x⟩ := by unfold act; simp
  have t1 : decide ((th : Int) < 0) = false := decide_eq_false (by omega)
  have t2 : decide ((g.2.length : Int) ≤ (th : Int)) = false := decide_eq_false (by omega)
  cases hf : field g th ⟨5, hh, i, kk, v, x⟩ true with
  | error e =>
    have hrf : rf g th ⟨5, hh, i, kk, v, x⟩ true = (0, e) := by unfold rf; rw [hf]
    rw [hrf] at HFd
    have hee : (e == 0) = false := by have := field_err hf; simp; omega
    have hd := of_err hth (hact.trans (by unfold actLink; rw [hf]))
    rw [hd.1, hd.2]
    clear hd hact hf hrf
    unfold opv anv
    clear h
    go_enter Try.func20, Try.ntmps20
    go_wp2_with fail
    rw [← hw4, ← hB]
    clear hw4 hB
    try rw [show B + 1 + 1 + 1 = B + 3 from rfl]
    try rw [show B + 1 + 1 = B + 2 from rfl]
    refine HFd.out.mono ?_; rintro r w5 ⟨rfl, hx5⟩
    obtain ⟨g0, g1, o0, o1, o2, o3, o4, o5, o6, o7, r0, r1, s0, s1, s2, f0, f1, f2, f3, f4⟩ := (HBX.out.ext hx5).cells
    try dsimp only at o0 o1 o2 o3 o4 o5 o6 o7
    go_wp2_with fail
    refine (rno_any _ _ g (e) w5 (HG.out.ext (HX4.out.trans hx5))).mono ?_; rintro r w6 ⟨rfl, hxn⟩
    unfold anv
    have hx9 := (hx5).trans hxn
    clear hxn
    clear g0 g1 o0 o1 o2 o3 o4 o5 o6 o7 r0 r1 s0 s1 s2 f0 f1 f2 f3 f4
    obtain ⟨g0, g1, o0, o1, o2, o3, o4, o5, o6, o7, r0, r1, s0, s1, s2, f0, f1, f2, f3, f4⟩ := (HBX.out.ext hx9).cells
    try dsimp only at o0 o1 o2 o3 o4 o5 o6 o7
    obtain ⟨W8, hW8⟩ : ∃ W8, W8 = ((((w6.setCell ⟨B + 2, 0, none⟩ (.slice a0 g.1.length c0)).setCell ⟨B + 2, 1, none⟩ (.slice b0 g.2.length d0)).setCell ⟨B + 3, 0, none⟩ (.int .i64 (e))).setCell ⟨B + 3, 1, none⟩ (.int .u64 (0))).setCell ⟨B + 3, 2, none⟩ (.bool (false)) := ⟨_, rfl⟩
    obtain ⟨q0, q1, q2, q3, q4, hGr, hXr⟩ := fin HBB.out (HBX.out.ext hx9) (HX4.out.trans hx9) (sb_old HBB.out HG.out (HX4.out.trans hx9)) W8 hW8
    have HF := Lib.hid (And.intro hGr hXr)
    clear hGr hXr
    go_wp2_with fail
    rw [← hW8]
    clear hW8
    exact bodyPost_ret (v := .tuple #[.agg #[.slice a0 g.1.length c0, .slice b0 g.2.length d0], .agg #[.int .i64 (e), .int .u64 (0), .bool (false)]]) (by simp [results, Try.results20, go_sem, q0, q1, q2, q3, q4]) rfl ⟨_, _, rfl, HF.out⟩
  | ok n =>
    have hrf : rf g th ⟨5, hh, i, kk, v, x⟩ true = ((n : Int), 0) := by unfold rf; rw [hf]
    rw [hrf] at HFd
    obtain ⟨hnl, i0, hoi, hil⟩ := word_in hr hth hf
    obtain rfl : i = (i0 : Int) := hoi
    obtain ⟨nl0, nl1, _, _⟩ := right_head hr hp hnl
    obtain ⟨_, _, hlenN, _⟩ := right_node hr hnl
    have hfl : (node g n).2.length ≤ 1000000 := by omega
    have hwl : i0 < (node g n).2.length := hil
    have hwm : (node g n).2.getD i0 0 ∈ (node g n).2 := by simp [List.getD_eq_getElem?_getD, hwl]
    have hwv : word g n ⟨5, hh, (i0 : Int), kk, v, x⟩ = (node g n).2.getD i0 0 := by unfold word; simp
    have hw0 := (pos_node hp hnl).2 _ hwm
    have hw1 := hu _ (node_mem hnl) _ hwm
    obtain ⟨nb1, no1, ns1, u, hix, _, _, _, e3, hus⟩ := HG.out.1.at_ n hnl
    replace hus : Sl .u64 w u (node g n).2 := hus
    obtain ⟨ua, uc, rfl⟩ := Row.form hus
    obtain ⟨q, hqx, hqc⟩ := hus.at_ uU szU (i := (i0 : Int)) (by omega) (by omega)
    rw [Int.toNat_natCast] at hqc
    obtain ⟨fl, hfle⟩ : ∃ fl, (node g n).2.length = fl := ⟨_, rfl⟩
    rw [hfle] at e3 hqx
    obtain ⟨wd, hwd⟩ : ∃ wd, (node g n).2.getD i0 0 = wd := ⟨_, rfl⟩
    rw [hwd] at hwv hw0 hw1 hqc
    have HE3 := Lib.hid e3
    have HQC := Lib.hid hqc
    have HHd := Lib.hid (fun W (hx : Ext w4 W) => rhandle_any (.slice a0 g.1.length c0) (.slice b0 g.2.length d0) g th kk W (HG.out.ext (HX4.out.trans hx)) hth)
    cases hk : handle g th kk with
    | none =>
      have hrh : rh g th kk = (0, 5) := by unfold rh; rw [hk]
      rw [hrh] at HHd
      have hd := of_err (e := 5) hth (hact.trans (by unfold actLink; rw [hf]; dsimp only; rw [hk]))
      rw [hd.1, hd.2]
      clear hd hact hf hrf hk hrh
      unfold opv anv
      clear h
      go_enter Try.func20, Try.ntmps20
      go_wp2_with fail
      rw [← hw4, ← hB]
      clear hw4 hB
      try rw [show B + 1 + 1 + 1 = B + 3 from rfl]
      try rw [show B + 1 + 1 = B + 2 from rfl]
      refine HFd.out.mono ?_; rintro r w5 ⟨rfl, hx5⟩
      obtain ⟨g0, g1, o0, o1, o2, o3, o4, o5, o6, o7, r0, r1, s0, s1, s2, f0, f1, f2, f3, f4⟩ := (HBX.out.ext hx5).cells
      try dsimp only at o0 o1 o2 o3 o4 o5 o6 o7
      go_wp2_with fail
      refine (HHd.out _ hx5).mono ?_; rintro r w6 ⟨rfl, hx6'⟩
      have hx6 := hx5.trans hx6'
      clear g0 g1 o0 o1 o2 o3 o4 o5 o6 o7 r0 r1 s0 s1 s2 f0 f1 f2 f3 f4
      obtain ⟨g0, g1, o0, o1, o2, o3, o4, o5, o6, o7, r0, r1, s0, s1, s2, f0, f1, f2, f3, f4⟩ := (HBX.out.ext hx6).cells
      try dsimp only at o0 o1 o2 o3 o4 o5 o6 o7
      go_wp2_with fail
      refine (rno_any _ _ g (5) w6 (HG.out.ext (HX4.out.trans hx6))).mono ?_; rintro r w7 ⟨rfl, hxn⟩
      unfold anv
      have hx9 := (hx6).trans hxn
      clear hxn
      clear g0 g1 o0 o1 o2 o3 o4 o5 o6 o7 r0 r1 s0 s1 s2 f0 f1 f2 f3 f4
      obtain ⟨g0, g1, o0, o1, o2, o3, o4, o5, o6, o7, r0, r1, s0, s1, s2, f0, f1, f2, f3, f4⟩ := (HBX.out.ext hx9).cells
      try dsimp only at o0 o1 o2 o3 o4 o5 o6 o7
      obtain ⟨W8, hW8⟩ : ∃ W8, W8 = ((((w7.setCell ⟨B + 2, 0, none⟩ (.slice a0 g.1.length c0)).setCell ⟨B + 2, 1, none⟩ (.slice b0 g.2.length d0)).setCell ⟨B + 3, 0, none⟩ (.int .i64 (5))).setCell ⟨B + 3, 1, none⟩ (.int .u64 (0))).setCell ⟨B + 3, 2, none⟩ (.bool (false)) := ⟨_, rfl⟩
      obtain ⟨q0, q1, q2, q3, q4, hGr, hXr⟩ := fin HBB.out (HBX.out.ext hx9) (HX4.out.trans hx9) (sb_old HBB.out HG.out (HX4.out.trans hx9)) W8 hW8
      have HF := Lib.hid (And.intro hGr hXr)
      clear hGr hXr
      go_wp2_with fail
      rw [← hW8]
      clear hW8
      exact bodyPost_ret (v := .tuple #[.agg #[.slice a0 g.1.length c0, .slice b0 g.2.length d0], .agg #[.int .i64 (5), .int .u64 (0), .bool (false)]]) (by simp [results, Try.results20, go_sem, q0, q1, q2, q3, q4]) rfl ⟨_, _, rfl, HF.out⟩
    | some y =>
      have hrh : rh g th kk = (y, 0) := by unfold rh; rw [hk]
      rw [hrh] at HHd
      have hyb := right_handle hr hth hk
      have huw : IntKind.u64.wrap y = y := by rw [IntKind.wrap_u64]; omega
      have hd := of_ok (G := setG g n i0 y) (v := 0) (b := false) hth (hact.trans (by unfold actLink; rw [hf]; dsimp only; rw [hk]; dsimp only; rw [Int.toNat_natCast]))
      rw [hd.1, hd.2]
      clear hd hact hf hrf hk hrh
      unfold opv anv
      clear h
      go_enter Try.func20, Try.ntmps20
      go_wp2_with fail
      rw [← hw4, ← hB]
      clear hw4 hB
      try rw [show B + 1 + 1 + 1 = B + 3 from rfl]
      try rw [show B + 1 + 1 = B + 2 from rfl]
      refine HFd.out.mono ?_; rintro r w5 ⟨rfl, hx5⟩
      obtain ⟨g0, g1, o0, o1, o2, o3, o4, o5, o6, o7, r0, r1, s0, s1, s2, f0, f1, f2, f3, f4⟩ := (HBX.out.ext hx5).cells
      try dsimp only at o0 o1 o2 o3 o4 o5 o6 o7
      go_wp2_with fail
      refine (HHd.out _ hx5).mono ?_; rintro r w6 ⟨rfl, hx6'⟩
      have hx6 := hx5.trans hx6'
      clear g0 g1 o0 o1 o2 o3 o4 o5 o6 o7 r0 r1 s0 s1 s2 f0 f1 f2 f3 f4
      obtain ⟨g0, g1, o0, o1, o2, o3, o4, o5, o6, o7, r0, r1, s0, s1, s2, f0, f1, f2, f3, f4⟩ := (HBX.out.ext hx6).cells
      try dsimp only at o0 o1 o2 o3 o4 o5 o6 o7
      go_wp2_with fail
      refine (rset_any (.slice a0 g.1.length c0) (.slice b0 g.2.length d0) g n i0 (y) w (w6) (World.heap (w6)).size (GI.of HG.out (HX4.out.trans hx6)) hnl hil hfl (by omega) hm).mono ?_; rintro r w7 ⟨a', b', rfl, hG7, hx7⟩
      obtain ⟨aa, al, ac, ba, bl, bc, rfl, rfl⟩ := gr_form hG7.gr
      have hx9 := (hx6).trans hx7
      have hbs : B + 4 ≤ (World.heap (w6)).size := by have := (hx6).size; have := HS4.out; omega
      clear hx7
      clear g0 g1 o0 o1 o2 o3 o4 o5 o6 o7 r0 r1 s0 s1 s2 f0 f1 f2 f3 f4
      obtain ⟨g0, g1, o0, o1, o2, o3, o4, o5, o6, o7, r0, r1, s0, s1, s2, f0, f1, f2, f3, f4⟩ := (HBX.out.ext hx9).cells
      try dsimp only at o0 o1 o2 o3 o4 o5 o6 o7
      obtain ⟨W8, hW8⟩ : ∃ W8, W8 = ((((w7.setCell ⟨B + 2, 0, none⟩ (.slice aa al ac)).setCell ⟨B + 2, 1, none⟩ (.slice ba bl bc)).setCell ⟨B + 3, 0, none⟩ (.int .i64 (0))).setCell ⟨B + 3, 1, none⟩ (.int .u64 (0))).setCell ⟨B + 3, 2, none⟩ (.bool (false)) := ⟨_, rfl⟩
      obtain ⟨q0, q1, q2, q3, q4, hGr, hXr⟩ := fin HBB.out (HBX.out.ext hx9) (HX4.out.trans hx9) (sb_gro HBB.out hG7 hbs) W8 hW8
      have HF := Lib.hid (And.intro hGr hXr)
      clear hGr hXr
      go_wp2_with fail
      rw [← hW8]
      clear hW8
      exact bodyPost_ret (v := .tuple #[.agg #[.slice aa al ac, .slice ba bl bc], .agg #[.int .i64 (0), .int .u64 (0), .bool (false)]]) (by simp [results, Try.results20, go_sem, q0, q1, q2, q3, q4]) rfl ⟨_, _, rfl, HF.out⟩

set_option maxRecDepth 100000 in
set_option maxHeartbeats 8000000 in
theorem rdo_9 (a b : Value) (g : Gph) (th : Nat) (hh i kk v : Int) (x : Hd) (w : World) (h : Gr w a b g) (hth : th < g.2.length) (hr : rightG g = true) (hp : posG g) (hn : g.1.length ≤ 100) (hm : g.2.length ≤ 1048576) (hv0 : 0 ≤ v) (hv1 : v ≤ 18446744073709551615) (hx0 : 0 ≤ x.2.2) (hu : ∀ n ∈ g.1, ∀ y ∈ n.2, y ≤ 18446744073709551615) :
    Calls Try.prog 20 #[.agg #[a, b], .int .i64 th, opv ⟨9, hh, i, kk, v, x⟩] w fun e w' => ∃ a' b', e = .returned (.tuple #[.agg #[a', b'], anv (doA g (th : Int) ⟨9, hh, i, kk, v, x⟩)]) ∧ Gr w' a' b' (doG g (th : Int) ⟨9, hh, i, kk, v, x⟩) ∧ Ext w w' := by
  obtain ⟨a0, c0, rfl⟩ := h.1.form
  obtain ⟨b0, d0, rfl⟩ := Gr.Ma.form h.2
  obtain ⟨B, hB⟩ : ∃ B, B = w.heap.size := ⟨_, rfl⟩
  obtain ⟨w4, hw4⟩ : ∃ w4, w4 = (((w.alloc (.cells #[.slice a0 g.1.length c0, .slice b0 g.2.length d0] 25)).alloc (.cells #[.int .i64 (9 : Int), .int .i64 hh, .int .i64 i, .int .i64 kk, .int .u64 v, .int .i64 x.1, .int .i64 x.2.1, .int .u64 x.2.2] 30)).alloc (.cells #[.slice none 0 0, .slice none 0 0] 25)).alloc (.cells #[.int .i64 0, .int .u64 0, .bool false] 35) := ⟨_, rfl⟩
  obtain ⟨hbx, hx4, hs4⟩ := bx_start (o := ⟨9, hh, i, kk, v, x⟩) hB hw4
  have HBX := Lib.hid hbx
  have HX4 := Lib.hid hx4
  have HS4 := Lib.hid hs4
  have HBB := Lib.hid hB
  have HG := Lib.hid h
  have hsm := h.2.small
  have hlen := h.2.len uS
  try dsimp only at hw4
  clear hbx hx4 hs4
  have hact : act g th ⟨9, hh, i, kk, v, x⟩ = actPush g th ⟨9, hh, i, kk, v, x⟩ := by unfold act; simp
  have t1 : decide ((th : Int) < 0) = false := decide_eq_false (by omega)
  have t2 : decide ((g.2.length : Int) ≤ (th : Int)) = false := decide_eq_false (by omega)
  have HHd := Lib.hid (fun W (hx : Ext w4 W) => rhandle_any (.slice a0 g.1.length c0) (.slice b0 g.2.length d0) g th hh W (HG.out.ext (HX4.out.trans hx)) hth)
  cases hk : handle g th hh with
  | none =>
    have hrh : rh g th hh = (0, 5) := by unfold rh; rw [hk]
    rw [hrh] at HHd
    have hd := of_err (e := 5) hth (hact.trans (by unfold actPush; dsimp only; rw [hk]))
    rw [hd.1, hd.2]
    clear hd hact hk hrh
    unfold opv anv
    clear h
    go_enter Try.func20, Try.ntmps20
    go_wp2_with fail
    rw [← hw4, ← hB]
    clear hw4 hB
    try rw [show B + 1 + 1 + 1 = B + 3 from rfl]
    try rw [show B + 1 + 1 = B + 2 from rfl]
    refine (HHd.out _ (Ext.refl w4)).mono ?_; rintro r w5 ⟨rfl, hx5⟩
    obtain ⟨g0, g1, o0, o1, o2, o3, o4, o5, o6, o7, r0, r1, s0, s1, s2, f0, f1, f2, f3, f4⟩ := (HBX.out.ext hx5).cells
    try dsimp only at o0 o1 o2 o3 o4 o5 o6 o7
    go_wp2_with fail
    refine (rno_any _ _ g (5) w5 (HG.out.ext (HX4.out.trans hx5))).mono ?_; rintro r w7 ⟨rfl, hxn⟩
    unfold anv
    have hx9 := (hx5).trans hxn
    clear hxn
    clear g0 g1 o0 o1 o2 o3 o4 o5 o6 o7 r0 r1 s0 s1 s2 f0 f1 f2 f3 f4
    obtain ⟨g0, g1, o0, o1, o2, o3, o4, o5, o6, o7, r0, r1, s0, s1, s2, f0, f1, f2, f3, f4⟩ := (HBX.out.ext hx9).cells
    try dsimp only at o0 o1 o2 o3 o4 o5 o6 o7
    obtain ⟨W8, hW8⟩ : ∃ W8, W8 = ((((w7.setCell ⟨B + 2, 0, none⟩ (.slice a0 g.1.length c0)).setCell ⟨B + 2, 1, none⟩ (.slice b0 g.2.length d0)).setCell ⟨B + 3, 0, none⟩ (.int .i64 (5))).setCell ⟨B + 3, 1, none⟩ (.int .u64 (0))).setCell ⟨B + 3, 2, none⟩ (.bool (false)) := ⟨_, rfl⟩
    obtain ⟨q0, q1, q2, q3, q4, hGr, hXr⟩ := fin HBB.out (HBX.out.ext hx9) (HX4.out.trans hx9) (sb_old HBB.out HG.out (HX4.out.trans hx9)) W8 hW8
    have HF := Lib.hid (And.intro hGr hXr)
    clear hGr hXr
    go_wp2_with fail
    rw [← hW8]
    clear hW8
    exact bodyPost_ret (v := .tuple #[.agg #[.slice a0 g.1.length c0, .slice b0 g.2.length d0], .agg #[.int .i64 (5), .int .u64 (0), .bool (false)]]) (by simp [results, Try.results20, go_sem, q0, q1, q2, q3, q4]) rfl ⟨_, _, rfl, HF.out⟩
  | some y =>
    have hrh : rh g th hh = (y, 0) := by unfold rh; rw [hk]
    rw [hrh] at HHd
    have hyb := right_handle hr hth hk
    have hact2 : act g th ⟨9, hh, i, kk, v, x⟩ = pushed g th y := hact.trans (by unfold actPush; dsimp only; rw [hk])
    clear hact hk hrh
    have hd : doG g (th : Int) ⟨9, hh, i, kk, v, x⟩ = (if full g th = true then g else pushG g th y) ∧ doA g (th : Int) ⟨9, hh, i, kk, v, x⟩ = (re g th, 0, false) := by
      unfold re
      cases hfu : full g th with
      | true =>
        rw [if_pos rfl, if_pos rfl]
        exact of_err hth (hact2.trans (by unfold pushed; rw [if_neg (by unfold full at hfu; simpa using hfu)]))
      | false =>
        rw [if_neg (by decide), if_neg (by decide)]
        exact of_ok hth (hact2.trans (by unfold pushed; rw [if_pos (by unfold full at hfu; simpa using hfu)]))
    rw [hd.1, hd.2]
    clear hd hact2
    obtain ⟨ree, hree⟩ : ∃ ree, re g th = ree := ⟨_, rfl⟩
    have HRE := Lib.hid hree
    rw [hree]
    obtain ⟨GG, hGG⟩ : ∃ GG, (if full g th = true then g else pushG g th y) = GG := ⟨_, rfl⟩
    have HGG := Lib.hid hGG
    rw [hGG]
    clear hree hGG
    unfold opv anv
    clear h
    go_enter Try.func20, Try.ntmps20
    go_wp2_with fail
    rw [← hw4, ← hB]
    clear hw4 hB
    try rw [show B + 1 + 1 + 1 = B + 3 from rfl]
    try rw [show B + 1 + 1 = B + 2 from rfl]
    refine (HHd.out _ (Ext.refl w4)).mono ?_; rintro r w5 ⟨rfl, hx5⟩
    obtain ⟨g0, g1, o0, o1, o2, o3, o4, o5, o6, o7, r0, r1, s0, s1, s2, f0, f1, f2, f3, f4⟩ := (HBX.out.ext hx5).cells
    try dsimp only at o0 o1 o2 o3 o4 o5 o6 o7
    go_wp2_with fail
    refine (rpush_any (.slice a0 g.1.length c0) (.slice b0 g.2.length d0) g th y w w5 w5.heap.size (GI.of HG.out (HX4.out.trans hx5)) hth (by omega) hm).mono ?_; rintro r w7 ⟨a', b', rfl, hful, hnf, hx7⟩
    rw [HRE.out]
    have hgr7 : ∃ a0 l c b0 m d, a' = .slice a0 l c ∧ b' = .slice b0 m d := by
      cases hfu : full g th with
      | true => obtain ⟨rfl, rfl⟩ := hful hfu; exact ⟨_, _, _, _, _, _, rfl, rfl⟩
      | false => exact gr_form (hnf hfu).gr
    obtain ⟨aa, al, ac, ba, bl, bc, rfl, rfl⟩ := hgr7
    have HXS := Lib.hid (hx5.trans hx7)
    have HSB : Hid (∀ W, (Ext w7 W ∨ (∃ kb cs, Blk w7 kb cs 25 ∧ w.heap.size ≤ kb ∧ Ch (fun k => k = kb) w7 W)) → Sb B W (.slice aa al ac) (.slice ba bl bc) GG) := fun W hW => by
      rw [← HGG.out]
      have hbs : B + 4 ≤ (World.heap (w5)).size := by have := (hx5).size; have := HS4.out; omega
      cases hfu : full g th with
      | true =>
        obtain ⟨h1, h2⟩ := hful hfu
        rw [h1, h2, if_pos rfl]
        refine sb_old HBB.out HG.out ?_
        rcases hW with hW | ⟨kb, cs, _, hk, hc⟩
        · exact (HX4.out.trans HXS.out).trans hW
        · exact hc.ext (HX4.out.trans HXS.out) fun j hj => by omega
      | false =>
        rw [if_neg (by decide)]
        rcases hW with hW | ⟨kb, cs, hb, hk, hc⟩
        · exact sb_gro HBB.out ((hnf hfu).ext' hW) hbs
        · exact sb_gro HBB.out ((hnf hfu).ch hc fun j hj => ⟨by omega, .inr ⟨cs, hj ▸ hb⟩⟩) hbs
    clear hful hnf
    obtain ⟨w8, hw8⟩ : ∃ w8, w8 = w7.alloc (.cells #[.slice aa al ac, .slice ba bl bc] 25) := ⟨_, rfl⟩
    have hxa : Ext w7 w8 := hw8 ▸ (Ext.refl w7).alloc _
    have hsb2 : Sb B w8 (.slice aa al ac) (.slice ba bl bc) GG := HSB.out _ (.inl hxa)
    have hx8 : Ext w4 w8 := HXS.out.trans hxa
    clear g0 g1 o0 o1 o2 o3 o4 o5 o6 o7 r0 r1 s0 s1 s2 f0 f1 f2 f3 f4
    obtain ⟨g0, g1, o0, o1, o2, o3, o4, o5, o6, o7, r0, r1, s0, s1, s2, f0, f1, f2, f3, f4⟩ := (HBX.out.ext hx8).cells
    try dsimp only at o0 o1 o2 o3 o4 o5 o6 o7
    obtain ⟨W8, hW8⟩ : ∃ W8, W8 = ((((w8.setCell ⟨B + 2, 0, none⟩ (.slice aa al ac)).setCell ⟨B + 2, 1, none⟩ (.slice ba bl bc)).setCell ⟨B + 3, 0, none⟩ (.int .i64 (ree))).setCell ⟨B + 3, 1, none⟩ (.int .u64 (0))).setCell ⟨B + 3, 2, none⟩ (.bool (false)) := ⟨_, rfl⟩
    obtain ⟨q0, q1, q2, q3, q4, hGr, hXr⟩ := fin HBB.out (HBX.out.ext hx8) (HX4.out.trans hx8) hsb2 W8 hW8
    have HF := Lib.hid (And.intro hGr hXr)
    clear hGr hXr hsb2 hx8 hxa
    rw [hw8] at g0 g1 o0 o1 o2 o3 o4 o5 o6 o7 r0 r1 s0 s1 s2 f0 f1 f2 f3 f4 hW8
    clear hw8
    go_wp2_with fail
    rw [← hW8]
    clear hW8
    exact bodyPost_ret (v := .tuple #[.agg #[.slice aa al ac, .slice ba bl bc], .agg #[.int .i64 ree, .int .u64 0, .bool false]]) (by simp [results, Try.results20, go_sem, q0, q1, q2, q3, q4]) rfl ⟨_, _, rfl, HF.out⟩

set_option maxRecDepth 100000 in
set_option maxHeartbeats 8000000 in
theorem rdo_8 (a b : Value) (g : Gph) (th : Nat) (hh i kk v : Int) (x : Hd) (w : World) (h : Gr w a b g) (hth : th < g.2.length) (hr : rightG g = true) (hp : posG g) (hn : g.1.length ≤ 100) (hm : g.2.length ≤ 1048576) (hv0 : 0 ≤ v) (hv1 : v ≤ 18446744073709551615) (hx0 : 0 ≤ x.2.2) (hu : ∀ n ∈ g.1, ∀ y ∈ n.2, y ≤ 18446744073709551615) :
    Calls Try.prog 20 #[.agg #[a, b], .int .i64 th, opv ⟨8, hh, i, kk, v, x⟩] w fun e w' => ∃ a' b', e = .returned (.tuple #[.agg #[a', b'], anv (doA g (th : Int) ⟨8, hh, i, kk, v, x⟩)]) ∧ Gr w' a' b' (doG g (th : Int) ⟨8, hh, i, kk, v, x⟩) ∧ Ext w w' := by
  obtain ⟨a0, c0, rfl⟩ := h.1.form
  obtain ⟨b0, d0, rfl⟩ := Gr.Ma.form h.2
  obtain ⟨B, hB⟩ : ∃ B, B = w.heap.size := ⟨_, rfl⟩
  obtain ⟨w4, hw4⟩ : ∃ w4, w4 = (((w.alloc (.cells #[.slice a0 g.1.length c0, .slice b0 g.2.length d0] 25)).alloc (.cells #[.int .i64 (8 : Int), .int .i64 hh, .int .i64 i, .int .i64 kk, .int .u64 v, .int .i64 x.1, .int .i64 x.2.1, .int .u64 x.2.2] 30)).alloc (.cells #[.slice none 0 0, .slice none 0 0] 25)).alloc (.cells #[.int .i64 0, .int .u64 0, .bool false] 35) := ⟨_, rfl⟩
  obtain ⟨hbx, hx4, hs4⟩ := bx_start (o := ⟨8, hh, i, kk, v, x⟩) hB hw4
  have HBX := Lib.hid hbx
  have HX4 := Lib.hid hx4
  have HS4 := Lib.hid hs4
  have HBB := Lib.hid hB
  have HG := Lib.hid h
  have hsm := h.2.small
  have hlen := h.2.len uS
  try dsimp only at hw4
  clear hbx hx4 hs4
  have hact : act g th ⟨8, hh, i, kk, v, x⟩ = actSame g th ⟨8, hh, i, kk, v, x⟩ := by unfold act; simp
  have t1 : decide ((th : Int) < 0) = false := decide_eq_false (by omega)
  have t2 : decide ((g.2.length : Int) ≤ (th : Int)) = false := decide_eq_false (by omega)
  have HHd := Lib.hid (fun W (hx : Ext w4 W) => rhandle_any (.slice a0 g.1.length c0) (.slice b0 g.2.length d0) g th hh W (HG.out.ext (HX4.out.trans hx)) hth)
  cases hk : handle g th hh with
  | none =>
    have hrh : rh g th hh = (0, 5) := by unfold rh; rw [hk]
    rw [hrh] at HHd
    have hd := of_err (e := 5) hth (hact.trans (by unfold actSame; dsimp only; rw [hk]))
    rw [hd.1, hd.2]
    clear hd hact hk hrh
    unfold opv anv
    clear h
    go_enter Try.func20, Try.ntmps20
    go_wp2_with fail
    rw [← hw4, ← hB]
    clear hw4 hB
    try rw [show B + 1 + 1 + 1 = B + 3 from rfl]
    try rw [show B + 1 + 1 = B + 2 from rfl]
    refine (HHd.out _ (Ext.refl w4)).mono ?_; rintro r w5 ⟨rfl, hx5⟩
    obtain ⟨g0, g1, o0, o1, o2, o3, o4, o5, o6, o7, r0, r1, s0, s1, s2, f0, f1, f2, f3, f4⟩ := (HBX.out.ext hx5).cells
    try dsimp only at o0 o1 o2 o3 o4 o5 o6 o7
    go_wp2_with fail
    refine (rno_any _ _ g (5) w5 (HG.out.ext (HX4.out.trans hx5))).mono ?_; rintro r w7 ⟨rfl, hxn⟩
    unfold anv
    have hx9 := (hx5).trans hxn
    clear hxn
    clear g0 g1 o0 o1 o2 o3 o4 o5 o6 o7 r0 r1 s0 s1 s2 f0 f1 f2 f3 f4
    obtain ⟨g0, g1, o0, o1, o2, o3, o4, o5, o6, o7, r0, r1, s0, s1, s2, f0, f1, f2, f3, f4⟩ := (HBX.out.ext hx9).cells
    try dsimp only at o0 o1 o2 o3 o4 o5 o6 o7
    obtain ⟨W8, hW8⟩ : ∃ W8, W8 = ((((w7.setCell ⟨B + 2, 0, none⟩ (.slice a0 g.1.length c0)).setCell ⟨B + 2, 1, none⟩ (.slice b0 g.2.length d0)).setCell ⟨B + 3, 0, none⟩ (.int .i64 (5))).setCell ⟨B + 3, 1, none⟩ (.int .u64 (0))).setCell ⟨B + 3, 2, none⟩ (.bool (false)) := ⟨_, rfl⟩
    obtain ⟨q0, q1, q2, q3, q4, hGr, hXr⟩ := fin HBB.out (HBX.out.ext hx9) (HX4.out.trans hx9) (sb_old HBB.out HG.out (HX4.out.trans hx9)) W8 hW8
    have HF := Lib.hid (And.intro hGr hXr)
    clear hGr hXr
    go_wp2_with fail
    rw [← hW8]
    clear hW8
    exact bodyPost_ret (v := .tuple #[.agg #[.slice a0 g.1.length c0, .slice b0 g.2.length d0], .agg #[.int .i64 (5), .int .u64 (0), .bool (false)]]) (by simp [results, Try.results20, go_sem, q0, q1, q2, q3, q4]) rfl ⟨_, _, rfl, HF.out⟩
  | some y =>
    have hrh : rh g th hh = (y, 0) := by unfold rh; rw [hk]
    rw [hrh] at HHd
    have hyb := right_handle hr hth hk
    have HHk := Lib.hid (fun W (hx : Ext w4 W) => rhandle_any (.slice a0 g.1.length c0) (.slice b0 g.2.length d0) g th kk W (HG.out.ext (HX4.out.trans hx)) hth)
    cases hk2 : handle g th kk with
    | none =>
      have hrh2 : rh g th kk = (0, 5) := by unfold rh; rw [hk2]
      rw [hrh2] at HHk
      have hd := of_err (e := 5) hth (hact.trans (by unfold actSame; dsimp only; rw [hk]; dsimp only; rw [hk2]))
      rw [hd.1, hd.2]
      clear hd hact hk hrh hk2 hrh2
      unfold opv anv
      clear h
      go_enter Try.func20, Try.ntmps20
      go_wp2_with fail
      rw [← hw4, ← hB]
      clear hw4 hB
      try rw [show B + 1 + 1 + 1 = B + 3 from rfl]
      try rw [show B + 1 + 1 = B + 2 from rfl]
      refine (HHd.out _ (Ext.refl w4)).mono ?_; rintro r w5 ⟨rfl, hx5⟩
      obtain ⟨g0, g1, o0, o1, o2, o3, o4, o5, o6, o7, r0, r1, s0, s1, s2, f0, f1, f2, f3, f4⟩ := (HBX.out.ext hx5).cells
      try dsimp only at o0 o1 o2 o3 o4 o5 o6 o7
      go_wp2_with fail
      refine (HHk.out _ hx5).mono ?_; rintro r w6 ⟨rfl, hx6'⟩
      have hx6 := hx5.trans hx6'
      clear g0 g1 o0 o1 o2 o3 o4 o5 o6 o7 r0 r1 s0 s1 s2 f0 f1 f2 f3 f4
      obtain ⟨g0, g1, o0, o1, o2, o3, o4, o5, o6, o7, r0, r1, s0, s1, s2, f0, f1, f2, f3, f4⟩ := (HBX.out.ext hx6).cells
      try dsimp only at o0 o1 o2 o3 o4 o5 o6 o7
      go_wp2_with fail
      refine (rno_any _ _ g (5) w6 (HG.out.ext (HX4.out.trans hx6))).mono ?_; rintro r w7 ⟨rfl, hxn⟩
      unfold anv
      have hx9 := (hx6).trans hxn
      clear hxn
      clear g0 g1 o0 o1 o2 o3 o4 o5 o6 o7 r0 r1 s0 s1 s2 f0 f1 f2 f3 f4
      obtain ⟨g0, g1, o0, o1, o2, o3, o4, o5, o6, o7, r0, r1, s0, s1, s2, f0, f1, f2, f3, f4⟩ := (HBX.out.ext hx9).cells
      try dsimp only at o0 o1 o2 o3 o4 o5 o6 o7
      obtain ⟨W8, hW8⟩ : ∃ W8, W8 = ((((w7.setCell ⟨B + 2, 0, none⟩ (.slice a0 g.1.length c0)).setCell ⟨B + 2, 1, none⟩ (.slice b0 g.2.length d0)).setCell ⟨B + 3, 0, none⟩ (.int .i64 (5))).setCell ⟨B + 3, 1, none⟩ (.int .u64 (0))).setCell ⟨B + 3, 2, none⟩ (.bool (false)) := ⟨_, rfl⟩
      obtain ⟨q0, q1, q2, q3, q4, hGr, hXr⟩ := fin HBB.out (HBX.out.ext hx9) (HX4.out.trans hx9) (sb_old HBB.out HG.out (HX4.out.trans hx9)) W8 hW8
      have HF := Lib.hid (And.intro hGr hXr)
      clear hGr hXr
      go_wp2_with fail
      rw [← hW8]
      clear hW8
      exact bodyPost_ret (v := .tuple #[.agg #[.slice a0 g.1.length c0, .slice b0 g.2.length d0], .agg #[.int .i64 (5), .int .u64 (0), .bool (false)]]) (by simp [results, Try.results20, go_sem, q0, q1, q2, q3, q4]) rfl ⟨_, _, rfl, HF.out⟩
    | some z =>
      have hrh2 : rh g th kk = (z, 0) := by unfold rh; rw [hk2]
      rw [hrh2] at HHk
      have hd := of_ok (G := g) (v := 0) (b := decide (y = z)) hth (hact.trans (by unfold actSame; dsimp only; rw [hk]; dsimp only; rw [hk2]))
      rw [hd.1, hd.2]
      clear hd hact hk hrh hk2 hrh2
      obtain ⟨bb, hbb⟩ : ∃ bb, decide (y = z) = bb := ⟨_, rfl⟩
      have hbb2 : (y == z) = bb := hbb
      rw [hbb]
      clear hbb
      unfold opv anv
      clear h
      go_enter Try.func20, Try.ntmps20
      go_wp2_with fail
      rw [← hw4, ← hB]
      clear hw4 hB
      try rw [show B + 1 + 1 + 1 = B + 3 from rfl]
      try rw [show B + 1 + 1 = B + 2 from rfl]
      refine (HHd.out _ (Ext.refl w4)).mono ?_; rintro r w5 ⟨rfl, hx5⟩
      obtain ⟨g0, g1, o0, o1, o2, o3, o4, o5, o6, o7, r0, r1, s0, s1, s2, f0, f1, f2, f3, f4⟩ := (HBX.out.ext hx5).cells
      try dsimp only at o0 o1 o2 o3 o4 o5 o6 o7
      go_wp2_with fail
      refine (HHk.out _ hx5).mono ?_; rintro r w6 ⟨rfl, hx6'⟩
      have hx6 := hx5.trans hx6'
      clear g0 g1 o0 o1 o2 o3 o4 o5 o6 o7 r0 r1 s0 s1 s2 f0 f1 f2 f3 f4
      obtain ⟨g0, g1, o0, o1, o2, o3, o4, o5, o6, o7, r0, r1, s0, s1, s2, f0, f1, f2, f3, f4⟩ := (HBX.out.ext hx6).cells
      try dsimp only at o0 o1 o2 o3 o4 o5 o6 o7
      obtain ⟨W8, hW8⟩ : ∃ W8, W8 = ((((w6.setCell ⟨B + 2, 0, none⟩ (.slice a0 g.1.length c0)).setCell ⟨B + 2, 1, none⟩ (.slice b0 g.2.length d0)).setCell ⟨B + 3, 0, none⟩ (.int .i64 (0))).setCell ⟨B + 3, 1, none⟩ (.int .u64 (0))).setCell ⟨B + 3, 2, none⟩ (.bool (bb)) := ⟨_, rfl⟩
      obtain ⟨q0, q1, q2, q3, q4, hGr, hXr⟩ := fin HBB.out (HBX.out.ext hx6) (HX4.out.trans hx6) (sb_old HBB.out HG.out (HX4.out.trans hx6)) W8 hW8
      have HF := Lib.hid (And.intro hGr hXr)
      clear hGr hXr
      go_wp2_with fail
      rw [← hW8]
      clear hW8
      exact bodyPost_ret (v := .tuple #[.agg #[.slice a0 g.1.length c0, .slice b0 g.2.length d0], .agg #[.int .i64 (0), .int .u64 (0), .bool (bb)]]) (by simp [results, Try.results20, go_sem, q0, q1, q2, q3, q4]) rfl ⟨_, _, rfl, HF.out⟩

set_option maxRecDepth 100000 in
set_option maxHeartbeats 8000000 in
theorem rdo_11 (a b : Value) (g : Gph) (th : Nat) (hh i kk v : Int) (x : Hd) (w : World) (h : Gr w a b g) (hth : th < g.2.length) (hr : rightG g = true) (hp : posG g) (hn : g.1.length ≤ 100) (hm : g.2.length ≤ 1048576) (hv0 : 0 ≤ v) (hv1 : v ≤ 18446744073709551615) (hx0 : 0 ≤ x.2.2) (hu : ∀ n ∈ g.1, ∀ y ∈ n.2, y ≤ 18446744073709551615) :
    Calls Try.prog 20 #[.agg #[a, b], .int .i64 th, opv ⟨11, hh, i, kk, v, x⟩] w fun e w' => ∃ a' b', e = .returned (.tuple #[.agg #[a', b'], anv (doA g (th : Int) ⟨11, hh, i, kk, v, x⟩)]) ∧ Gr w' a' b' (doG g (th : Int) ⟨11, hh, i, kk, v, x⟩) ∧ Ext w w' := by
  obtain ⟨a0, c0, rfl⟩ := h.1.form
  obtain ⟨b0, d0, rfl⟩ := Gr.Ma.form h.2
  obtain ⟨B, hB⟩ : ∃ B, B = w.heap.size := ⟨_, rfl⟩
  obtain ⟨w4, hw4⟩ : ∃ w4, w4 = (((w.alloc (.cells #[.slice a0 g.1.length c0, .slice b0 g.2.length d0] 25)).alloc (.cells #[.int .i64 (11 : Int), .int .i64 hh, .int .i64 i, .int .i64 kk, .int .u64 v, .int .i64 x.1, .int .i64 x.2.1, .int .u64 x.2.2] 30)).alloc (.cells #[.slice none 0 0, .slice none 0 0] 25)).alloc (.cells #[.int .i64 0, .int .u64 0, .bool false] 35) := ⟨_, rfl⟩
  obtain ⟨hbx, hx4, hs4⟩ := bx_start (o := ⟨11, hh, i, kk, v, x⟩) hB hw4
  have HBX := Lib.hid hbx
  have HX4 := Lib.hid hx4
  have HS4 := Lib.hid hs4
  have HBB := Lib.hid hB
  have HG := Lib.hid h
  have hsm := h.2.small
  have hlen := h.2.len uS
  try dsimp only at hw4
  clear hbx hx4 hs4
  have hd := of_ok (G := g) (v := 0) (b := false) (o := ⟨11, hh, i, kk, v, x⟩) hth (by unfold act; simp)
  rw [hd.1, hd.2]
  clear hd
  have t1 : decide ((th : Int) < 0) = false := decide_eq_false (by omega)
  have t2 : decide ((g.2.length : Int) ≤ (th : Int)) = false := decide_eq_false (by omega)
  obtain ⟨W8, hW8⟩ : ∃ W8, W8 = (((w.alloc (.cells #[.slice a0 g.1.length c0, .slice b0 g.2.length d0] 25)).alloc (.cells #[.int .i64 (11 : Int), .int .i64 hh, .int .i64 i, .int .i64 kk, .int .u64 v, .int .i64 x.1, .int .i64 x.2.1, .int .u64 x.2.2] 30)).alloc (.cells #[.slice a0 g.1.length c0, .slice b0 g.2.length d0] 25)).alloc (.cells #[.int .i64 0, .int .u64 0, .bool false] 35) := ⟨_, rfl⟩
  have hx8 : Ext w W8 := hW8 ▸ ((((Ext.refl w).alloc _).alloc _).alloc _).alloc _
  have h2 : Blk W8 (B + 2) #[.slice a0 g.1.length c0, .slice b0 g.2.length d0] 25 := by rw [hW8, hB]; exact (Wf.blk_at (by simp)).alloc _
  have h3 : Blk W8 (B + 3) #[.int .i64 0, .int .u64 0, .bool false] 35 := by rw [hW8, hB]; exact Wf.blk_at (by simp)
  have q0 : W8.cell? ⟨B + 2, 0, none⟩ = some (.slice a0 g.1.length c0) := h2.cell (i := 0) rfl
  have q1 : W8.cell? ⟨B + 2, 1, none⟩ = some (.slice b0 g.2.length d0) := h2.cell (i := 1) rfl
  have q2 : W8.cell? ⟨B + 3, 0, none⟩ = some (.int .i64 0) := h3.cell (i := 0) rfl
  have q3 : W8.cell? ⟨B + 3, 1, none⟩ = some (.int .u64 0) := h3.cell (i := 1) rfl
  have q4 : W8.cell? ⟨B + 3, 2, none⟩ = some (.bool false) := h3.cell (i := 2) rfl
  have HF := Lib.hid (And.intro (h.ext hx8) hx8)
  clear hx8 h2 h3 hw4
  unfold opv anv
  clear h
  go_enter Try.func20, Try.ntmps20
  go_wp2_with fail
  rw [← hW8, ← hB]
  clear hW8 hB
  try rw [show B + 1 + 1 + 1 = B + 3 from rfl]
  try rw [show B + 1 + 1 = B + 2 from rfl]
  exact bodyPost_ret (v := .tuple #[.agg #[.slice a0 g.1.length c0, .slice b0 g.2.length d0], .agg #[.int .i64 0, .int .u64 0, .bool false]]) (by simp [results, Try.results20, go_sem, q0, q1, q2, q3, q4]) rfl ⟨_, _, rfl, HF.out⟩

end Go.Proofs.Ytjhmlbhfnogdiaa.Dq
