/- The reference's visit: what is reached, in order. -/
import Derived.Test.YtjhmlbhfnogdiaaVs
import Derived.Test.YtjhmlbhfnogdiaaCp
import Derived.Test.YtjhmlbhfnogdiaaCo
import Derived.Test.YtjhmlbhfnogdiaaRt
namespace Go.Proofs.Ytjhmlbhfnogdiaa.Vr
open Go.RowKit
open Go.Proofs.Ytjhmlbhfnogdiaa Go.Proofs.Ytjhmlbhfnogdiaa.Hd Go.Proofs.Ytjhmlbhfnogdiaa.Gr Go.Proofs.Ytjhmlbhfnogdiaa.Hg Go.Proofs.Ytjhmlbhfnogdiaa.Ps Go.Proofs.Ytjhmlbhfnogdiaa.Rr Go.Proofs.Ytjhmlbhfnogdiaa.Wk Go.Proofs.Ytjhmlbhfnogdiaa.Pl Go.Proofs.Ytjhmlbhfnogdiaa.Vs Go.Proofs.Ytjhmlbhfnogdiaa.Cp
set_option linter.unusedVariables false

/-- 'append(append([]int{}, out...), h)'. -/
theorem grow2 (w : World) (v : Value) (out : List Int) (h : Int) (hs : Sl .i64 w v out) (hb : out.length ≤ 1000000) :
    ∃ v1 w1 v2 w2, (Builtin.append_ #[42, 42] 42 #[.slice (some ⟨w.heap.size, 0, none⟩) 0 0, v]).run Try.prog (w.alloc (.cells #[] 3)) = .ok v1 w1 ∧
      (Builtin.append_ #[42, 42] 42 #[v1, .slice (some ⟨w1.heap.size, 0, none⟩) 1 1]).run Try.prog (w1.alloc (.cells #[.int .i64 h] 3)) = .ok v2 w2 ∧ Sl .i64 w2 v2 (out ++ [h]) ∧ Ext w w2 := by
  obtain ⟨i0, hi, hz0, hz1, hz2⟩ := info_i
  have hE0 : Ext w (w.alloc (.cells #[] 3)) := (Ext.refl w).alloc _
  have ho0 := own_empty w 3 1
  have hs0 : Row (w.alloc (.cells #[] 3)) 1 8 v out.length (out.map (Value.int .i64)) := hs.ext hE0
  obtain ⟨v1, w1, hrun1, hown1, hg1, _⟩ := append_own (ty := 42) uI hi hz0 hz1 hz2 rfl (by decide) ho0 hE0.size hs0 (by intro x hx; obtain ⟨n, _, rfl⟩ := List.mem_map.1 hx; rfl) (by omega) (by decide)
  have hE1 : Ext w w1 := hE0.grown hg1 (fun k hk => (ho0.lt k hk).1)
  have hE2 : Ext w1 (w1.alloc (.cells #[.int .i64 h] 3)) := (Ext.refl w1).alloc _
  have hrow : Row (w1.alloc (.cells #[.int .i64 h] 3)) 1 8 (.slice (some ⟨w1.heap.size, 0, none⟩) 1 1) 1 [.int .i64 h] := ⟨rfl, by omega, by omega, .inr ⟨_, 1, rfl, Nat.le_refl _, by unfold maxLen; omega, cell_one_new _ _ _⟩⟩
  obtain ⟨v2, w2, hrun2, hown2, hg2, _⟩ := append_own (ty := 42) uI hi hz0 hz1 hz2 rfl (by decide) (own_ext hown1 hE2) (hE1.trans hE2).size hrow (by simp [Value.oneCell']) (by omega) (by decide)
  refine ⟨v1, w1, v2, w2, hrun1, hrun2, ?_, (hE1.trans hE2).grown hg2 (fun k hk => (hown1.lt k hk).1)⟩
  have h3 := Row.of_own (b := 8) hown2 (by omega) (by omega)
  unfold Sl
  simpa using h3

set_option maxRecDepth 100000 in
set_option maxHeartbeats 8000000 in
theorem rvisit (g : Gph) (hr : rightG g = true) (hp : posG g) (hN : g.1.length ≤ 1000) : ∀ (k : Nat) (a b v : Value) (h : Int) (out : List Int) (w : World), Gr w a b g → Sl .i64 w v out → In g.1.length out → g.1.length < out.length + k → 0 ≤ h → h ≤ g.1.length →
    Calls Try.prog 43 #[.agg #[a, b], .int .i64 h, v] w fun e w' => ∃ o, e = .returned o ∧ Sl .i64 w' o (dfs g k out h) ∧ Ext w w'
  | 0, a, b, v, h, out, w, hG, hs, hi, hk, h0, h1 => by
    have := in_len _ _ hi
    omega
  | k + 1, a, b, v, h, out, w, hG, hs, hi, hk, h0, h1 => by
    have IH := Lib.hid (rvisit g hr hp hN k)
    obtain ⟨a0, c0, rfl⟩ := hG.1.form
    obtain ⟨b0, d0, rfl⟩ := Gr.Ma.form hG.2
    obtain ⟨va, vc, rfl⟩ := Row.form hs
    have HP := Lib.hid (fun W (hx : Ext w W) => place_any _ out h W (hs.ext hx))
    have hx1 : Ext w (w.alloc (.cells #[.slice a0 g.1.length c0, .slice b0 g.2.length d0] 25)) := (Ext.refl w).alloc _
    unfold dfs
    by_cases hh : h = 0
    · subst hh
      rw [if_pos (.inl rfl)]
      have HS := Lib.hid (hs.ext hx1)
      clear hs hG
      go_enter Try.func43, Try.ntmps43
      go_wp2_with fail
      go_ret
      exact ⟨_, rfl, HS.out, hx1⟩
    by_cases hm : h ∈ out
    · rw [if_pos (.inr hm)]
      have hpl : placeL out h = (out.idxOf h : Int) := by unfold placeL; rw [if_pos hm]
      rw [hpl] at HP
      have HS := Lib.hid (hs.ext hx1)
      have hne : (h == 0) = false := by simpa using hh
      clear hs hG hm hpl
      go_enter Try.func43, Try.ntmps43
      go_wp2_with fail
      refine (HP.out _ hx1).mono ?_; rintro e w' ⟨rfl, rfl⟩
      go_wp2_with fail
      go_ret
      exact ⟨_, rfl, HS.out, hx1⟩
    · rw [if_neg (by rintro (e | e); exact hh e; exact hm e)]
      have hpl : placeL out h = -1 := by unfold placeL; rw [if_neg hm]
      rw [hpl] at HP
      have hne : (h == 0) = false := by simpa using hh
      obtain ⟨wA, hwA⟩ : ∃ wX, wX = w.alloc (.cells #[.slice a0 g.1.length c0, .slice b0 g.2.length d0] 25) := ⟨_, rfl⟩
      obtain ⟨B, hB⟩ : ∃ B, B = w.heap.size := ⟨_, rfl⟩
      rw [← hwA] at hx1
      have hlen := in_len _ _ hi
      obtain ⟨v1, w1, v2, w2, hr1, hr2, hs2, hx2⟩ := grow2 wA _ out h (hs.ext hx1) (by omega)
      have HR1 := Lib.hid hr1
      have HR2 := Lib.hid hr2
      have HS2 := Lib.hid hs2
      have HX2 := Lib.hid (hx1.trans hx2)
      have hi' : In g.1.length (out ++ [h]) := in_snoc hi (by omega) h1 hm
      have HI := Lib.hid hi'
      have HK : Hid (g.1.length < (out ++ [h]).length + k) := by show _ < _; rw [List.length_append]; simp; omega
      have HKids := Lib.hid (kids_in hr hp (h := h) (by omega) h1)
      obtain ⟨n, rfl⟩ : ∃ n : Nat, h = (n : Int) + 1 := ⟨(h - 1).toNat, by omega⟩
      have hn : n < g.1.length := by omega
      have hsmall : (n : Int) < 1000 := by omega
      obtain ⟨l0, l1, m0, m1⟩ := right_head hr hp hn
      obtain ⟨_, _, hfl, _⟩ := right_node hr hn
      have hbA : Blk wA B #[.slice a0 g.1.length c0, .slice b0 g.2.length d0] 25 := by rw [hwA, hB]; exact Blk.new w _ _
      have hb2 := hbA.ext hx2
      have g0 : w2.cell? ⟨B, 0, none⟩ = some (.slice a0 g.1.length c0) := hb2.cell (i := 0) rfl
      obtain ⟨b1, o1, s1, u, hix, e0, e1, e2, e3, hu⟩ := ((hG.ext hx1).ext hx2).1.at_ n hn
      have hkd : kids g ((n : Int) + 1) = (ptrs (node g n).1.2.1.toNat (node g n).1.2.2).map fun p => (node g n).2.getD p.toNat 0 := by
        unfold kids
        rw [show ((n : Int) + 1 - 1).toNat = n by omega]
      obtain ⟨ks, hks⟩ : ∃ ks, kids g ((n : Int) + 1) = ks := ⟨_, rfl⟩
      rw [hks] at hkd HKids ⊢
      replace e0 : w2.cell? ⟨b1, o1, s1⟩ = some (.int .i64 (node g n).1.1) := e0
      replace e1 : w2.cell? ⟨b1, o1 + 1, none⟩ = some (.int .i64 (node g n).1.2.1) := e1
      replace e2 : w2.cell? ⟨b1, o1 + 2, none⟩ = some (.int .u64 (node g n).1.2.2) := e2
      replace hu : Sl .u64 w2 u (node g n).2 := hu
      generalize node g n = nd at *
      obtain ⟨⟨t, l, m⟩, f⟩ := nd
      dsimp only at *
      obtain ⟨l', rfl⟩ : ∃ l' : Nat, l = (l' : Int) := ⟨l.toNat, by omega⟩
      rw [Int.toNat_natCast] at hkd
      have hfl' : f.length = l' := by omega
      obtain ⟨ua, uc, rfl⟩ := Row.form hu
      rw [hfl'] at e3
      have hwr : IntKind.i64.wrap ((n : Int) + 1 - 1) = n := by rw [IntKind.wrap_i64]; omega
      obtain ⟨wN, hwN⟩ : ∃ wN, wN = w2.alloc (.cells #[.int .i64 t, .int .i64 l', .int .u64 m, .slice ua l' uc] 67) := ⟨_, rfl⟩
      obtain ⟨nb, hnb⟩ : ∃ nb, nb = w2.heap.size := ⟨_, rfl⟩
      have hxN : Ext w2 wN := hwN ▸ (Ext.refl w2).alloc _
      have hbN : Blk wN nb #[.int .i64 t, .int .i64 l', .int .u64 m, .slice ua l' uc] 67 := by rw [hwN, hnb]; exact Blk.new w2 _ _
      have b0' : wN.cell? ⟨nb, 0, none⟩ = some (.int .i64 t) := hbN.cell (i := 0) rfl
      have b1' : wN.cell? ⟨nb, 1, none⟩ = some (.int .i64 l') := hbN.cell (i := 1) rfl
      have b2' : wN.cell? ⟨nb, 2, none⟩ = some (.int .u64 m) := hbN.cell (i := 2) rfl
      have HPt := Lib.hid (rptrs_any t m l' (by omega) m0 m1 wN)
      have HBN := Lib.hid hbN
      have HBG := Lib.hid (hb2.ext hxN)
      have HU := Lib.hid (hu.ext hxN)
      have HG2 := Lib.hid (((hG.ext hx1).ext hx2).ext hxN)
      have HXN := Lib.hid hxN
      have HKD := Lib.hid hkd
      have HFL := Lib.hid hfl'
      have HL := Lib.hid (And.intro l1 hN)
      have HRP := Lib.hid (And.intro hr hp)
      rw [hB] at g0
      clear hs hk hlen h0 h1 hi hi' hm hh hu hbA hb2 hn hG hr1 hr2 hs2 hx2 hpl hks hkd hfl hfl' l0 l1 m0 m1 hbN hr hp hN
      go_enter Try.func43, Try.ntmps43
      go_wp2_with fail
      rw [← hwA]
      refine (HP.out _ hx1).mono ?_; rintro e w' ⟨rfl, rfl⟩
      clear hwA
      go_wp2_with (at_builtin; first
        | ((with_reducible refine Lib.wpList_append_run _ ?_ (.tmp 19) (.tmp 20) 42 42 ?_ _ _ ?_ ?_ v1 w1 HR1.out ?_); rfl; rfl; rfl; rfl)
        | ((with_reducible refine Lib.wpList_append_run _ ?_ (.tmp 21) (.tmp 23) 42 42 ?_ _ _ ?_ ?_ v2 w2 HR2.out ?_); rfl; rfl; rfl; rfl))
      rw [← hwN, ← hnb, ← hB]
      clear hB
      clear hwN hnb
      refine HPt.out.mono ?_; rintro e wL ⟨po, rfl, hpo, hxL⟩
      obtain ⟨pa, pc, rfl⟩ := Row.form hpo
      have hpolen := hpo.len uI
      obtain ⟨pl, hpl⟩ : ∃ pl, (ptrs l' m).length = pl := ⟨_, rfl⟩
      have hpl16 : pl ≤ 16 := by rw [← hpl]; have := ptrs_len l' m; have := HL.out.1; omega
      have HPO := Lib.hid hpo
      have HPL := Lib.hid hpl
      have HVL : Hid (Sl .i64 wL v2 (out ++ [(n : Int) + 1]) ∧ Ext w wL) := ⟨HS2.out.ext (HXN.out.trans hxL), HX2.out.trans (HXN.out.trans hxL)⟩
      have HXL := Lib.hid (HXN.out.trans hxL)
      have HGL := Lib.hid (HG2.out.ext hxL)
      have HBL := Lib.hid (And.intro (HBN.out.ext hxL) (HBG.out.ext hxL))
      have HUL := Lib.hid (HU.out.ext hxL)
      rw [hpl] at hpolen
      rw [hpl]
      clear hpo hpl hxL e0 e1 e2 e3 b0' b1' b2' hix g0 HBN HBG HU HG2
      go_wp2_with fail
      go_loopw [2, 9] (fun v i wr => ∃ (j : Nat) (o : List Int), i = .int .i64 j ∧ j ≤ pl ∧ o = (ks.take j).foldl (dfs g k) (out ++ [(n : Int) + 1]) ∧ In g.1.length o ∧ (out ++ [(n : Int) + 1]).length ≤ o.length ∧ Sl .i64 wr v o ∧ Ext w wr ∧ Ext wL wr) (fun _ i _ => pl - (intOf i).toNat)
      case atStart => exact ⟨0, _, rfl, Nat.zero_le _, rfl, HI.out, Nat.le_refl _, HVL.out.1, HVL.out.2, Ext.refl _⟩
      case round =>
        obtain ⟨j, o, rfl, hj, ho, hio, hlo, hvs, hxw, hxl⟩ := hrel
        by_cases hlt : j < pl
        · have hjl : j < (ptrs l' m).length := by rw [HPL.out]; exact hlt
          obtain ⟨p, hix, hpc⟩ := (HPO.out.ext hxl).at_ uI szI (i := (j : Int)) (by omega) (by rw [HPL.out]; omega)
          rw [HPL.out] at hix
          rw [Int.toNat_natCast] at hpc
          obtain ⟨xi, hxi0, hxl', _⟩ := ptrs_mem (List.getElem_mem hjl)
          have hxi : (ptrs l' m).getD j 0 = (xi : Int) := by simp [List.getD_eq_getElem?_getD, hjl, hxi0]
          rw [hxi] at hpc
          have hkj : ks[j]? = some (f.getD xi 0) := by
            rw [HKD.out, List.getElem?_map, List.getElem?_eq_getElem hjl, hxi0]
            simp
          have hkb := HKids.out (f.getD xi 0) (List.mem_of_getElem? hkj)
          have hbr := HBL.out.1.ext hxl
          have hbg := HBL.out.2.ext hxl
          have r3 : wr.cell? ⟨nb, 3, none⟩ = some (.slice ua l' uc) := hbr.cell (i := 3) rfl
          have r0 : wr.cell? ⟨B, 0, none⟩ = some (.slice a0 g.1.length c0) := hbg.cell (i := 0) rfl
          have r1 : wr.cell? ⟨B, 1, none⟩ = some (.slice b0 g.2.length d0) := hbg.cell (i := 1) rfl
          obtain ⟨y, hy⟩ : ∃ y, f.getD xi 0 = y := ⟨_, rfl⟩
          rw [hy] at hkj hkb
          obtain ⟨q, hqx, hqc⟩ := (HUL.out.ext hxl).at_ uU szU (i := (xi : Int)) (by omega) (by rw [HFL.out]; omega)
          rw [Int.toNat_natCast, hy] at hqc
          rw [HFL.out] at hqx
          have hyw : IntKind.i64.wrap y = y := by
            have := HL.out.2
            rw [IntKind.wrap_i64]; omega
          have hS0 : wr.drew.cell? ⟨B, 0, none⟩ = some (.slice a0 g.1.length c0) ∧ wr.drew.cell? ⟨B, 1, none⟩ = some (.slice b0 g.2.length d0) ∧ wr.drew.cell? ⟨nb, 3, none⟩ = some (.slice ua l' uc) ∧ wr.drew.cell? p = some (.int .i64 xi) ∧ wr.drew.cell? q = some (.int .u64 y) := ⟨r0, r1, r3, hpc, hqc⟩
          have hxd : Ext wr wr.drew := (Ext.refl wr).drew
          obtain ⟨vo, vco, rfl⟩ := Row.form hvs
          have HC := Lib.hid (IH.out _ _ _ y o wr.drew (HGL.out.ext (hxl.trans hxd)) (hvs.ext hxd) hio (by have := HK.out; omega) hkb.1 hkb.2)
          have HFin : Hid (∀ w5 v5, Sl .i64 w5 v5 (dfs g k o y) → Ext wr.drew w5 → ∃ (o : List Int), o = (ks.take (j + 1)).foldl (dfs g k) (out ++ [(n : Int) + 1]) ∧ In g.1.length o ∧ (out ++ [(n : Int) + 1]).length ≤ o.length ∧ Sl .i64 w5 v5 o ∧ Ext w w5 ∧ Ext wL w5) := fun w5 v5 hV5 hF5 => by
            obtain ⟨i1, i2⟩ := dfs_in HRP.out.1 HRP.out.2 k o y hio hkb.1 hkb.2
            refine ⟨_, ?_, i1, Nat.le_trans hlo i2.length_le, hV5, hxw.trans (hxd.trans hF5), hxl.trans (hxd.trans hF5)⟩
            rw [List.take_add_one, hkj, List.foldl_append, ← ho]
            rfl
          clear hkj hkb hbr hbg hy hvs r0 r1 r3 hio hlo hxw ho hxi hxi0 hpc hqc hxd
          go_wp2_with fail
          refine wp_region_noPanic ?_
          refine Rt.begin_ (fun W : World => W.cell? ⟨B, 0, none⟩ = some (.slice a0 g.1.length c0) ∧ W.cell? ⟨B, 1, none⟩ = some (.slice b0 g.2.length d0) ∧ W.cell? ⟨nb, 3, none⟩ = some (.slice ua l' uc) ∧ W.cell? p = some (.int .i64 xi) ∧ W.cell? q = some (.int .u64 y)) (fun i => i == 11 || i == 12) (by kernel_rfl) ?_
          simp only [List.length_cons, List.length_nil, Nat.reduceAdd, Array.replicate_succ, Array.replicate_zero]
          refine Rt.take 0 (v := ?_) rfl (by kernel_rfl) (fun _ _ _ h => h) rfl ?_ hS0 ?_
          rotate_left
          · (intro W hSW; (try dsimp only at hSW); go_simp; try with_reducible rfl)
          try simp only [Act.put, List.setIfInBounds_toArray, List.set_cons_zero, List.set_cons_succ]
          refine Rt.takeW 1 (v := ?_) rfl (by kernel_rfl) (fun _ _ _ h => h) rfl ?_ ?_
          rotate_left
          · (intro W; go_simp; try with_reducible rfl)
          try simp only [Act.put, List.setIfInBounds_toArray, List.set_cons_zero, List.set_cons_succ]
          refine Rt.take 2 (v := ?_) rfl (by kernel_rfl) (fun _ _ _ h => h) rfl ?_ hS0 ?_
          rotate_left
          · (intro W hSW; (try dsimp only at hSW); go_simp; try with_reducible rfl)
          try simp only [Act.put, List.setIfInBounds_toArray, List.set_cons_zero, List.set_cons_succ]
          refine Rt.takeW 3 (v := ?_) rfl (by kernel_rfl) (fun _ _ _ h => h) rfl ?_ ?_
          rotate_left
          · (intro W; go_simp; try with_reducible rfl)
          try simp only [Act.put, List.setIfInBounds_toArray, List.set_cons_zero, List.set_cons_succ]
          refine Rt.takeW 4 (v := ?_) rfl (by kernel_rfl) (fun _ _ _ h => h) rfl ?_ ?_
          rotate_left
          · (intro W; go_simp; try with_reducible rfl)
          try simp only [Act.put, List.setIfInBounds_toArray, List.set_cons_zero, List.set_cons_succ]
          refine Rt.takeW 5 (v := ?_) rfl (by kernel_rfl) (fun _ _ _ h => h) rfl ?_ ?_
          rotate_left
          · (intro W; go_simp; try with_reducible rfl)
          try simp only [Act.put, List.setIfInBounds_toArray, List.set_cons_zero, List.set_cons_succ]
          refine Rt.take 6 (v := ?_) rfl (by kernel_rfl) (fun _ _ _ h => h) rfl ?_ hS0 ?_
          rotate_left
          · (intro W hSW; (try dsimp only at hSW); go_simp; try with_reducible rfl)
          try simp only [Act.put, List.setIfInBounds_toArray, List.set_cons_zero, List.set_cons_succ]
          refine Rt.takeW 7 (v := ?_) rfl (by kernel_rfl) (fun _ _ _ h => h) rfl ?_ ?_
          rotate_left
          · (intro W; go_simp; try with_reducible rfl)
          try simp only [Act.put, List.setIfInBounds_toArray, List.set_cons_zero, List.set_cons_succ]
          refine Rt.take 8 (v := ?_) rfl (by kernel_rfl) (fun _ _ _ h => h) rfl ?_ hS0 ?_
          rotate_left
          · (intro W hSW; (try dsimp only at hSW); go_simp; try with_reducible rfl)
          try simp only [Act.put, List.setIfInBounds_toArray, List.set_cons_zero, List.set_cons_succ]
          refine Rt.takeW 9 (v := ?_) rfl (by kernel_rfl) (fun _ _ _ h => h) rfl ?_ ?_
          rotate_left
          · (intro W; go_simp; try with_reducible rfl)
          try simp only [Act.put, List.setIfInBounds_toArray, List.set_cons_zero, List.set_cons_succ]
          refine Rt.takeW 10 (v := ?_) rfl (by kernel_rfl) (fun _ _ _ h => h) rfl ?_ ?_
          rotate_left
          · (intro W; go_simp; try with_reducible rfl)
          try simp only [Act.put, List.setIfInBounds_toArray, List.set_cons_zero, List.set_cons_succ]
          refine Rt.step 11 rfl (by kernel_rfl) rfl (fun K hK => ?_)
          go_simp
          refine HC.out.mono ?_; rintro e w5 ⟨v5, rfl, hV5, hF5⟩
          refine hK _ _ ⟨.inl rfl, ?_⟩
          clear hK K
          try simp only [Act.put, List.setIfInBounds_toArray, List.set_cons_zero, List.set_cons_succ]
          refine Rt.step 12 rfl (by kernel_rfl) rfl (fun K hK => ?_)
          go_simp
          refine hK _ _ ⟨.inl rfl, ?_⟩
          clear hK K
          try simp only [Act.put, List.setIfInBounds_toArray, List.set_cons_zero, List.set_cons_succ]
          refine Rt.done (by kernel_rfl) ?_
          refine NoPanic.normal ?_
          obtain ⟨o5, h51, h52, h53, h54, h55, h56⟩ := HFin.out _ _ hV5 hF5
          clear hV5 hF5 hS0 HC
          go_wp2_with fail
          go_roundw
          case rel => exact ⟨j + 1, o5, by go_num, hlt, h51, h52, h53, h54, h55, h56⟩
          case measure => simp [intOf]; omega
        · obtain rfl : j = pl := by omega
          have hkl : ks.length = j := by rw [HKD.out, List.length_map, HPL.out]
          obtain ⟨vo, vco, rfl⟩ := Row.form hvs
          have HFin : Hid (Sl .i64 wr (.slice vo o.length vco) (ks.foldl (dfs g k) (out ++ [(n : Int) + 1])) ∧ Ext w wr) := ⟨by rw [← List.take_of_length_le (l := ks) (i := j) (by omega), ← ho]; exact hvs, hxw⟩
          clear hvs hxw ho hio hlo hkl
          go_wp2_with fail
          go_ret
          exact ⟨_, rfl, HFin.out⟩
end Go.Proofs.Ytjhmlbhfnogdiaa.Vr
