/- The reference's Canon: what is reached, in order. -/
import Derived.Test.YtjhmlbhfnogdiaaRo
namespace Go.Proofs.Ytjhmlbhfnogdiaa.Rc
open Go.RowKit
open Go.Proofs.Ytjhmlbhfnogdiaa Go.Proofs.Ytjhmlbhfnogdiaa.Hd Go.Proofs.Ytjhmlbhfnogdiaa.Gr Go.Proofs.Ytjhmlbhfnogdiaa.Hg Go.Proofs.Ytjhmlbhfnogdiaa.Ps Go.Proofs.Ytjhmlbhfnogdiaa.Rr Go.Proofs.Ytjhmlbhfnogdiaa.Wk Go.Proofs.Ytjhmlbhfnogdiaa.Pl Go.Proofs.Ytjhmlbhfnogdiaa.Vs Go.Proofs.Ytjhmlbhfnogdiaa.Cp Go.Proofs.Ytjhmlbhfnogdiaa.Vf Go.Proofs.Ytjhmlbhfnogdiaa.Co Go.Proofs.Ytjhmlbhfnogdiaa.Cn Go.Proofs.Ytjhmlbhfnogdiaa.Ro
set_option linter.unusedVariables false

theorem place_bd {N : Nat} {O : List Int} (hO : In N O) (h : Int) : -1 ≤ placeL O h ∧ placeL O h < N := by
  have h1 := num_bd hO h
  have h2 := in_len _ _ hO
  unfold placeL
  split
  · rename_i hm
    have := List.idxOf_lt_length_of_mem hm
    omega
  · omega

/-- 'append([]uint64{}, f...)'. -/
theorem dup_u {w : World} {v : Value} {n : Nat} {cs : List Value} (h : Row w 1 8 v n cs) (h1 : ∀ x ∈ cs, x.oneCell' = true) :
    ∃ v' w', (Builtin.append_ #[65, 65] 65 #[.slice (some ⟨w.heap.size, 0, none⟩) 0 0, v]).run Try.prog (w.alloc (.cells #[] 26)) = .ok v' w' ∧ w'.ownsRow w.heap.size 26 1 v' n cs ∧ Ext w w' := by
  obtain ⟨i0, hi, hz0, hz1, hz2⟩ := info_u
  have hb := h.2.1
  have hE : Ext w (w.alloc (.cells #[] 26)) := (Ext.refl w).alloc _
  obtain ⟨v', w', hrun, hown, hg, _⟩ := append_own (ty := 65) uU hi hz0 hz1 hz2 rfl (by decide) (own_empty w 26 1) (by simp) (h.ext hE) h1 (by omega) (by decide)
  rw [Nat.zero_add, List.nil_append] at hown
  exact ⟨v', w', hrun, hown, hE.grown hg (fun k hk => by simp [Value.ownBlock] at hk; omega)⟩

/-- An append to a row of the call's own, of one number. -/
theorem app_one {w : World} {base : Nat} {v : Value} {xs : List Int} (ho : w.ownsRow base 3 1 v xs.length (xs.map (Value.int .i64))) (hb : base ≤ w.heap.size) (x : Int) (hl : (xs.length + 1) * 8 ≤ 140737488355328) :
    ∃ v' w2, (Builtin.append_ #[42, 42] 42 #[v, .slice (some ⟨w.heap.size, 0, none⟩) 1 1]).run Try.prog (w.alloc (.cells #[.int .i64 x] 3)) = .ok v' w2 ∧ w2.ownsRow base 3 1 v' (xs ++ [x]).length ((xs ++ [x]).map (Value.int .i64)) ∧ Ch (fun k => v.ownBlock = some k) w w2 := by
  obtain ⟨i0, hi, hz0, hz1, hz2⟩ := info_i
  have hE : Ext w (w.alloc (.cells #[.int .i64 x] 3)) := (Ext.refl w).alloc _
  have hrow : Row (w.alloc (.cells #[.int .i64 x] 3)) 1 8 (.slice (some ⟨w.heap.size, 0, none⟩) 1 1) 1 [.int .i64 x] := ⟨rfl, by omega, by omega, .inr ⟨_, 1, rfl, Nat.le_refl _, by unfold maxLen; omega, cell_one_new _ _ _⟩⟩
  obtain ⟨v', w2, hrun, hown, hg, hat⟩ := append_own (ty := 42) uI hi hz0 hz1 hz2 rfl (by decide) (own_ext ho hE) (Nat.le_trans hb hE.size) hrow (by simp [Value.oneCell']) (by omega) (by decide)
  exact ⟨v', w2, hrun, by simpa using hown, (Ch.of_ext _ hE).trans (Ch.of_grown (S := fun k => v.ownBlock = some k) hg fun k hk => hk) (fun _ _ h => h)⟩

set_option maxRecDepth 100000 in
set_option maxHeartbeats 16000000 in
theorem rcanon_any (a b : Value) (g : Gph) (w : World) (h : Gr w a b g) (hr : rightG g = true) (hp : posG g) (hN : g.1.length ≤ 100) (hn2 : g.2.length ≤ 1048576) :
    Calls Try.prog 21 #[.agg #[a, b]] w fun e w' => ∃ a' b', e = .returned (.agg #[a', b']) ∧ Gr w' a' b' (canonG g) ∧ Ext w w' := by
  obtain ⟨a0, c0, rfl⟩ := h.1.form
  obtain ⟨b0, d0, rfl⟩ := Gr.Ma.form h.2
  have HG := Lib.hid h
  have HRP := Lib.hid (And.intro hr hp)
  have HN := Lib.hid (And.intro hN (And.intro hn2 True.intro))
  have hlen := h.2.len uS
  have hsm := h.2.small
  have HV := Lib.hid (fun (x : Int) (v : Value) (o : List Int) (W : World) (hx : Ext w W) => Vr.rvisit g hr hp (by omega) (g.1.length + 1) (.slice a0 g.1.length c0) (.slice b0 g.2.length d0) v x o W (h.ext hx))
  clear h hr hp hN hn2
  obtain ⟨B, hB⟩ : ∃ B, B = w.heap.size := ⟨_, rfl⟩
  obtain ⟨wA, hwA⟩ : ∃ wA, wA = (w.alloc (.cells #[.slice a0 g.1.length c0, .slice b0 g.2.length d0] 25)).alloc (.cells #[.slice none 0 0, .slice none 0 0] 25) := ⟨_, rfl⟩
  have hxA : Ext w wA := hwA ▸ ((Ext.refl w).alloc _).alloc _
  have hbA : Blk wA B #[.slice a0 g.1.length c0, .slice b0 g.2.length d0] 25 := by rw [hwA, hB]; exact (Blk.new w _ _).alloc _
  have hrA : Blk wA (B + 1) #[.slice none 0 0, .slice none 0 0] 25 := by rw [hwA, hB]; exact Wf.blk_at (by simp)
  have HXA := Lib.hid hxA
  have HBA := Lib.hid hbA
  have HRA := Lib.hid hrA
  have HBB : Hid (w.heap.size ≤ B + 1) := by show _ ≤ _; omega
  clear hxA hbA hrA
  go_enter Try.func21, Try.ntmps21
  go_wp2_with fail
  rw [← hwA, ← hB]
  clear hwA hB
  go_loopw [3, 4] (fun v i wr => ∃ (j : Nat), i = .int .i64 j ∧ j ≤ g.2.length ∧ Sl .i64 wr v (od g (hs g j 0)) ∧ Ext wA wr) (fun _ i _ => g.2.length - (intOf i).toNat)
  case atStart => exact ⟨0, rfl, Nat.zero_le _, by rw [hs_zero]; exact Sl.nil _ _, Ext.refl _⟩
  case round =>
    obtain ⟨W0, hW0⟩ : ∃ W0, W0 = wr := ⟨_, rfl⟩
    subst hW0
    obtain ⟨j, rfl, hj, hS, hX⟩ := hrel
    obtain ⟨oa, oc, rfl⟩ := Row.form hS
    have c0' : W0.cell? ⟨B, 0, none⟩ = some (.slice a0 g.1.length c0) := (HBA.out.ext hX).cell (i := 0) rfl
    have c1' : W0.cell? ⟨B, 1, none⟩ = some (.slice b0 g.2.length d0) := (HBA.out.ext hX).cell (i := 1) rfl
    by_cases hlt : j < g.2.length
    · obtain ⟨p, u, hpx, hpc, hu⟩ := HG.out.2.at_ uS szS (i := (j : Int)) (by omega) (by omega)
      rw [Int.toNat_natCast] at hu
      replace hu : Sl .i64 w u (rowOf g j) := hu
      obtain ⟨ra, rc, rfl⟩ := Row.form hu
      obtain ⟨rl, hrl⟩ : ∃ rl, (rowOf g j).length = rl := ⟨_, rfl⟩
      replace hpc : w.cell? p = some (.slice ra rl rc) := by rw [← hrl]; exact hpc
      have HPC := Lib.hid hpc
      have HRL := Lib.hid hrl
      have husm := hu.small
      have hulen := hu.len uI
      have HU := Lib.hid hu
      rw [hrl] at husm hulen
      have HS := Lib.hid hS
      have HX := Lib.hid hX
      have HLT := Lib.hid hlt
      clear hS hu hrl hX hpc
      go_wp2_with fail
      clear c0' c1'
      go_loopw [3, 5] (fun v i wr => ∃ (i' : Nat), i = .int .i64 i' ∧ i' ≤ rl ∧ Sl .i64 wr v (od g (hs g j i')) ∧ Ext wA wr) (fun _ i _ => rl - (intOf i).toNat)
      case atStart => exact ⟨0, rfl, Nat.zero_le _, HS.out, HX.out⟩
      case round =>
        obtain ⟨i', rfl, hi', hS2, hX2⟩ := hrel
        obtain ⟨oa2, oc2, rfl⟩ := Row.form hS2
        have k0 : wr.cell? ⟨B, 0, none⟩ = some (.slice a0 g.1.length c0) := (HBA.out.ext hX2).cell (i := 0) rfl
        have k1 : wr.cell? ⟨B, 1, none⟩ = some (.slice b0 g.2.length d0) := (HBA.out.ext hX2).cell (i := 1) rfl
        have kp : wr.cell? p = some (.slice ra rl rc) := (HXA.out.trans hX2).cell HPC.out
        by_cases hli : i' < rl
        · obtain ⟨p2, hp2x, hp2c⟩ := HU.out.at_ uI szI (i := (i' : Int)) (by omega) (by rw [HRL.out]; omega)
          rw [Int.toNat_natCast] at hp2c
          rw [HRL.out] at hp2x
          replace hp2c := (HXA.out.trans hX2).cell hp2c
          obtain ⟨x, hx⟩ : ∃ x, (rowOf g j).getD i' 0 = x := ⟨_, rfl⟩
          rw [hx] at hp2c
          obtain ⟨x0, x1, hio, hio2, hdfs, hnum⟩ := Cn.seen HRP.out.1 HRP.out.2 HLT.out (by rw [HRL.out]; exact hli) x hx
          have hxd : Ext wr wr.drew := (Ext.refl wr).drew
          have HC := Lib.hid (HV.out x _ _ wr.drew (HXA.out.trans (hX2.trans hxd)) (hS2.ext hxd) hio (by omega) x0 x1)
          rw [hdfs] at HC
          have hS0 : wr.drew.cell? ⟨B, 0, none⟩ = some (.slice a0 g.1.length c0) ∧ wr.drew.cell? ⟨B, 1, none⟩ = some (.slice b0 g.2.length d0) ∧ wr.drew.cell? p = some (.slice ra rl rc) ∧ wr.drew.cell? p2 = some (.int .i64 x) := ⟨k0, k1, kp, hp2c⟩
          have HX2 := Lib.hid (hX2.trans hxd)
          clear hS2 hX2 hx hio hdfs hnum x0 x1 hio2 hxd
          go_wp2_with fail
          refine wp_region_noPanic ?_
          refine Rt.begin_ (fun W : World => W.cell? ⟨B, 0, none⟩ = some (.slice a0 g.1.length c0) ∧ W.cell? ⟨B, 1, none⟩ = some (.slice b0 g.2.length d0) ∧ W.cell? p = some (.slice ra rl rc) ∧ W.cell? p2 = some (.int .i64 x)) (fun i => i == 10 || i == 11) (by kernel_rfl) ?_
          simp only [List.length_cons, List.length_nil, Nat.reduceAdd, Array.replicate_succ, Array.replicate_zero]
          refine Rt.take 0 (v := ?_) rfl (by kernel_rfl) (fun _ _ _ h => h) rfl ?_ hS0 ?_
          rotate_left
          · (intro W hSW; (try dsimp only at hSW); go_simp; try with_reducible rfl)
          try simp only [Act.put, List.setIfInBounds_toArray, List.set_cons_zero, List.set_cons_succ]
          refine Rt.takeW 1 (v := ?_) rfl (by kernel_rfl) (fun _ _ _ h => h) rfl ?_ ?_
          rotate_left
          · (intro W; go_simp; try with_reducible rfl)
          try simp only [Act.put, List.setIfInBounds_toArray, List.set_cons_zero, List.set_cons_succ]
          refine Rt.take 2 (v := ?_) rfl (by kernel_rfl) (fun _ _ _ h => h) rfl ?_ hS0 ?_
          rotate_left
          · (intro W hSW; (try dsimp only at hSW); go_simp; try with_reducible rfl)
          try simp only [Act.put, List.setIfInBounds_toArray, List.set_cons_zero, List.set_cons_succ]
          refine Rt.takeW 3 (v := ?_) rfl (by kernel_rfl) (fun _ _ _ h => h) rfl ?_ ?_
          rotate_left
          · (intro W; go_simp; try with_reducible rfl)
          try simp only [Act.put, List.setIfInBounds_toArray, List.set_cons_zero, List.set_cons_succ]
          refine Rt.takeW 4 (v := ?_) rfl (by kernel_rfl) (fun _ _ _ h => h) rfl ?_ ?_
          rotate_left
          · (intro W; go_simp; try with_reducible rfl)
          try simp only [Act.put, List.setIfInBounds_toArray, List.set_cons_zero, List.set_cons_succ]
          refine Rt.take 5 (v := ?_) rfl (by kernel_rfl) (fun _ _ _ h => h) rfl ?_ hS0 ?_
          rotate_left
          · (intro W hSW; (try dsimp only at hSW); go_simp; try with_reducible rfl)
          try simp only [Act.put, List.setIfInBounds_toArray, List.set_cons_zero, List.set_cons_succ]
          refine Rt.takeW 6 (v := ?_) rfl (by kernel_rfl) (fun _ _ _ h => h) rfl ?_ ?_
          rotate_left
          · (intro W; go_simp; try with_reducible rfl)
          try simp only [Act.put, List.setIfInBounds_toArray, List.set_cons_zero, List.set_cons_succ]
          refine Rt.takeW 7 (v := ?_) rfl (by kernel_rfl) (fun _ _ _ h => h) rfl ?_ ?_
          rotate_left
          · (intro W; go_simp; try with_reducible rfl)
          try simp only [Act.put, List.setIfInBounds_toArray, List.set_cons_zero, List.set_cons_succ]
          refine Rt.take 8 (v := ?_) rfl (by kernel_rfl) (fun _ _ _ h => h) rfl ?_ hS0 ?_
          rotate_left
          · (intro W hSW; (try dsimp only at hSW); go_simp; try with_reducible rfl)
          try simp only [Act.put, List.setIfInBounds_toArray, List.set_cons_zero, List.set_cons_succ]
          refine Rt.takeW 9 (v := ?_) rfl (by kernel_rfl) (fun _ _ _ h => h) rfl ?_ ?_
          rotate_left
          · (intro W; go_simp; try with_reducible rfl)
          try simp only [Act.put, List.setIfInBounds_toArray, List.set_cons_zero, List.set_cons_succ]
          refine Rt.step 10 rfl (by kernel_rfl) rfl (fun K hK => ?_)
          go_simp
          refine HC.out.mono ?_; rintro e w5 ⟨v5, rfl, hV5, hF5⟩
          refine hK _ _ ⟨.inl rfl, ?_⟩
          clear hK K
          try simp only [Act.put, List.setIfInBounds_toArray, List.set_cons_zero, List.set_cons_succ]
          refine Rt.step 11 rfl (by kernel_rfl) rfl (fun K hK => ?_)
          go_simp
          refine hK _ _ ⟨.inl rfl, ?_⟩
          clear hK K
          try simp only [Act.put, List.setIfInBounds_toArray, List.set_cons_zero, List.set_cons_succ]
          refine Rt.done (by kernel_rfl) ?_
          refine NoPanic.normal ?_
          clear k0 k1 kp hp2c
          have HF := Lib.hid (And.intro hV5 (HX2.out.trans hF5))
          clear hV5 hF5
          go_wp2_with fail
          go_roundw
          case rel => exact ⟨i' + 1, by go_num, hli, HF.out⟩
          case measure => simp [intOf]; omega
        · obtain rfl : i' = rl := by omega
          have hn1 : od g (hs g j i') = od g (hs g (j + 1) 0) := by rw [← HRL.out, hs_next HLT.out]
          have HF : Hid (Sl .i64 wr (.slice oa2 (od g (hs g j i')).length oc2) (od g (hs g (j + 1) 0)) ∧ Ext wA wr) := ⟨by rw [← hn1]; exact hS2, hX2⟩
          clear hS2 hn1 hX2
          go_wp2_with fail
          go_roundw
          case rel => exact ⟨j + 1, by go_num, HLT.out, HF.out⟩
          case measure => simp [intOf]; have := HLT.out; omega
    · obtain rfl : j = g.2.length := by omega
      have hoe : od g (hs g g.2.length 0) = ordG g := by rw [hs_end]; rfl
      have hO := ord_in HRP.out.1 HRP.out.2
      have HO := Lib.hid hO
      have HCG : Hid (canonG g = ((ordG g).map (newN g (ordG g)), g.2.map fun r => r.map (num (ordG g)))) := rfl
      replace hS : Sl .i64 W0 (.slice oa (od g (hs g g.2.length 0)).length oc) (ordG g) := by rw [← hoe]; exact hS
      obtain ⟨ol, hol⟩ : ∃ ol, (od g (hs g g.2.length 0)).length = ol := ⟨_, rfl⟩
      have hol2 : (ordG g).length = ol := by rw [← hol, hoe]
      rw [hol] at hS ⊢
      obtain ⟨O, hOe⟩ : ∃ O, ordG g = O := ⟨_, rfl⟩
      rw [hOe] at hS HO HCG hol2
      have HOL := Lib.hid hol2
      have hol100 : (ol : Int) ≤ 100 := by have := in_len _ _ HO.out; have := HN.out.1; omega
      have holen := hS.len uI
      rw [hol2] at holen
      have HS := Lib.hid hS
      have HX := Lib.hid hX
      have HR0 := Lib.hid (R3.start W0)
      obtain ⟨W1, hW1⟩ : ∃ W1, W1 = W0.alloc (.cells #[.slice none 0 0, .slice none 0 0] 25) := ⟨_, rfl⟩
      rw [← hW1] at HR0
      obtain ⟨ob, hob⟩ : ∃ ob, ob = W0.heap.size := ⟨_, rfl⟩
      have HOB := Lib.hid hob
      clear hS hX hO hOe hol hol2 hlt hj hoe
      go_wp2_with fail
      rw [← hW1, ← hob]
      clear hW1 hob c0' c1'
      go_loopw [7] (fun i wr => ∃ (j : Nat) (na : Option Addr) (nc : Nat), i = .int .i64 j ∧ j ≤ ol ∧ R3 W0 (.slice na j nc) ((O.take j).map (newN g O)) (.slice none 0 0) [] wr) (fun i _ => ol - (intOf i).toNat)
      case atStart => exact ⟨0, _, _, rfl, Nat.zero_le _, HR0.out⟩
      case round =>
        obtain ⟨W2, hW2⟩ : ∃ W2, W2 = wr := ⟨_, rfl⟩
        subst hW2
        obtain ⟨j, na, nc, rfl, hj, hP⟩ := hrel
        by_cases hlt : j < ol
        · have hlo : j < O.length := by rw [HOL.out]; exact hlt
          obtain ⟨p, hpx, hpc⟩ := (HS.out.ext hP.ext).at_ uI szI (i := (j : Int)) (by omega) (by omega)
          rw [Int.toNat_natCast] at hpc
          obtain ⟨hh, hhe⟩ : ∃ hh, O[j] = hh := ⟨_, rfl⟩
          have hge : O.getD j 0 = hh := by simp [List.getD_eq_getElem?_getD, hlo, hhe]
          rw [hge] at hpc
          have hhb := HO.out.2 hh (hhe ▸ List.getElem_mem hlo)
          obtain ⟨n, rfl⟩ : ∃ n : Nat, hh = (n : Int) + 1 := ⟨(hh - 1).toNat, by omega⟩
          have hn : n < g.1.length := by omega
          have hsmall : (n : Int) < 1000 := by have := HN.out.1; omega
          obtain ⟨l0, l1, m0, m1⟩ := right_head HRP.out.1 HRP.out.2 hn
          obtain ⟨_, _, hfl, hok⟩ := right_node HRP.out.1 hn
          have hpos := (pos_node HRP.out.2 hn).2
          have hE0 := HXA.out.trans (HX.out.trans hP.ext)
          have d0' : W2.cell? ⟨B, 0, none⟩ = some (.slice a0 g.1.length c0) := (HBA.out.ext (HX.out.trans hP.ext)).cell (i := 0) rfl
          obtain ⟨b1, o1, s1, u, hix, e0, e1, e2, e3, hu⟩ := HG.out.1.at_ n hn
          replace e0 := hE0.cell e0
          replace e1 := hE0.cell e1
          replace e2 := hE0.cell e2
          replace e3 := hE0.cell e3
          have hnew : newN g O ((n : Int) + 1) = renN O (node g n) := by
            unfold newN
            rw [show ((n : Int) + 1 - 1).toNat = n by omega]
          have hstep : (O.take (j + 1)).map (newN g O) = (O.take j).map (newN g O) ++ [renN O (node g n)] := by
            rw [take_snoc O j hlo 0, List.map_append, hge, ← hnew]
            rfl
          replace e0 : W2.cell? ⟨b1, o1, s1⟩ = some (.int .i64 (node g n).1.1) := e0
          replace e1 : W2.cell? ⟨b1, o1 + 1, none⟩ = some (.int .i64 (node g n).1.2.1) := e1
          replace e2 : W2.cell? ⟨b1, o1 + 2, none⟩ = some (.int .u64 (node g n).1.2.2) := e2
          replace hu : Sl .u64 w u (node g n).2 := hu
          clear hnew
          generalize node g n = nd at *
          obtain ⟨⟨t, l, m⟩, f⟩ := nd
          dsimp only at *
          obtain ⟨l', rfl⟩ : ∃ l' : Nat, l = (l' : Int) := ⟨l.toNat, by omega⟩
          have hfl' : f.length = l' := by omega
          obtain ⟨ua, uc, rfl⟩ := Row.form hu
          rw [hfl'] at e3
          have hwr : IntKind.i64.wrap ((n : Int) + 1 - 1) = n := by rw [IntKind.wrap_i64]; omega
          have hwr2 : IntKind.i64.wrap (n : Int) = n := by rw [IntKind.wrap_i64]; omega
          have hxd : Ext W2 W2.drew := (Ext.refl W2).drew
          have hS0 : W2.drew.cell? ⟨B, 0, none⟩ = some (.slice a0 g.1.length c0) ∧ W2.drew.cell? p = some (.int .i64 ((n : Int) + 1)) ∧ W2.drew.cell? ⟨b1, o1, s1⟩ = some (.int .i64 t) ∧ W2.drew.cell? ⟨b1, o1 + 1, none⟩ = some (.int .i64 l') ∧ W2.drew.cell? ⟨b1, o1 + 2, none⟩ = some (.int .u64 m) ∧ W2.drew.cell? ⟨b1, o1 + 3, none⟩ = some (.slice ua l' uc) := ⟨d0', hpc, e0, e1, e2, e3⟩
          have hS1 : Hid (∀ o : Obj, (W2.drew.alloc o).cell? ⟨B, 0, none⟩ = some (.slice a0 g.1.length c0) ∧ (W2.drew.alloc o).cell? p = some (.int .i64 ((n : Int) + 1)) ∧ (W2.drew.alloc o).cell? ⟨b1, o1, s1⟩ = some (.int .i64 t) ∧ (W2.drew.alloc o).cell? ⟨b1, o1 + 1, none⟩ = some (.int .i64 l') ∧ (W2.drew.alloc o).cell? ⟨b1, o1 + 2, none⟩ = some (.int .u64 m) ∧ (W2.drew.alloc o).cell? ⟨b1, o1 + 3, none⟩ = some (.slice ua l' uc)) := fun o => by
            have hE := hxd.alloc o
            exact ⟨hE.cell d0', hE.cell hpc, hE.cell e0, hE.cell e1, hE.cell e2, hE.cell e3⟩
          have HP := Lib.hid hP
          have HSTEP := Lib.hid hstep
          have HL := Lib.hid (And.intro hfl' (And.intro l1 (And.intro m0 m1)))
          have HOK := Lib.hid (And.intro hok hpos)
          have HUW := Lib.hid (hu.ext hE0)
          clear hP hu hfl hfl' hok hpos l0 l1 m0 m1 hhe hge hn hstep hE0 hlo e0 e1 e2 e3 d0' hpc
          go_wp2_with fail
          refine wp_region_noPanic ?_
          refine Rt.begin_ (fun W : World => W.cell? ⟨B, 0, none⟩ = some (.slice a0 g.1.length c0) ∧ W.cell? p = some (.int .i64 ((n : Int) + 1)) ∧ W.cell? ⟨b1, o1, s1⟩ = some (.int .i64 t) ∧ W.cell? ⟨b1, o1 + 1, none⟩ = some (.int .i64 l') ∧ W.cell? ⟨b1, o1 + 2, none⟩ = some (.int .u64 m) ∧ W.cell? ⟨b1, o1 + 3, none⟩ = some (.slice ua l' uc)) (fun i => i == 10) (by kernel_rfl) ?_
          simp only [List.length_cons, List.length_nil, Nat.reduceAdd, Array.replicate_succ, Array.replicate_zero]
          refine Rt.takeW 0 (v := ?_) rfl (by kernel_rfl) (fun _ _ _ h => h) rfl ?_ ?_
          rotate_left
          · (intro W; go_simp; try with_reducible rfl)
          try simp only [Act.put, List.setIfInBounds_toArray, List.set_cons_zero, List.set_cons_succ]
          refine Rt.take 1 (v := ?_) rfl (by kernel_rfl) (fun _ _ _ h => h) rfl ?_ hS0 ?_
          rotate_left
          · (intro W hSW; (try dsimp only at hSW); go_simp; try with_reducible rfl)
          try simp only [Act.put, List.setIfInBounds_toArray, List.set_cons_zero, List.set_cons_succ]
          refine Rt.takeW 2 (v := ?_) rfl (by kernel_rfl) (fun _ _ _ h => h) rfl ?_ ?_
          rotate_left
          · (intro W; go_simp; try with_reducible rfl)
          try simp only [Act.put, List.setIfInBounds_toArray, List.set_cons_zero, List.set_cons_succ]
          refine Rt.takeW 3 (v := ?_) rfl (by kernel_rfl) (fun _ _ _ h => h) rfl ?_ ?_
          rotate_left
          · (intro W; go_simp; try with_reducible rfl)
          try simp only [Act.put, List.setIfInBounds_toArray, List.set_cons_zero, List.set_cons_succ]
          refine Rt.takeW 4 (v := ?_) rfl (by kernel_rfl) (fun _ _ _ h => h) rfl ?_ ?_
          rotate_left
          · (intro W; go_simp; try with_reducible rfl)
          try simp only [Act.put, List.setIfInBounds_toArray, List.set_cons_zero, List.set_cons_succ]
          refine Rt.take 5 (v := ?_) rfl (by kernel_rfl) (fun _ _ _ h => h) rfl ?_ hS0 ?_
          rotate_left
          · (intro W hSW; (try dsimp only at hSW); go_simp; try with_reducible rfl)
          try simp only [Act.put, List.setIfInBounds_toArray, List.set_cons_zero, List.set_cons_succ]
          refine Rt.takeW 6 (v := ?_) rfl (by kernel_rfl) (fun _ _ _ h => h) rfl ?_ ?_
          rotate_left
          · (intro W; go_simp; try with_reducible rfl)
          try simp only [Act.put, List.setIfInBounds_toArray, List.set_cons_zero, List.set_cons_succ]
          refine Rt.takeW 7 (v := ?_) rfl (by kernel_rfl) (fun _ _ _ h => h) rfl ?_ ?_
          rotate_left
          · (intro W; go_simp; try with_reducible rfl)
          try simp only [Act.put, List.setIfInBounds_toArray, List.set_cons_zero, List.set_cons_succ]
          refine Rt.take 8 (v := ?_) rfl (by kernel_rfl) (fun _ _ _ h => h) rfl ?_ hS0 ?_
          rotate_left
          · (intro W hSW; (try dsimp only at hSW); go_simp; try with_reducible rfl)
          try simp only [Act.put, List.setIfInBounds_toArray, List.set_cons_zero, List.set_cons_succ]
          refine Rt.step 9 rfl (by kernel_rfl) rfl (fun K hK => ?_)
          go_simp
          refine hK _ _ ⟨.inr fun _ => hS1.out _, ?_⟩
          clear hK K
          try simp only [Act.put, List.setIfInBounds_toArray, List.set_cons_zero, List.set_cons_succ]
          refine Rt.step 10 rfl (by kernel_rfl) rfl (fun K hK => ?_)
          go_simp
          refine hK _ _ ⟨.inl rfl, ?_⟩
          clear hK K
          try simp only [Act.put, List.setIfInBounds_toArray, List.set_cons_zero, List.set_cons_succ]
          refine Rt.done (by kernel_rfl) ?_
          refine NoPanic.normal ?_
          obtain ⟨wN, hwN⟩ : ∃ wN, wN = (W2.alloc (.cells #[.int .i64 t, .int .i64 l', .int .u64 m, .slice ua l' uc] 67)).drew := ⟨_, rfl⟩
          obtain ⟨nb, hnb⟩ : ∃ nb, nb = W2.heap.size := ⟨_, rfl⟩
          have hxN : Ext W2 wN := hwN ▸ ((Ext.refl W2).alloc _).drew
          have hbN : Blk wN nb #[.int .i64 t, .int .i64 l', .int .u64 m, .slice ua l' uc] 67 := by rw [hwN, hnb]; exact (Blk.new W2 _ _).ext ((Ext.refl _).drew)
          have b3 : (wN.alloc (.cells #[] 26)).cell? ⟨nb, 3, none⟩ = some (.slice ua l' uc) := (hbN.ext ((Ext.refl wN).alloc _)).cell (i := 3) rfl
          have hu2 : Row wN 1 8 (.slice ua l' uc) l' (f.map (Value.int .u64)) := by
            have h := HUW.out.ext hxN
            unfold Sl at h
            rw [HL.out.1] at h
            exact h
          obtain ⟨v5, w5, hrun5, hown5, hx5⟩ := dup_u hu2 (oneCells _ _)
          obtain ⟨fa, fc, rfl⟩ := Vc.own_form hown5
          have HR5 := Lib.hid hrun5
          have hnbN : Hid (nb < wN.heap.size ∧ W2.heap.size ≤ nb) := ⟨hbN.lt, by rw [hnb]; exact Nat.le_refl _⟩
          have hb5 := hbN.ext hx5
          have q0 : w5.cell? ⟨nb, 0, none⟩ = some (.int .i64 t) := hb5.cell (i := 0) rfl
          have q1 : w5.cell? ⟨nb, 1, none⟩ = some (.int .i64 l') := hb5.cell (i := 1) rfl
          have q2 : w5.cell? ⟨nb, 2, none⟩ = some (.int .u64 m) := hb5.cell (i := 2) rfl
          have HPt := Lib.hid (rptrs_own t m l' (by have := HL.out.2.1; omega) HL.out.2.2.1 HL.out.2.2.2 w5)
          have HX6 := Lib.hid (hxN.trans hx5)
          have HXN := Lib.hid hxN
          have HB6 := Lib.hid hb5
          have HO6 := Lib.hid hown5
          rw [← hwN, ← hnb]
          clear hwN hnb hu2 hrun5 hown5 hx5 hb5 hbN hxN hS0 hS1 hpx hix hxd
          go_wp2_with (at_builtin; refine Lib.wpList_append_run _ rfl _ _ _ _ rfl _ _ rfl rfl _ w5 HR5.out ?_)
          refine HPt.out.mono ?_; rintro e wL ⟨po, rfl, hpo, hxL⟩
          obtain ⟨pa, pc, rfl⟩ := Vc.own_form hpo
          have hpolen := (Row.of_own (b := 8) hpo (by have := ptrs_len l' m; have := HL.out.2.1; omega) (by have := ptrs_len l' m; have := HL.out.2.1; omega)).len uI
          obtain ⟨pl, hpl⟩ : ∃ pl, (ptrs l' m).length = pl := ⟨_, rfl⟩
          have hpl16 : pl ≤ 16 := by rw [← hpl]; have := ptrs_len l' m; have := HL.out.2.1; omega
          have HPO := Lib.hid hpo
          have HPL := Lib.hid hpl
          have HXL := Lib.hid hxL
          rw [hpl] at hpolen
          rw [hpl]
          clear hpo hpl hxL q0 q1 q2 b3
          go_wp2_with fail
          go_loopw [11] (fun i wr => ∃ (i' : Nat) (fcur : List Int), i = .int .i64 i' ∧ i' ≤ pl ∧ fcur = renF O ((ptrs l' m).take i') f ∧ Ext W2 wr ∧ Blk wr nb #[.int .i64 t, .int .i64 l', .int .u64 m, .slice ua l' uc] 67 ∧ wr.ownsRow wN.heap.size 26 1 (.slice fa l' fc) l' (fcur.map (Value.int .u64)) ∧ wr.ownsRow w5.heap.size 3 1 (.slice pa (ptrs l' m).length pc) (ptrs l' m).length ((ptrs l' m).map (Value.int .i64))) (fun i _ => pl - (intOf i).toNat)
          case atStart => exact ⟨0, f, rfl, Nat.zero_le _, rfl, HX6.out.trans HXL.out, HB6.out.ext HXL.out, own_ext HO6.out HXL.out, by have := HPO.out; exact this⟩
          case round =>
            obtain ⟨i', fcur, rfl, hi', hfc, hxr, hbr, hor, hpr⟩ := hrel
            by_cases hli : i' < pl
            · have hjl : i' < (ptrs l' m).length := by rw [HPL.out]; exact hli
              obtain ⟨p2, hp2x, hp2c⟩ := Row.at1 (P := Try.prog) uI szI (Row.of_own (b := 8) hpr (by rw [HPL.out]; omega) (by rw [HPL.out]; omega)) (i := (i' : Int)) (by omega) (by omega)
              rw [HPL.out] at hp2x
              obtain ⟨xi, hxi, hxl, _⟩ := ptrs_mem (List.getElem_mem hjl)
              have hpd : (ptrs l' m).getD i' 0 = (xi : Int) := by simp [List.getD_eq_getElem?_getD, hjl, hxi]
              replace hp2c : wr.cell? p2 = some (.int .i64 xi) := hp2c _ (by simp [hjl, hxi])
              have hfl : fcur.length = l' := by rw [hfc, renF_len]; exact HL.out.1
              obtain ⟨y, hy⟩ : ∃ y, fcur.getD xi 0 = y := ⟨_, rfl⟩
              have hyb : 0 ≤ y ∧ y ≤ g.1.length := by
                have hb := renF_bd (N := g.1.length) HO.out (fun p => p ∈ ptrs l' m) ((ptrs l' m).take i') f (fun p hp => by
                  have hok := HOK.out.1
                  unfold okP at hok
                  have h2 := of_decide_eq_true (List.all_eq_true.1 hok p (by simpa using hp))
                  refine ⟨?_, h2⟩
                  by_cases hl : p.toNat < f.length
                  · exact HOK.out.2 _ (by simp [List.getD_eq_getElem?_getD, hl])
                  · simp [List.getD_eq_getElem?_getD, List.getElem?_eq_none (by omega : f.length ≤ p.toNat)]) (xi : Int) (by rw [← hxi]; exact List.getElem_mem hjl)
                rw [← hfc, Int.toNat_natCast, hy] at hb
                exact hb
              have hplb := place_bd HO.out y
              have hyw : IntKind.i64.wrap y = y := by have := HN.out.1; rw [IntKind.wrap_i64]; omega
              have HC := Lib.hid (fun W (hW : Ext W0 W) => place_any _ O y W (HS.out.ext hW))
              have hnum : num O y = placeL O y + 1 := rfl
              obtain ⟨p0, hp0⟩ : ∃ p0, placeL O y = p0 := ⟨_, rfl⟩
              rw [hp0] at hplb HC hnum
              have hpw : IntKind.i64.wrap (p0 + 1) = p0 + 1 := by have := HN.out.1; rw [IntKind.wrap_i64]; omega
              have huw : IntKind.u64.wrap (p0 + 1) = p0 + 1 := by have := HN.out.1; rw [IntKind.wrap_u64]; omega
              have hp100 : p0 < 100 := by have := HN.out.1; omega
              have hpm1 : -1 ≤ p0 := hplb.1
              have hcl : xi < (fcur.map (Value.int .u64)).length := by simp [hfl]; exact hxl
              obtain ⟨gb, cap, hv, hgb, hglt, hgc, hgf, hgs⟩ := Wi.own_set hor hcl
              simp only [Value.slice.injEq] at hv
              obtain ⟨rfl, _, rfl⟩ := hv
              have hgc : wr.cell? ⟨gb, xi, none⟩ = some (.int .u64 y) := by
                have hh : xi < fcur.length := by omega
                rw [hgc, ← hy]
                simp [List.getD_eq_getElem?_getD, hh]
              have hat := Wi.own_at (P := Try.prog) (base := 0) (e := 0) (w := w) uU szU hxl (g := gb) (cap := fc) (n := l')
              rw [Nat.mul_one] at hat
              have hS0 : wr.drew.cell? p2 = some (.int .i64 xi) ∧ wr.drew.cell? ⟨gb, xi, none⟩ = some (.int .u64 y) := ⟨hp2c, hgc⟩
              have HCd := Lib.hid (HC.out wr.drew (HP.out.ext.trans hxr).drew)
              have HFin : Hid (fcur.set xi (p0 + 1) = renF O ((ptrs l' m).take (i' + 1)) f ∧ Ext W2 (wr.drew.setCell ⟨gb, xi, none⟩ (.int .u64 (p0 + 1))) ∧ Blk (wr.drew.setCell ⟨gb, xi, none⟩ (.int .u64 (p0 + 1))) nb #[.int .i64 t, .int .i64 l', .int .u64 m, .slice ua l' uc] 67 ∧ (wr.drew.setCell ⟨gb, xi, none⟩ (.int .u64 (p0 + 1))).ownsRow wN.heap.size 26 1 (.slice (some ⟨gb, 0, none⟩) l' fc) l' ((fcur.set xi (p0 + 1)).map (Value.int .u64)) ∧ (wr.drew.setCell ⟨gb, xi, none⟩ (.int .u64 (p0 + 1))).ownsRow w5.heap.size 3 1 (.slice pa (ptrs l' m).length pc) (ptrs l' m).length ((ptrs l' m).map (Value.int .i64))) := by
                have h1 := hnbN.out
                have h2 := HXN.out.size
                refine ⟨?_, (hxr.drew).setCell (p := ⟨gb, xi, none⟩) (by show W2.heap.size ≤ gb; omega) _, (hbr.ext ((Ext.refl wr).drew)).other (p := ⟨gb, xi, none⟩) (by show nb ≠ gb; omega) _, ?_, own_keep (own_ext hpr ((Ext.refl wr).drew)) fun k hk => setCell_heap_other (by
                  intro e
                  have e : k = gb := e
                  subst e
                  exact own_apart hpr hor (by decide) hk rfl)⟩
                · rw [take_snoc _ i' hjl 0, renF_snoc, ← hfc, hpd, Int.toNat_natCast, hy, hnum]
                · have h3 := (Wi.own_set (own_ext hor ((Ext.refl wr).drew)) hcl)
                  obtain ⟨gb', cap', hv', _, _, _, _, hgs'⟩ := h3
                  simp only [Value.slice.injEq, Option.some.injEq, Addr.mk.injEq] at hv'
                  obtain ⟨⟨rfl, _⟩, _, rfl⟩ := hv'
                  have h4 := hgs' (.int .u64 (p0 + 1))
                  rw [List.map_set]
                  exact h4
              clear hxr hbr hor hpr hgs hpd hxi hfc hy hnum hp0 hgb hglt hcl hyb hplb hp2c hgc
              go_wp2_with fail
              refine wp_region_noPanic ?_
              refine Rt.begin_ (fun W : World => W.cell? p2 = some (.int .i64 xi) ∧ W.cell? ⟨gb, xi, none⟩ = some (.int .u64 y)) (fun i => i == 18) (by kernel_rfl) ?_
              simp only [List.length_cons, List.length_nil, Nat.reduceAdd, Array.replicate_succ, Array.replicate_zero]
              refine Rt.takeW 0 (v := ?_) rfl (by kernel_rfl) (fun _ _ _ h => h) rfl ?_ ?_
              rotate_left
              · (intro W; go_simp; try with_reducible rfl)
              try simp only [Act.put, List.setIfInBounds_toArray, List.set_cons_zero, List.set_cons_succ]
              refine Rt.takeW 1 (v := ?_) rfl (by kernel_rfl) (fun _ _ _ h => h) rfl ?_ ?_
              rotate_left
              · (intro W; go_simp; try with_reducible rfl)
              try simp only [Act.put, List.setIfInBounds_toArray, List.set_cons_zero, List.set_cons_succ]
              refine Rt.takeW 2 (v := ?_) rfl (by kernel_rfl) (fun _ _ _ h => h) rfl ?_ ?_
              rotate_left
              · (intro W; go_simp; try with_reducible rfl)
              try simp only [Act.put, List.setIfInBounds_toArray, List.set_cons_zero, List.set_cons_succ]
              refine Rt.takeW 3 (v := ?_) rfl (by kernel_rfl) (fun _ _ _ h => h) rfl ?_ ?_
              rotate_left
              · (intro W; go_simp; try with_reducible rfl)
              try simp only [Act.put, List.setIfInBounds_toArray, List.set_cons_zero, List.set_cons_succ]
              refine Rt.take 4 (v := ?_) rfl (by kernel_rfl) (fun _ _ _ h => h) rfl ?_ hS0 ?_
              rotate_left
              · (intro W hSW; (try dsimp only at hSW); go_simp; try with_reducible rfl)
              try simp only [Act.put, List.setIfInBounds_toArray, List.set_cons_zero, List.set_cons_succ]
              refine Rt.takeW 5 (v := ?_) rfl (by kernel_rfl) (fun _ _ _ h => h) rfl ?_ ?_
              rotate_left
              · (intro W; go_simp; try with_reducible rfl)
              try simp only [Act.put, List.setIfInBounds_toArray, List.set_cons_zero, List.set_cons_succ]
              refine Rt.takeW 6 (v := ?_) rfl (by kernel_rfl) (fun _ _ _ h => h) rfl ?_ ?_
              rotate_left
              · (intro W; go_simp; try with_reducible rfl)
              try simp only [Act.put, List.setIfInBounds_toArray, List.set_cons_zero, List.set_cons_succ]
              refine Rt.takeW 7 (v := ?_) rfl (by kernel_rfl) (fun _ _ _ h => h) rfl ?_ ?_
              rotate_left
              · (intro W; go_simp; try with_reducible rfl)
              try simp only [Act.put, List.setIfInBounds_toArray, List.set_cons_zero, List.set_cons_succ]
              refine Rt.takeW 8 (v := ?_) rfl (by kernel_rfl) (fun _ _ _ h => h) rfl ?_ ?_
              rotate_left
              · (intro W; go_simp; try with_reducible rfl)
              try simp only [Act.put, List.setIfInBounds_toArray, List.set_cons_zero, List.set_cons_succ]
              refine Rt.takeW 9 (v := ?_) rfl (by kernel_rfl) (fun _ _ _ h => h) rfl ?_ ?_
              rotate_left
              · (intro W; go_simp; try with_reducible rfl)
              try simp only [Act.put, List.setIfInBounds_toArray, List.set_cons_zero, List.set_cons_succ]
              refine Rt.take 10 (v := ?_) rfl (by kernel_rfl) (fun _ _ _ h => h) rfl ?_ hS0 ?_
              rotate_left
              · (intro W hSW; (try dsimp only at hSW); go_simp; try with_reducible rfl)
              try simp only [Act.put, List.setIfInBounds_toArray, List.set_cons_zero, List.set_cons_succ]
              refine Rt.takeW 11 (v := ?_) rfl (by kernel_rfl) (fun _ _ _ h => h) rfl ?_ ?_
              rotate_left
              · (intro W; go_simp; try with_reducible rfl)
              try simp only [Act.put, List.setIfInBounds_toArray, List.set_cons_zero, List.set_cons_succ]
              refine Rt.take 12 (v := ?_) rfl (by kernel_rfl) (fun _ _ _ h => h) rfl ?_ hS0 ?_
              rotate_left
              · (intro W hSW; (try dsimp only at hSW); go_simp; try with_reducible rfl)
              try simp only [Act.put, List.setIfInBounds_toArray, List.set_cons_zero, List.set_cons_succ]
              refine Rt.takeW 13 (v := ?_) rfl (by kernel_rfl) (fun _ _ _ h => h) rfl ?_ ?_
              rotate_left
              · (intro W; go_simp; try with_reducible rfl)
              try simp only [Act.put, List.setIfInBounds_toArray, List.set_cons_zero, List.set_cons_succ]
              refine Rt.step 14 rfl (by kernel_rfl) rfl (fun K hK => ?_)
              go_simp
              refine HCd.out.mono ?_; rintro e w9 ⟨rfl, rfl⟩
              refine hK _ _ ⟨.inr id, ?_⟩
              clear hK K
              try simp only [Act.put, List.setIfInBounds_toArray, List.set_cons_zero, List.set_cons_succ]
              refine Rt.takeW 15 (v := ?_) rfl (by kernel_rfl) (fun _ _ _ h => h) rfl ?_ ?_
              rotate_left
              · (intro W; go_simp; try with_reducible rfl)
              try simp only [Act.put, List.setIfInBounds_toArray, List.set_cons_zero, List.set_cons_succ]
              refine Rt.takeW 16 (v := ?_) rfl (by kernel_rfl) (fun _ _ _ h => h) rfl ?_ ?_
              rotate_left
              · (intro W; go_simp; try with_reducible rfl)
              try simp only [Act.put, List.setIfInBounds_toArray, List.set_cons_zero, List.set_cons_succ]
              refine Rt.takeW 17 (v := ?_) rfl (by kernel_rfl) (fun _ _ _ h => h) rfl ?_ ?_
              rotate_left
              · (intro W; go_simp; try with_reducible rfl)
              try simp only [Act.put, List.setIfInBounds_toArray, List.set_cons_zero, List.set_cons_succ]
              refine Rt.step 18 rfl (by kernel_rfl) rfl (fun K hK => ?_)
              go_simp
              refine hK _ _ ⟨.inl rfl, ?_⟩
              clear hK K
              try simp only [Act.put, List.setIfInBounds_toArray, List.set_cons_zero, List.set_cons_succ]
              refine Rt.done (by kernel_rfl) ?_
              refine NoPanic.normal ?_
              go_wp2_with fail
              go_roundw
              case rel => exact ⟨i' + 1, _, by go_num, hli, HFin.out⟩
              case measure => simp [intOf]; omega
            · obtain rfl : i' = pl := by omega
              rw [List.take_of_length_le (by rw [HPL.out]; omega)] at hfc
              have hfl : fcur.length = l' := by rw [hfc, renF_len]; exact HL.out.1
              have hP' := HP.out.ext' hxr
              have hsb : W0.heap.size + 1 ≤ wN.heap.size := by have := HP.out.size; have := HXN.out.size; omega
              obtain ⟨nv', w7, hrun, ⟨ga, gc, rfl⟩, q7, f7, hPn⟩ := hP'.pushN (t, (l' : Int), m) fcur (.slice fa l' fc) (by rw [hfl]; exact own_le hor hsb) (by rw [hfl]; have := HL.out.2.1; omega) (by simp; omega)
              have hlj : ((O.take j).map (newN g O)).length = j := by rw [List.length_map, List.length_take, HOL.out]; omega
              rw [hlj] at hrun hPn
              have hren : renN O ((t, (l' : Int), m), f) = ((t, (l' : Int), m), fcur) := by
                rw [hfc]; unfold renN; rw [Int.toNat_natCast]
              rw [← hren, ← HSTEP.out] at hPn
              have t0 : wr.cell? ⟨nb, 0, none⟩ = some (.int .i64 t) := hbr.cell (i := 0) rfl
              have t1 : wr.cell? ⟨nb, 1, none⟩ = some (.int .i64 l') := hbr.cell (i := 1) rfl
              have t2 : wr.cell? ⟨nb, 2, none⟩ = some (.int .u64 m) := hbr.cell (i := 2) rfl
              have t7 : wr.cell? ⟨W0.heap.size, 0, none⟩ = some (.slice na j nc) := hP'.bo.cell (i := 0) rfl
              rw [← HOB.out] at q7 f7 t7
              have HPn : Hid (R3 W0 (.slice ga (j + 1) gc) ((O.take (j + 1)).map (newN g O)) (.slice none 0 0) [] (w7.setCell ⟨ob, 0, none⟩ (.slice ga (j + 1) gc))) := by show R3 _ _ _ _ _ _; rw [HOB.out]; exact hPn
              have HR := Lib.hid hrun
              clear hxr hbr hor hpr hfc hfl hP' hsb hrun hPn hlj hren
              go_wp2_with (at_builtin; refine Lib.wpList_append_run _ rfl _ _ _ _ rfl _ _ rfl rfl _ w7 HR.out ?_)
              go_roundw
              case rel => exact ⟨j + 1, ga, gc, by go_num, hlt, HPn.out⟩
              case measure => simp [intOf]; omega
        · obtain rfl : ol = j := by omega
          rw [List.take_of_length_le (by rw [HOL.out]; omega)] at hP
          obtain ⟨NS, hNS⟩ : ∃ NS, O.map (newN g O) = NS := ⟨_, rfl⟩
          have HNSL : Hid (NS.length ≤ 100) := by show _ ≤ _; rw [← hNS, List.length_map, HOL.out]; omega
          rw [hNS] at hP HCG
          have HP := Lib.hid hP
          clear hP hNS hlt hj
          go_wp2_with fail
          go_loopw [12] (fun i wr => ∃ (j : Nat) (ra : Option Addr) (rc : Nat), i = .int .i64 j ∧ j ≤ g.2.length ∧ R3 W0 (.slice na ol nc) NS (.slice ra j rc) ((g.2.take j).map fun r => r.map (num O)) wr) (fun i _ => g.2.length - (intOf i).toNat)
          case atStart => exact ⟨0, _, _, rfl, Nat.zero_le _, HP.out⟩
          case round =>
            obtain ⟨W4, hW4⟩ : ∃ W4, W4 = wr := ⟨_, rfl⟩
            subst hW4
            obtain ⟨j, rv, rc', rfl, hj, hP⟩ := hrel
            have hE0 := HXA.out.trans (HX.out.trans hP.ext)
            have hEA := HX.out.trans hP.ext
            have k1 : W4.cell? ⟨B, 1, none⟩ = some (.slice b0 g.2.length d0) := (HBA.out.ext hEA).cell (i := 1) rfl
            by_cases hlt : j < g.2.length
            · obtain ⟨p, u, hpx, hpc, hu⟩ := HG.out.2.at_ uS szS (i := (j : Int)) (by omega) (by omega)
              rw [Int.toNat_natCast] at hu
              replace hu : Sl .i64 w u (rowOf g j) := hu
              obtain ⟨ra, rc, rfl⟩ := Row.form hu
              obtain ⟨rl, hrl⟩ : ∃ rl, (rowOf g j).length = rl := ⟨_, rfl⟩
              replace hpc : w.cell? p = some (.slice ra rl rc) := by rw [← hrl]; exact hpc
              have HPC := Lib.hid hpc
              have HRL := Lib.hid hrl
              have husm := hu.small
              have hulen := hu.len uI
              have HU := Lib.hid hu
              have hrl9 : rl * 8 ≤ 140737488355328 := by rw [← hrl]; exact hu.2.1
              rw [hrl] at husm hulen
              have HP := Lib.hid hP
              have HLT := Lib.hid hlt
              have HE0 := Lib.hid hE0
              have HEA := Lib.hid hEA
              clear hu hrl hP hpc hE0 hEA
              go_wp2_with fail
              clear k1
              go_loopw [13, 14] (fun v i wr => ∃ (i' : Nat), i = .int .i64 i' ∧ i' ≤ rl ∧ Ext W4 wr ∧ wr.ownsRow W4.heap.size 3 1 v (((rowOf g j).take i').map (num O)).length ((((rowOf g j).take i').map (num O)).map (Value.int .i64))) (fun _ i _ => rl - (intOf i).toNat)
              case atStart => exact ⟨0, rfl, Nat.zero_le _, Ext.refl _, World.ownsRow_nil _ _ _ _⟩
              case round =>
                obtain ⟨i', rfl, hi', hxr, hor⟩ := hrel
                obtain ⟨va, vc, hvf⟩ := Vc.own_form hor
                have hvl : (((rowOf g j).take i').map (num O)).length = i' := by rw [List.length_map, List.length_take, HRL.out]; omega
                rw [hvl] at hvf
                subst hvf
                have k1 : wr.cell? ⟨B, 1, none⟩ = some (.slice b0 g.2.length d0) := (HBA.out.ext (HEA.out.trans hxr)).cell (i := 1) rfl
                have kp : wr.cell? p = some (.slice ra rl rc) := (HE0.out.trans hxr).cell HPC.out
                by_cases hli : i' < rl
                · obtain ⟨p2, hp2x, hp2c⟩ := HU.out.at_ uI szI (i := (i' : Int)) (by omega) (by rw [HRL.out]; omega)
                  rw [Int.toNat_natCast] at hp2c
                  rw [HRL.out] at hp2x
                  replace hp2c := (HE0.out.trans hxr).cell hp2c
                  obtain ⟨x, hx⟩ : ∃ x, (rowOf g j).getD i' 0 = x := ⟨_, rfl⟩
                  rw [hx] at hp2c
                  have hplb := place_bd HO.out x
                  have HC := Lib.hid (place_any _ O x wr (HS.out.ext (HP.out.ext.trans hxr)))
                  have hnum : num O x = placeL O x + 1 := rfl
                  obtain ⟨p0, hp0⟩ : ∃ p0, placeL O x = p0 := ⟨_, rfl⟩
                  rw [hp0] at hplb HC hnum
                  have hpw : IntKind.i64.wrap (p0 + 1) = p0 + 1 := by have := HN.out.1; rw [IntKind.wrap_i64]; omega
                  have hp100 : p0 < 100 := by have := HN.out.1; omega
                  have hpm1 : -1 ≤ p0 := hplb.1
                  obtain ⟨v2, w2, hrun, hown2, hch⟩ := app_one hor (Below.size hxr) (p0 + 1) (by rw [hvl]; omega)
                  have hstep : ((rowOf g j).take (i' + 1)).map (num O) = ((rowOf g j).take i').map (num O) ++ [p0 + 1] := by
                    rw [take_snoc _ i' (by rw [HRL.out]; exact hli) 0, List.map_append, hx, ← hnum]; rfl
                  rw [← hstep] at hown2
                  have hx2 : Ext W4 w2 := hch.ext hxr fun k hk => (hor.lt k hk).1
                  have HF := Lib.hid (And.intro hx2 hown2)
                  have HR := Lib.hid hrun
                  clear hplb hnum hp0 hx hown2 hch hx2 hrun hor hstep hxr hvl
                  go_wp2_with fail
                  refine HC.out.mono ?_; rintro e w9 ⟨rfl, rfl⟩
                  go_wp2_with (at_builtin; refine Lib.wpList_append_run _ rfl _ _ _ _ rfl _ _ rfl rfl _ w2 HR.out ?_)
                  go_roundw
                  case rel => exact ⟨i' + 1, by go_num, hli, HF.out⟩
                  case measure => simp [intOf]; omega
                · obtain rfl : i' = rl := by omega
                  rw [List.take_of_length_le (by rw [HRL.out]; omega)] at hor
                  have hP' := HP.out.ext' hxr
                  have hml : ((g.2.take j).map fun r => r.map (num O)).length = j := by rw [List.length_map, List.length_take]; omega
                  obtain ⟨rv2, w7, hrun, ⟨ga, gc, rfl⟩, q7, f7, hPn⟩ := hP'.pushR _ ((rowOf g j).map (num O)) (own_le hor HP.out.size) (by rw [List.length_map, HRL.out]; omega) (by rw [hml]; have := HN.out.2.1; have := HLT.out; omega)
                  have hstep : (g.2.take (j + 1)).map (fun r => r.map (num O)) = (g.2.take j).map (fun r => r.map (num O)) ++ [(rowOf g j).map (num O)] := by
                    rw [take_snoc g.2 j HLT.out [], List.map_append]; rfl
                  rw [hml, ← hstep] at hPn
                  rw [hml] at hrun
                  have t7 : wr.cell? ⟨W0.heap.size, 1, none⟩ = some (.slice rv j rc') := hP'.bo.cell (i := 1) rfl
                  rw [← HOB.out] at q7 f7 t7
                  have HPn : Hid (R3 W0 (.slice na ol nc) NS (.slice ga (j + 1) gc) ((g.2.take (j + 1)).map fun r => r.map (num O)) (w7.setCell ⟨ob, 1, none⟩ (.slice ga (j + 1) gc))) := by show R3 _ _ _ _ _ _; rw [HOB.out]; exact hPn
                  have HR := Lib.hid hrun
                  clear hvl hxr hor hP' hrun hPn hstep hml
                  go_wp2_with (at_builtin; refine Lib.wpList_append_run _ rfl _ _ _ _ rfl _ _ rfl rfl _ w7 HR.out ?_)
                  go_roundw
                  case rel => exact ⟨j + 1, ga, gc, by go_num, HLT.out, HPn.out⟩
                  case measure => simp [intOf]; have := HLT.out; omega
            · obtain rfl : j = g.2.length := by omega
              rw [List.take_length] at hP
              obtain ⟨W8, hW8⟩ : ∃ W8, W8 = (W4.setCell ⟨B + 1, 0, none⟩ (.slice na ol nc)).setCell ⟨B + 1, 1, none⟩ (.slice rv g.2.length rc') := ⟨_, rfl⟩
              have hb1 := HRA.out.ext hEA
              have hb1l : B + 1 < W0.heap.size := (HRA.out.ext HX.out).lt
              obtain ⟨r0, r1, hGr, hXr⟩ := hP.fin (by have := HNSL.out; omega) (by rw [List.length_map]; exact HN.out.2.1) hb1 hb1l (HXA.out.trans HX.out) HBB.out W8 hW8
              rw [← HCG.out] at hGr
              have HF := Lib.hid (And.intro hGr hXr)
              have t0 : W4.cell? ⟨W0.heap.size, 0, none⟩ = some (.slice na ol nc) := hP.bo.cell (i := 0) rfl
              have t1 : W4.cell? ⟨W0.heap.size, 1, none⟩ = some (.slice rv g.2.length rc') := hP.bo.cell (i := 1) rfl
              rw [← HOB.out] at t0 t1
              have x0 : W4.cell? ⟨B + 1, 0, none⟩ = some (.slice none 0 0) := hb1.cell (i := 0) rfl
              have x1 : W4.cell? ⟨B + 1, 1, none⟩ = some (.slice none 0 0) := hb1.cell (i := 1) rfl
              have y0 := hb1.free 0
              have y1 := hb1.free 1
              clear hP hGr hXr hb1 hb1l hE0 hEA
              go_wp2_with fail
              rw [← hW8]
              clear hW8
              exact bodyPost_ret (v := .agg #[.slice na ol nc, .slice rv g.2.length rc']) (by simp [results, Try.results21, go_sem, r0, r1]) rfl ⟨_, _, rfl, HF.out⟩
end Go.Proofs.Ytjhmlbhfnogdiaa.Rc
