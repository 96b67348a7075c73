/- Canon of package graph: what is reached, in order. -/
import Derived.Test.YtjhmlbhfnogdiaaCo
namespace Go.Proofs.Ytjhmlbhfnogdiaa.Cn
open Go.RowKit
open Go.Proofs.Ytjhmlbhfnogdiaa Go.Proofs.Ytjhmlbhfnogdiaa.Hd Go.Proofs.Ytjhmlbhfnogdiaa.Gr Go.Proofs.Ytjhmlbhfnogdiaa.Hg Go.Proofs.Ytjhmlbhfnogdiaa.Ps Go.Proofs.Ytjhmlbhfnogdiaa.Rr Go.Proofs.Ytjhmlbhfnogdiaa.Wk Go.Proofs.Ytjhmlbhfnogdiaa.Pl Go.Proofs.Ytjhmlbhfnogdiaa.Vs Go.Proofs.Ytjhmlbhfnogdiaa.Cp Go.Proofs.Ytjhmlbhfnogdiaa.Vf Go.Proofs.Ytjhmlbhfnogdiaa.Vc Go.Proofs.Ytjhmlbhfnogdiaa.Co
set_option linter.unusedVariables false
theorem run_store_fn {P : Program} {w : World} {a : Addr} {m : Mode} {f : Fn} {x y : Array Value} : (store a (.func f x y) m).run P w = stored P w a (.func f x y) m := run_store P w a _ m rfl
attribute [local go_sem] run_store_fn

theorem hs_mem {g : Gph} {j i : Nat} (hj : j < g.2.length) : ∀ x ∈ hs g j i, x ∈ g.2.flatten := fun x hx => by
  obtain ⟨l, e⟩ := hs_pre (g := g) (j := j) (i := i) hj
  rw [e]; exact List.mem_append_left _ hx
theorem ord_in {g : Gph} (hr : rightG g = true) (hp : posG g) : In g.1.length (ordG g) := od_in hr hp (row_in hr)
/-- A visit of place i of row j. -/
theorem seen {g : Gph} (hr : rightG g = true) (hp : posG g) {j i : Nat} (hj : j < g.2.length) (hi : i < (rowOf g j).length) (x : Int) (hx : (rowOf g j).getD i 0 = x) :
    0 ≤ x ∧ x ≤ g.1.length ∧ In g.1.length (od g (hs g j i)) ∧ In g.1.length (od g (hs g j (i + 1))) ∧ dfs g (g.1.length + 1) (od g (hs g j i)) x = od g (hs g j (i + 1)) ∧ num (od g (hs g j (i + 1))) x = num (ordG g) x := by
  have hxm : x ∈ rowOf g j := by rw [← hx]; simp [List.getD_eq_getElem?_getD, hi]
  have hb := right_row hr hj hxm
  have h1 := od_in hr hp (l := hs g j i) fun y hy => row_in hr y (hs_mem hj y hy)
  have h2 := od_in hr hp (l := hs g j (i + 1)) fun y hy => row_in hr y (hs_mem hj y hy)
  have h3 : dfs g (g.1.length + 1) (od g (hs g j i)) x = od g (hs g j (i + 1)) := by rw [hs_step hi, hx, od_snoc]
  refine ⟨hb.1, hb.2, h1, h2, h3, num_pre (N := g.1.length) ?_ (ord_in hr hp) ?_⟩
  · obtain ⟨l, e⟩ := hs_pre (g := g) (j := j) (i := i + 1) hj
    unfold ordG
    rw [e]
    exact od_pre hr hp fun y hy => row_in hr y (by rw [e]; exact hy)
  · rw [← h3]
    exact dfs_told hr hp _ h1 hb.1 hb.2

theorem num_bd {N : Nat} {O : List Int} (hO : In N O) (h : Int) : 0 ≤ num O h ∧ num O h ≤ N := by
  have h2 := in_len _ _ hO
  by_cases hm : h ∈ O
  · rw [num_in hm]
    have h1 := List.idxOf_lt_length_of_mem hm
    omega
  · rw [num_no hm]; omega
theorem renF_len (O : List Int) : ∀ (ps f : List Int), (renF O ps f).length = f.length
  | [], f => rfl
  | p :: r, f => by
    show (renF O r (f.set p.toNat (num O (f.getD p.toNat 0)))).length = _
    rw [renF_len O r]; simp
theorem renF_snoc (O : List Int) (ps f : List Int) (p : Int) : renF O (ps ++ [p]) f = (renF O ps f).set p.toNat (num O ((renF O ps f).getD p.toNat 0)) := by
  unfold renF; rw [List.foldl_append]; rfl
theorem renF_bd {N : Nat} {O : List Int} (hO : In N O) (Q : Int → Prop) : ∀ (ps f : List Int), (∀ p, Q p → 0 ≤ f.getD p.toNat 0 ∧ f.getD p.toNat 0 ≤ N) → ∀ p, Q p → 0 ≤ (renF O ps f).getD p.toNat 0 ∧ (renF O ps f).getD p.toNat 0 ≤ N
  | [], f, h => h
  | q :: r, f, h => by
    refine renF_bd hO Q r _ fun p hp => ?_
    by_cases hl : q.toNat < f.length
    · rw [getD_set _ _ _ _ hl]
      split
      · exact num_bd hO _
      · exact h p hp
    · show 0 ≤ (f.set q.toNat _).getD p.toNat 0 ∧ (f.set q.toNat _).getD p.toNat 0 ≤ N
      rw [List.set_eq_of_length_le (by omega)]
      exact h p hp

theorem hat6 (B n2 th : Nat) (hth : th < n2) (w' : World) : (Instr.indexAt 23 (.slice (some ⟨B + 6, 0, none⟩) n2 n2) (.int .i64 th)).run Try.prog w' = .ok (.pointer (some ⟨B + 6, th, none⟩)) w' := by
  have h := Wi.own_at (P := Try.prog) (base := 0) (e := 0) (w := w') uS szS hth (g := B + 6) (cap := n2) (n := n2) w'
  rw [Nat.mul_one] at h
  exact h

set_option maxRecDepth 100000 in
set_option maxHeartbeats 16000000 in
theorem canon_any (a b : Value) (g : Gph) (w : World) (h : Gr w a b g) (hr : rightG g = true) (hp : posG g) (hN : g.1.length ≤ 100) (hn2 : g.2.length ≤ 1048576) :
    Calls Try.prog 16 #[.agg #[a, b]] w fun e w' => ∃ a' b', e = .returned (.agg #[a', b']) ∧ Gr w' a' b' (canonG g) ∧ Ext w w' := by
  obtain ⟨a0, c0, rfl⟩ := h.1.form
  obtain ⟨b0, d0, rfl⟩ := Gr.Ma.form h.2
  have HG := Lib.hid h
  have HRP := Lib.hid (And.intro hr hp)
  have HN := Lib.hid (And.intro hN (And.intro hn2 True.intro))
  have hlen := h.2.len uS
  have hsm := h.2.small
  have hmk := Sh.mk_s g.2.length hn2
  have hmm := @run_makeMap Try.prog
  obtain ⟨B, hB⟩ : ∃ B, w.heap.size = B := ⟨_, rfl⟩
  obtain ⟨w1, hput, hs1, g0, g1, hst⟩ := starts w (.slice a0 g.1.length c0) (.slice b0 g.2.length d0) g.2.length hn2 B hB
  have HST := Lib.hid hst
  have HV := Lib.hid (Vc.visit_in B w (.slice a0 g.1.length c0) (.slice b0 g.2.length d0) g h hr hp (by omega) (g.1.length + 1))
  clear hst h hr hp hN hn2
  obtain ⟨wS, hwS⟩ : ∃ wS, wS = ((((w1.alloc (.cells #[.map (some (B + 1 + 1))] 72)).alloc (.cells #[.slice none 0 0] 42)).alloc (.cells #[.func (.func 28) #[] #[.pointer (some ⟨B + 3, 0, none⟩), .pointer (some ⟨B + 3 + 1, 0, none⟩), .pointer (some ⟨B, 0, none⟩), .pointer (some ⟨B + 3 + 1 + 1, 0, none⟩)]] 73)).alloc (.cells (madeCells #[.slice none 0 0] g.2.length) 42)).alloc (.cells #[.slice none 0 0, .slice (some ⟨B + 3 + 1 + 1 + 1, 0, none⟩) g.2.length g.2.length] 25) := ⟨_, rfl⟩
  have HP0 := Lib.hid (HST.out wS hwS)
  go_enter Try.func16, Try.ntmps16
  go_wp2_with fail
  rw [← hwS]
  clear hwS hput hs1 g0 g1 hmk hmm
  rw [show B + 3 + 1 + 1 + 1 + 1 = B + 7 from rfl, show B + 3 + 1 + 1 + 1 = B + 6 from rfl, show B + 3 + 1 + 1 = B + 5 from rfl, show B + 3 + 1 = B + 4 from rfl, show B + 1 + 1 = B + 2 from rfl]
  go_loopw [27] (fun i wr => ∃ (j : Nat) (vo : Value) (vs : List Value), i = .int .i64 j ∧ j ≤ g.2.length ∧ P2 B w (.slice a0 g.1.length c0) (.slice b0 g.2.length d0) g.2.length (od g (hs g j 0)) vo vs (rsAt g (ordG g) j 0) wr) (fun i _ => g.2.length - (intOf i).toNat)
  case atStart => exact ⟨0, _, _, rfl, Nat.zero_le _, by rw [hs_zero, rsAt_zero]; exact HP0.out⟩
  case round =>
    obtain ⟨j, vo, vs, rfl, hj, hP⟩ := hrel
    by_cases hlt : j < g.2.length
    · obtain ⟨p, u, hpx, hpc, hu⟩ := HG.out.2.at_ uS szS (i := (j : Int)) (by omega) (by omega)
      rw [Int.toNat_natCast] at hu
      replace hu : Sl .i64 w u (rowOf g j) := hu
      obtain ⟨ra, rc, rfl⟩ := Row.form hu
      replace hpc := hP.vw.ext.cell hpc
      obtain ⟨rl, hrl⟩ : ∃ rl, (rowOf g j).length = rl := ⟨_, rfl⟩
      have HRL := Lib.hid hrl
      have husm := hu.small
      have hulen := hu.len uI
      have HU := Lib.hid hu
      have hrl9 : rl * 8 ≤ 140737488355328 := by rw [← hrl]; exact hu.2.1
      rw [hrl] at hpc husm hulen
      have HP := Lib.hid hP
      have HLT := Lib.hid hlt
      clear hP hu hrl
      go_wp2_with fail
      go_loopw [34] (fun i wr => ∃ (i' : Nat) (vo : Value) (vs : List Value), i = .int .i64 i' ∧ i' ≤ rl ∧ P2 B w (.slice a0 g.1.length c0) (.slice b0 g.2.length d0) g.2.length (od g (hs g j i')) vo vs (rsAt g (ordG g) j i') wr) (fun i _ => rl - (intOf i).toNat)
      case atStart => exact ⟨0, vo, vs, rfl, Nat.zero_le _, HP.out⟩
      case round =>
        obtain ⟨i', vo2, vs2, rfl, hi', hP2⟩ := hrel
        by_cases hli : i' < rl
        · obtain ⟨p2, hp2x, hp2c⟩ := HU.out.at_ uI szI (i := (i' : Int)) (by omega) (by rw [HRL.out]; omega)
          rw [Int.toNat_natCast] at hp2c
          rw [HRL.out] at hp2x
          replace hp2c := hP2.vw.ext.cell hp2c
          obtain ⟨x, hx⟩ : ∃ x, (rowOf g j).getD i' 0 = x := ⟨_, rfl⟩
          rw [hx] at hp2c
          obtain ⟨x0, x1, hio, hio2, hdfs, hnum⟩ := seen HRP.out.1 HRP.out.2 HLT.out (by rw [HRL.out]; exact hli) x hx
          have HC := Lib.hid (HV.out x _ vo2 _ hP2.vw hio (by omega) x0 x1)
          rw [hdfs] at HC
          have k5 : wr.cell? ⟨B + 5, 0, none⟩ = some (.func (.func 28) #[] #[.pointer (some ⟨B + 3, 0, none⟩), .pointer (some ⟨B + 4, 0, none⟩), .pointer (some ⟨B, 0, none⟩), .pointer (some ⟨B + 5, 0, none⟩)]) := hP2.vw.bv.cell (i := 0) rfl
          have HP2 := Lib.hid hP2
          have HX := Lib.hid (And.intro hx (And.intro hio2 hnum))
          clear hP2 hx hio hdfs hnum x0 x1 hio2
          go_wp2_with fail
          refine HC.out.mono ?_; rintro e w2 ⟨rfl, vo3, hV3, hF3⟩
          have hP3 := (HP2.out.visit hV3 hF3).ext ((Ext.refl w2).drew)
          have hrg : (rsAt g (ordG g) j i').getD j [] = ((rowOf g j).take i').map (num (ordG g)) := rsAt_get HLT.out
          have hLi : ((rsAt g (ordG g) j i').getD j []).length = i' := by rw [hrg, List.length_map, List.length_take, HRL.out]; omega
          obtain ⟨ua, uc, ga, gc, w3, vs3, q6, hrun, q6', f6, hS3, hPn⟩ := hP3.push HLT.out (num (ordG g) x) (by rw [hLi]; omega) i' hLi
          have hpush : (rsAt g (ordG g) j i').set j ((rsAt g (ordG g) j i').getD j [] ++ [num (ordG g) x]) = rsAt g (ordG g) j (i' + 1) := by
            rw [← HX.out.1]; exact rsAt_push HLT.out (by rw [HRL.out]; exact hli)
          rw [hpush] at hPn
          have HPn := Lib.hid hPn
          have q7 : w2.drew.cell? ⟨B + 7, 1, none⟩ = some (.slice (some ⟨B + 6, 0, none⟩) g.2.length g.2.length) := hP3.bu.cell (i := 1) rfl
          have q3 : w2.drew.cell? ⟨B + 3, 0, none⟩ = some (.map (some (B + 2))) := hP3.vw.bx.cell (i := 0) rfl
          have hS0 : w2.drew.cell? ⟨B + 7, 1, none⟩ = some (.slice (some ⟨B + 6, 0, none⟩) g.2.length g.2.length) ∧ w2.drew.cell? ⟨B + 6, j, none⟩ = some (.slice ua i' uc) ∧ w2.drew.cell? ⟨B + 3, 0, none⟩ = some (.map (some (B + 2))) ∧ FM w2.drew (B + 2) (asV (od g (hs g j (i' + 1)))) := ⟨q7, q6, q3, hP3.vw.fm⟩
          have hS2 := Lib.hid (And.intro hS3.1 (And.intro q6' hS3.2))
          have hS1 : Hid (∀ o : Obj, (w2.drew.alloc o).cell? ⟨B + 7, 1, none⟩ = some (.slice (some ⟨B + 6, 0, none⟩) g.2.length g.2.length) ∧ (w2.drew.alloc o).cell? ⟨B + 6, j, none⟩ = some (.slice ua i' uc) ∧ (w2.drew.alloc o).cell? ⟨B + 3, 0, none⟩ = some (.map (some (B + 2))) ∧ FM (w2.drew.alloc o) (B + 2) (asV (od g (hs g j (i' + 1))))) := fun o => by
            have hE := (Ext.refl w2.drew).alloc o
            exact ⟨hE.cell q7, hE.cell q6, hE.cell q3, hP3.vw.fm.ext hE⟩
          have hat := hat6 B g.2.length j HLT.out
          clear hP3 hrg hLi hPn hpush hV3 hF3 q6 q7 q3 hS3
          go_wp2_with fail
          refine wp_region_noPanic ?_
          refine Rt.begin_ (fun W : World => W.cell? ⟨B + 7, 1, none⟩ = some (.slice (some ⟨B + 6, 0, none⟩) g.2.length g.2.length) ∧ W.cell? ⟨B + 6, j, none⟩ = some (.slice ua i' uc) ∧ W.cell? ⟨B + 3, 0, none⟩ = some (.map (some (B + 2))) ∧ FM W (B + 2) (asV (od g (hs g j (i' + 1))))) (fun i => i == 14) (by kernel_rfl) ?_
          simp only [List.length_cons, List.length_nil, Nat.reduceAdd, Array.replicate_succ, Array.replicate_zero]
          refine Rt.takeW 0 (v := ?_) rfl (by kernel_rfl) (fun _ _ _ h => h) rfl ?_ ?_
          rotate_left
          · (intro W; go_simp; try with_reducible rfl)
          try simp only [Act.put, List.setIfInBounds_toArray, List.set_cons_zero, List.set_cons_succ]
          refine Rt.take 1 (v := ?_) rfl (by kernel_rfl) (fun _ _ _ h => h) rfl ?_ hS0 ?_
          rotate_left
          · (intro W hSW; (try dsimp only at hSW); go_simp; try with_reducible rfl)
          try simp only [Act.put, List.setIfInBounds_toArray, List.set_cons_zero, List.set_cons_succ]
          refine Rt.takeW 2 (v := ?_) rfl (by kernel_rfl) (fun _ _ _ h => h) rfl ?_ ?_
          rotate_left
          · (intro W; go_simp; try with_reducible rfl)
          try simp only [Act.put, List.setIfInBounds_toArray, List.set_cons_zero, List.set_cons_succ]
          refine Rt.takeW 3 (v := ?_) rfl (by kernel_rfl) (fun _ _ _ h => h) rfl ?_ ?_
          rotate_left
          · (intro W; go_simp; try with_reducible rfl)
          try simp only [Act.put, List.setIfInBounds_toArray, List.set_cons_zero, List.set_cons_succ]
          refine Rt.take 4 (v := ?_) rfl (by kernel_rfl) (fun _ _ _ h => h) rfl ?_ hS0 ?_
          rotate_left
          · (intro W hSW; (try dsimp only at hSW); go_simp; try with_reducible rfl)
          try simp only [Act.put, List.setIfInBounds_toArray, List.set_cons_zero, List.set_cons_succ]
          refine Rt.takeW 5 (v := ?_) rfl (by kernel_rfl) (fun _ _ _ h => h) rfl ?_ ?_
          rotate_left
          · (intro W; go_simp; try with_reducible rfl)
          try simp only [Act.put, List.setIfInBounds_toArray, List.set_cons_zero, List.set_cons_succ]
          refine Rt.takeW 6 (v := ?_) rfl (by kernel_rfl) (fun _ _ _ h => h) rfl ?_ ?_
          rotate_left
          · (intro W; go_simp; try with_reducible rfl)
          try simp only [Act.put, List.setIfInBounds_toArray, List.set_cons_zero, List.set_cons_succ]
          refine Rt.take 7 (v := ?_) rfl (by kernel_rfl) (fun _ _ _ h => h) rfl ?_ hS0 ?_
          rotate_left
          · (intro W hSW; (try dsimp only at hSW); go_simp; try with_reducible rfl)
          try simp only [Act.put, List.setIfInBounds_toArray, List.set_cons_zero, List.set_cons_succ]
          refine Rt.take 8 (v := ?_) rfl (by kernel_rfl) (fun _ _ _ h => h) rfl ?_ hS0 ?_
          rotate_left
          · (intro W hSW; (try dsimp only at hSW); go_simp; try with_reducible rfl)
          try simp only [Act.put, List.setIfInBounds_toArray, List.set_cons_zero, List.set_cons_succ]
          refine Rt.takeW 9 (v := ?_) rfl (by kernel_rfl) (fun _ _ _ h => h) rfl ?_ ?_
          rotate_left
          · (intro W; go_simp; try with_reducible rfl)
          try simp only [Act.put, List.setIfInBounds_toArray, List.set_cons_zero, List.set_cons_succ]
          refine Rt.take 10 (v := ?_) rfl (by kernel_rfl) (fun _ _ _ h => h) rfl ?_ hS0 ?_
          rotate_left
          · (intro W hSW; (try dsimp only at hSW); have hl := hSW.2.2.2.look (P := Try.prog) Try.underlying72 Try.underlying3 (zInt W) x false; rw [flook_num HX.out.2.1] at hl; simp only [Bool.false_eq_true, if_false] at hl; go_simp; try with_reducible rfl)
          try simp only [Act.put, List.setIfInBounds_toArray, List.set_cons_zero, List.set_cons_succ]
          rw [HX.out.2.2]
          refine Rt.step 11 rfl (by kernel_rfl) rfl (fun K hK => ?_)
          go_simp
          refine hK _ _ ⟨.inr fun _ => hS1.out _, ?_⟩
          clear hK K
          try simp only [Act.put, List.setIfInBounds_toArray, List.set_cons_zero, List.set_cons_succ]
          refine Rt.step 12 rfl (by kernel_rfl) rfl (fun K hK => ?_)
          with_reducible refine Lib.wp_append_run _ (.tmp 48) (.tmp 52) 42 42 ?_ _ _ ?_ ?_ _ _ hrun ?_
          rfl
          rfl
          rfl
          refine hK _ _ ⟨.inr fun _ => hS2.out, ?_⟩
          clear hK K
          try simp only [Act.put, List.setIfInBounds_toArray, List.set_cons_zero, List.set_cons_succ]
          refine Rt.takeW 13 (v := ?_) rfl (by kernel_rfl) (fun _ _ _ h => h) rfl ?_ ?_
          rotate_left
          · (intro W; go_simp; try with_reducible rfl)
          try simp only [Act.put, List.setIfInBounds_toArray, List.set_cons_zero, List.set_cons_succ]
          refine Rt.step 14 rfl (by kernel_rfl) rfl (fun K hK => ?_)
          go_simp
          refine hK _ _ ⟨.inl rfl, ?_⟩
          clear hK K
          try simp only [Act.put, List.setIfInBounds_toArray, List.set_cons_zero, List.set_cons_succ]
          refine Rt.done (by kernel_rfl) ?_
          refine NoPanic.normal ?_
          go_wp2_with fail
          go_roundw
          case rel => exact ⟨i' + 1, vo3, vs3, by go_num, hli, HPn.out⟩
          case measure => simp [intOf]; omega
        · obtain rfl : i' = rl := by omega
          have hn1 : od g (hs g j i') = od g (hs g (j + 1) 0) := by rw [← HRL.out, hs_next HLT.out]
          have hn2 : rsAt g (ordG g) j i' = rsAt g (ordG g) (j + 1) 0 := by rw [← HRL.out, rsAt_next HLT.out]
          rw [hn1, hn2] at hP2
          have HP2 := Lib.hid hP2
          clear hP2 hn1 hn2
          go_wp2_with fail
          go_roundw
          case rel => exact ⟨j + 1, vo2, vs2, by go_num, HLT.out, HP2.out⟩
          case measure => simp [intOf]; have := HLT.out; omega
    · obtain rfl : j = g.2.length := by omega
      rw [hs_end, rsAt_end] at hP
      have hP3 := P3.of hP
      have hO := ord_in HRP.out.1 HRP.out.2
      have HO := Lib.hid hO
      replace hP3 : P3 B w (.slice a0 g.1.length c0) (.slice b0 g.2.length d0) g.2.length (ordG g) vo vs (g.2.map fun r => r.map (num (ordG g))) (.slice none 0 0) [] wr := hP3
      obtain ⟨O, hOe⟩ : ∃ O, ordG g = O := ⟨_, rfl⟩
      obtain ⟨RS, hRS⟩ : ∃ RS, (g.2.map fun r => r.map (num O)) = RS := ⟨_, rfl⟩
      have HCG : Hid (canonG g = (O.map (newN g O), RS)) := by show _ = _; unfold canonG; rw [hOe, hRS]
      rw [hOe] at hP3 HO
      rw [hRS] at hP3
      obtain ⟨va, vc, rfl⟩ := Vc.own_form hP3.vw.own
      have c4 : wr.cell? ⟨B + 4, 0, none⟩ = some (.slice va O.length vc) := hP3.vw.bo.cell (i := 0) rfl
      have holen := (Row.of_own (b := 8) hP3.vw.own (by have := in_len _ _ HO.out; have := HN.out.1; omega) (by have := in_len _ _ HO.out; have := HN.out.1; omega)).len uI
      obtain ⟨ol, hol⟩ : ∃ ol, O.length = ol := ⟨_, rfl⟩
      have HOL := Lib.hid hol
      have hol100 : (ol : Int) ≤ 100 := by have := in_len _ _ HO.out; have := HN.out.1; omega
      have HP3 := Lib.hid hP3
      rw [hol] at c4 holen
      clear hP hP3 hO hOe hRS hol hj hlt
      go_wp2_with fail
      go_loopw [59] (fun i wr => ∃ (j : Nat) (na : Option Addr) (nc : Nat), i = .int .i64 j ∧ j ≤ ol ∧ P3 B w (.slice a0 g.1.length c0) (.slice b0 g.2.length d0) g.2.length O (.slice va O.length vc) vs RS (.slice na j nc) ((O.take j).map (newN g O)) wr) (fun i _ => ol - (intOf i).toNat)
      case atStart => exact ⟨0, _, _, rfl, Nat.zero_le _, HP3.out⟩
      case round =>
        obtain ⟨W0, hW0⟩ : ∃ W0, W0 = wr := ⟨_, rfl⟩
        subst hW0
        obtain ⟨j, na, nc, rfl, hj, hP⟩ := hrel
        by_cases hlt : j < ol
        · have hlo : j < O.length := by rw [HOL.out]; exact hlt
          obtain ⟨p, hpx, hpc⟩ := Row.at1 (P := Try.prog) uI szI (Row.of_own (b := 8) hP.vw.own (by rw [HOL.out]; omega) (by rw [HOL.out]; omega)) (i := (j : Int)) (by omega) (by omega)
          rw [HOL.out] at hpx
          obtain ⟨hh, hhe⟩ : ∃ hh, O[j] = hh := ⟨_, rfl⟩
          have hhb := HO.out.2 hh (hhe ▸ List.getElem_mem hlo)
          have hpc := hpc (.int .i64 hh) (by simp [hlo, hhe])
          obtain ⟨n, rfl⟩ : ∃ n : Nat, hh = (n : Int) + 1 := ⟨(hh - 1).toNat, by omega⟩
          have hn : n < g.1.length := by omega
          have hsmall : (n : Int) < 1000 := by have := HN.out.1; omega
          obtain ⟨l0, l1, m0, m1⟩ := right_head HRP.out.1 HRP.out.2 hn
          obtain ⟨_, _, hfl, hok⟩ := right_node HRP.out.1 hn
          have hpos := (pos_node HRP.out.2 hn).2
          have d0 : W0.cell? ⟨B, 0, none⟩ = some (.slice a0 g.1.length c0) := hP.vw.bg.cell (i := 0) rfl
          obtain ⟨b1, o1, s1, u, hix, e0, e1, e2, e3, hu⟩ := HG.out.1.at_ n hn
          have hE0 := hP.vw.ext
          replace e0 := hE0.cell e0
          replace e1 := hE0.cell e1
          replace e2 := hE0.cell e2
          replace e3 := hE0.cell e3
          have hnew : newN g O ((n : Int) + 1) = renN O (node g n) := by
            unfold newN
            rw [show ((n : Int) + 1 - 1).toNat = n by omega]
          have hstep : (O.take (j + 1)).map (newN g O) = (O.take j).map (newN g O) ++ [renN O (node g n)] := by
            rw [take_snoc O j hlo 0, List.map_append]
            have : O.getD j 0 = (n : Int) + 1 := by simp [List.getD_eq_getElem?_getD, hlo, hhe]
            rw [this, ← hnew]
            rfl
          replace e0 : W0.cell? ⟨b1, o1, s1⟩ = some (.int .i64 (node g n).1.1) := e0
          replace e1 : W0.cell? ⟨b1, o1 + 1, none⟩ = some (.int .i64 (node g n).1.2.1) := e1
          replace e2 : W0.cell? ⟨b1, o1 + 2, none⟩ = some (.int .u64 (node g n).1.2.2) := e2
          replace hu : Sl .u64 w u (node g n).2 := hu
          clear hnew
          generalize node g n = nd at *
          obtain ⟨⟨t, l, m⟩, f⟩ := nd
          dsimp only at *
          obtain ⟨l', rfl⟩ : ∃ l' : Nat, l = (l' : Int) := ⟨l.toNat, by omega⟩
          have hfl' : f.length = l' := by omega
          obtain ⟨ua, uc, rfl⟩ := Row.form hu
          rw [hfl'] at e3
          have hwr : IntKind.i64.wrap ((n : Int) + 1 - 1) = n := by rw [IntKind.wrap_i64]; omega
          obtain ⟨wN, hwN⟩ : ∃ wN, wN = W0.alloc (.cells #[.int .i64 t, .int .i64 l', .int .u64 m, .slice ua l' uc] 67) := ⟨_, rfl⟩
          obtain ⟨nb, hnb⟩ : ∃ nb, nb = W0.heap.size := ⟨_, rfl⟩
          have hxN : Ext W0 wN := hwN ▸ (Ext.refl W0).alloc _
          have hbN : Blk wN nb #[.int .i64 t, .int .i64 l', .int .u64 m, .slice ua l' uc] 67 := by rw [hwN, hnb]; exact Blk.new W0 _ _
          have b3 : wN.cell? ⟨nb, 3, none⟩ = some (.slice ua l' uc) := hbN.cell (i := 3) rfl
          have hu2 : Row wN 1 8 (.slice ua l' uc) l' (f.map (Value.int .u64)) := by
            have h := (hu.ext hE0).ext hxN
            unfold Sl at h
            rw [hfl'] at h
            exact h
          have HCl := Lib.hid (Wi.clone_u (.slice ua l' uc) l' (f.map (Value.int .u64)) wN hu2 (oneCells _ _))
          have HP := Lib.hid hP
          have HXN := Lib.hid hxN
          have HBN := Lib.hid hbN
          have HSTEP := Lib.hid hstep
          have hnbN : Hid (nb < wN.heap.size ∧ W0.heap.size ≤ nb) := ⟨hbN.lt, by rw [hnb]; exact Nat.le_refl _⟩
          have HL := Lib.hid (And.intro hfl' (And.intro l1 (And.intro m0 m1)))
          have HOK := Lib.hid (And.intro hok hpos)
          clear hP hu hfl hfl' hok hpos l0 l1 m0 m1 hbN hu2 hhe hn hstep hE0 hxN hlo
          go_wp2_with fail
          rw [← hwN, ← hnb]
          clear hnb hwN
          refine HCl.out.mono ?_; rintro e w5 ⟨v', rfl, hown5, hx5⟩
          obtain ⟨fa, fc, rfl⟩ := Vc.own_form hown5
          have hb5 := HBN.out.ext hx5
          have p3 : w5.cell? ⟨nb, 3, none⟩ = some (.slice ua l' uc) := hb5.cell (i := 3) rfl
          have f3 := hb5.free 3
          obtain ⟨w6, hw6⟩ : ∃ w6, w6 = w5.setCell ⟨nb, 3, none⟩ (.slice fa l' fc) := ⟨_, rfl⟩
          have hb6 : Blk w6 nb #[.int .i64 t, .int .i64 l', .int .u64 m, .slice fa l' fc] 67 := by rw [hw6]; exact hb5.set 3 _
          have hx6 : Ext W0 w6 := by rw [hw6]; exact (HXN.out.trans hx5).setCell (p := ⟨nb, 3, none⟩) hnbN.out.2 _
          have hown6 : w6.ownsRow wN.heap.size 26 1 (.slice fa l' fc) l' (f.map (Value.int .u64)) := by
            rw [hw6]
            exact own_keep hown5 fun k hk => setCell_heap_other (by have := (hown5.lt k hk).1; have := hnbN.out.1; show k ≠ nb; omega)
          have q0 : w6.cell? ⟨nb, 0, none⟩ = some (.int .i64 t) := hb6.cell (i := 0) rfl
          have q1 : w6.cell? ⟨nb, 1, none⟩ = some (.int .i64 l') := hb6.cell (i := 1) rfl
          have q2 : w6.cell? ⟨nb, 2, none⟩ = some (.int .u64 m) := hb6.cell (i := 2) rfl
          have hsz6 : Hid (wN.heap.size ≤ w6.heap.size) := by show _ ≤ _; rw [hw6]; have := hx5.size; simpa [World.setCell] using this
          have HPt := Lib.hid (ptrs_own t m l' (by have := HL.out.2.1; omega) HL.out.2.2.1 HL.out.2.2.2 w6)
          rw [hw6] at q0 q1 q2
          have HB6 := Lib.hid hb6
          have HX6 := Lib.hid hx6
          have HO6 := Lib.hid hown6
          clear hb5 hb6 hx6 hown6 hown5 hx5 e0 e1 e2 e3 b3 d0 hpx hpc hix
          go_wp2_with fail
          rw [← hw6]
          clear hw6 q0 q1 q2 p3 f3
          refine HPt.out.mono ?_; rintro e wL ⟨po, rfl, hpo, hxL⟩
          obtain ⟨pa, pc, rfl⟩ := Vc.own_form hpo
          obtain ⟨pl, hpl⟩ : ∃ pl, (ptrs l' m).length = pl := ⟨_, rfl⟩
          have hpl16 : pl ≤ 16 := by rw [← hpl]; have := ptrs_len l' m; have := HL.out.2.1; omega
          have HPO := Lib.hid hpo
          have HPL := Lib.hid hpl
          have HXL := Lib.hid hxL
          rw [hpl]
          clear hpo hpl hxL
          go_wp2_with fail
          go_loopw [77] (fun i wr => ∃ (i' : Nat) (fcur : List Int), i = .int .i64 i' ∧ i' ≤ pl ∧ fcur = renF O ((ptrs l' m).take i') f ∧ Ext W0 wr ∧ Blk wr nb #[.int .i64 t, .int .i64 l', .int .u64 m, .slice fa l' fc] 67 ∧ wr.ownsRow wN.heap.size 26 1 (.slice fa l' fc) l' (fcur.map (Value.int .u64)) ∧ wr.ownsRow w6.heap.size 3 1 (.slice pa (ptrs l' m).length pc) (ptrs l' m).length ((ptrs l' m).map (Value.int .i64))) (fun i _ => pl - (intOf i).toNat)
          case atStart => exact ⟨0, f, rfl, Nat.zero_le _, rfl, HX6.out.trans HXL.out, HB6.out.ext HXL.out, own_ext HO6.out HXL.out, by have := HPO.out; exact this⟩
          case round =>
            obtain ⟨i', fcur, rfl, hi', hfc, hxr, hbr, hor, hpr⟩ := hrel
            by_cases hli : i' < pl
            · have hjl : i' < (ptrs l' m).length := by rw [HPL.out]; exact hli
              obtain ⟨p2, hp2x, hp2c⟩ := Row.at1 (P := Try.prog) uI szI (Row.of_own (b := 8) hpr (by rw [HPL.out]; omega) (by rw [HPL.out]; omega)) (i := (i' : Int)) (by omega) (by omega)
              rw [HPL.out] at hp2x
              obtain ⟨xi, hxi, hxl, _⟩ := ptrs_mem (List.getElem_mem hjl)
              have hpd : (ptrs l' m).getD i' 0 = (xi : Int) := by simp [List.getD_eq_getElem?_getD, hjl, hxi]
              replace hp2c : wr.cell? p2 = some (.int .i64 xi) := hp2c _ (by simp [hjl, hxi])
              have hfl : fcur.length = l' := by rw [hfc, renF_len]; exact HL.out.1
              obtain ⟨y, hy⟩ : ∃ y, fcur.getD xi 0 = y := ⟨_, rfl⟩
              have hyb : 0 ≤ y ∧ y ≤ g.1.length := by
                have hb := renF_bd (N := g.1.length) HO.out (fun p => p ∈ ptrs l' m) ((ptrs l' m).take i') f (fun p hp => by
                  have hok := HOK.out.1
                  unfold okP at hok
                  have h2 := of_decide_eq_true (List.all_eq_true.1 hok p (by simpa using hp))
                  refine ⟨?_, h2⟩
                  by_cases hl : p.toNat < f.length
                  · exact HOK.out.2 _ (by simp [List.getD_eq_getElem?_getD, hl])
                  · simp [List.getD_eq_getElem?_getD, List.getElem?_eq_none (by omega : f.length ≤ p.toNat)]) (xi : Int) (by rw [← hxi]; exact List.getElem_mem hjl)
                rw [← hfc, Int.toNat_natCast, hy] at hb
                exact hb
              have hnb2 := num_bd HO.out y
              have hyw : IntKind.i64.wrap y = y := by have := HN.out.1; rw [IntKind.wrap_i64]; omega
              have huw : IntKind.u64.wrap (num O y) = num O y := by have := HN.out.1; rw [IntKind.wrap_u64]; omega
              have hcl : xi < (fcur.map (Value.int .u64)).length := by simp [hfl]; exact hxl
              obtain ⟨gb, cap, hv, hgb, hglt, hgc, hgf, hgs⟩ := Wi.own_set hor hcl
              simp only [Value.slice.injEq] at hv
              obtain ⟨rfl, _, rfl⟩ := hv
              have hgc : wr.cell? ⟨gb, xi, none⟩ = some (.int .u64 y) := by
                have hh : xi < fcur.length := by omega
                rw [hgc, ← hy]
                simp [List.getD_eq_getElem?_getD, hh]
              have hat := Wi.own_at (P := Try.prog) (base := 0) (e := 0) (w := w) uU szU hxl (g := gb) (cap := fc) (n := l')
              rw [Nat.mul_one] at hat
              have HPr := Lib.hid (HP.out.ext hxr)
              have t3 : wr.cell? ⟨nb, 3, none⟩ = some (.slice (some ⟨gb, 0, none⟩) l' fc) := hbr.cell (i := 3) rfl
              have tB : wr.cell? ⟨B + 3, 0, none⟩ = some (.map (some (B + 2))) := HPr.out.vw.bx.cell (i := 0) rfl
              have hS0 : wr.drew.cell? ⟨nb, 3, none⟩ = some (.slice (some ⟨gb, 0, none⟩) l' fc) ∧ wr.drew.cell? ⟨B + 3, 0, none⟩ = some (.map (some (B + 2))) ∧ wr.drew.cell? ⟨gb, xi, none⟩ = some (.int .u64 y) ∧ FM wr.drew (B + 2) (asV O) := ⟨t3, tB, hgc, HPr.out.vw.fm.ext ((Ext.refl wr).drew)⟩
              have HFin : Hid (fcur.set xi (num O y) = renF O ((ptrs l' m).take (i' + 1)) f ∧ Ext W0 (wr.drew.setCell ⟨gb, xi, none⟩ (.int .u64 (num O y))) ∧ Blk (wr.drew.setCell ⟨gb, xi, none⟩ (.int .u64 (num O y))) nb #[.int .i64 t, .int .i64 l', .int .u64 m, .slice (some ⟨gb, 0, none⟩) l' fc] 67 ∧ (wr.drew.setCell ⟨gb, xi, none⟩ (.int .u64 (num O y))).ownsRow wN.heap.size 26 1 (.slice (some ⟨gb, 0, none⟩) l' fc) l' ((fcur.set xi (num O y)).map (Value.int .u64)) ∧ (wr.drew.setCell ⟨gb, xi, none⟩ (.int .u64 (num O y))).ownsRow w6.heap.size 3 1 (.slice pa (ptrs l' m).length pc) (ptrs l' m).length ((ptrs l' m).map (Value.int .i64))) := by
                have h1 := hnbN.out
                have h2 := HXN.out.size
                refine ⟨?_, (hxr.drew).setCell (p := ⟨gb, xi, none⟩) (by show W0.heap.size ≤ gb; omega) _, (hbr.ext ((Ext.refl wr).drew)).other (p := ⟨gb, xi, none⟩) (by show nb ≠ gb; omega) _, ?_, own_keep (own_ext hpr ((Ext.refl wr).drew)) fun k hk => setCell_heap_other (by
                  intro e
                  have e : k = gb := e
                  subst e
                  exact own_apart hpr hor (by decide) hk rfl)⟩
                · rw [take_snoc _ i' hjl 0, renF_snoc, ← hfc, hpd, Int.toNat_natCast, hy]
                · have h3 := (Wi.own_set (own_ext hor ((Ext.refl wr).drew)) hcl)
                  obtain ⟨gb', cap', hv', _, _, _, _, hgs'⟩ := h3
                  simp only [Value.slice.injEq, Option.some.injEq, Addr.mk.injEq] at hv'
                  obtain ⟨⟨rfl, _⟩, _, rfl⟩ := hv'
                  have h4 := hgs' (.int .u64 (num O y))
                  rw [List.map_set]
                  exact h4
              clear hxr hbr hor hpr hgs hpd hxi hfc hy hnb2 hgb hglt hcl hyb t3 tB
              go_wp2_with fail
              refine wp_region_noPanic ?_
              refine Rt.begin_ (fun W : World => W.cell? ⟨nb, 3, none⟩ = some (.slice (some ⟨gb, 0, none⟩) l' fc) ∧ W.cell? ⟨B + 3, 0, none⟩ = some (.map (some (B + 2))) ∧ W.cell? ⟨gb, xi, none⟩ = some (.int .u64 y) ∧ FM W (B + 2) (asV O)) (fun i => i == 13) (by kernel_rfl) ?_
              simp only [List.length_cons, List.length_nil, Nat.reduceAdd, Array.replicate_succ, Array.replicate_zero]
              refine Rt.takeW 0 (v := ?_) rfl (by kernel_rfl) (fun _ _ _ h => h) rfl ?_ ?_
              rotate_left
              · (intro W; go_simp; try with_reducible rfl)
              try simp only [Act.put, List.setIfInBounds_toArray, List.set_cons_zero, List.set_cons_succ]
              refine Rt.take 1 (v := ?_) rfl (by kernel_rfl) (fun _ _ _ h => h) rfl ?_ hS0 ?_
              rotate_left
              · (intro W hSW; (try dsimp only at hSW); go_simp; try with_reducible rfl)
              try simp only [Act.put, List.setIfInBounds_toArray, List.set_cons_zero, List.set_cons_succ]
              refine Rt.takeW 2 (v := ?_) rfl (by kernel_rfl) (fun _ _ _ h => h) rfl ?_ ?_
              rotate_left
              · (intro W; go_simp; try with_reducible rfl)
              try simp only [Act.put, List.setIfInBounds_toArray, List.set_cons_zero, List.set_cons_succ]
              refine Rt.take 3 (v := ?_) rfl (by kernel_rfl) (fun _ _ _ h => h) rfl ?_ hS0 ?_
              rotate_left
              · (intro W hSW; (try dsimp only at hSW); go_simp; try with_reducible rfl)
              try simp only [Act.put, List.setIfInBounds_toArray, List.set_cons_zero, List.set_cons_succ]
              refine Rt.takeW 4 (v := ?_) rfl (by kernel_rfl) (fun _ _ _ h => h) rfl ?_ ?_
              rotate_left
              · (intro W; go_simp; try with_reducible rfl)
              try simp only [Act.put, List.setIfInBounds_toArray, List.set_cons_zero, List.set_cons_succ]
              refine Rt.take 5 (v := ?_) rfl (by kernel_rfl) (fun _ _ _ h => h) rfl ?_ hS0 ?_
              rotate_left
              · (intro W hSW; (try dsimp only at hSW); go_simp; try with_reducible rfl)
              try simp only [Act.put, List.setIfInBounds_toArray, List.set_cons_zero, List.set_cons_succ]
              refine Rt.takeW 6 (v := ?_) rfl (by kernel_rfl) (fun _ _ _ h => h) rfl ?_ ?_
              rotate_left
              · (intro W; go_simp; try with_reducible rfl)
              try simp only [Act.put, List.setIfInBounds_toArray, List.set_cons_zero, List.set_cons_succ]
              refine Rt.takeW 7 (v := ?_) rfl (by kernel_rfl) (fun _ _ _ h => h) rfl ?_ ?_
              rotate_left
              · (intro W; go_simp; try with_reducible rfl)
              try simp only [Act.put, List.setIfInBounds_toArray, List.set_cons_zero, List.set_cons_succ]
              refine Rt.take 8 (v := ?_) rfl (by kernel_rfl) (fun _ _ _ h => h) rfl ?_ hS0 ?_
              rotate_left
              · (intro W hSW; (try dsimp only at hSW); go_simp; try with_reducible rfl)
              try simp only [Act.put, List.setIfInBounds_toArray, List.set_cons_zero, List.set_cons_succ]
              refine Rt.takeW 9 (v := ?_) rfl (by kernel_rfl) (fun _ _ _ h => h) rfl ?_ ?_
              rotate_left
              · (intro W; go_simp; try with_reducible rfl)
              try simp only [Act.put, List.setIfInBounds_toArray, List.set_cons_zero, List.set_cons_succ]
              refine Rt.take 10 (v := ?_) rfl (by kernel_rfl) (fun _ _ _ h => h) rfl ?_ hS0 ?_
              rotate_left
              · (intro W hSW; (try dsimp only at hSW); have hl := hSW.2.2.2.look (P := Try.prog) Try.underlying72 Try.underlying3 (zInt W) y false; rw [flook_num HO.out] at hl; simp only [Bool.false_eq_true, if_false] at hl; go_simp; try with_reducible rfl)
              try simp only [Act.put, List.setIfInBounds_toArray, List.set_cons_zero, List.set_cons_succ]
              refine Rt.takeW 11 (v := ?_) rfl (by kernel_rfl) (fun _ _ _ h => h) rfl ?_ ?_
              rotate_left
              · (intro W; go_simp; try with_reducible rfl)
              try simp only [Act.put, List.setIfInBounds_toArray, List.set_cons_zero, List.set_cons_succ]
              refine Rt.takeW 12 (v := ?_) rfl (by kernel_rfl) (fun _ _ _ h => h) rfl ?_ ?_
              rotate_left
              · (intro W; go_simp; try with_reducible rfl)
              try simp only [Act.put, List.setIfInBounds_toArray, List.set_cons_zero, List.set_cons_succ]
              refine Rt.step 13 rfl (by kernel_rfl) rfl (fun K hK => ?_)
              go_simp
              refine hK _ _ ⟨.inl rfl, ?_⟩
              clear hK K
              try simp only [Act.put, List.setIfInBounds_toArray, List.set_cons_zero, List.set_cons_succ]
              refine Rt.done (by kernel_rfl) ?_
              refine NoPanic.normal ?_
              go_wp2_with fail
              go_roundw
              case rel => exact ⟨i' + 1, _, by go_num, hli, HFin.out⟩
              case measure => simp [intOf]; omega
            · obtain rfl : i' = pl := by omega
              rw [List.take_of_length_le (by rw [HPL.out]; omega)] at hfc
              have hfl : fcur.length = l' := by rw [hfc, renF_len]; exact HL.out.1
              have hP' := HP.out.ext hxr
              have hsb : B + 8 ≤ wN.heap.size := by have := HP.out.vw.hs; have := HXN.out.size; omega
              obtain ⟨nv', w7, hrun, ⟨ga, gc, rfl⟩, q7, f7, hPn⟩ := hP'.push (t, (l' : Int), m) fcur (.slice fa l' fc) (by rw [hfl]; exact own_le hor hsb) (by rw [hfl]; have := HL.out.2.1; omega) (by simp; omega)
              have hlj : ((O.take j).map (newN g O)).length = j := by rw [List.length_map, List.length_take, HOL.out]; omega
              rw [hlj] at hrun hPn
              have hren : renN O ((t, (l' : Int), m), f) = ((t, (l' : Int), m), fcur) := by
                rw [hfc]; unfold renN; rw [Int.toNat_natCast]
              rw [← hren, ← HSTEP.out] at hPn
              have HPn := Lib.hid hPn
              have HR := Lib.hid hrun
              have t0 : wr.cell? ⟨nb, 0, none⟩ = some (.int .i64 t) := hbr.cell (i := 0) rfl
              have t1 : wr.cell? ⟨nb, 1, none⟩ = some (.int .i64 l') := hbr.cell (i := 1) rfl
              have t2 : wr.cell? ⟨nb, 2, none⟩ = some (.int .u64 m) := hbr.cell (i := 2) rfl
              have t3 : wr.cell? ⟨nb, 3, none⟩ = some (.slice fa l' fc) := hbr.cell (i := 3) rfl
              have t7 : wr.cell? ⟨B + 7, 0, none⟩ = some (.slice na j nc) := hP'.bu.cell (i := 0) rfl
              clear hxr hbr hor hpr hfc hfl hP' hsb hrun hPn hlj hren
              go_wp2_with (at_builtin; refine Lib.wpList_append_run _ rfl _ _ _ _ rfl _ _ rfl rfl _ w7 HR.out ?_)
              go_roundw
              case rel => exact ⟨j + 1, ga, gc, by go_num, hlt, HPn.out⟩
              case measure => simp [intOf]; omega
        · obtain rfl : j = ol := by omega
          rw [List.take_of_length_le (by rw [HOL.out]; omega)] at hP
          obtain ⟨W8, hW8⟩ : ∃ W8, W8 = (W0.setCell ⟨B + 1, 0, none⟩ (.slice na j nc)).setCell ⟨B + 1, 1, none⟩ (.slice (some ⟨B + 6, 0, none⟩) g.2.length g.2.length) := ⟨_, rfl⟩
          obtain ⟨r0, r1, hGr, hXr⟩ := hP.fin HN.out.2.1 (by simp [HOL.out]; omega) W8 hW8
          rw [← HCG.out] at hGr
          have HF := Lib.hid (And.intro hGr hXr)
          have t0 : W0.cell? ⟨B + 7, 0, none⟩ = some (.slice na j nc) := hP.bu.cell (i := 0) rfl
          have t1 : W0.cell? ⟨B + 7, 1, none⟩ = some (.slice (some ⟨B + 6, 0, none⟩) g.2.length g.2.length) := hP.bu.cell (i := 1) rfl
          have x0 : W0.cell? ⟨B + 1, 0, none⟩ = some (.slice none 0 0) := hP.br.cell (i := 0) rfl
          have x1 : W0.cell? ⟨B + 1, 1, none⟩ = some (.slice none 0 0) := hP.br.cell (i := 1) rfl
          have y0 := hP.br.free 0
          have y1 := hP.br.free 1
          clear hP hGr hXr
          go_wp2_with fail
          rw [← hW8]
          clear hW8
          exact bodyPost_ret (v := .agg #[.slice na j nc, .slice (some ⟨B + 6, 0, none⟩) g.2.length g.2.length]) (by simp [results, Try.results16, go_sem, r0, r1]) rfl ⟨_, _, rfl, HF.out⟩
end Go.Proofs.Ytjhmlbhfnogdiaa.Cn
