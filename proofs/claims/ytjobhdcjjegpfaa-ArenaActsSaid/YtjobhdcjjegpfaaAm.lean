/- Moving words: said of lists. -/
import Derived.Test.YtjobhdcjjegpfaaAc
import Derived.Deep.RegionWith
import Derived.StillTailTactics
namespace Go.Proofs.Ytjobhdcjjegpfaa.Ar
open Go.RowKit
open Go.Proofs.Ytjobhdcjjegpfaa
set_option linter.unusedVariables false

/-- 'v[lo:hi]'. -/
theorem Row_cut {P : Program} {T E : TypeId} {w : World} {b : Nat} {v : Value} {n : Nat} {cs : List Value} (ht : P.underlying T = some (.slice E)) (hsz : ∀ w, (sizeOf E).run P w = .ok 1 w) (h : Row w 1 b v n cs) {lo hi : Nat} (h1 : lo ≤ hi) (h2 : hi ≤ n) :
    ∃ u, (∀ w', (Instr.sliceAt T v (some (.int .i64 lo)) (some (.int .i64 hi)) none).run P w' = .ok u w') ∧ Row w 1 b u (hi - lo) ((cs.drop lo).take (hi - lo)) := by
  obtain ⟨hl, hb, hn, hr⟩ := h
  have hlen : ((cs.drop lo).take (hi - lo)).length = (hi - lo) * 1 := by
    rw [List.length_take, List.length_drop, hl]; omega
  have hbb : (hi - lo) * b ≤ 140737488355328 := Nat.le_trans (Nat.mul_le_mul_right _ (by omega)) hb
  rcases hr with ⟨rfl, rfl⟩ | ⟨a, cap, rfl, hnc, hcm, hcell⟩
  · obtain rfl : hi = 0 := by omega
    obtain rfl : lo = 0 := by omega
    refine ⟨.slice none 0 0, fun w' => ?_, ⟨hlen, hbb, by omega, .inl ⟨rfl, rfl⟩⟩⟩
    simp [Instr.sliceAt, Instr.slice, Instr.sliceBounds, Instr.sliceBound, run_underlying ht, asIntOf, hsz]
  · have hhc : hi ≤ cap := by omega
    have hlc : lo ≤ cap := by omega
    by_cases hco : cap = lo
    · refine ⟨.slice (some a) (hi - lo) (cap - lo), fun w' => ?_, ⟨hlen, hbb, by omega, .inr ⟨a, _, rfl, by omega, by omega, fun j c hj => ?_⟩⟩⟩
      · subst hco
        obtain rfl : hi = cap := by omega
        simp [Instr.sliceAt, Instr.slice, Instr.sliceBounds, Instr.sliceBound, run_underlying ht, asIntOf, hsz, Addr.add]
      · rw [List.getElem?_take] at hj
        split at hj
        · omega
        · cases hj
    · refine ⟨.slice (some (a.add lo)) (hi - lo) (cap - lo), fun w' => ?_, ⟨hlen, hbb, by omega, .inr ⟨_, _, rfl, by omega, by omega, fun j c hj => ?_⟩⟩⟩
      · simp [Instr.sliceAt, Instr.slice, Instr.sliceBounds, Instr.sliceBound, run_underlying ht, asIntOf, hsz, hhc, h1, hco]
      · rw [List.getElem?_take] at hj
        split at hj
        · rw [List.getElem?_drop] at hj
          rw [add_add]; exact hcell _ c hj
        · cases hj

theorem Sl_cut {w : World} {v : Value} {xs : List Int} (h : Sl .u64 w v xs) {lo hi : Nat} (h1 : lo ≤ hi) (h2 : hi ≤ xs.length) :
    ∃ u, (∀ w', (Instr.sliceAt 22 v (some (.int .i64 lo)) (some (.int .i64 hi)) none).run Try.prog w' = .ok u w') ∧ Sl .u64 w u ((xs.drop lo).take (hi - lo)) := by
  obtain ⟨u, hu, hr⟩ := Row_cut Aw.uT Aw.sz h h1 h2
  exact ⟨u, hu, Sl.of_row hr (by rw [List.map_take, List.map_drop])⟩

set_option maxHeartbeats 2000000 in
theorem move_any (n : Int) (v0 v1 : Value) (xs ys : List Int) (a b k : Int) (a0 : 0 ≤ a) (a1 : a ≤ 18446744073709551615) (bb0 : 0 ≤ b) (bb1 : b ≤ 18446744073709551615) (k0 : -9223372036854775808 ≤ k) (k1 : k ≤ 9223372036854775807) (hr : Ap.Rt n xs ys) (w : World) (h0 : Sl .u64 w v0 xs) (h1 : Sl .u64 w v1 ys) :
    Calls Try.prog 23 #[.agg #[.int .i64 n, v0, v1], .int .u64 a, .int .u64 b, .int .i64 k] w fun e w' => ∃ u0 u1, e = .returned (.tuple #[.agg #[.int .i64 n, u0, u1], .int .i64 (Ap.mvE n a b k)]) ∧
      Nw w' w.heap.size v0 xs u0 (Ap.mv 0 n xs ys xs a b k) ∧ Nw w' w.heap.size v1 ys u1 (Ap.mv 1 n xs ys ys a b k) ∧ Ext w w' := by
  obtain ⟨b0, c0, rfl⟩ := Row.form h0
  obtain ⟨b1, c1, rfl⟩ := Row.form h1
  have HA := Lib.hid (fun w => there_any n (.slice b0 xs.length c0) (.slice b1 ys.length c1) a k a0 a1 k0 k1 hr.2.1 w)
  have HB := Lib.hid (fun w => there_any n (.slice b0 xs.length c0) (.slice b1 ys.length c1) b k bb0 bb1 k0 k1 hr.2.1 w)
  have S0 := Lib.hid h0
  have S1 := Lib.hid h1
  have HR := Lib.hid hr
  clear h0 h1 hr
  by_cases g0 : k < 0
  · have e0 : Ap.mvE n a b k = 1 := by unfold Ap.mvE; rw [if_pos g0]
    have e1 : ∀ s zs, Ap.mv s n xs ys zs a b k = zs := fun s zs => by unfold Ap.mv; rw [if_neg (by rw [Ap.mvOk_neg g0]; simp)]
    rw [e0, e1, e1]
    clear e0 e1 HA HB
    go_enter Try.func23, Try.ntmps23
    go_wp2_with fail
    exact bodyPost_ret (v := .tuple #[.agg #[.int .i64 n, .slice b0 xs.length c0, .slice b1 ys.length c1], .int .i64 1]) (by simp [results, Try.results23, go_sem]) rfl ⟨_, _, rfl, Nw.refl _ _ _ _, Nw.refl _ _ _ _, (by repeat (first | exact Ext.refl _ | assumption | refine Ext.alloc ?_ _ | refine Ext.drewN ?_ _ | refine Ext.drew ?_ | refine Ext.trans ?_ (by assumption)))⟩
  have g0' : 0 ≤ k := by omega
  cases hok : Ap.mvOk n a b k with
  | false =>
    have e0 : Ap.mvE n a b k = 2 := by unfold Ap.mvE; rw [if_neg g0, hok]; rfl
    have e1 : ∀ s zs, Ap.mv s n xs ys zs a b k = zs := fun s zs => by unfold Ap.mv; rw [if_neg (by rw [hok]; simp)]
    rw [e0, e1, e1]
    unfold Ap.mvOk at hok
    clear e0 e1 g0
    generalize Ap.thS n a k = s1 at HA
    generalize Ap.thA n a k = q1 at HA
    generalize Ap.thS n b k = s2 at HB
    generalize Ap.thA n b k = q2 at HB
    generalize Ap.okAt n a k = o1 at HA hok
    generalize Ap.okAt n b k = o2 at HB hok
    cases o1
    all_goals cases o2
    all_goals first | (exfalso; simp at hok; done) | skip
    all_goals
      clear hok
      go_enter Try.func23, Try.ntmps23
      go_wp2_with fail
      refine (HA.out _).mono ?_; rintro e w1 ⟨rfl, hx1⟩
      have hE : Ext w w1 := Ext.trans (((Ext.refl w).alloc _).alloc _) hx1
      have bb := ((Blk.new w #[.int .i64 n, .slice b0 xs.length c0, .slice b1 ys.length c1] 25).alloc (.cells #[.int .i64 0, .slice none 0 0, .slice none 0 0] 25)).ext hx1
      have br : Blk w1 (w.heap.size + 1) #[.int .i64 0, .slice none 0 0, .slice none 0 0] 25 := (blk_at (by simp)).ext hx1
      have HBB := Lib.hid bb
      have HBR := Lib.hid br
      have HE := Lib.hid hE
      obtain ⟨p0, p1, p2, _, _, _⟩ := bb.three
      clear bb br hx1 hE
      go_wp2_with fail
      refine (HB.out _).mono ?_; rintro e w2 ⟨rfl, hx2⟩
      have HE2 := Lib.hid (HE.out.trans hx2)
      have HBR2 := Lib.hid (HBR.out.ext hx2)
      obtain ⟨p0, p1, p2, _, _, _⟩ := (HBB.out.ext hx2).three
      obtain ⟨r0, r1, r2, q0, q1, q2⟩ := HBR2.out.three
      clear hx2
      go_wp2_with fail
      obtain ⟨k0, k1, k2, _⟩ := (HBR2.out.fill (.int .i64 n) (.slice b0 xs.length c0) (.slice b1 ys.length c1)).three
      have hE2 := HE2.out.fill (b := w.heap.size + 1) (by omega) (.int .i64 n) (.slice b0 xs.length c0) (.slice b1 ys.length c1)
      exact bodyPost_ret (v := .tuple #[.agg #[.int .i64 n, .slice b0 xs.length c0, .slice b1 ys.length c1], .int .i64 2]) (by simp [results, Try.results23, go_sem, k0, k1, k2]) rfl ⟨_, _, rfl, Nw.refl _ _ _ _, Nw.refl _ _ _ _, hE2⟩
  | true =>
    have e0 : Ap.mvE n a b k = 0 := by unfold Ap.mvE; rw [if_neg g0, if_pos hok]
    rw [e0]
    have ho : Ap.okAt n a k = true ∧ Ap.okAt n b k = true := by unfold Ap.mvOk at hok; rwa [Bool.and_eq_true] at hok
    have e1 : Ap.thS n a k = Sz.whS a := by unfold Ap.thS; rw [if_pos ho.1]
    have e2 : Ap.thA n a k = Sz.whA a := by unfold Ap.thA; rw [if_pos ho.1]
    have e3 : Ap.thS n b k = Sz.whS b := by unfold Ap.thS; rw [if_pos ho.2]
    have e4 : Ap.thA n b k = Sz.whA b := by unfold Ap.thA; rw [if_pos ho.2]
    rw [ho.1, e1, e2] at HA
    rw [ho.2, e3, e4] at HB
    have i1 := Ap.okAt_iff.1 ho.1
    have i2 := Ap.okAt_iff.1 ho.2
    have w1' := Sz.wh_bd a
    have w2' := Sz.wh_bd b
    obtain ⟨p, hp⟩ : ∃ p : Nat, Sz.whA a = p := ⟨(Sz.whA a).toNat, by omega⟩
    obtain ⟨q, hq⟩ : ∃ q : Nat, Sz.whA b = q := ⟨(Sz.whA b).toNat, by omega⟩
    obtain ⟨j, rfl⟩ : ∃ j : Nat, k = j := ⟨k.toNat, by omega⟩
    have hsrcl := Ap.src_len HR.out ho.1
    have hpj : Hid (p + j ≤ xs.length ∧ p + j ≤ ys.length ∧ q + j ≤ xs.length ∧ q + j ≤ ys.length) := by
      have := HR.out.2.2
      show _ ∧ _
      omega
    have hS : Hid ((Ap.src xs ys a j).length = j) := by show _ = _; omega
    have hsm : (p : Int) + j ≤ 4096 := by have := HR.out.2.1; omega
    rw [hp] at HA
    rw [hq] at HB
    have hc1 := Ap.whS_01 (a := a)
    have hc2 := Ap.whS_01 (a := b)
    have emv : ∀ s zs, Ap.mv s n xs ys zs a b j = if Sz.whS b = s then Ap.lay zs q (Ap.src xs ys a j) else zs := fun s zs => by
      unfold Ap.mv
      by_cases h : Sz.whS b = s
      · rw [if_pos ⟨hok, h⟩, if_pos h, hq]; rfl
      · rw [if_neg (fun h' => h h'.2), if_neg h]
    rw [emv, emv]
    have esrc : Ap.src xs ys a j = ((if Sz.whS a = 0 then xs else ys).drop p).take j := by
      unfold Ap.src Ap.spOf; rw [hp]; rfl
    have HSRC := Lib.hid esrc
    clear e0 e1 e2 e3 e4 ho hok i1 i2 w1' w2' hp hq hsrcl emv esrc g0
    generalize Ap.src xs ys a j = ds at HSRC hS ⊢
    generalize Sz.whS a = s1 at HA hc1 HSRC
    generalize Sz.whS b = s2 at HB hc2 ⊢
    rcases hc1 with rfl | rfl
    · obtain ⟨l, hl, hsl⟩ := Sl_cut S0.out (lo := p) (hi := p + j) (by omega) hpj.out.1
      have hDS : Hid (Sl .u64 w l ds) := by
        show Sl _ _ _ _
        rw [HSRC.out, if_pos rfl]
        rwa [show p + j - p = j by omega] at hsl
      clear hsl HSRC
      have hl' : ∀ w', (Instr.sliceAt 22 (.slice b0 xs.length c0) (some (.int .i64 p)) (some (.int .i64 ((p : Int) + j))) none).run Try.prog w' = .ok l w' := fun w' => by
        have := hl w'
        rwa [show ((p + j : Nat) : Int) = (p : Int) + j by omega] at this
      clear hl
      have hwr : IntKind.i64.wrap ((p : Int) + j) = (p : Int) + j := by rw [IntKind.wrap_i64]; omega
      rcases hc2 with rfl | rfl
      ·
        rw [if_pos rfl, if_neg (by decide)]
        go_enter Try.func23, Try.ntmps23
        go_wp2_with fail
        refine (HA.out _).mono ?_; rintro e w1 ⟨rfl, hx1⟩
        have hE : Ext w w1 := Ext.trans (((Ext.refl w).alloc _).alloc _) hx1
        have bb := ((Blk.new w #[.int .i64 n, .slice b0 xs.length c0, .slice b1 ys.length c1] 25).alloc (.cells #[.int .i64 0, .slice none 0 0, .slice none 0 0] 25)).ext hx1
        have br : Blk w1 (w.heap.size + 1) #[.int .i64 0, .slice none 0 0, .slice none 0 0] 25 := (blk_at (by simp)).ext hx1
        have HBB := Lib.hid bb
        have HBR := Lib.hid br
        have HE := Lib.hid hE
        obtain ⟨p0, p1, p2, _, _, _⟩ := bb.three
        clear bb br hx1 hE
        go_wp2_with fail
        refine (HB.out _).mono ?_; rintro e w2 ⟨rfl, hx2⟩
        have HE2 := Lib.hid (HE.out.trans hx2)
        have HBR2 := Lib.hid (HBR.out.ext hx2)
        obtain ⟨p0, p1, p2, _, _, _⟩ := (HBB.out.ext hx2).three
        obtain ⟨r0, r1, r2, q0, q1, q2⟩ := HBR2.out.three
        clear hx2
        go_wp2_with fail
        go_region_with ((go_at_call 32; refine (with0 n _ _ _ xs ys ds q _ (S0.out.ext HE2.out.drew) (S1.out.ext HE2.out.drew) (hDS.out.ext HE2.out.drew) (by have := hpj.out; have := hS.out; omega)).mono ?_; rintro e w3 ⟨u, rfl, hu, hx3⟩; obtain ⟨ua, uc, rfl⟩ := Row.form (Row.of_own (b := 8) hu S0.out.2.1 (by have := S0.out.2.1; omega)); obtain ⟨z0, z1, z2, y0, y1, y2⟩ := (HBR2.out.ext ((Ext.refl w2).drew.trans hx3)).three))
        all_goals
          have HX3 := Lib.hid ((Ext.refl w2).drew.trans hx3)
          have HU := Lib.hid hu
          clear hx3 hu
          go_wp2_with fail
          have hu := HU.out
          obtain ⟨k0, k1, k2, _⟩ := ((HBR2.out.ext HX3.out).fill (.int .i64 n) (.slice ua xs.length uc) (.slice b1 ys.length c1)).three
          have hE3 := (HE2.out.trans HX3.out).fill (b := w.heap.size + 1) (by omega) (.int .i64 n) (.slice ua xs.length uc) (.slice b1 ys.length c1)
          exact bodyPost_ret (v := .tuple #[.agg #[.int .i64 n, .slice ua xs.length uc, .slice b1 ys.length c1], .int .i64 0]) (by simp [results, Try.results23, go_sem, k0, k1, k2]) rfl
            ⟨_, _, rfl, Nw.of_own (own_le (own_other (own_other (own_other hu (by simp; exact HBR2.out.lt) _) (by simp; exact HBR2.out.lt) _) (by simp; exact HBR2.out.lt) _) (by simp; have := HBR2.out.lt; omega)) (Ap.lay_len (by have := hpj.out; have := hS.out; omega)) S0.out.2.1 _ _, Nw.refl _ _ _ _, hE3⟩
      ·
        rw [if_neg (by decide), if_pos rfl]
        go_enter Try.func23, Try.ntmps23
        go_wp2_with fail
        refine (HA.out _).mono ?_; rintro e w1 ⟨rfl, hx1⟩
        have hE : Ext w w1 := Ext.trans (((Ext.refl w).alloc _).alloc _) hx1
        have bb := ((Blk.new w #[.int .i64 n, .slice b0 xs.length c0, .slice b1 ys.length c1] 25).alloc (.cells #[.int .i64 0, .slice none 0 0, .slice none 0 0] 25)).ext hx1
        have br : Blk w1 (w.heap.size + 1) #[.int .i64 0, .slice none 0 0, .slice none 0 0] 25 := (blk_at (by simp)).ext hx1
        have HBB := Lib.hid bb
        have HBR := Lib.hid br
        have HE := Lib.hid hE
        obtain ⟨p0, p1, p2, _, _, _⟩ := bb.three
        clear bb br hx1 hE
        go_wp2_with fail
        refine (HB.out _).mono ?_; rintro e w2 ⟨rfl, hx2⟩
        have HE2 := Lib.hid (HE.out.trans hx2)
        have HBR2 := Lib.hid (HBR.out.ext hx2)
        obtain ⟨p0, p1, p2, _, _, _⟩ := (HBB.out.ext hx2).three
        obtain ⟨r0, r1, r2, q0, q1, q2⟩ := HBR2.out.three
        clear hx2
        go_wp2_with fail
        go_region_with ((go_at_call 32; refine (with1 n _ _ _ xs ys ds q _ (S0.out.ext HE2.out.drew) (S1.out.ext HE2.out.drew) (hDS.out.ext HE2.out.drew) (by have := hpj.out; have := hS.out; omega)).mono ?_; rintro e w3 ⟨u, rfl, hu, hx3⟩; obtain ⟨ua, uc, rfl⟩ := Row.form (Row.of_own (b := 8) hu S1.out.2.1 (by have := S1.out.2.1; omega)); obtain ⟨z0, z1, z2, y0, y1, y2⟩ := (HBR2.out.ext ((Ext.refl w2).drew.trans hx3)).three))
        all_goals
          have HX3 := Lib.hid ((Ext.refl w2).drew.trans hx3)
          have HU := Lib.hid hu
          clear hx3 hu
          go_wp2_with fail
          have hu := HU.out
          obtain ⟨k0, k1, k2, _⟩ := ((HBR2.out.ext HX3.out).fill (.int .i64 n) (.slice b0 xs.length c0) (.slice ua ys.length uc)).three
          have hE3 := (HE2.out.trans HX3.out).fill (b := w.heap.size + 1) (by omega) (.int .i64 n) (.slice b0 xs.length c0) (.slice ua ys.length uc)
          exact bodyPost_ret (v := .tuple #[.agg #[.int .i64 n, .slice b0 xs.length c0, .slice ua ys.length uc], .int .i64 0]) (by simp [results, Try.results23, go_sem, k0, k1, k2]) rfl
            ⟨_, _, rfl, Nw.refl _ _ _ _, Nw.of_own (own_le (own_other (own_other (own_other hu (by simp; exact HBR2.out.lt) _) (by simp; exact HBR2.out.lt) _) (by simp; exact HBR2.out.lt) _) (by simp; have := HBR2.out.lt; omega)) (Ap.lay_len (by have := hpj.out; have := hS.out; omega)) S1.out.2.1 _ _, hE3⟩
    · obtain ⟨l, hl, hsl⟩ := Sl_cut S1.out (lo := p) (hi := p + j) (by omega) hpj.out.2.1
      have hDS : Hid (Sl .u64 w l ds) := by
        show Sl _ _ _ _
        rw [HSRC.out, if_neg (by decide)]
        rwa [show p + j - p = j by omega] at hsl
      clear hsl HSRC
      have hl' : ∀ w', (Instr.sliceAt 22 (.slice b1 ys.length c1) (some (.int .i64 p)) (some (.int .i64 ((p : Int) + j))) none).run Try.prog w' = .ok l w' := fun w' => by
        have := hl w'
        rwa [show ((p + j : Nat) : Int) = (p : Int) + j by omega] at this
      clear hl
      have hwr : IntKind.i64.wrap ((p : Int) + j) = (p : Int) + j := by rw [IntKind.wrap_i64]; omega
      rcases hc2 with rfl | rfl
      ·
        rw [if_pos rfl, if_neg (by decide)]
        go_enter Try.func23, Try.ntmps23
        go_wp2_with fail
        refine (HA.out _).mono ?_; rintro e w1 ⟨rfl, hx1⟩
        have hE : Ext w w1 := Ext.trans (((Ext.refl w).alloc _).alloc _) hx1
        have bb := ((Blk.new w #[.int .i64 n, .slice b0 xs.length c0, .slice b1 ys.length c1] 25).alloc (.cells #[.int .i64 0, .slice none 0 0, .slice none 0 0] 25)).ext hx1
        have br : Blk w1 (w.heap.size + 1) #[.int .i64 0, .slice none 0 0, .slice none 0 0] 25 := (blk_at (by simp)).ext hx1
        have HBB := Lib.hid bb
        have HBR := Lib.hid br
        have HE := Lib.hid hE
        obtain ⟨p0, p1, p2, _, _, _⟩ := bb.three
        clear bb br hx1 hE
        go_wp2_with fail
        refine (HB.out _).mono ?_; rintro e w2 ⟨rfl, hx2⟩
        have HE2 := Lib.hid (HE.out.trans hx2)
        have HBR2 := Lib.hid (HBR.out.ext hx2)
        obtain ⟨p0, p1, p2, _, _, _⟩ := (HBB.out.ext hx2).three
        obtain ⟨r0, r1, r2, q0, q1, q2⟩ := HBR2.out.three
        clear hx2
        go_wp2_with fail
        go_region_with ((go_at_call 32; refine (with0 n _ _ _ xs ys ds q _ (S0.out.ext HE2.out.drew) (S1.out.ext HE2.out.drew) (hDS.out.ext HE2.out.drew) (by have := hpj.out; have := hS.out; omega)).mono ?_; rintro e w3 ⟨u, rfl, hu, hx3⟩; obtain ⟨ua, uc, rfl⟩ := Row.form (Row.of_own (b := 8) hu S0.out.2.1 (by have := S0.out.2.1; omega)); obtain ⟨z0, z1, z2, y0, y1, y2⟩ := (HBR2.out.ext ((Ext.refl w2).drew.trans hx3)).three))
        all_goals
          have HX3 := Lib.hid ((Ext.refl w2).drew.trans hx3)
          have HU := Lib.hid hu
          clear hx3 hu
          go_wp2_with fail
          have hu := HU.out
          obtain ⟨k0, k1, k2, _⟩ := ((HBR2.out.ext HX3.out).fill (.int .i64 n) (.slice ua xs.length uc) (.slice b1 ys.length c1)).three
          have hE3 := (HE2.out.trans HX3.out).fill (b := w.heap.size + 1) (by omega) (.int .i64 n) (.slice ua xs.length uc) (.slice b1 ys.length c1)
          exact bodyPost_ret (v := .tuple #[.agg #[.int .i64 n, .slice ua xs.length uc, .slice b1 ys.length c1], .int .i64 0]) (by simp [results, Try.results23, go_sem, k0, k1, k2]) rfl
            ⟨_, _, rfl, Nw.of_own (own_le (own_other (own_other (own_other hu (by simp; exact HBR2.out.lt) _) (by simp; exact HBR2.out.lt) _) (by simp; exact HBR2.out.lt) _) (by simp; have := HBR2.out.lt; omega)) (Ap.lay_len (by have := hpj.out; have := hS.out; omega)) S0.out.2.1 _ _, Nw.refl _ _ _ _, hE3⟩
      ·
        rw [if_neg (by decide), if_pos rfl]
        go_enter Try.func23, Try.ntmps23
        go_wp2_with fail
        refine (HA.out _).mono ?_; rintro e w1 ⟨rfl, hx1⟩
        have hE : Ext w w1 := Ext.trans (((Ext.refl w).alloc _).alloc _) hx1
        have bb := ((Blk.new w #[.int .i64 n, .slice b0 xs.length c0, .slice b1 ys.length c1] 25).alloc (.cells #[.int .i64 0, .slice none 0 0, .slice none 0 0] 25)).ext hx1
        have br : Blk w1 (w.heap.size + 1) #[.int .i64 0, .slice none 0 0, .slice none 0 0] 25 := (blk_at (by simp)).ext hx1
        have HBB := Lib.hid bb
        have HBR := Lib.hid br
        have HE := Lib.hid hE
        obtain ⟨p0, p1, p2, _, _, _⟩ := bb.three
        clear bb br hx1 hE
        go_wp2_with fail
        refine (HB.out _).mono ?_; rintro e w2 ⟨rfl, hx2⟩
        have HE2 := Lib.hid (HE.out.trans hx2)
        have HBR2 := Lib.hid (HBR.out.ext hx2)
        obtain ⟨p0, p1, p2, _, _, _⟩ := (HBB.out.ext hx2).three
        obtain ⟨r0, r1, r2, q0, q1, q2⟩ := HBR2.out.three
        clear hx2
        go_wp2_with fail
        go_region_with ((go_at_call 32; refine (with1 n _ _ _ xs ys ds q _ (S0.out.ext HE2.out.drew) (S1.out.ext HE2.out.drew) (hDS.out.ext HE2.out.drew) (by have := hpj.out; have := hS.out; omega)).mono ?_; rintro e w3 ⟨u, rfl, hu, hx3⟩; obtain ⟨ua, uc, rfl⟩ := Row.form (Row.of_own (b := 8) hu S1.out.2.1 (by have := S1.out.2.1; omega)); obtain ⟨z0, z1, z2, y0, y1, y2⟩ := (HBR2.out.ext ((Ext.refl w2).drew.trans hx3)).three))
        all_goals
          have HX3 := Lib.hid ((Ext.refl w2).drew.trans hx3)
          have HU := Lib.hid hu
          clear hx3 hu
          go_wp2_with fail
          have hu := HU.out
          obtain ⟨k0, k1, k2, _⟩ := ((HBR2.out.ext HX3.out).fill (.int .i64 n) (.slice b0 xs.length c0) (.slice ua ys.length uc)).three
          have hE3 := (HE2.out.trans HX3.out).fill (b := w.heap.size + 1) (by omega) (.int .i64 n) (.slice b0 xs.length c0) (.slice ua ys.length uc)
          exact bodyPost_ret (v := .tuple #[.agg #[.int .i64 n, .slice b0 xs.length c0, .slice ua ys.length uc], .int .i64 0]) (by simp [results, Try.results23, go_sem, k0, k1, k2]) rfl
            ⟨_, _, rfl, Nw.refl _ _ _ _, Nw.of_own (own_le (own_other (own_other (own_other hu (by simp; exact HBR2.out.lt) _) (by simp; exact HBR2.out.lt) _) (by simp; exact HBR2.out.lt) _) (by simp; have := HBR2.out.lt; omega)) (Ap.lay_len (by have := hpj.out; have := hS.out; omega)) S1.out.2.1 _ _, hE3⟩
end Go.Proofs.Ytjobhdcjjegpfaa.Ar
