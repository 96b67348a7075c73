/- The reference's swap and move. -/
import Derived.Test.YtjobhdcjjegpfaaAf
import Derived.Test.YtjobhdcjjegpfaaAq
namespace Go.Proofs.Ytjobhdcjjegpfaa.Ar
open Go.RowKit
open Go.Proofs.Ytjobhdcjjegpfaa
set_option linter.unusedVariables false

set_option maxHeartbeats 1000000 in
theorem rswap_any (n : Int) (v0 v1 : Value) (xs ys : List Int) (a o v : Int) (a0 : 0 ≤ a) (a1 : a ≤ 18446744073709551615) (hr : Ap.Rt n xs ys) (w : World) (h0 : Sl .u64 w v0 xs) (h1 : Sl .u64 w v1 ys) :
    Calls Try.prog 27 #[.agg #[.int .i64 n, v0, v1], .int .u64 a, .int .u64 o, .int .u64 v] w fun e w' => ∃ u0 u1, e = .returned (.tuple #[.agg #[.int .i64 n, u0, u1], .bool (Ap.swD n xs ys a o), .int .i64 (Ap.ldE n a)]) ∧
      Nw w' w.heap.size v0 xs u0 (Ap.sw 0 n xs ys xs a o v) ∧ Nw w' w.heap.size v1 ys u1 (Ap.sw 1 n xs ys ys a o v) ∧ Ext w w' := by
  obtain ⟨b0, c0, rfl⟩ := Row.form h0
  obtain ⟨b1, c1, rfl⟩ := Row.form h1
  have HL : Hid (∀ w', Ext w w' → Calls Try.prog 25 #[.agg #[.int .i64 n, .slice b0 xs.length c0, .slice b1 ys.length c1], .int .u64 a] w' fun e w'' => e = .returned (.tuple #[.int .u64 (Ap.ldV n xs ys a), .int .i64 (Ap.ldE n a)]) ∧ Ext w' w'') :=
    fun w' he => rload_any n _ _ xs ys a a0 a1 hr w' (h0.ext he) (h1.ext he)
  have HS : Hid (∀ w', Ext w w' → Calls Try.prog 26 #[.agg #[.int .i64 n, .slice b0 xs.length c0, .slice b1 ys.length c1], .int .u64 a, .int .u64 v] w' fun e w'' => ∃ u0 u1, e = .returned (.tuple #[.agg #[.int .i64 n, u0, u1], .int .i64 (Ap.ldE n a)]) ∧
      Nw w'' w'.heap.size (.slice b0 xs.length c0) xs u0 (Ap.st 0 n xs a v) ∧ Nw w'' w'.heap.size (.slice b1 ys.length c1) ys u1 (Ap.st 1 n ys a v) ∧ Ext w' w'') :=
    fun w' he => rstore_any n _ _ xs ys a v a0 a1 hr w' (h0.ext he) (h1.ext he)
  have S0 := Lib.hid h0
  have S1 := Lib.hid h1
  clear h0 h1 hr
  cases hd : Ap.swD n xs ys a o with
  | false =>
    have e1 : Ap.sw 0 n xs ys xs a o v = xs := by unfold Ap.sw; rw [if_neg (by rw [hd]; simp)]
    have e2 : Ap.sw 1 n xs ys ys a o v = ys := by unfold Ap.sw; rw [if_neg (by rw [hd]; simp)]
    have hcase : (Ap.ldE n a != 0) = true ∨ ((Ap.ldE n a != 0) = false ∧ (Ap.ldV n xs ys a != o) = true) := by
      unfold Ap.swD at hd
      cases ho : Ap.okAt n a 1 with
      | false => left; unfold Ap.ldE; rw [ho]; rfl
      | true =>
        right
        rw [ho, Bool.true_and] at hd
        exact ⟨by unfold Ap.ldE; rw [ho]; rfl, by rw [bne, hd]; rfl⟩
    rw [e1, e2]
    clear e1 e2 hd HS
    generalize Ap.ldE n a = r at HL hcase ⊢
    generalize Ap.ldV n xs ys a = x at HL hcase
    rcases hcase with hc | ⟨hc, hc2⟩
    all_goals
      go_enter Try.func27, Try.ntmps27
      go_wp2_with fail
      refine (HL.out _ (((Ext.refl w).alloc _).alloc _)).mono ?_; rintro e w1 ⟨rfl, hx1⟩
      have hE : Ext w w1 := Ext.trans (((Ext.refl w).alloc _).alloc _) hx1
      have bb := ((Blk.new w #[.int .i64 n, .slice b0 xs.length c0, .slice b1 ys.length c1] 25).alloc (.cells #[.int .i64 0, .slice none 0 0, .slice none 0 0] 25)).ext hx1
      have br : Blk w1 (w.heap.size + 1) #[.int .i64 0, .slice none 0 0, .slice none 0 0] 25 := (blk_at (by simp)).ext hx1
      have HBB := Lib.hid bb
      have HBR := Lib.hid br
      have HE := Lib.hid hE
      obtain ⟨p0, p1, p2, _, _, _⟩ := bb.three
      obtain ⟨r0, r1, r2, q0, q1, q2⟩ := br.three
      clear bb br hx1 hE
      go_wp2_with fail
      obtain ⟨k0, k1, k2, _⟩ := (HBR.out.fill (.int .i64 n) (.slice b0 xs.length c0) (.slice b1 ys.length c1)).three
      have hE2 := HE.out.fill (b := w.heap.size + 1) (by omega) (.int .i64 n) (.slice b0 xs.length c0) (.slice b1 ys.length c1)
      exact bodyPost_ret (v := .tuple #[.agg #[.int .i64 n, .slice b0 xs.length c0, .slice b1 ys.length c1], .bool false, .int .i64 r]) (by simp [results, Try.results27, go_sem, k0, k1, k2]) rfl ⟨_, _, rfl, Nw.refl _ _ _ _, Nw.refl _ _ _ _, hE2⟩
  | true =>
    have e1 : Ap.sw 0 n xs ys xs a o v = Ap.st 0 n xs a v := by unfold Ap.sw; rw [if_pos hd]
    have e2 : Ap.sw 1 n xs ys ys a o v = Ap.st 1 n ys a v := by unfold Ap.sw; rw [if_pos hd]
    rw [e1, e2]
    have ho : Ap.okAt n a 1 = true ∧ (Ap.ldV n xs ys a == o) = true := by unfold Ap.swD at hd; rw [Bool.and_eq_true] at hd; exact hd
    have e3 : Ap.ldE n a = 0 := by unfold Ap.ldE; rw [if_pos ho.1]
    rw [e3] at HL HS ⊢
    have e4 : Ap.ldV n xs ys a = o := beq_iff_eq.1 ho.2
    rw [e4] at HL
    clear e1 e2 hd ho e3 e4
    generalize Ap.st 0 n xs a v = xs' at HS ⊢
    generalize Ap.st 1 n ys a v = ys' at HS ⊢
    go_enter Try.func27, Try.ntmps27
    go_wp2_with fail
    refine (HL.out _ (((Ext.refl w).alloc _).alloc _)).mono ?_; rintro e w1 ⟨rfl, hx1⟩
    have hE : Ext w w1 := Ext.trans (((Ext.refl w).alloc _).alloc _) hx1
    have bb := ((Blk.new w #[.int .i64 n, .slice b0 xs.length c0, .slice b1 ys.length c1] 25).alloc (.cells #[.int .i64 0, .slice none 0 0, .slice none 0 0] 25)).ext hx1
    have br : Blk w1 (w.heap.size + 1) #[.int .i64 0, .slice none 0 0, .slice none 0 0] 25 := (blk_at (by simp)).ext hx1
    have HBB := Lib.hid bb
    have HBR := Lib.hid br
    have HE := Lib.hid hE
    obtain ⟨p0, p1, p2, _, _, _⟩ := bb.three
    obtain ⟨r0, r1, r2, q0, q1, q2⟩ := br.three
    clear bb br hx1 hE
    go_wp2_with fail
    refine (HS.out _ HE.out).mono ?_; rintro e w2 ⟨u0, u1, rfl, hu0, hu1, hx2⟩
    have hE2 : Ext w w2 := Ext.trans HE.out hx2
    have hw1 : w.heap.size + 1 < w1.heap.size := HBR.out.lt
    obtain ⟨d0, f0, rfl⟩ := Row.form (hu0.sl (S0.out.ext hE2))
    obtain ⟨d1, f1, rfl⟩ := Row.form (hu1.sl (S1.out.ext hE2))
    have HBR2 := Lib.hid ((HBR.out.ext hx2).alloc (.cells #[.int .i64 n, .slice d0 xs'.length f0, .slice d1 ys'.length f1] 25))
    have HE2 := Lib.hid (hE2.alloc (.cells #[.int .i64 n, .slice d0 xs'.length f0, .slice d1 ys'.length f1] 25))
    have HU0 := Lib.hid (hu0.ext ((Ext.refl w2).alloc (.cells #[.int .i64 n, .slice d0 xs'.length f0, .slice d1 ys'.length f1] 25)))
    have HU1 := Lib.hid (hu1.ext ((Ext.refl w2).alloc (.cells #[.int .i64 n, .slice d0 xs'.length f0, .slice d1 ys'.length f1] 25)))
    have HW1 := Lib.hid hw1
    obtain ⟨r0, r1, r2, q0, q1, q2⟩ := HBR2.out.three
    clear hx2 hE2 hu0 hu1 p0 p1 p2 hw1
    go_wp2_with fail
    obtain ⟨k0, k1, k2, _⟩ := (HBR2.out.fill (.int .i64 n) (.slice d0 xs'.length f0) (.slice d1 ys'.length f1)).three
    have hE3 := HE2.out.fill (b := w.heap.size + 1) (by omega) (.int .i64 n) (.slice d0 xs'.length f0) (.slice d1 ys'.length f1)
    exact bodyPost_ret (v := .tuple #[.agg #[.int .i64 n, .slice d0 xs'.length f0, .slice d1 ys'.length f1], .bool true, .int .i64 0]) (by simp [results, Try.results27, go_sem, k0, k1, k2]) rfl
      ⟨_, _, rfl, (HU0.out.fill HW1.out _ _ _).le (by have := HW1.out; omega), (HU1.out.fill HW1.out _ _ _).le (by have := HW1.out; omega), hE3⟩

set_option maxHeartbeats 4000000 in
theorem rmove_any (n : Int) (v0 v1 : Value) (xs ys : List Int) (a b k : Int) (a0 : 0 ≤ a) (a1 : a ≤ 18446744073709551615) (bb0 : 0 ≤ b) (bb1 : b ≤ 18446744073709551615) (k0 : -9223372036854775808 ≤ k) (k1 : k ≤ 9223372036854775807) (hr : Ap.Rt n xs ys) (w : World) (h0 : Sl .u64 w v0 xs) (h1 : Sl .u64 w v1 ys) :
    Calls Try.prog 28 #[.agg #[.int .i64 n, v0, v1], .int .u64 a, .int .u64 b, .int .i64 k] w fun e w' => ∃ u0 u1, e = .returned (.tuple #[.agg #[.int .i64 n, u0, u1], .int .i64 (Ap.mvE n a b k)]) ∧
      Nw w' w.heap.size v0 xs u0 (Ap.mv 0 n xs ys xs a b k) ∧ Nw w' w.heap.size v1 ys u1 (Ap.mv 1 n xs ys ys a b k) ∧ Ext w w' := by
  obtain ⟨b0, c0, rfl⟩ := Row.form h0
  obtain ⟨b1, c1, rfl⟩ := Row.form h1
  have HA := Lib.hid (fun (w' : World) (he : Ext w w') => rthere_any n _ _ xs ys a a0 a1 hr w' (h0.ext he) (h1.ext he))
  have HB := Lib.hid (fun (w' : World) (he : Ext w w') => rthere_any n _ _ xs ys b bb0 bb1 hr w' (h0.ext he) (h1.ext he))
  have HWA := Lib.hid (fun w => Sr.where_any a a0 a1 w)
  have HWB := Lib.hid (fun w => Sr.where_any b bb0 bb1 w)
  have S0 := Lib.hid h0
  have S1 := Lib.hid h1
  have HR := Lib.hid hr
  have hn1 := hr.1
  have hn2 := hr.2.1
  clear h0 h1 hr
  by_cases g0 : k < 0
  · have e0 : Ap.mvE n a b k = 1 := by unfold Ap.mvE; rw [if_pos g0]
    have e1 : ∀ s zs, Ap.mv s n xs ys zs a b k = zs := fun s zs => by unfold Ap.mv; rw [if_neg (by rw [Ap.mvOk_neg g0]; simp)]
    rw [e0, e1, e1]
    clear e0 e1 HA HB HWA HWB
    go_enter Try.func28, Try.ntmps28
    go_wp2_with fail
    exact bodyPost_ret (v := .tuple #[.agg #[.int .i64 n, .slice b0 xs.length c0, .slice b1 ys.length c1], .int .i64 1]) (by simp [results, Try.results28, go_sem]) rfl ⟨_, _, rfl, Nw.refl _ _ _ _, Nw.refl _ _ _ _, (by repeat (first | exact Ext.refl _ | assumption | refine Ext.alloc ?_ _ | refine Ext.drewN ?_ _ | refine Ext.drew ?_ | refine Ext.trans ?_ (by assumption)))⟩
  have g0' : 0 ≤ k := by omega
  have hwa := Sz.wh_bd a
  have hwb := Sz.wh_bd b
  cases hok : Ap.mvOk n a b k with
  | false =>
    have e0 : Ap.mvE n a b k = 2 := by unfold Ap.mvE; rw [if_neg g0, hok]; rfl
    have e1 : ∀ s zs, Ap.mv s n xs ys zs a b k = zs := fun s zs => by unfold Ap.mv; rw [if_neg (by rw [hok]; simp)]
    rw [e0, e1, e1]
    have hcase : (Ap.okAt n a 1 = false) ∨ (Ap.okAt n a 1 = true ∧ Ap.okAt n b 1 = false) ∨ (Ap.okAt n a 1 = true ∧ Ap.okAt n b 1 = true ∧ 0 ≤ n - Sz.whA a ∧ 0 ≤ n - Sz.whA b ∧ (decide (n - Sz.whA a < k) = true ∨ (decide (n - Sz.whA a < k) = false ∧ decide (n - Sz.whA b < k) = true))) := by
      cases h1 : Ap.okAt n a 1 with
      | false => exact .inl rfl
      | true =>
        right
        cases h2 : Ap.okAt n b 1 with
        | false => exact .inl ⟨rfl, rfl⟩
        | true =>
          right
          have q1 := Ap.ok1_iff.1 h1
          have q2 := Ap.ok1_iff.1 h2
          refine ⟨rfl, rfl, by omega, by omega, ?_⟩
          by_cases h3 : n - Sz.whA a < k
          · exact .inl (decide_eq_true h3)
          · by_cases h4 : n - Sz.whA b < k
            · exact .inr ⟨decide_eq_false h3, decide_eq_true h4⟩
            · exfalso
              have : Ap.mvOk n a b k = true := by
                unfold Ap.mvOk
                rw [Bool.and_eq_true]
                exact ⟨Ap.okAt_iff.2 ⟨q1.1, q1.2, g0', by omega⟩, Ap.okAt_iff.2 ⟨q2.1, q2.2, g0', by omega⟩⟩
              rw [hok] at this
              cases this
    clear e0 e1 hok g0
    generalize Ap.okAt n a 1 = o1 at HA hcase
    generalize Ap.okAt n b 1 = o2 at HB hcase
    obtain ⟨_, _, ha0, ha1⟩ := hwa
    obtain ⟨_, _, hb0, hb1⟩ := hwb
    generalize Sz.whA a = p at HWA hcase ha0 ha1
    generalize Sz.whA b = q at HWB hcase hb0 hb1
    generalize Sz.whS a = s1 at HWA
    generalize Sz.whS b = s2 at HWB
    generalize Sz.whOk a = t1 at HWA
    generalize Sz.whOk b = t2 at HWB
    rcases hcase with rfl | ⟨rfl, rfl⟩ | ⟨rfl, rfl, z1, z2, hc⟩
    ·
      cases o2
      all_goals
        go_enter Try.func28, Try.ntmps28
        go_wp2_with fail
        refine (HA.out _ (((Ext.refl w).alloc _).alloc _)).mono ?_; rintro e w1 ⟨rfl, hx1⟩
        have hE : Ext w w1 := Ext.trans (((Ext.refl w).alloc _).alloc _) hx1
        have bb := ((Blk.new w #[.int .i64 n, .slice b0 xs.length c0, .slice b1 ys.length c1] 25).alloc (.cells #[.int .i64 0, .slice none 0 0, .slice none 0 0] 25)).ext hx1
        have br : Blk w1 (w.heap.size + 1) #[.int .i64 0, .slice none 0 0, .slice none 0 0] 25 := (blk_at (by simp)).ext hx1
        have HBB := Lib.hid bb
        have HBR := Lib.hid br
        have HE := Lib.hid hE
        obtain ⟨p0, p1, p2, _, _, _⟩ := bb.three
        obtain ⟨r0, r1, r2, q0, q1, q2⟩ := br.three
        clear bb br hx1 hE
        go_wp2_with fail
        refine (HB.out _ HE.out).mono ?_; rintro e w2 ⟨rfl, hx2⟩
        have HEn := Lib.hid (HE.out.trans hx2)
        have HBBn := Lib.hid (HBB.out.ext hx2)
        have HBRn := Lib.hid (HBR.out.ext hx2)
        obtain ⟨p0, p1, p2, _, _, _⟩ := HBBn.out.three
        obtain ⟨r0, r1, r2, q0, q1, q2⟩ := HBRn.out.three
        clear hx2
        go_wp2_with fail
        obtain ⟨k0, k1, k2, _⟩ := (HBRn.out.fill (.int .i64 n) (.slice b0 xs.length c0) (.slice b1 ys.length c1)).three
        have hEn := HEn.out.fill (b := w.heap.size + 1) (by omega) (.int .i64 n) (.slice b0 xs.length c0) (.slice b1 ys.length c1)
        exact bodyPost_ret (v := .tuple #[.agg #[.int .i64 n, .slice b0 xs.length c0, .slice b1 ys.length c1], .int .i64 2]) (by simp [results, Try.results28, go_sem, k0, k1, k2]) rfl ⟨_, _, rfl, Nw.refl _ _ _ _, Nw.refl _ _ _ _, hEn⟩
    ·
      go_enter Try.func28, Try.ntmps28
      go_wp2_with fail
      refine (HA.out _ (((Ext.refl w).alloc _).alloc _)).mono ?_; rintro e w1 ⟨rfl, hx1⟩
      have hE : Ext w w1 := Ext.trans (((Ext.refl w).alloc _).alloc _) hx1
      have bb := ((Blk.new w #[.int .i64 n, .slice b0 xs.length c0, .slice b1 ys.length c1] 25).alloc (.cells #[.int .i64 0, .slice none 0 0, .slice none 0 0] 25)).ext hx1
      have br : Blk w1 (w.heap.size + 1) #[.int .i64 0, .slice none 0 0, .slice none 0 0] 25 := (blk_at (by simp)).ext hx1
      have HBB := Lib.hid bb
      have HBR := Lib.hid br
      have HE := Lib.hid hE
      obtain ⟨p0, p1, p2, _, _, _⟩ := bb.three
      obtain ⟨r0, r1, r2, q0, q1, q2⟩ := br.three
      clear bb br hx1 hE
      go_wp2_with fail
      refine (HB.out _ HE.out).mono ?_; rintro e w2 ⟨rfl, hx2⟩
      have HEn := Lib.hid (HE.out.trans hx2)
      have HBBn := Lib.hid (HBB.out.ext hx2)
      have HBRn := Lib.hid (HBR.out.ext hx2)
      obtain ⟨p0, p1, p2, _, _, _⟩ := HBBn.out.three
      obtain ⟨r0, r1, r2, q0, q1, q2⟩ := HBRn.out.three
      clear hx2
      go_wp2_with fail
      obtain ⟨k0, k1, k2, _⟩ := (HBRn.out.fill (.int .i64 n) (.slice b0 xs.length c0) (.slice b1 ys.length c1)).three
      have hEn := HEn.out.fill (b := w.heap.size + 1) (by omega) (.int .i64 n) (.slice b0 xs.length c0) (.slice b1 ys.length c1)
      exact bodyPost_ret (v := .tuple #[.agg #[.int .i64 n, .slice b0 xs.length c0, .slice b1 ys.length c1], .int .i64 2]) (by simp [results, Try.results28, go_sem, k0, k1, k2]) rfl ⟨_, _, rfl, Nw.refl _ _ _ _, Nw.refl _ _ _ _, hEn⟩
    · rcases hc with d1 | ⟨d1, d2⟩
      all_goals
        go_enter Try.func28, Try.ntmps28
        go_wp2_with fail
        refine (HA.out _ (((Ext.refl w).alloc _).alloc _)).mono ?_; rintro e w1 ⟨rfl, hx1⟩
        have hE : Ext w w1 := Ext.trans (((Ext.refl w).alloc _).alloc _) hx1
        have bb := ((Blk.new w #[.int .i64 n, .slice b0 xs.length c0, .slice b1 ys.length c1] 25).alloc (.cells #[.int .i64 0, .slice none 0 0, .slice none 0 0] 25)).ext hx1
        have br : Blk w1 (w.heap.size + 1) #[.int .i64 0, .slice none 0 0, .slice none 0 0] 25 := (blk_at (by simp)).ext hx1
        have HBB := Lib.hid bb
        have HBR := Lib.hid br
        have HE := Lib.hid hE
        obtain ⟨p0, p1, p2, _, _, _⟩ := bb.three
        obtain ⟨r0, r1, r2, q0, q1, q2⟩ := br.three
        clear bb br hx1 hE
        go_wp2_with fail
        refine (HB.out _ HE.out).mono ?_; rintro e w2 ⟨rfl, hx2⟩
        have HEn := Lib.hid (HE.out.trans hx2)
        have HBBn := Lib.hid (HBB.out.ext hx2)
        have HBRn := Lib.hid (HBR.out.ext hx2)
        obtain ⟨p0, p1, p2, _, _, _⟩ := HBBn.out.three
        obtain ⟨r0, r1, r2, q0, q1, q2⟩ := HBRn.out.three
        clear hx2
        go_wp2_with fail
        refine (HWA.out _).mono ?_; rintro e wz ⟨rfl, rfl⟩
        go_wp2_with fail
        refine (HWB.out _).mono ?_; rintro e wz ⟨rfl, rfl⟩
        go_wp2_with fail
        obtain ⟨k0, k1, k2, _⟩ := (HBRn.out.fill (.int .i64 n) (.slice b0 xs.length c0) (.slice b1 ys.length c1)).three
        have hEn := HEn.out.fill (b := w.heap.size + 1) (by omega) (.int .i64 n) (.slice b0 xs.length c0) (.slice b1 ys.length c1)
        exact bodyPost_ret (v := .tuple #[.agg #[.int .i64 n, .slice b0 xs.length c0, .slice b1 ys.length c1], .int .i64 2]) (by simp [results, Try.results28, go_sem, k0, k1, k2]) rfl ⟨_, _, rfl, Nw.refl _ _ _ _, Nw.refl _ _ _ _, hEn⟩
  | true =>
    have e0 : Ap.mvE n a b k = 0 := by unfold Ap.mvE; rw [if_neg g0, if_pos hok]
    rw [e0]
    obtain ⟨ok1, ok2⟩ := Aq.mv_oks hok
    have i1 := Ap.okAt_iff.1 ok1
    have i2 := Ap.okAt_iff.1 ok2
    have oa : Ap.okAt n a 1 = true := Ap.ok1_iff.2 ⟨i1.1, i1.2.1⟩
    have ob : Ap.okAt n b 1 = true := Ap.ok1_iff.2 ⟨i2.1, i2.2.1⟩
    rw [oa] at HA
    rw [ob] at HB
    obtain ⟨c, rfl⟩ : ∃ c : Nat, k = c := ⟨k.toNat, by omega⟩
    have d1 : decide (n - Sz.whA a < c) = false := decide_eq_false (by omega)
    have d2 : decide (n - Sz.whA b < c) = false := decide_eq_false (by omega)
    have z1 : 0 ≤ n - Sz.whA a := by omega
    have z2 : 0 ≤ n - Sz.whA b := by omega
    have ga := Aq.wh_eq i1.1
    have gb := Aq.wh_eq i2.1
    have al : a ≤ 12884901887 := by omega
    have bl : b ≤ 12884901887 := by omega
    have hc4 : (c : Int) ≤ 4096 := by omega
    have HSTEP0 : Hid (∀ j : Nat, (j : Int) < c → Ap.st 0 n (Ap.mv 0 n xs ys xs a b j) (b + j) (Ap.ldV n xs ys (a + j)) = Ap.mv 0 n xs ys xs a b ((j + 1 : Nat) : Int)) := fun j hj => Aq.mv_step HR.out hok hj 0 xs HR.out.2.2.1
    have HSTEP1 : Hid (∀ j : Nat, (j : Int) < c → Ap.st 1 n (Ap.mv 1 n xs ys ys a b j) (b + j) (Ap.ldV n xs ys (a + j)) = Ap.mv 1 n xs ys ys a b ((j + 1 : Nat) : Int)) := fun j hj => Aq.mv_step HR.out hok hj 1 ys HR.out.2.2.2
    have HMV0 : Hid (∀ (s : Int) (zs : List Int), Ap.mv s n xs ys zs a b ((0 : Nat) : Int) = zs) := fun s zs => Aq.mv_zero ..
    have HML : Hid (∀ j : Nat, (Ap.mv 0 n xs ys xs a b j).length = xs.length ∧ (Ap.mv 1 n xs ys ys a b j).length = ys.length) := fun j => by
      have h1 := (HR.out.mv a b j).2.2.1
      have h2 := (HR.out.mv a b j).2.2.2
      have h3 := HR.out.2.2
      omega
    obtain ⟨_, _, ha0, ha1⟩ := hwa
    obtain ⟨_, _, hb0, hb1⟩ := hwb
    clear e0 ok1 ok2 i1 i2 oa ob ga gb hok g0
    generalize Sz.whA a = p at HWA d1 z1 ha0 ha1
    generalize Sz.whA b = q at HWB d2 z2 hb0 hb1
    generalize Sz.whS a = s1 at HWA
    generalize Sz.whS b = s2 at HWB
    generalize Sz.whOk a = t1 at HWA
    generalize Sz.whOk b = t2 at HWB
    go_enter Try.func28, Try.ntmps28
    go_wp2_with fail
    refine (HA.out _ (((Ext.refl w).alloc _).alloc _)).mono ?_; rintro e w1 ⟨rfl, hx1⟩
    have hE : Ext w w1 := Ext.trans (((Ext.refl w).alloc _).alloc _) hx1
    have bb := ((Blk.new w #[.int .i64 n, .slice b0 xs.length c0, .slice b1 ys.length c1] 25).alloc (.cells #[.int .i64 0, .slice none 0 0, .slice none 0 0] 25)).ext hx1
    have br : Blk w1 (w.heap.size + 1) #[.int .i64 0, .slice none 0 0, .slice none 0 0] 25 := (blk_at (by simp)).ext hx1
    have HBB := Lib.hid bb
    have HBR := Lib.hid br
    have HE := Lib.hid hE
    obtain ⟨p0, p1, p2, _, _, _⟩ := bb.three
    obtain ⟨r0, r1, r2, q0, q1, q2⟩ := br.three
    clear bb br hx1 hE
    go_wp2_with fail
    refine (HB.out _ HE.out).mono ?_; rintro e w2 ⟨rfl, hx2⟩
    have HEn := Lib.hid (HE.out.trans hx2)
    have HBBn := Lib.hid (HBB.out.ext hx2)
    have HBRn := Lib.hid (HBR.out.ext hx2)
    obtain ⟨p0, p1, p2, _, _, _⟩ := HBBn.out.three
    obtain ⟨r0, r1, r2, q0, q1, q2⟩ := HBRn.out.three
    clear hx2
    go_wp2_with fail
    refine (HWA.out _).mono ?_; rintro e wz ⟨rfl, rfl⟩
    go_wp2_with fail
    refine (HWB.out _).mono ?_; rintro e wz ⟨rfl, rfl⟩
    go_wp2_with fail
    clear d1 d2 z1 z2 p0 p1 p2 r0 r1 r2 q0 q1 q2 HWA HWB HA HB
    go_loopw [19] (fun i wr => ∃ (j : Nat) (d0 : Option Addr) (f0 : Nat) (d1 : Option Addr) (f1 : Nat), i = .int .i64 j ∧ j ≤ c ∧ Hid (Blk wr w2.heap.size #[.int .i64 n, .slice d0 xs.length f0, .slice d1 ys.length f1] 25) ∧
      Hid (Nw wr (w2.heap.size + 1) (.slice b0 xs.length c0) xs (.slice d0 xs.length f0) (Ap.mv 0 n xs ys xs a b j)) ∧ Hid (Nw wr (w2.heap.size + 1) (.slice b1 ys.length c1) ys (.slice d1 ys.length f1) (Ap.mv 1 n xs ys ys a b j)) ∧ Hid (Ext w2 wr)) (fun i _ => c - (intOf i).toNat)
    case atStart => exact ⟨0, b0, c0, b1, c1, rfl, Nat.zero_le _, Blk.new _ _ _, by show Nw _ _ _ _ _ _; rw [HMV0.out]; exact Nw.refl _ _ _ _, by show Nw _ _ _ _ _ _; rw [HMV0.out]; exact Nw.refl _ _ _ _, (Ext.refl _).alloc _⟩
    case round =>
      obtain ⟨j, d0, f0, d1, f1, rfl, hj, HO, HN0, HN1, HX⟩ := hrel
      obtain ⟨wo, hwo⟩ : ∃ wo, wo = wr := ⟨_, rfl⟩
      subst hwo
      by_cases hlt : j < c
      · have hjc : (j : Int) ≤ 4096 := by omega
        obtain ⟨p0, p1, p2, _, _, _⟩ := (HBBn.out.ext HX.out).three
        have HSa := HSTEP0.out j (by omega)
        have HSb := HSTEP1.out j (by omega)
        have HS0 := Lib.hid HSa
        have HS1 := Lib.hid HSb
        have HL := HML.out j
        have HL2 := HML.out (j + 1)
        have HLh := Lib.hid HL
        have HLh2 := Lib.hid HL2
        have HRj := Lib.hid (HR.out.mv a b j)
        have hE0 := HEn.out.trans HX.out
        have HV0 := Lib.hid (HN0.out.sl (S0.out.ext hE0))
        have HV1 := Lib.hid (HN1.out.sl (S1.out.ext hE0))
        clear HSa HSb HL HL2 hE0
        go_wp2_with fail
        refine (rload_any n _ _ xs ys (a + j) (by omega) (by omega) HR.out _ (S0.out.ext (HEn.out.trans HX.out)) (S1.out.ext (HEn.out.trans HX.out))).mono ?_; rintro e w3 ⟨rfl, hx3⟩
        generalize Ap.ldV n xs ys (a + j) = v at HS0 HS1 ⊢
        generalize Ap.ldE n (a + j) = e1
        have HO3 := Lib.hid (HO.out.ext hx3)
        have HX3 := Lib.hid hx3
        obtain ⟨p0, p1, p2, _, _, _⟩ := HO3.out.three
        clear hx3
        go_wp2_with fail
        refine (rstore_any n _ _ _ _ (b + j) v (by omega) (by omega) HRj.out _ (HV0.out.ext HX3.out) (HV1.out.ext HX3.out)).mono ?_; rintro e w4 ⟨y0, y1, rfl, hy0, hy1, hx4⟩
        rw [HS0.out] at hy0
        rw [HS1.out] at hy1
        generalize Ap.ldE n (b + j) = e2
        have hX4 : Ext wo w4 := HX3.out.trans hx4
        obtain ⟨g0, h0, hg0⟩ := Row.form (hy0.sl (HV0.out.ext hX4))
        obtain ⟨g1, h1, hg1⟩ := Row.form (hy1.sl (HV1.out.ext hX4))
        rw [HLh2.out.1] at hg0
        rw [HLh2.out.2] at hg1
        subst hg0
        subst hg1
        have hlt3 : w2.heap.size < w3.heap.size := HO3.out.lt
        have HO4 := Lib.hid ((HO3.out.ext hx4).alloc (.cells #[.int .i64 n, .slice g0 xs.length h0, .slice g1 ys.length h1] 25))
        have HXA := Lib.hid (hX4.alloc (.cells #[.int .i64 n, .slice g0 xs.length h0, .slice g1 ys.length h1] 25))
        have HY0 := Lib.hid ((HN0.out.ext HXA.out).trans ((hy0.le hlt3).ext ((Ext.refl w4).alloc (.cells #[.int .i64 n, .slice g0 xs.length h0, .slice g1 ys.length h1] 25))))
        have HY1 := Lib.hid ((HN1.out.ext HXA.out).trans ((hy1.le hlt3).ext ((Ext.refl w4).alloc (.cells #[.int .i64 n, .slice g0 xs.length h0, .slice g1 ys.length h1] 25))))
        obtain ⟨p0, p1, p2, q0, q1, q2⟩ := HO4.out.three
        clear hx4 hX4 hy0 hy1 hlt3
        go_wp2_with fail
        go_roundw
        case rel => exact ⟨j + 1, g0, h0, g1, h1, by go_num, hlt, HO4.out.fill _ _ _, HY0.out.fill (by omega) _ _ _, HY1.out.fill (by omega) _ _ _, (HX.out.trans HXA.out).fill (Nat.le_refl _) _ _ _⟩
        case measure => simp [intOf]; omega
      · obtain rfl : j = c := by omega
        obtain ⟨p0, p1, p2, _, _, _⟩ := HO.out.three
        have HBRz := Lib.hid (HBRn.out.ext HX.out)
        have hlt2 : w.heap.size + 1 < w2.heap.size := HBRn.out.lt
        have HLT := Lib.hid hlt2
        obtain ⟨r0, r1, r2, q0, q1, q2⟩ := HBRz.out.three
        clear hlt2
        go_wp2_with fail
        obtain ⟨k0, k1, k2, _⟩ := (HBRz.out.fill (.int .i64 n) (.slice d0 xs.length f0) (.slice d1 ys.length f1)).three
        have hEz := (HEn.out.trans HX.out).fill (b := w.heap.size + 1) (by omega) (.int .i64 n) (.slice d0 xs.length f0) (.slice d1 ys.length f1)
        exact bodyPost_ret (v := .tuple #[.agg #[.int .i64 n, .slice d0 xs.length f0, .slice d1 ys.length f1], .int .i64 0]) (by simp [results, Try.results28, go_sem, k0, k1, k2]) rfl
          ⟨_, _, rfl, (HN0.out.fill (by have := HLT.out; omega) _ _ _).le (by have := HLT.out; omega), (HN1.out.fill (by have := HLT.out; omega) _ _ _).le (by have := HLT.out; omega), hEz⟩
end Go.Proofs.Ytjobhdcjjegpfaa.Ar
