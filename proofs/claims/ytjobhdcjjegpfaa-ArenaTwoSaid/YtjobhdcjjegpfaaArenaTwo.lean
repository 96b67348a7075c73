/- ArenaTwo holds for every input: two words that are stored at two addresses hang on no order. No condition. -/
import Derived.Test.YtjobhdcjjegpfaaRows
import Derived.Test.YtjobhdcjjegpfaaAn
namespace Go.Proofs.Ytjobhdcjjegpfaa.arenaTwo
open Go.RowKit Go.Proofs.Ytjobhdcjjegpfaa Go.Proofs.Ytjobhdcjjegpfaa.Ar
set_option linter.unusedVariables false

theorem st_comm {s n : Int} {xs : List Int} {a b v x : Int} (hab : a ≠ b) : Ap.st s n (Ap.st s n xs a v) b x = Ap.st s n (Ap.st s n xs b x) a v := by
  unfold Ap.st
  by_cases ha : Ap.okAt n a 1 = true ∧ Sz.whS a = s
  · by_cases hb : Ap.okAt n b 1 = true ∧ Sz.whS b = s
    · rw [if_pos ha, if_pos ha, if_pos hb, if_pos hb]
      refine List.set_comm _ _ (fun e => hab ?_)
      have h1 := (Ap.ok1_iff.1 ha.1).1
      have h2 := (Ap.ok1_iff.1 hb.1).1
      have h3 := (Sz.wh_bd a).2.2.1
      have h4 := (Sz.wh_bd b).2.2.1
      exact Ap.ad_eq h1 h2 (by rw [ha.2, hb.2]) (by omega)
    · rw [if_pos ha, if_neg hb, if_neg hb, if_pos ha]
  · rw [if_neg ha, if_neg ha]
theorem same_yes (n : Int) (xs ys : List Int) : sameB n n xs ys xs ys = true := by simp [sameB]

set_option maxHeartbeats 8000000 in
theorem go (n : Int) (v0 v1 : Value) (xs ys : List Int) (a v b x : Int) (aL : 0 ≤ a) (aH : a ≤ 18446744073709551615) (vL : 0 ≤ v) (vH : v ≤ 18446744073709551615) (bL : 0 ≤ b) (bH : b ≤ 18446744073709551615) (xL : 0 ≤ x) (xH : x ≤ 18446744073709551615) (w : World) (h0 : Sl .u64 w v0 xs) (h1 : Sl .u64 w v1 ys) :
    Calls Try.prog 4 #[.agg #[.int .i64 n, v0, v1, .int .u64 a, .int .u64 v, .int .u64 b, .int .u64 x]] w fun e w' => e = .returned (.bool true) ∧ Ext w w' := by
  obtain ⟨b0, c0, rfl⟩ := Row.form h0
  obtain ⟨b1, c1, rfl⟩ := Row.form h1
  have HF := Lib.hid (fun (w' : World) (he : Ext w w') => An.few_any n _ _ xs ys w' (h0.ext he) (h1.ext he))
  cases hf : An.fewB n xs.length ys.length with
  | false =>
    rw [hf] at HF
    clear h0 h1 hf
    go_enter Try.func4, Try.ntmps4
    go_wp2_with fail
    refine (An.shown_any _).mono ?_; rintro e w1 ⟨rfl, hx⟩
    have HE1 := Lib.hid (Ext.trans (by repeat (first | exact Ext.refl _ | assumption | refine Ext.alloc ?_ _ | refine Ext.drewN ?_ _ | refine Ext.drew ?_ | refine Ext.trans ?_ (by assumption))) hx : Ext w w1)
    have HBm1 := Lib.hid (show Blk w1 (w.heap.size + 1) #[.int .i64 n, .slice b0 xs.length c0, .slice b1 ys.length c1] 25 from (blk_at (by simp)).ext hx)
    obtain ⟨p0, p1, p2, _, _, _⟩ := HBm1.out.three
    clear hx
    go_wp2_with fail
    refine (HF.out _ HE1.out).mono ?_; rintro e w2 ⟨rfl, hx⟩
    have HE2 := Lib.hid (HE1.out.trans hx)
    have HBm2 := Lib.hid (HBm1.out.ext hx)
    obtain ⟨p0, p1, p2, _, _, _⟩ := HBm2.out.three
    clear hx
    go_wp2_with fail
    go_ret
    exact ⟨by first | rfl | (simp; done), HE2.out⟩
  | true =>
    obtain ⟨hr, h200⟩ := An.few_right hf
    rw [hf] at HF
    cases hab : (a == b) with
    | true =>
      clear h0 h1 hr hf
      go_enter Try.func4, Try.ntmps4
      go_wp2_with fail
      refine (An.shown_any _).mono ?_; rintro e w1 ⟨rfl, hx⟩
      have HE1 := Lib.hid (Ext.trans (by repeat (first | exact Ext.refl _ | assumption | refine Ext.alloc ?_ _ | refine Ext.drewN ?_ _ | refine Ext.drew ?_ | refine Ext.trans ?_ (by assumption))) hx : Ext w w1)
      have HBm1 := Lib.hid (show Blk w1 (w.heap.size + 1) #[.int .i64 n, .slice b0 xs.length c0, .slice b1 ys.length c1] 25 from (blk_at (by simp)).ext hx)
      obtain ⟨p0, p1, p2, _, _, _⟩ := HBm1.out.three
      clear hx
      go_wp2_with fail
      refine (HF.out _ HE1.out).mono ?_; rintro e w2 ⟨rfl, hx⟩
      have HE2 := Lib.hid (HE1.out.trans hx)
      have HBm2 := Lib.hid (HBm1.out.ext hx)
      obtain ⟨p0, p1, p2, _, _, _⟩ := HBm2.out.three
      clear hx
      go_wp2_with fail
      go_ret
      exact ⟨by first | rfl | (simp; done), HE2.out⟩
    | false =>
      have HA := Lib.hid (fun (w' : World) (he : Ext w w') => store_any n _ _ xs ys a v aL aH hr w' (h0.ext he) (h1.ext he))
      have HB := Lib.hid (fun (w' : World) (he : Ext w w') => store_any n _ _ xs ys b x bL bH hr w' (h0.ext he) (h1.ext he))
      have HA2 : Hid (∀ (w' : World) (v0 v1 : Value), Sl .u64 w' v0 (Ap.st 0 n xs a v) → Sl .u64 w' v1 (Ap.st 1 n ys a v) → Calls Try.prog 13 #[.agg #[.int .i64 n, v0, v1], .int .u64 b, .int .u64 x] w' _) := fun w' v0 v1 g0 g1 => store_any n v0 v1 _ _ b x bL bH (hr.st a v) w' g0 g1
      have HB2 : Hid (∀ (w' : World) (v0 v1 : Value), Sl .u64 w' v0 (Ap.st 0 n xs b x) → Sl .u64 w' v1 (Ap.st 1 n ys b x) → Calls Try.prog 13 #[.agg #[.int .i64 n, v0, v1], .int .u64 a, .int .u64 v] w' _) := fun w' v0 v1 g0 g1 => store_any n v0 v1 _ _ a v aL aH (hr.st b x) w' g0 g1
      have HTA := Lib.hid (fun (w' : World) (he : Ext w w') => rthere_any n _ _ xs ys a aL aH hr w' (h0.ext he) (h1.ext he))
      have HTB := Lib.hid (fun (w' : World) (he : Ext w w') => rthere_any n _ _ xs ys b bL bH hr w' (h0.ext he) (h1.ext he))
      have hne : a ≠ b := beq_eq_false_iff_ne.1 hab
      have q0 := st_comm (s := 0) (n := n) (xs := xs) (v := v) (x := x) hne
      have q1 := st_comm (s := 1) (n := n) (xs := ys) (v := v) (x := x) hne
      have S0 := Lib.hid h0
      have S1 := Lib.hid h1
      have hea : (Ap.ldE n a == 0) = Ap.okAt n a 1 := by unfold Ap.ldE; cases Ap.okAt n a 1 <;> rfl
      have heb : (Ap.ldE n b == 0) = Ap.okAt n b 1 := by unfold Ap.ldE; cases Ap.okAt n b 1 <;> rfl
      rw [q0, q1] at HA2
      clear q0 q1 h0 h1 hr hf hne
      generalize Ap.st 0 n (Ap.st 0 n xs b x) a v = t0 at HA2 HB2
      generalize Ap.st 1 n (Ap.st 1 n ys b x) a v = t1 at HA2 HB2
      generalize Ap.st 0 n xs a v = x0 at HA HA2
      generalize Ap.st 1 n ys a v = x1 at HA HA2
      generalize Ap.st 0 n xs b x = y0 at HB HB2
      generalize Ap.st 1 n ys b x = y1 at HB HB2
      generalize Ap.ldE n a = ea at HA HB2 hea
      generalize Ap.ldE n b = eb at HB HA2 heb
      generalize Ap.okAt n a 1 = oa at HTA hea
      generalize Ap.okAt n b 1 = ob at HTB heb
      go_enter Try.func4, Try.ntmps4
      go_wp2_with fail
      refine (An.shown_any _).mono ?_; rintro e w1 ⟨rfl, hx⟩
      have HE1 := Lib.hid (Ext.trans (by repeat (first | exact Ext.refl _ | assumption | refine Ext.alloc ?_ _ | refine Ext.drewN ?_ _ | refine Ext.drew ?_ | refine Ext.trans ?_ (by assumption))) hx : Ext w w1)
      have HBm1 := Lib.hid (show Blk w1 (w.heap.size + 1) #[.int .i64 n, .slice b0 xs.length c0, .slice b1 ys.length c1] 25 from (blk_at (by simp)).ext hx)
      obtain ⟨p0, p1, p2, _, _, _⟩ := HBm1.out.three
      clear hx
      go_wp2_with fail
      refine (HF.out _ HE1.out).mono ?_; rintro e w2 ⟨rfl, hx⟩
      have HE2 := Lib.hid (HE1.out.trans hx)
      have HBm2 := Lib.hid (HBm1.out.ext hx)
      obtain ⟨p0, p1, p2, _, _, _⟩ := HBm2.out.three
      clear hx
      go_wp2_with fail
      refine (HA.out _ HE2.out).mono ?_; rintro e w3 ⟨u0, u1, rfl, hu0, hu1, hx⟩
      have HE3 := Lib.hid (HE2.out.trans hx)
      have HBm3 := Lib.hid (HBm2.out.ext hx)
      obtain ⟨dp0, fp0, rfl⟩ := Row.form (hu0.sl (S0.out.ext HE3.out))
      obtain ⟨dp1, fp1, rfl⟩ := Row.form (hu1.sl (S1.out.ext HE3.out))
      have Up0 := Lib.hid (hu0.sl (S0.out.ext HE3.out))
      have Up1 := Lib.hid (hu1.sl (S1.out.ext HE3.out))
      obtain ⟨p0, p1, p2, _, _, _⟩ := HBm3.out.three
      obtain ⟨q0, q1, q2, _, _, _⟩ := (HBm3.out.alloc (.cells #[.int .i64 n, .slice dp0 x0.length fp0, .slice dp1 x1.length fp1] 25)).three
      clear hx hu0 hu1
      go_wp2_with fail
      have HBp3 := Lib.hid (Blk.new w3 #[.int .i64 n, .slice dp0 x0.length fp0, .slice dp1 x1.length fp1] 25)
      refine (HA2.out _ _ _ (Up0.out.ext ((Ext.refl _).alloc _)) (Up1.out.ext ((Ext.refl _).alloc _))).mono ?_; rintro e w4 ⟨u0, u1, rfl, hu0, hu1, hx⟩
      have HE4 := Lib.hid ((HE3.out.alloc _).trans hx)
      have HBm4 := Lib.hid ((HBm3.out.alloc _).ext hx)
      have HBp4 := Lib.hid (HBp3.out.ext hx)
      have HXp4 := Lib.hid (((Ext.refl _).alloc _).trans hx)
      obtain ⟨dq0, fq0, rfl⟩ := Row.form (hu0.sl (Up0.out.ext HXp4.out))
      obtain ⟨dq1, fq1, rfl⟩ := Row.form (hu1.sl (Up1.out.ext HXp4.out))
      obtain ⟨gz0, gz1, gz2, gz3, gz4, gz5⟩ := HBp4.out.three
      have HX2 := (HXp4.out.fill (b := w3.heap.size) (Nat.le_refl _) (.int .i64 n) (.slice dq0 t0.length fq0) (.slice dq1 t1.length fq1))
      have G0 := Lib.hid ((hu0.fill (b := w3.heap.size) (by simp) (.int .i64 n) (.slice dq0 t0.length fq0) (.slice dq1 t1.length fq1)).sl (Up0.out.ext HX2))
      have G1 := Lib.hid ((hu1.fill (b := w3.heap.size) (by simp) (.int .i64 n) (.slice dq0 t0.length fq0) (.slice dq1 t1.length fq1)).sl (Up1.out.ext HX2))
      have HSZ := HE3.out.size
      have HEn := Lib.hid (HE4.out.fill (b := w3.heap.size) (by omega) (.int .i64 n) (.slice dq0 t0.length fq0) (.slice dq1 t1.length fq1))
      have HBn := Lib.hid (HBp4.out.fill (.int .i64 n) (.slice dq0 t0.length fq0) (.slice dq1 t1.length fq1))
      have hnem : w.heap.size + 1 ≠ w3.heap.size := by have := HBm3.out.lt; omega
      have HBom := Lib.hid (((HBm4.out.other (p := ⟨w3.heap.size, 0, none⟩) hnem (.int .i64 n)).other (p := ⟨w3.heap.size, 1, none⟩) hnem (.slice dq0 t0.length fq0)).other (p := ⟨w3.heap.size, 2, none⟩) hnem (.slice dq1 t1.length fq1))
      obtain ⟨tm0, tm1, tm2, _, _, _⟩ := HBom.out.three
      obtain ⟨s0, s1, s2, _, _, _⟩ := HBn.out.three
      clear hx hu0 hu1 HX2 HSZ
      go_wp2_with fail
      generalize ((w4.setCell ⟨w3.heap.size, 0, none⟩ (.int .i64 n)).setCell ⟨w3.heap.size, 1, none⟩ (.slice dq0 t0.length fq0)).setCell ⟨w3.heap.size, 2, none⟩ (.slice dq1 t1.length fq1) = w5 at G0 G1 HEn HBn s0 s1 s2 HBom tm0 tm1 tm2 ⊢
      have HE5 := HEn
      have HBq5 := HBn
      have HBm5 := HBom
      have Uq0 := G0
      have Uq1 := G1
      clear HEn HBn G0 G1 HBom hnem
      refine (HB.out _ HE5.out).mono ?_; rintro e w6 ⟨u0, u1, rfl, hu0, hu1, hx⟩
      have HE6 := Lib.hid (HE5.out.trans hx)
      have HBm6 := Lib.hid (HBm5.out.ext hx)
      have HBq6 := Lib.hid (HBq5.out.ext hx)
      have HXq6 := Lib.hid ((Ext.refl _).trans hx)
      obtain ⟨dr0, fr0, rfl⟩ := Row.form (hu0.sl (S0.out.ext HE6.out))
      obtain ⟨dr1, fr1, rfl⟩ := Row.form (hu1.sl (S1.out.ext HE6.out))
      have Ur0 := Lib.hid (hu0.sl (S0.out.ext HE6.out))
      have Ur1 := Lib.hid (hu1.sl (S1.out.ext HE6.out))
      obtain ⟨p0, p1, p2, _, _, _⟩ := HBm6.out.three
      obtain ⟨p0, p1, p2, _, _, _⟩ := HBq6.out.three
      obtain ⟨q0, q1, q2, _, _, _⟩ := (HBm6.out.alloc (.cells #[.int .i64 n, .slice dr0 y0.length fr0, .slice dr1 y1.length fr1] 25)).three
      obtain ⟨q0, q1, q2, _, _, _⟩ := (HBq6.out.alloc (.cells #[.int .i64 n, .slice dr0 y0.length fr0, .slice dr1 y1.length fr1] 25)).three
      clear hx hu0 hu1
      go_wp2_with fail
      have HBr6 := Lib.hid (Blk.new w6 #[.int .i64 n, .slice dr0 y0.length fr0, .slice dr1 y1.length fr1] 25)
      refine (HB2.out _ _ _ (Ur0.out.ext ((Ext.refl _).alloc _)) (Ur1.out.ext ((Ext.refl _).alloc _))).mono ?_; rintro e w7 ⟨u0, u1, rfl, hu0, hu1, hx⟩
      have HE7 := Lib.hid ((HE6.out.alloc _).trans hx)
      have HBm7 := Lib.hid ((HBm6.out.alloc _).ext hx)
      have HBq7 := Lib.hid ((HBq6.out.alloc _).ext hx)
      have HXq7 := Lib.hid ((HXq6.out.alloc _).trans hx)
      have HBr7 := Lib.hid (HBr6.out.ext hx)
      have HXr7 := Lib.hid (((Ext.refl _).alloc _).trans hx)
      obtain ⟨ds0, fs0, rfl⟩ := Row.form (hu0.sl (Ur0.out.ext HXr7.out))
      obtain ⟨ds1, fs1, rfl⟩ := Row.form (hu1.sl (Ur1.out.ext HXr7.out))
      obtain ⟨gz0, gz1, gz2, gz3, gz4, gz5⟩ := HBr7.out.three
      have HX2 := (HXr7.out.fill (b := w6.heap.size) (Nat.le_refl _) (.int .i64 n) (.slice ds0 t0.length fs0) (.slice ds1 t1.length fs1))
      have G0 := Lib.hid ((hu0.fill (b := w6.heap.size) (by simp) (.int .i64 n) (.slice ds0 t0.length fs0) (.slice ds1 t1.length fs1)).sl (Ur0.out.ext HX2))
      have G1 := Lib.hid ((hu1.fill (b := w6.heap.size) (by simp) (.int .i64 n) (.slice ds0 t0.length fs0) (.slice ds1 t1.length fs1)).sl (Ur1.out.ext HX2))
      have HSZ := HE6.out.size
      have HEn := Lib.hid (HE7.out.fill (b := w6.heap.size) (by omega) (.int .i64 n) (.slice ds0 t0.length fs0) (.slice ds1 t1.length fs1))
      have HBn := Lib.hid (HBr7.out.fill (.int .i64 n) (.slice ds0 t0.length fs0) (.slice ds1 t1.length fs1))
      have hnem : w.heap.size + 1 ≠ w6.heap.size := by have := HBm6.out.lt; omega
      have HBom := Lib.hid (((HBm7.out.other (p := ⟨w6.heap.size, 0, none⟩) hnem (.int .i64 n)).other (p := ⟨w6.heap.size, 1, none⟩) hnem (.slice ds0 t0.length fs0)).other (p := ⟨w6.heap.size, 2, none⟩) hnem (.slice ds1 t1.length fs1))
      obtain ⟨tm0, tm1, tm2, _, _, _⟩ := HBom.out.three
      have hneq : w3.heap.size ≠ w6.heap.size := by have := HBq6.out.lt; omega
      have HBoq := Lib.hid (((HBq7.out.other (p := ⟨w6.heap.size, 0, none⟩) hneq (.int .i64 n)).other (p := ⟨w6.heap.size, 1, none⟩) hneq (.slice ds0 t0.length fs0)).other (p := ⟨w6.heap.size, 2, none⟩) hneq (.slice ds1 t1.length fs1))
      have HXoq := Lib.hid (HXq7.out.fill (b := w6.heap.size) HXq6.out.size (.int .i64 n) (.slice ds0 t0.length fs0) (.slice ds1 t1.length fs1))
      obtain ⟨tq0, tq1, tq2, _, _, _⟩ := HBoq.out.three
      obtain ⟨s0, s1, s2, _, _, _⟩ := HBn.out.three
      clear hx hu0 hu1 HX2 HSZ
      go_wp2_with fail
      generalize ((w7.setCell ⟨w6.heap.size, 0, none⟩ (.int .i64 n)).setCell ⟨w6.heap.size, 1, none⟩ (.slice ds0 t0.length fs0)).setCell ⟨w6.heap.size, 2, none⟩ (.slice ds1 t1.length fs1) = w8 at G0 G1 HEn HBn s0 s1 s2 HBom tm0 tm1 tm2 HBoq HXoq tq0 tq1 tq2 ⊢
      have HE8 := HEn
      have HBs8 := HBn
      have HBm8 := HBom
      have HBq8 := HBoq
      have HXq8 := HXoq
      have Us0 := G0
      have Us1 := G1
      clear HEn HBn G0 G1 HBom HBoq hnem hneq
      refine (HTA.out _ HE8.out).mono ?_; rintro e w9 ⟨rfl, hx⟩
      have HE9 := Lib.hid (HE8.out.trans hx)
      have HBm9 := Lib.hid (HBm8.out.ext hx)
      have HBq9 := Lib.hid (HBq8.out.ext hx)
      have HXq9 := Lib.hid (HXq8.out.trans hx)
      have HBs9 := Lib.hid (HBs8.out.ext hx)
      have HXs9 := Lib.hid ((Ext.refl _).trans hx)
      obtain ⟨p0, p1, p2, _, _, _⟩ := HBm9.out.three
      obtain ⟨p0, p1, p2, _, _, _⟩ := HBq9.out.three
      obtain ⟨p0, p1, p2, _, _, _⟩ := HBs9.out.three
      clear hx
      go_wp2_with fail
      refine (HTB.out _ HE9.out).mono ?_; rintro e w10 ⟨rfl, hx⟩
      have HE10 := Lib.hid (HE9.out.trans hx)
      have HBm10 := Lib.hid (HBm9.out.ext hx)
      have HBq10 := Lib.hid (HBq9.out.ext hx)
      have HXq10 := Lib.hid (HXq9.out.trans hx)
      have HBs10 := Lib.hid (HBs9.out.ext hx)
      have HXs10 := Lib.hid (HXs9.out.trans hx)
      obtain ⟨p0, p1, p2, _, _, _⟩ := HBm10.out.three
      obtain ⟨p0, p1, p2, _, _, _⟩ := HBq10.out.three
      obtain ⟨p0, p1, p2, _, _, _⟩ := HBs10.out.three
      clear hx
      go_wp2_with fail
      refine (rsame_any n n _ _ _ _ t0 t1 t0 t1 _ (Uq0.out.ext HXq10.out) (Uq1.out.ext HXq10.out) (Us0.out.ext HXs10.out) (Us1.out.ext HXs10.out)).mono ?_; rintro e w11 ⟨rfl, hx⟩
      rw [same_yes]
      have HE11 := Lib.hid (HE10.out.trans hx)
      have HBm11 := Lib.hid (HBm10.out.ext hx)
      have HBq11 := Lib.hid (HBq10.out.ext hx)
      have HXq11 := Lib.hid (HXq10.out.trans hx)
      have HBs11 := Lib.hid (HBs10.out.ext hx)
      have HXs11 := Lib.hid (HXs10.out.trans hx)
      obtain ⟨p0, p1, p2, _, _, _⟩ := HBm11.out.three
      obtain ⟨p0, p1, p2, _, _, _⟩ := HBq11.out.three
      obtain ⟨p0, p1, p2, _, _, _⟩ := HBs11.out.three
      clear hx
      go_wp2_with fail
      go_ret
      exact ⟨by first | rfl | (simp; done), HE11.out⟩

theorem walk (v0 : Value) (W : World) (r0 : Rd.V Try.prog W 38 v0) : Calls Try.prog 4 #[v0] W fun e w' => e = .returned (.bool true) ∧ Below W.heap.size W w' := by
  have k3 : Try.prog.cellsOf 25 = 3 := by kernel_rfl
  obtain ⟨cs, rfl, hs⟩ := r0.struct Try.underlying38
  obtain ⟨hl, _⟩ := hs.struct Try.underlying38
  rw [show Try.prog.cellsOf 38 = 7 by kernel_rfl] at hl
  match cs, hl with
  | [c0, c1, c2, c3, c4, c5, c6], _ =>
    obtain ⟨n, v0, v1, xs, ys, hm, h0, h1, wx, wy, wn⟩ := An.mem_R (Rd.R.field Try.underlying38 hs 0 rfl 0 3 25 rfl rfl k3)
    simp at hm
    obtain ⟨rfl, rfl, rfl⟩ := hm
    obtain ⟨a, ha, wa⟩ := (Rd.R.field Try.underlying38 hs 1 rfl 3 1 26 rfl rfl (by kernel_rfl)).int Try.underlying26
    obtain rfl : c3 = .int .u64 a := by simpa using ha
    have ba := Rd.u64_bd wa
    obtain ⟨v, hv, wv⟩ := (Rd.R.field Try.underlying38 hs 2 rfl 4 1 26 rfl rfl (by kernel_rfl)).int Try.underlying26
    obtain rfl : c4 = .int .u64 v := by simpa using hv
    have bv := Rd.u64_bd wv
    obtain ⟨b, hb, wb⟩ := (Rd.R.field Try.underlying38 hs 3 rfl 5 1 26 rfl rfl (by kernel_rfl)).int Try.underlying26
    obtain rfl : c5 = .int .u64 b := by simpa using hb
    have bb := Rd.u64_bd wb
    obtain ⟨x, hx, wx⟩ := (Rd.R.field Try.underlying38 hs 4 rfl 6 1 26 rfl rfl (by kernel_rfl)).int Try.underlying26
    obtain rfl : c6 = .int .u64 x := by simpa using hx
    have bx := Rd.u64_bd wx
    exact (go n c1 c2 xs ys a v b x ba.1 ba.2 bv.1 bv.2 bb.1 bb.2 bx.1 bx.2 W h0 h1).mono fun e w' ⟨he, hw⟩ => ⟨he, hw.below⟩

open Go.ChangeShapes Go.WideShapes Go.ChangeAt Go.RowKit
theorem own : ownKnob Try.prog.godebug = none := by kernel_rfl
theorem laidOut : laidOutB Try.prog = true := by kernel_rfl

set_option maxRecDepth 100000 in
theorem lifted (os : Os) (started : os.Started) (H : Type) (enc : TypeId × Value → H) :
    ReturnsInHanded {} Try.checked os 4 .any (Rows.arenaTwoSpec.pre6 enc Try.prog Try.f4 Rows.arenaTwoRow.domain false) (Rows.arenaTwoSpec.post enc Try.prog Try.f4 false true false false) := by
  refine returnsInHanded_of_change_sized (C := Try.checked) own started (by kernel_rfl) Try.func4
    (ChangeSpec.witness6 (enc := enc) (C := Try.checked) false ⟨#[], #[.agg #[.int .i64 0, .slice none 0 0, .slice none 0 0, .int .u64 0, .int .u64 0, .int .u64 0, .int .u64 0]], []⟩ 12 (by kernel_rfl) (by kernel_rfl) (by kernel_rfl) (by kernel_rfl)) ?_
  intro W base args ds gs before hval0 hW _ hsz0 _
  have hval : ∀ (j : Nat) t v, Try.f4.params[j]? = some t → args[j]? = some v → Value.okWide Try.prog W .any base t v := hval0
  have hW' := hW
  obtain ⟨p, q, hA0, hV, rfl, _, _⟩ := hW
  have hA : DataW.TrodAll enc Try.prog W 0 (fun _ => true) true Try.f4.params.toList args.toList ds p := hA0
  obtain ⟨rfl, rfl⟩ := trodVars_none hV
  have hsz : (DataW.weightsEach Try.prog (Try.f4.params.toList ++ []) (ds ++ [])).all (· ≤ reachBytes) = true := hsz0
  rw [Try.params4] at hA hval hsz
  have hA2 := hA
  obtain ⟨v0, vs0, d0, ds0, p0, q0, hargs, rfl, rfl, h0, r0⟩ := trodAll_cons hA2
  obtain ⟨rfl, rfl, rfl⟩ := trodAll_nil r0
  obtain rfl : args = #[v0] := by cases args; simp_all
  have hR := Rd.trodAll_V hA (fun n hn => by simpa using List.all_eq_true.1 hsz n (by simpa using hn)) (fun j t v hj hv => hval j t v (by simpa using hj) (by simpa using hv))
  clear hA0 hval0 hA2
  refine (walk v0 W (hR 0 38 v0 rfl rfl)).mono fun e W' ⟨he, bel⟩ => ?_
  subst he
  exact ⟨_, rfl, _, _, _, [], _, [], hW', trodAll_mk1 (shut_bool Try.underlying4 _), Rd.trodAll_below laidOut bel (List.forall_mem_cons.2 ⟨⟨by kernel_rfl, of_decide_eq_true (by kernel_rfl)⟩, fun _ h => by cases h⟩) hA, rfl, bel.frame _, fun h => by cases h⟩

theorem over : Rows.arenaTwoRow.holds Try.pinned (OpenSpec.ofChange Rows.arenaTwoSpec) :=
  OpenClaim.holds_of_wide 4 Try.f4 rfl rfl rfl rfl rfl rfl rfl ⟨rfl, rfl, rfl, rfl, rfl⟩ rfl rfl rfl rfl rfl (by kernel_rfl) Try.func4 (by kernel_rfl)
    (of_decide_eq_true (by kernel_rfl)) (by unfold Func.isWrapper; first | (rw [if_pos (by decide +kernel)]; kernel_rfl) | (rw [if_neg (by decide +kernel)]; exact ⟨rfl, rfl⟩))
    (fun os started H enc _ => lifted os started H enc)

theorem proved : Rows.ArenaTwoSaid := over
#print axioms proved
end Go.Proofs.Ytjobhdcjjegpfaa.arenaTwo
