/- ArenaActs holds for every input: what is loaded, stored, swapped, moved and cleared is as the document says. No condition. -/
import Derived.Test.YtjobhdcjjegpfaaRows
import Derived.Test.YtjobhdcjjegpfaaAn
import Derived.Test.YtjobhdcjjegpfaaAo
import Derived.Deep.RegionHeld3
namespace Go.Proofs.Ytjobhdcjjegpfaa.arenaActs
open Go.RowKit Go.Proofs.Ytjobhdcjjegpfaa Go.Proofs.Ytjobhdcjjegpfaa.Ar
set_option linter.unusedVariables false

theorem same_yes (n : Int) (xs ys : List Int) : sameB n n xs ys xs ys = true := by simp [sameB]

set_option maxRecDepth 100000 in
set_option maxHeartbeats 16000000 in
theorem go (n : Int) (v0 v1 : Value) (xs ys : List Int) (a b v c k : Int) (v2 v3 : Value) (zs us : List Int) (aL : 0 ≤ a) (aH : a ≤ 18446744073709551615) (bL : 0 ≤ b) (bH : b ≤ 18446744073709551615) (cL : -9223372036854775808 ≤ c) (cH : c ≤ 9223372036854775807) (w : World)
    (h0 : Sl .u64 w v0 xs) (h1 : Sl .u64 w v1 ys) (h2 : Sl .u64 w v2 zs) (h3 : Sl .u64 w v3 us) :
    Calls Try.prog 10 #[.agg #[.int .i64 n, v0, v1, .int .u64 a, .int .u64 b, .int .u64 v, .int .i64 c, .int .i64 k, v2, v3]] w fun e w' => e = .returned (.bool true) ∧ Ext w w' := by
  obtain ⟨b0, c0, rfl⟩ := Row.form h0
  obtain ⟨b1, c1, rfl⟩ := Row.form h1
  obtain ⟨b2, c2, rfl⟩ := Row.form h2
  obtain ⟨b3, c3, rfl⟩ := Row.form h3
  have HF := Lib.hid (fun (w' : World) (he : Ext w w') => An.few_any n _ _ xs ys w' (h0.ext he) (h1.ext he))
  cases hf : An.fewB n xs.length ys.length with
  | false =>
    rw [hf] at HF
    clear h0 h1 h2 h3 hf
    go_enter Try.func10, Try.ntmps10
    go_wp2_with fail
    refine (An.shown_any _).mono ?_; rintro e w1 ⟨rfl, hx⟩
    have HE1 := Lib.hid (Ext.trans (by repeat (first | exact Ext.refl _ | assumption | refine Ext.alloc ?_ _ | refine Ext.drewN ?_ _ | refine Ext.drew ?_ | refine Ext.trans ?_ (by assumption))) hx : Ext w w1)
    have HBm1 := Lib.hid (show Blk w1 (w.heap.size + 1) #[.int .i64 n, .slice b0 xs.length c0, .slice b1 ys.length c1] 25 from ((blk_at (by simp)).alloc _).ext hx)
    have HBo1 := Lib.hid (show Blk w1 (w.heap.size + 1 + 1) #[.int .i64 k, .slice b2 zs.length c2, .slice b3 us.length c3] 25 from (blk_at (by simp)).ext hx)
    obtain ⟨p0, p1, p2, _, _, _⟩ := HBm1.out.three
    clear hx
    go_wp2_with fail
    refine (HF.out _ HE1.out).mono ?_; rintro e w2 ⟨rfl, hx⟩
    have HE2 := Lib.hid (HE1.out.trans hx)
    clear hx
    go_wp2_with fail
    go_ret
    exact ⟨by first | rfl | (simp; done), HE2.out⟩
  | true =>
    obtain ⟨hr, h200⟩ := An.few_right hf
    rw [hf] at HF
    have HL := Lib.hid (fun (w' : World) (he : Ext w w') => load_any n _ _ xs ys a aL aH hr w' (h0.ext he) (h1.ext he))
    have HLr := Lib.hid (fun (w' : World) (he : Ext w w') => rload_any n _ _ xs ys a aL aH hr w' (h0.ext he) (h1.ext he))
    have HS := Lib.hid (fun (w' : World) (he : Ext w w') => store_any n _ _ xs ys a v aL aH hr w' (h0.ext he) (h1.ext he))
    have HSr := Lib.hid (fun (w' : World) (he : Ext w w') => rstore_any n _ _ xs ys a v aL aH hr w' (h0.ext he) (h1.ext he))
    have HW := Lib.hid (fun (w' : World) (he : Ext w w') => swap_any n _ _ xs ys a v b aL aH hr w' (h0.ext he) (h1.ext he))
    have HWr := Lib.hid (fun (w' : World) (he : Ext w w') => rswap_any n _ _ xs ys a v b aL aH hr w' (h0.ext he) (h1.ext he))
    have HM := Lib.hid (fun (w' : World) (he : Ext w w') => move_any n _ _ xs ys a b c aL aH bL bH cL cH hr w' (h0.ext he) (h1.ext he))
    have HMr := Lib.hid (fun (w' : World) (he : Ext w w') => rmove_any n _ _ xs ys a b c aL aH bL bH cL cH hr w' (h0.ext he) (h1.ext he))
    have HC0 := Lib.hid (fun (w' : World) (he : Ext w w') => clear_any n _ _ xs ys c hr w' (h0.ext he) (h1.ext he))
    have HD0 := Lib.hid (fun (w' : World) (he : Ext w w') => rclear_any n _ _ xs ys c hr w' (h0.ext he) (h1.ext he))
    have HQ0 := Lib.hid (fun (w' : World) (he : Ext w w') => same_any n k _ _ _ _ xs ys zs us w' (h0.ext he) (h1.ext he) (h2.ext he) (h3.ext he))
    have HQ1 := Lib.hid (fun (w' : World) (he : Ext w w') => rsame_any n k _ _ _ _ xs ys zs us w' (h0.ext he) (h1.ext he) (h2.ext he) (h3.ext he))
    have S0 := Lib.hid h0
    have S1 := Lib.hid h1
    clear h0 h1 h2 h3 hr hf
    generalize Ap.st 0 n xs a v = x0 at HS HSr
    generalize Ap.st 1 n ys a v = x1 at HS HSr
    generalize Ap.sw 0 n xs ys xs a v b = y0 at HW HWr
    generalize Ap.sw 1 n xs ys ys a v b = y1 at HW HWr
    generalize Ap.mv 0 n xs ys xs a b c = z0 at HM HMr
    generalize Ap.mv 1 n xs ys ys a b c = z1 at HM HMr
    generalize Ap.cl 0 n xs c = l0 at HC0 HD0
    generalize Ap.cl 1 n ys c = l1 at HC0 HD0
    generalize sameB n k xs ys zs us = qb at HQ0 HQ1
    generalize Ap.swD n xs ys a v = did at HW HWr
    generalize Ap.ldE n a = eA at HL HLr HS HSr HW HWr
    generalize Ap.ldV n xs ys a = vA at HL HLr
    generalize Ap.mvE n a b c = eM at HM HMr
    go_enter Try.func10, Try.ntmps10
    go_wp2_with fail
    refine (An.shown_any _).mono ?_; rintro e w1 ⟨rfl, hx⟩
    have HE1 := Lib.hid (Ext.trans (by repeat (first | exact Ext.refl _ | assumption | refine Ext.alloc ?_ _ | refine Ext.drewN ?_ _ | refine Ext.drew ?_ | refine Ext.trans ?_ (by assumption))) hx : Ext w w1)
    have HBm1 := Lib.hid (show Blk w1 (w.heap.size + 1) #[.int .i64 n, .slice b0 xs.length c0, .slice b1 ys.length c1] 25 from ((blk_at (by simp)).alloc _).ext hx)
    have HBo1 := Lib.hid (show Blk w1 (w.heap.size + 1 + 1) #[.int .i64 k, .slice b2 zs.length c2, .slice b3 us.length c3] 25 from (blk_at (by simp)).ext hx)
    obtain ⟨p0, p1, p2, _, _, _⟩ := HBm1.out.three
    clear hx
    go_wp2_with fail
    have HXo1 := HE1
    refine (HF.out _ HE1.out).mono ?_; rintro e w2 ⟨rfl, hx⟩
    have HE2 := Lib.hid (HE1.out.trans hx)
    have HBm2 := Lib.hid (HBm1.out.ext hx)
    have HBo2 := Lib.hid (HBo1.out.ext hx)
    have HXo2 := Lib.hid (HXo1.out.trans hx)
    obtain ⟨p0, p1, p2, _, _, _⟩ := HBm2.out.three
    obtain ⟨p0, p1, p2, _, _, _⟩ := HBo2.out.three
    clear hx
    go_wp2_with fail
    refine (HL.out _ HE2.out).mono ?_; rintro e w3 ⟨rfl, hx⟩
    have HE3 := Lib.hid (HE2.out.trans hx)
    have HBm3 := Lib.hid (HBm2.out.ext hx)
    have HBo3 := Lib.hid (HBo2.out.ext hx)
    have HXo3 := Lib.hid (HXo2.out.trans hx)
    obtain ⟨p0, p1, p2, _, _, _⟩ := HBm3.out.three
    obtain ⟨p0, p1, p2, _, _, _⟩ := HBo3.out.three
    clear hx
    go_wp2_with fail
    refine (HLr.out _ HE3.out).mono ?_; rintro e w4 ⟨rfl, hx⟩
    have HE4 := Lib.hid (HE3.out.trans hx)
    have HBm4 := Lib.hid (HBm3.out.ext hx)
    have HBo4 := Lib.hid (HBo3.out.ext hx)
    have HXo4 := Lib.hid (HXo3.out.trans hx)
    obtain ⟨p0, p1, p2, _, _, _⟩ := HBm4.out.three
    obtain ⟨p0, p1, p2, _, _, _⟩ := HBo4.out.three
    clear hx
    go_wp2_with fail
    refine (HS.out _ HE4.out).mono ?_; rintro e w5 ⟨u0, u1, rfl, hu0, hu1, hx⟩
    have HE5 := Lib.hid (HE4.out.trans hx)
    have HBm5 := Lib.hid (HBm4.out.ext hx)
    have HBo5 := Lib.hid (HBo4.out.ext hx)
    have HXo5 := Lib.hid (HXo4.out.trans hx)
    obtain ⟨dp0, fp0, rfl⟩ := Row.form (hu0.sl (S0.out.ext HE5.out))
    obtain ⟨dp1, fp1, rfl⟩ := Row.form (hu1.sl (S1.out.ext HE5.out))
    have Up0 := Lib.hid (hu0.sl (S0.out.ext HE5.out))
    have Up1 := Lib.hid (hu1.sl (S1.out.ext HE5.out))
    obtain ⟨p0, p1, p2, _, _, _⟩ := HBm5.out.three
    obtain ⟨p0, p1, p2, _, _, _⟩ := HBo5.out.three
    obtain ⟨q0, q1, q2, _, _, _⟩ := (HBm5.out.alloc (.cells #[.int .i64 n, .slice dp0 x0.length fp0, .slice dp1 x1.length fp1] 25)).three
    obtain ⟨q0, q1, q2, _, _, _⟩ := (HBo5.out.alloc (.cells #[.int .i64 n, .slice dp0 x0.length fp0, .slice dp1 x1.length fp1] 25)).three
    clear hx hu0 hu1
    go_wp2_with fail
    have HBp5 := Lib.hid (Blk.new w5 #[.int .i64 n, .slice dp0 x0.length fp0, .slice dp1 x1.length fp1] 25)
    refine (HSr.out _ (HE5.out.alloc _)).mono ?_; rintro e w6 ⟨u0, u1, rfl, hu0, hu1, hx⟩
    have HE6 := Lib.hid ((HE5.out.alloc _).trans hx)
    have HBm6 := Lib.hid ((HBm5.out.alloc _).ext hx)
    have HBo6 := Lib.hid ((HBo5.out.alloc _).ext hx)
    have HXo6 := Lib.hid ((HXo5.out.alloc _).trans hx)
    have HBp6 := Lib.hid (HBp5.out.ext hx)
    have HXp6 := Lib.hid (((Ext.refl _).alloc _).trans hx)
    obtain ⟨dq0, fq0, rfl⟩ := Row.form (hu0.sl (S0.out.ext HE6.out))
    obtain ⟨dq1, fq1, rfl⟩ := Row.form (hu1.sl (S1.out.ext HE6.out))
    have Uq0 := Lib.hid (hu0.sl (S0.out.ext HE6.out))
    have Uq1 := Lib.hid (hu1.sl (S1.out.ext HE6.out))
    obtain ⟨p0, p1, p2, _, _, _⟩ := HBm6.out.three
    obtain ⟨p0, p1, p2, _, _, _⟩ := HBo6.out.three
    obtain ⟨p0, p1, p2, _, _, _⟩ := HBp6.out.three
    obtain ⟨q0, q1, q2, _, _, _⟩ := (HBm6.out.alloc (.cells #[.int .i64 n, .slice dq0 x0.length fq0, .slice dq1 x1.length fq1] 25)).three
    obtain ⟨q0, q1, q2, _, _, _⟩ := (HBo6.out.alloc (.cells #[.int .i64 n, .slice dq0 x0.length fq0, .slice dq1 x1.length fq1] 25)).three
    obtain ⟨q0, q1, q2, _, _, _⟩ := (HBp6.out.alloc (.cells #[.int .i64 n, .slice dq0 x0.length fq0, .slice dq1 x1.length fq1] 25)).three
    clear hx hu0 hu1
    go_wp2_with fail
    have HBq6 := Lib.hid (Blk.new w6 #[.int .i64 n, .slice dq0 x0.length fq0, .slice dq1 x1.length fq1] 25)
    refine (HW.out _ (HE6.out.alloc _)).mono ?_; rintro e w7 ⟨u0, u1, rfl, hu0, hu1, hx⟩
    have HE7 := Lib.hid ((HE6.out.alloc _).trans hx)
    have HBm7 := Lib.hid ((HBm6.out.alloc _).ext hx)
    have HBo7 := Lib.hid ((HBo6.out.alloc _).ext hx)
    have HXo7 := Lib.hid ((HXo6.out.alloc _).trans hx)
    have HBp7 := Lib.hid ((HBp6.out.alloc _).ext hx)
    have HXp7 := Lib.hid ((HXp6.out.alloc _).trans hx)
    have HBq7 := Lib.hid (HBq6.out.ext hx)
    have HXq7 := Lib.hid (((Ext.refl _).alloc _).trans hx)
    obtain ⟨ds0, fs0, rfl⟩ := Row.form (hu0.sl (S0.out.ext HE7.out))
    obtain ⟨ds1, fs1, rfl⟩ := Row.form (hu1.sl (S1.out.ext HE7.out))
    have Us0 := Lib.hid (hu0.sl (S0.out.ext HE7.out))
    have Us1 := Lib.hid (hu1.sl (S1.out.ext HE7.out))
    obtain ⟨p0, p1, p2, _, _, _⟩ := HBm7.out.three
    obtain ⟨p0, p1, p2, _, _, _⟩ := HBo7.out.three
    obtain ⟨p0, p1, p2, _, _, _⟩ := HBp7.out.three
    obtain ⟨p0, p1, p2, _, _, _⟩ := HBq7.out.three
    obtain ⟨q0, q1, q2, _, _, _⟩ := (HBm7.out.alloc (.cells #[.int .i64 n, .slice ds0 y0.length fs0, .slice ds1 y1.length fs1] 25)).three
    obtain ⟨q0, q1, q2, _, _, _⟩ := (HBo7.out.alloc (.cells #[.int .i64 n, .slice ds0 y0.length fs0, .slice ds1 y1.length fs1] 25)).three
    obtain ⟨q0, q1, q2, _, _, _⟩ := (HBp7.out.alloc (.cells #[.int .i64 n, .slice ds0 y0.length fs0, .slice ds1 y1.length fs1] 25)).three
    obtain ⟨q0, q1, q2, _, _, _⟩ := (HBq7.out.alloc (.cells #[.int .i64 n, .slice ds0 y0.length fs0, .slice ds1 y1.length fs1] 25)).three
    clear hx hu0 hu1
    go_wp2_with fail
    have HBs7 := Lib.hid (Blk.new w7 #[.int .i64 n, .slice ds0 y0.length fs0, .slice ds1 y1.length fs1] 25)
    refine (HWr.out _ (HE7.out.alloc _)).mono ?_; rintro e w8 ⟨u0, u1, rfl, hu0, hu1, hx⟩
    have HE8 := Lib.hid ((HE7.out.alloc _).trans hx)
    have HBm8 := Lib.hid ((HBm7.out.alloc _).ext hx)
    have HBo8 := Lib.hid ((HBo7.out.alloc _).ext hx)
    have HXo8 := Lib.hid ((HXo7.out.alloc _).trans hx)
    have HBp8 := Lib.hid ((HBp7.out.alloc _).ext hx)
    have HXp8 := Lib.hid ((HXp7.out.alloc _).trans hx)
    have HBq8 := Lib.hid ((HBq7.out.alloc _).ext hx)
    have HXq8 := Lib.hid ((HXq7.out.alloc _).trans hx)
    have HBs8 := Lib.hid (HBs7.out.ext hx)
    have HXs8 := Lib.hid (((Ext.refl _).alloc _).trans hx)
    obtain ⟨dt0, ft0, rfl⟩ := Row.form (hu0.sl (S0.out.ext HE8.out))
    obtain ⟨dt1, ft1, rfl⟩ := Row.form (hu1.sl (S1.out.ext HE8.out))
    have Ut0 := Lib.hid (hu0.sl (S0.out.ext HE8.out))
    have Ut1 := Lib.hid (hu1.sl (S1.out.ext HE8.out))
    obtain ⟨p0, p1, p2, _, _, _⟩ := HBm8.out.three
    obtain ⟨p0, p1, p2, _, _, _⟩ := HBo8.out.three
    obtain ⟨p0, p1, p2, _, _, _⟩ := HBp8.out.three
    obtain ⟨p0, p1, p2, _, _, _⟩ := HBq8.out.three
    obtain ⟨p0, p1, p2, _, _, _⟩ := HBs8.out.three
    obtain ⟨q0, q1, q2, _, _, _⟩ := (HBm8.out.alloc (.cells #[.int .i64 n, .slice dt0 y0.length ft0, .slice dt1 y1.length ft1] 25)).three
    obtain ⟨q0, q1, q2, _, _, _⟩ := (HBo8.out.alloc (.cells #[.int .i64 n, .slice dt0 y0.length ft0, .slice dt1 y1.length ft1] 25)).three
    obtain ⟨q0, q1, q2, _, _, _⟩ := (HBp8.out.alloc (.cells #[.int .i64 n, .slice dt0 y0.length ft0, .slice dt1 y1.length ft1] 25)).three
    obtain ⟨q0, q1, q2, _, _, _⟩ := (HBq8.out.alloc (.cells #[.int .i64 n, .slice dt0 y0.length ft0, .slice dt1 y1.length ft1] 25)).three
    obtain ⟨q0, q1, q2, _, _, _⟩ := (HBs8.out.alloc (.cells #[.int .i64 n, .slice dt0 y0.length ft0, .slice dt1 y1.length ft1] 25)).three
    clear hx hu0 hu1
    go_wp2_with fail
    have HBt8 := Lib.hid (Blk.new w8 #[.int .i64 n, .slice dt0 y0.length ft0, .slice dt1 y1.length ft1] 25)
    refine (HM.out _ (HE8.out.alloc _)).mono ?_; rintro e w9 ⟨u0, u1, rfl, hu0, hu1, hx⟩
    have HE9 := Lib.hid ((HE8.out.alloc _).trans hx)
    have HBm9 := Lib.hid ((HBm8.out.alloc _).ext hx)
    have HBo9 := Lib.hid ((HBo8.out.alloc _).ext hx)
    have HXo9 := Lib.hid ((HXo8.out.alloc _).trans hx)
    have HBp9 := Lib.hid ((HBp8.out.alloc _).ext hx)
    have HXp9 := Lib.hid ((HXp8.out.alloc _).trans hx)
    have HBq9 := Lib.hid ((HBq8.out.alloc _).ext hx)
    have HXq9 := Lib.hid ((HXq8.out.alloc _).trans hx)
    have HBs9 := Lib.hid ((HBs8.out.alloc _).ext hx)
    have HXs9 := Lib.hid ((HXs8.out.alloc _).trans hx)
    have HBt9 := Lib.hid (HBt8.out.ext hx)
    have HXt9 := Lib.hid (((Ext.refl _).alloc _).trans hx)
    obtain ⟨dg0, fg0, rfl⟩ := Row.form (hu0.sl (S0.out.ext HE9.out))
    obtain ⟨dg1, fg1, rfl⟩ := Row.form (hu1.sl (S1.out.ext HE9.out))
    have Ug0 := Lib.hid (hu0.sl (S0.out.ext HE9.out))
    have Ug1 := Lib.hid (hu1.sl (S1.out.ext HE9.out))
    obtain ⟨p0, p1, p2, _, _, _⟩ := HBm9.out.three
    obtain ⟨p0, p1, p2, _, _, _⟩ := HBo9.out.three
    obtain ⟨p0, p1, p2, _, _, _⟩ := HBp9.out.three
    obtain ⟨p0, p1, p2, _, _, _⟩ := HBq9.out.three
    obtain ⟨p0, p1, p2, _, _, _⟩ := HBs9.out.three
    obtain ⟨p0, p1, p2, _, _, _⟩ := HBt9.out.three
    obtain ⟨q0, q1, q2, _, _, _⟩ := (HBm9.out.alloc (.cells #[.int .i64 n, .slice dg0 z0.length fg0, .slice dg1 z1.length fg1] 25)).three
    obtain ⟨q0, q1, q2, _, _, _⟩ := (HBo9.out.alloc (.cells #[.int .i64 n, .slice dg0 z0.length fg0, .slice dg1 z1.length fg1] 25)).three
    obtain ⟨q0, q1, q2, _, _, _⟩ := (HBp9.out.alloc (.cells #[.int .i64 n, .slice dg0 z0.length fg0, .slice dg1 z1.length fg1] 25)).three
    obtain ⟨q0, q1, q2, _, _, _⟩ := (HBq9.out.alloc (.cells #[.int .i64 n, .slice dg0 z0.length fg0, .slice dg1 z1.length fg1] 25)).three
    obtain ⟨q0, q1, q2, _, _, _⟩ := (HBs9.out.alloc (.cells #[.int .i64 n, .slice dg0 z0.length fg0, .slice dg1 z1.length fg1] 25)).three
    obtain ⟨q0, q1, q2, _, _, _⟩ := (HBt9.out.alloc (.cells #[.int .i64 n, .slice dg0 z0.length fg0, .slice dg1 z1.length fg1] 25)).three
    clear hx hu0 hu1
    go_wp2_with fail
    have HBg9 := Lib.hid (Blk.new w9 #[.int .i64 n, .slice dg0 z0.length fg0, .slice dg1 z1.length fg1] 25)
    refine (HMr.out _ (HE9.out.alloc _)).mono ?_; rintro e w10 ⟨u0, u1, rfl, hu0, hu1, hx⟩
    have HE10 := Lib.hid ((HE9.out.alloc _).trans hx)
    have HBm10 := Lib.hid ((HBm9.out.alloc _).ext hx)
    have HBo10 := Lib.hid ((HBo9.out.alloc _).ext hx)
    have HXo10 := Lib.hid ((HXo9.out.alloc _).trans hx)
    have HBp10 := Lib.hid ((HBp9.out.alloc _).ext hx)
    have HXp10 := Lib.hid ((HXp9.out.alloc _).trans hx)
    have HBq10 := Lib.hid ((HBq9.out.alloc _).ext hx)
    have HXq10 := Lib.hid ((HXq9.out.alloc _).trans hx)
    have HBs10 := Lib.hid ((HBs9.out.alloc _).ext hx)
    have HXs10 := Lib.hid ((HXs9.out.alloc _).trans hx)
    have HBt10 := Lib.hid ((HBt9.out.alloc _).ext hx)
    have HXt10 := Lib.hid ((HXt9.out.alloc _).trans hx)
    have HBg10 := Lib.hid (HBg9.out.ext hx)
    have HXg10 := Lib.hid (((Ext.refl _).alloc _).trans hx)
    obtain ⟨dh0, fh0, rfl⟩ := Row.form (hu0.sl (S0.out.ext HE10.out))
    obtain ⟨dh1, fh1, rfl⟩ := Row.form (hu1.sl (S1.out.ext HE10.out))
    have Uh0 := Lib.hid (hu0.sl (S0.out.ext HE10.out))
    have Uh1 := Lib.hid (hu1.sl (S1.out.ext HE10.out))
    obtain ⟨p0, p1, p2, _, _, _⟩ := HBm10.out.three
    obtain ⟨p0, p1, p2, _, _, _⟩ := HBo10.out.three
    obtain ⟨p0, p1, p2, _, _, _⟩ := HBp10.out.three
    obtain ⟨p0, p1, p2, _, _, _⟩ := HBq10.out.three
    obtain ⟨p0, p1, p2, _, _, _⟩ := HBs10.out.three
    obtain ⟨p0, p1, p2, _, _, _⟩ := HBt10.out.three
    obtain ⟨p0, p1, p2, _, _, _⟩ := HBg10.out.three
    obtain ⟨q0, q1, q2, _, _, _⟩ := (HBm10.out.alloc (.cells #[.int .i64 n, .slice dh0 z0.length fh0, .slice dh1 z1.length fh1] 25)).three
    obtain ⟨q0, q1, q2, _, _, _⟩ := (HBo10.out.alloc (.cells #[.int .i64 n, .slice dh0 z0.length fh0, .slice dh1 z1.length fh1] 25)).three
    obtain ⟨q0, q1, q2, _, _, _⟩ := (HBp10.out.alloc (.cells #[.int .i64 n, .slice dh0 z0.length fh0, .slice dh1 z1.length fh1] 25)).three
    obtain ⟨q0, q1, q2, _, _, _⟩ := (HBq10.out.alloc (.cells #[.int .i64 n, .slice dh0 z0.length fh0, .slice dh1 z1.length fh1] 25)).three
    obtain ⟨q0, q1, q2, _, _, _⟩ := (HBs10.out.alloc (.cells #[.int .i64 n, .slice dh0 z0.length fh0, .slice dh1 z1.length fh1] 25)).three
    obtain ⟨q0, q1, q2, _, _, _⟩ := (HBt10.out.alloc (.cells #[.int .i64 n, .slice dh0 z0.length fh0, .slice dh1 z1.length fh1] 25)).three
    obtain ⟨q0, q1, q2, _, _, _⟩ := (HBg10.out.alloc (.cells #[.int .i64 n, .slice dh0 z0.length fh0, .slice dh1 z1.length fh1] 25)).three
    clear hx hu0 hu1
    go_wp2_with fail
    have HBh10 := Lib.hid (Blk.new w10 #[.int .i64 n, .slice dh0 z0.length fh0, .slice dh1 z1.length fh1] 25)
    generalize hWA : w10.alloc (.cells #[.int .i64 n, .slice dh0 z0.length fh0, .slice dh1 z1.length fh1] 25) = WA
    have HEA := Lib.hid (show Ext w WA from hWA ▸ HE10.out.alloc _)
    have HBmA := Lib.hid (show Blk WA (w.heap.size + 1) #[.int .i64 n, .slice b0 xs.length c0, .slice b1 ys.length c1] 25 from hWA ▸ HBm10.out.alloc _)
    have HBoA := Lib.hid (show Blk WA (w.heap.size + 1 + 1) #[.int .i64 k, .slice b2 zs.length c2, .slice b3 us.length c3] 25 from hWA ▸ HBo10.out.alloc _)
    have HBpA := Lib.hid (show Blk WA (w5.heap.size) #[.int .i64 n, .slice dp0 x0.length fp0, .slice dp1 x1.length fp1] 25 from hWA ▸ HBp10.out.alloc _)
    have HBqA := Lib.hid (show Blk WA (w6.heap.size) #[.int .i64 n, .slice dq0 x0.length fq0, .slice dq1 x1.length fq1] 25 from hWA ▸ HBq10.out.alloc _)
    have HBsA := Lib.hid (show Blk WA (w7.heap.size) #[.int .i64 n, .slice ds0 y0.length fs0, .slice ds1 y1.length fs1] 25 from hWA ▸ HBs10.out.alloc _)
    have HBtA := Lib.hid (show Blk WA (w8.heap.size) #[.int .i64 n, .slice dt0 y0.length ft0, .slice dt1 y1.length ft1] 25 from hWA ▸ HBt10.out.alloc _)
    have HBgA := Lib.hid (show Blk WA (w9.heap.size) #[.int .i64 n, .slice dg0 z0.length fg0, .slice dg1 z1.length fg1] 25 from hWA ▸ HBg10.out.alloc _)
    have HBhA := Lib.hid (show Blk WA w10.heap.size #[.int .i64 n, .slice dh0 z0.length fh0, .slice dh1 z1.length fh1] 25 from hWA ▸ HBh10.out)
    have Ap0 := Lib.hid (Up0.out.ext (show Ext _ WA from hWA ▸ HXp10.out.alloc _))
    have Ap1 := Lib.hid (Up1.out.ext (show Ext _ WA from hWA ▸ HXp10.out.alloc _))
    have Aq0 := Lib.hid (Uq0.out.ext (show Ext _ WA from hWA ▸ HXq10.out.alloc _))
    have Aq1 := Lib.hid (Uq1.out.ext (show Ext _ WA from hWA ▸ HXq10.out.alloc _))
    have As0 := Lib.hid (Us0.out.ext (show Ext _ WA from hWA ▸ HXs10.out.alloc _))
    have As1 := Lib.hid (Us1.out.ext (show Ext _ WA from hWA ▸ HXs10.out.alloc _))
    have At0 := Lib.hid (Ut0.out.ext (show Ext _ WA from hWA ▸ HXt10.out.alloc _))
    have At1 := Lib.hid (Ut1.out.ext (show Ext _ WA from hWA ▸ HXt10.out.alloc _))
    have Ag0 := Lib.hid (Ug0.out.ext (show Ext _ WA from hWA ▸ HXg10.out.alloc _))
    have Ag1 := Lib.hid (Ug1.out.ext (show Ext _ WA from hWA ▸ HXg10.out.alloc _))
    have Ah0 := Lib.hid (Uh0.out.ext (show Ext _ WA from hWA ▸ (Ext.refl w10).alloc _))
    have Ah1 := Lib.hid (Uh1.out.ext (show Ext _ WA from hWA ▸ (Ext.refl w10).alloc _))
    clear hWA
    have EPQ : Hid (∀ W, Ext WA W → Calls Try.prog 16 #[.agg #[.int .i64 n, .slice dp0 x0.length fp0, .slice dp1 x1.length fp1], .agg #[.int .i64 n, .slice dq0 x0.length fq0, .slice dq1 x1.length fq1]] W fun e W1 => e = .returned (.bool true) ∧ Ext W W1) := fun W h => by
      have := rsame_any n n _ _ _ _ x0 x1 x0 x1 W (Ap0.out.ext h) (Ap1.out.ext h) (Aq0.out.ext h) (Aq1.out.ext h)
      rwa [same_yes] at this
    have EST : Hid (∀ W, Ext WA W → Calls Try.prog 16 #[.agg #[.int .i64 n, .slice ds0 y0.length fs0, .slice ds1 y1.length fs1], .agg #[.int .i64 n, .slice dt0 y0.length ft0, .slice dt1 y1.length ft1]] W fun e W1 => e = .returned (.bool true) ∧ Ext W W1) := fun W h => by
      have := rsame_any n n _ _ _ _ y0 y1 y0 y1 W (As0.out.ext h) (As1.out.ext h) (At0.out.ext h) (At1.out.ext h)
      rwa [same_yes] at this
    have EGH : Hid (∀ W, Ext WA W → Calls Try.prog 16 #[.agg #[.int .i64 n, .slice dg0 z0.length fg0, .slice dg1 z1.length fg1], .agg #[.int .i64 n, .slice dh0 z0.length fh0, .slice dh1 z1.length fh1]] W fun e W1 => e = .returned (.bool true) ∧ Ext W W1) := fun W h => by
      have := rsame_any n n _ _ _ _ z0 z1 z0 z1 W (Ag0.out.ext h) (Ag1.out.ext h) (Ah0.out.ext h) (Ah1.out.ext h)
      rwa [same_yes] at this
    have HC : Hid (∀ W, Ext WA W → Calls Try.prog 21 #[.agg #[.int .i64 n, .slice b0 xs.length c0, .slice b1 ys.length c1], .int .i64 c] W fun e W1 => ∃ u0 u1, e = .returned (.agg #[.int .i64 n, u0, u1]) ∧ Hid (∀ V, Ext W1 V → Sl .u64 V u0 l0 ∧ Sl .u64 V u1 l1) ∧ Ext W W1) := fun W h => (HC0.out W (HEA.out.trans h)).mono fun e W1 ⟨u0, u1, he, hu0, hu1, hx⟩ => ⟨u0, u1, he, fun V hV => ⟨(hu0.sl (S0.out.ext (HEA.out.trans (h.trans hx)))).ext hV, (hu1.sl (S1.out.ext (HEA.out.trans (h.trans hx)))).ext hV⟩, hx⟩
    have HD : Hid (∀ W, Ext WA W → Calls Try.prog 29 #[.agg #[.int .i64 n, .slice b0 xs.length c0, .slice b1 ys.length c1], .int .i64 c] W fun e W1 => ∃ u0 u1, e = .returned (.agg #[.int .i64 n, u0, u1]) ∧ Hid (∀ V, Ext W1 V → Sl .u64 V u0 l0 ∧ Sl .u64 V u1 l1) ∧ Ext W W1) := fun W h => (HD0.out W (HEA.out.trans h)).mono fun e W1 ⟨u0, u1, he, hu0, hu1, hx⟩ => ⟨u0, u1, he, fun V hV => ⟨(hu0.sl (S0.out.ext (HEA.out.trans (h.trans hx)))).ext hV, (hu1.sl (S1.out.ext (HEA.out.trans (h.trans hx)))).ext hV⟩, hx⟩
    have ECC : Hid (∀ W u0 u1 y0 y1, (Sl .u64 W u0 l0 ∧ Sl .u64 W u1 l1) → (Sl .u64 W y0 l0 ∧ Sl .u64 W y1 l1) → Calls Try.prog 16 #[.agg #[.int .i64 n, u0, u1], .agg #[.int .i64 n, y0, y1]] W fun e W1 => e = .returned (.bool true) ∧ Ext W W1) := fun W u0 u1 y0 y1 h g => by
      have := rsame_any n n u0 u1 y0 y1 l0 l1 l0 l1 W h.1 h.2 g.1 g.2
      rwa [same_yes] at this
    have HQa := Lib.hid (fun (W : World) (h : Ext WA W) => HQ0.out W (HEA.out.trans h))
    have HQb := Lib.hid (fun (W : World) (h : Ext WA W) => HQ1.out W (HEA.out.trans h))
    have em0 : ∀ W : World, Ext WA W → W.cell? ⟨w.heap.size + 1, 0, none⟩ = some (.int .i64 n) := fun W h => (HBmA.out.ext h).three.1
    have em1 : ∀ W : World, Ext WA W → W.cell? ⟨w.heap.size + 1, 1, none⟩ = some (.slice b0 xs.length c0) := fun W h => (HBmA.out.ext h).three.2.1
    have em2 : ∀ W : World, Ext WA W → W.cell? ⟨w.heap.size + 1, 2, none⟩ = some (.slice b1 ys.length c1) := fun W h => (HBmA.out.ext h).three.2.2.1
    have eo0 : ∀ W : World, Ext WA W → W.cell? ⟨w.heap.size + 1 + 1, 0, none⟩ = some (.int .i64 k) := fun W h => (HBoA.out.ext h).three.1
    have eo1 : ∀ W : World, Ext WA W → W.cell? ⟨w.heap.size + 1 + 1, 1, none⟩ = some (.slice b2 zs.length c2) := fun W h => (HBoA.out.ext h).three.2.1
    have eo2 : ∀ W : World, Ext WA W → W.cell? ⟨w.heap.size + 1 + 1, 2, none⟩ = some (.slice b3 us.length c3) := fun W h => (HBoA.out.ext h).three.2.2.1
    have ep0 : ∀ W : World, Ext WA W → W.cell? ⟨w5.heap.size, 0, none⟩ = some (.int .i64 n) := fun W h => (HBpA.out.ext h).three.1
    have ep1 : ∀ W : World, Ext WA W → W.cell? ⟨w5.heap.size, 1, none⟩ = some (.slice dp0 x0.length fp0) := fun W h => (HBpA.out.ext h).three.2.1
    have ep2 : ∀ W : World, Ext WA W → W.cell? ⟨w5.heap.size, 2, none⟩ = some (.slice dp1 x1.length fp1) := fun W h => (HBpA.out.ext h).three.2.2.1
    have eq0 : ∀ W : World, Ext WA W → W.cell? ⟨w6.heap.size, 0, none⟩ = some (.int .i64 n) := fun W h => (HBqA.out.ext h).three.1
    have eq1 : ∀ W : World, Ext WA W → W.cell? ⟨w6.heap.size, 1, none⟩ = some (.slice dq0 x0.length fq0) := fun W h => (HBqA.out.ext h).three.2.1
    have eq2 : ∀ W : World, Ext WA W → W.cell? ⟨w6.heap.size, 2, none⟩ = some (.slice dq1 x1.length fq1) := fun W h => (HBqA.out.ext h).three.2.2.1
    have es0 : ∀ W : World, Ext WA W → W.cell? ⟨w7.heap.size, 0, none⟩ = some (.int .i64 n) := fun W h => (HBsA.out.ext h).three.1
    have es1 : ∀ W : World, Ext WA W → W.cell? ⟨w7.heap.size, 1, none⟩ = some (.slice ds0 y0.length fs0) := fun W h => (HBsA.out.ext h).three.2.1
    have es2 : ∀ W : World, Ext WA W → W.cell? ⟨w7.heap.size, 2, none⟩ = some (.slice ds1 y1.length fs1) := fun W h => (HBsA.out.ext h).three.2.2.1
    have et0 : ∀ W : World, Ext WA W → W.cell? ⟨w8.heap.size, 0, none⟩ = some (.int .i64 n) := fun W h => (HBtA.out.ext h).three.1
    have et1 : ∀ W : World, Ext WA W → W.cell? ⟨w8.heap.size, 1, none⟩ = some (.slice dt0 y0.length ft0) := fun W h => (HBtA.out.ext h).three.2.1
    have et2 : ∀ W : World, Ext WA W → W.cell? ⟨w8.heap.size, 2, none⟩ = some (.slice dt1 y1.length ft1) := fun W h => (HBtA.out.ext h).three.2.2.1
    have eg0 : ∀ W : World, Ext WA W → W.cell? ⟨w9.heap.size, 0, none⟩ = some (.int .i64 n) := fun W h => (HBgA.out.ext h).three.1
    have eg1 : ∀ W : World, Ext WA W → W.cell? ⟨w9.heap.size, 1, none⟩ = some (.slice dg0 z0.length fg0) := fun W h => (HBgA.out.ext h).three.2.1
    have eg2 : ∀ W : World, Ext WA W → W.cell? ⟨w9.heap.size, 2, none⟩ = some (.slice dg1 z1.length fg1) := fun W h => (HBgA.out.ext h).three.2.2.1
    have eh0 : ∀ W : World, Ext WA W → W.cell? ⟨w10.heap.size, 0, none⟩ = some (.int .i64 n) := fun W h => (HBhA.out.ext h).three.1
    have eh1 : ∀ W : World, Ext WA W → W.cell? ⟨w10.heap.size, 1, none⟩ = some (.slice dh0 z0.length fh0) := fun W h => (HBhA.out.ext h).three.2.1
    have eh2 : ∀ W : World, Ext WA W → W.cell? ⟨w10.heap.size, 2, none⟩ = some (.slice dh1 z1.length fh1) := fun W h => (HBhA.out.ext h).three.2.2.1
    go_region_held3 (fun W : World => Ext WA W) (first | exact (Ext.refl WA).drew | exact Ext.trans (by assumption) hxq) (first
      | (go_at_call 16; (with_reducible refine (EPQ.out _ (by assumption)).mono ?_); rintro e wq ⟨rfl, hxq⟩)
      | (go_at_call 16; (with_reducible refine (EST.out _ (by assumption)).mono ?_); rintro e wq ⟨rfl, hxq⟩)
      | (go_at_call 16; (with_reducible refine (EGH.out _ (by assumption)).mono ?_); rintro e wq ⟨rfl, hxq⟩)
      | (go_at_call 21; (with_reducible refine (HC.out _ (by assumption)).mono ?_); rintro e wq ⟨u0, u1, rfl, hUa, hxq⟩)
      | (go_at_call 29; (with_reducible refine (HD.out _ (by assumption)).mono ?_); rintro e wq ⟨y0, y1, rfl, hUb, hxq⟩)
      | (go_at_call 16; (with_reducible refine (ECC.out _ u0 u1 y0 y1 (hUa.out _ (by first | exact Ext.refl _ | assumption)) (hUb.out _ (by first | exact Ext.refl _ | assumption))).mono ?_); rintro e wq ⟨rfl, hxq⟩))
    all_goals
      go_wp2_with fail
      go_region_held3 (fun W : World => Ext WA W) (first | exact Ext.drew (by assumption) | exact Ext.trans (by assumption) hxr) (first
        | (go_at_call 30; (with_reducible refine (HQa.out _ (by assumption)).mono ?_); rintro e wq ⟨rfl, hxr⟩)
        | (go_at_call 16; (with_reducible refine (HQb.out _ (by assumption)).mono ?_); rintro e wq ⟨rfl, hxr⟩))
      all_goals
        go_wp2_with fail
        go_ret
        exact ⟨by first | rfl | (simp; done), HEA.out.trans (by assumption)⟩

theorem walk (v0 : Value) (W : World) (r0 : Rd.V Try.prog W 63 v0) : Calls Try.prog 10 #[v0] W fun e w' => e = .returned (.bool true) ∧ Below W.heap.size W w' := by
  have k3 : Try.prog.cellsOf 25 = 3 := by kernel_rfl
  obtain ⟨cs, rfl, hs⟩ := r0.struct Try.underlying63
  obtain ⟨hl, _⟩ := hs.struct Try.underlying63
  rw [show Try.prog.cellsOf 63 = 10 by kernel_rfl] at hl
  match cs, hl with
  | [c0, c1, c2, c3, c4, c5, c6, c7, c8, c9], _ =>
    obtain ⟨n, v0, v1, xs, ys, hm, h0, h1, wx, wy, wn⟩ := An.mem_R (Rd.R.field Try.underlying63 hs 0 rfl 0 3 25 rfl rfl k3)
    simp at hm
    obtain ⟨rfl, rfl, rfl⟩ := hm
    obtain ⟨a, ha, wa⟩ := (Rd.R.field Try.underlying63 hs 1 rfl 3 1 26 rfl rfl (by kernel_rfl)).int Try.underlying26
    obtain rfl : c3 = .int .u64 a := by simpa using ha
    have ba := Rd.u64_bd wa
    obtain ⟨b, hb, wb⟩ := (Rd.R.field Try.underlying63 hs 2 rfl 4 1 26 rfl rfl (by kernel_rfl)).int Try.underlying26
    obtain rfl : c4 = .int .u64 b := by simpa using hb
    have bb := Rd.u64_bd wb
    obtain ⟨v, hv, wv⟩ := (Rd.R.field Try.underlying63 hs 3 rfl 5 1 26 rfl rfl (by kernel_rfl)).int Try.underlying26
    obtain rfl : c5 = .int .u64 v := by simpa using hv
    have bv := Rd.u64_bd wv
    obtain ⟨c, hc, wc⟩ := (Rd.R.field Try.underlying63 hs 4 rfl 6 1 3 rfl rfl (by kernel_rfl)).int Try.underlying3
    obtain rfl : c6 = .int .i64 c := by simpa using hc
    have bc := Rd.i64_bd wc
    obtain ⟨k, v2, v3, zs, us, hm, h2, h3, wz, wu, wk⟩ := An.mem_R (Rd.R.field Try.underlying63 hs 5 rfl 7 3 25 rfl rfl k3)
    simp at hm
    obtain ⟨rfl, rfl, rfl⟩ := hm
    exact (go n c1 c2 xs ys a b v c k c8 c9 zs us ba.1 ba.2 bb.1 bb.2 bc.1 bc.2 W h0 h1 h2 h3).mono fun e w' ⟨he, hw⟩ => ⟨he, hw.below⟩

open Go.ChangeShapes Go.WideShapes Go.ChangeAt Go.RowKit
theorem own : ownKnob Try.prog.godebug = none := by kernel_rfl
theorem laidOut : laidOutB Try.prog = true := by kernel_rfl

set_option maxRecDepth 100000 in
theorem lifted (os : Os) (started : os.Started) (H : Type) (enc : TypeId × Value → H) :
    ReturnsInHanded {} Try.checked os 10 .any (Rows.arenaActsSpec.pre6 enc Try.prog Try.f10 Rows.arenaActsRow.domain false) (Rows.arenaActsSpec.post enc Try.prog Try.f10 false true false false) := by
  refine returnsInHanded_of_change_sized (C := Try.checked) own started (by kernel_rfl) Try.func10
    (ChangeSpec.witness6 (enc := enc) (C := Try.checked) false ⟨#[], #[.agg #[.int .i64 0, .slice none 0 0, .slice none 0 0, .int .u64 0, .int .u64 0, .int .u64 0, .int .i64 0, .int .i64 0, .slice none 0 0, .slice none 0 0]], []⟩ 12 (by kernel_rfl) (by kernel_rfl) (by kernel_rfl) (by kernel_rfl)) ?_
  intro W base args ds gs before hval0 hW _ hsz0 _
  have hval : ∀ (j : Nat) t v, Try.f10.params[j]? = some t → args[j]? = some v → Value.okWide Try.prog W .any base t v := hval0
  have hW' := hW
  obtain ⟨p, q, hA0, hV, rfl, _, _⟩ := hW
  have hA : DataW.TrodAll enc Try.prog W 0 (fun _ => true) true Try.f10.params.toList args.toList ds p := hA0
  obtain ⟨rfl, rfl⟩ := trodVars_none hV
  have hsz : (DataW.weightsEach Try.prog (Try.f10.params.toList ++ []) (ds ++ [])).all (· ≤ reachBytes) = true := hsz0
  rw [Try.params10] at hA hval hsz
  have hA2 := hA
  obtain ⟨v0, vs0, d0, ds0, p0, q0, hargs, rfl, rfl, h0, r0⟩ := trodAll_cons hA2
  obtain ⟨rfl, rfl, rfl⟩ := trodAll_nil r0
  obtain rfl : args = #[v0] := by cases args; simp_all
  have hR := Rd.trodAll_V hA (fun n hn => by simpa using List.all_eq_true.1 hsz n (by simpa using hn)) (fun j t v hj hv => hval j t v (by simpa using hj) (by simpa using hv))
  clear hA0 hval0 hA2
  refine (walk v0 W (hR 0 63 v0 rfl rfl)).mono fun e W' ⟨he, bel⟩ => ?_
  subst he
  exact ⟨_, rfl, _, _, _, [], _, [], hW', trodAll_mk1 (shut_bool Try.underlying4 _), Rd.trodAll_below laidOut bel (List.forall_mem_cons.2 ⟨⟨by kernel_rfl, of_decide_eq_true (by kernel_rfl)⟩, fun _ h => by cases h⟩) hA, rfl, bel.frame _, fun h => by cases h⟩

theorem over : Rows.arenaActsRow.holds Try.pinned (OpenSpec.ofChange Rows.arenaActsSpec) :=
  OpenClaim.holds_of_wide 10 Try.f10 rfl rfl rfl rfl rfl rfl rfl ⟨rfl, rfl, rfl, rfl, rfl⟩ rfl rfl rfl rfl rfl (by kernel_rfl) Try.func10 (by kernel_rfl)
    (of_decide_eq_true (by kernel_rfl)) (by unfold Func.isWrapper; first | (rw [if_pos (by decide +kernel)]; kernel_rfl) | (rw [if_neg (by decide +kernel)]; exact ⟨rfl, rfl⟩))
    (fun os started H enc _ => lifted os started H enc)

theorem proved : Rows.ArenaActsSaid := over
#print axioms proved
end Go.Proofs.Ytjobhdcjjegpfaa.arenaActs
