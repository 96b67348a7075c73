/- ArenaRefuses holds for every input: where something is refused memory is as it was. No condition. -/
import Derived.Test.YtjobhdcjjegpfaaRows
import Derived.Test.YtjobhdcjjegpfaaAn
namespace Go.Proofs.Ytjobhdcjjegpfaa.arenaRefuses
open Go.RowKit Go.Proofs.Ytjobhdcjjegpfaa Go.Proofs.Ytjobhdcjjegpfaa.Ar
set_option linter.unusedVariables false

theorem same_yes (n : Int) (xs ys : List Int) : sameB n n xs ys xs ys = true := by simp [sameB]
theorem right_yes {n : Int} {xs ys : List Int} (h : Ap.Rt n xs ys) : rightB n xs.length ys.length = true := rightB_iff.2 h

set_option maxHeartbeats 8000000 in
theorem go (n : Int) (v0 v1 : Value) (xs ys : List Int) (a b v c : Int) (aL : 0 ≤ a) (aH : a ≤ 18446744073709551615) (bL : 0 ≤ b) (bH : b ≤ 18446744073709551615) (vL : 0 ≤ v) (vH : v ≤ 18446744073709551615) (cL : -9223372036854775808 ≤ c) (cH : c ≤ 9223372036854775807) (w : World) (h0 : Sl .u64 w v0 xs) (h1 : Sl .u64 w v1 ys) :
    Calls Try.prog 9 #[.agg #[.int .i64 n, v0, v1, .int .u64 a, .int .u64 b, .int .u64 v, .int .i64 c]] w fun e w' => e = .returned (.bool true) ∧ Ext w w' := by
  obtain ⟨b0, c0, rfl⟩ := Row.form h0
  obtain ⟨b1, c1, rfl⟩ := Row.form h1
  have HF := Lib.hid (fun (w' : World) (he : Ext w w') => An.few_any n _ _ xs ys w' (h0.ext he) (h1.ext he))
  cases hf : An.fewB n xs.length ys.length with
  | false =>
    rw [hf] at HF
    clear h0 h1 hf
    go_enter Try.func9, Try.ntmps9
    go_wp2_with fail
    refine (An.shown_any _).mono ?_; rintro e w1 ⟨rfl, hx⟩
    have HE1 := Lib.hid (Ext.trans (by repeat (first | exact Ext.refl _ | assumption | refine Ext.alloc ?_ _ | refine Ext.drewN ?_ _ | refine Ext.drew ?_ | refine Ext.trans ?_ (by assumption))) hx : Ext w w1)
    have HBm1 := Lib.hid (show Blk w1 (w.heap.size + 1) #[.int .i64 n, .slice b0 xs.length c0, .slice b1 ys.length c1] 25 from (blk_at (by simp)).ext hx)
    obtain ⟨p0, p1, p2, _, _, _⟩ := HBm1.out.three
    clear hx
    go_wp2_with fail
    refine (HF.out _ HE1.out).mono ?_; rintro e w2 ⟨rfl, hx⟩
    have HE2 := Lib.hid (HE1.out.trans hx)
    have HBm2 := Lib.hid (HBm1.out.ext hx)
    obtain ⟨p0, p1, p2, _, _, _⟩ := HBm2.out.three
    clear hx
    go_wp2_with fail
    go_ret
    exact ⟨by first | rfl | (simp; done), HE2.out⟩
  | true =>
    obtain ⟨hr, h200⟩ := An.few_right hf
    rw [hf] at HF
    have HS := Lib.hid (fun (w' : World) (he : Ext w w') => store_any n _ _ xs ys a v aL aH hr w' (h0.ext he) (h1.ext he))
    have HW := Lib.hid (fun (w' : World) (he : Ext w w') => swap_any n _ _ xs ys a v b aL aH hr w' (h0.ext he) (h1.ext he))
    have HM := Lib.hid (fun (w' : World) (he : Ext w w') => move_any n _ _ xs ys a b c aL aH bL bH cL cH hr w' (h0.ext he) (h1.ext he))
    have S0 := Lib.hid h0
    have S1 := Lib.hid h1
    have hrS := Lib.hid (right_yes (hr.st a v))
    have hrW := Lib.hid (right_yes (hr.sw a v b))
    have hrM := Lib.hid (right_yes (hr.mv a b c))
    have hcS : Ap.ldE n a = 0 ∨ ((Ap.ldE n a == 0) = false ∧ Hid (sameB n n (Ap.st 0 n xs a v) (Ap.st 1 n ys a v) xs ys = true)) := by
      cases ho : Ap.okAt n a 1 with
      | true => left; unfold Ap.ldE; rw [if_pos ho]
      | false => right; exact ⟨by unfold Ap.ldE; rw [ho]; rfl, by show _ = _; unfold Ap.st; rw [if_neg (by rw [ho]; simp), if_neg (by rw [ho]; simp)]; exact same_yes ..⟩
    have hcW : Ap.swD n xs ys a v = true ∨ (Ap.swD n xs ys a v = false ∧ Hid (sameB n n (Ap.sw 0 n xs ys xs a v b) (Ap.sw 1 n xs ys ys a v b) xs ys = true)) := by
      cases ho : Ap.swD n xs ys a v with
      | true => left; rfl
      | false => right; exact ⟨rfl, by show _ = _; unfold Ap.sw; rw [if_neg (by rw [ho]; simp), if_neg (by rw [ho]; simp)]; exact same_yes ..⟩
    have hkk : Ap.swD n xs ys a v = true → Ap.ldE n a = 0 := fun h => by
      unfold Ap.swD at h
      rw [Bool.and_eq_true] at h
      unfold Ap.ldE
      rw [if_pos h.1]
    have hcM : Ap.mvE n a b c = 0 ∨ ((Ap.mvE n a b c == 0) = false ∧ Hid (sameB n n (Ap.mv 0 n xs ys xs a b c) (Ap.mv 1 n xs ys ys a b c) xs ys = true)) := by
      cases ho : Ap.mvOk n a b c with
      | true =>
        left
        unfold Ap.mvE
        rw [if_neg (fun h => by rw [Ap.mvOk_neg h] at ho; cases ho), if_pos ho]
      | false =>
        right
        refine ⟨?_, by show _ = _; unfold Ap.mv; rw [if_neg (by rw [ho]; simp), if_neg (by rw [ho]; simp)]; exact same_yes ..⟩
        unfold Ap.mvE
        rw [ho]
        split <;> rfl
    clear h0 h1 hr hf
    generalize Ap.st 0 n xs a v = x0 at HS hrS hcS
    generalize Ap.st 1 n ys a v = x1 at HS hrS hcS
    generalize Ap.sw 0 n xs ys xs a v b = y0 at HW hrW hcW
    generalize Ap.sw 1 n xs ys ys a v b = y1 at HW hrW hcW
    generalize Ap.mv 0 n xs ys xs a b c = z0 at HM hrM hcM
    generalize Ap.mv 1 n xs ys ys a b c = z1 at HM hrM hcM
    generalize Ap.swD n xs ys a v = did at HW hcW hkk
    obtain ⟨eS, heS⟩ : ∃ e, Ap.ldE n a = e := ⟨_, rfl⟩
    rw [heS] at HS HW hcS hkk
    obtain ⟨eM, heM⟩ : ∃ e, Ap.mvE n a b c = e := ⟨_, rfl⟩
    rw [heM] at HM hcM
    clear heS heM
    rcases hcS with rfl | ⟨hS, Qx⟩
    all_goals rcases hcW with rfl | ⟨rfl, Qy⟩
    all_goals first | (exfalso; rw [hkk rfl] at hS; exact absurd hS (by decide)) | clear hkk
    all_goals rcases hcM with rfl | ⟨hM, Qz⟩
    all_goals
      go_enter Try.func9, Try.ntmps9
      go_wp2_with fail
      refine (An.shown_any _).mono ?_; rintro e w1 ⟨rfl, hx⟩
      have HE1 := Lib.hid (Ext.trans (by repeat (first | exact Ext.refl _ | assumption | refine Ext.alloc ?_ _ | refine Ext.drewN ?_ _ | refine Ext.drew ?_ | refine Ext.trans ?_ (by assumption))) hx : Ext w w1)
      have HBm1 := Lib.hid (show Blk w1 (w.heap.size + 1) #[.int .i64 n, .slice b0 xs.length c0, .slice b1 ys.length c1] 25 from (blk_at (by simp)).ext hx)
      obtain ⟨p0, p1, p2, _, _, _⟩ := HBm1.out.three
      clear hx
      go_wp2_with fail
      refine (HF.out _ HE1.out).mono ?_; rintro e w2 ⟨rfl, hx⟩
      have HE2 := Lib.hid (HE1.out.trans hx)
      have HBm2 := Lib.hid (HBm1.out.ext hx)
      obtain ⟨p0, p1, p2, _, _, _⟩ := HBm2.out.three
      clear hx
      go_wp2_with fail
      refine (HS.out _ HE2.out).mono ?_; rintro e w3 ⟨u0, u1, rfl, hu0, hu1, hx⟩
      have HE3 := Lib.hid (HE2.out.trans hx)
      have HBm3 := Lib.hid (HBm2.out.ext hx)
      obtain ⟨dx0, fx0, rfl⟩ := Row.form (hu0.sl (S0.out.ext HE3.out))
      obtain ⟨dx1, fx1, rfl⟩ := Row.form (hu1.sl (S1.out.ext HE3.out))
      have Ux0 := Lib.hid (hu0.sl (S0.out.ext HE3.out))
      have Ux1 := Lib.hid (hu1.sl (S1.out.ext HE3.out))
      obtain ⟨p0, p1, p2, _, _, _⟩ := HBm3.out.three
      obtain ⟨q0, q1, q2, _, _, _⟩ := (HBm3.out.alloc (.cells #[.int .i64 n, .slice dx0 x0.length fx0, .slice dx1 x1.length fx1] 25)).three
      clear hx hu0 hu1
      go_wp2_with fail
      have HBx3 := Lib.hid (Blk.new w3 #[.int .i64 n, .slice dx0 x0.length fx0, .slice dx1 x1.length fx1] 25)
      refine (HW.out _ (HE3.out.alloc _)).mono ?_; rintro e w4 ⟨u0, u1, rfl, hu0, hu1, hx⟩
      have HE4 := Lib.hid ((HE3.out.alloc _).trans hx)
      have HBm4 := Lib.hid ((HBm3.out.alloc _).ext hx)
      have HBx4 := Lib.hid (HBx3.out.ext hx)
      have HXx4 := Lib.hid (((Ext.refl _).alloc _).trans hx)
      obtain ⟨dy0, fy0, rfl⟩ := Row.form (hu0.sl (S0.out.ext HE4.out))
      obtain ⟨dy1, fy1, rfl⟩ := Row.form (hu1.sl (S1.out.ext HE4.out))
      have Uy0 := Lib.hid (hu0.sl (S0.out.ext HE4.out))
      have Uy1 := Lib.hid (hu1.sl (S1.out.ext HE4.out))
      obtain ⟨p0, p1, p2, _, _, _⟩ := HBm4.out.three
      obtain ⟨p0, p1, p2, _, _, _⟩ := HBx4.out.three
      obtain ⟨q0, q1, q2, _, _, _⟩ := (HBm4.out.alloc (.cells #[.int .i64 n, .slice dy0 y0.length fy0, .slice dy1 y1.length fy1] 25)).three
      obtain ⟨q0, q1, q2, _, _, _⟩ := (HBx4.out.alloc (.cells #[.int .i64 n, .slice dy0 y0.length fy0, .slice dy1 y1.length fy1] 25)).three
      clear hx hu0 hu1
      go_wp2_with fail
      have HBy4 := Lib.hid (Blk.new w4 #[.int .i64 n, .slice dy0 y0.length fy0, .slice dy1 y1.length fy1] 25)
      refine (HM.out _ (HE4.out.alloc _)).mono ?_; rintro e w5 ⟨u0, u1, rfl, hu0, hu1, hx⟩
      have HE5 := Lib.hid ((HE4.out.alloc _).trans hx)
      have HBm5 := Lib.hid ((HBm4.out.alloc _).ext hx)
      have HBx5 := Lib.hid ((HBx4.out.alloc _).ext hx)
      have HXx5 := Lib.hid ((HXx4.out.alloc _).trans hx)
      have HBy5 := Lib.hid (HBy4.out.ext hx)
      have HXy5 := Lib.hid (((Ext.refl _).alloc _).trans hx)
      obtain ⟨dz0, fz0, rfl⟩ := Row.form (hu0.sl (S0.out.ext HE5.out))
      obtain ⟨dz1, fz1, rfl⟩ := Row.form (hu1.sl (S1.out.ext HE5.out))
      have Uz0 := Lib.hid (hu0.sl (S0.out.ext HE5.out))
      have Uz1 := Lib.hid (hu1.sl (S1.out.ext HE5.out))
      obtain ⟨p0, p1, p2, _, _, _⟩ := HBm5.out.three
      obtain ⟨p0, p1, p2, _, _, _⟩ := HBx5.out.three
      obtain ⟨p0, p1, p2, _, _, _⟩ := HBy5.out.three
      obtain ⟨q0, q1, q2, _, _, _⟩ := (HBm5.out.alloc (.cells #[.int .i64 n, .slice dz0 z0.length fz0, .slice dz1 z1.length fz1] 25)).three
      obtain ⟨q0, q1, q2, _, _, _⟩ := (HBx5.out.alloc (.cells #[.int .i64 n, .slice dz0 z0.length fz0, .slice dz1 z1.length fz1] 25)).three
      obtain ⟨q0, q1, q2, _, _, _⟩ := (HBy5.out.alloc (.cells #[.int .i64 n, .slice dz0 z0.length fz0, .slice dz1 z1.length fz1] 25)).three
      clear hx hu0 hu1
      have HBz5 := Lib.hid (Blk.new w5 #[.int .i64 n, .slice dz0 z0.length fz0, .slice dz1 z1.length fz1] 25)
      obtain ⟨WA, hWA⟩ : ∃ W, W = (w5.alloc (.cells #[.int .i64 n, .slice dz0 z0.length fz0, .slice dz1 z1.length fz1] 25)) := ⟨_, rfl⟩
      have HEA := Lib.hid (show Ext w WA from hWA ▸ HE5.out.alloc _)
      have HBmA := Lib.hid (show Blk WA (w.heap.size + 1) #[.int .i64 n, .slice b0 xs.length c0, .slice b1 ys.length c1] 25 from hWA ▸ HBm5.out.alloc _)
      have HBxA := Lib.hid (show Blk WA (w3.heap.size) #[.int .i64 n, .slice dx0 x0.length fx0, .slice dx1 x1.length fx1] 25 from hWA ▸ HBx5.out.alloc _)
      have HByA := Lib.hid (show Blk WA (w4.heap.size) #[.int .i64 n, .slice dy0 y0.length fy0, .slice dy1 y1.length fy1] 25 from hWA ▸ HBy5.out.alloc _)
      have HBzA := Lib.hid (show Blk WA w5.heap.size #[.int .i64 n, .slice dz0 z0.length fz0, .slice dz1 z1.length fz1] 25 from hWA ▸ HBz5.out)
      have Ax0 := Lib.hid (Ux0.out.ext (show Ext _ WA from hWA ▸ HXx5.out.alloc _))
      have Ax1 := Lib.hid (Ux1.out.ext (show Ext _ WA from hWA ▸ HXx5.out.alloc _))
      have Ay0 := Lib.hid (Uy0.out.ext (show Ext _ WA from hWA ▸ HXy5.out.alloc _))
      have Ay1 := Lib.hid (Uy1.out.ext (show Ext _ WA from hWA ▸ HXy5.out.alloc _))
      have Az0 := Lib.hid (Uz0.out.ext (show Ext _ WA from hWA ▸ (Ext.refl w5).alloc _))
      have Az1 := Lib.hid (Uz1.out.ext (show Ext _ WA from hWA ▸ (Ext.refl w5).alloc _))
      have hA : Ext WA WA := Ext.refl _
      have Rx : Hid (∀ W, Ext WA W → Calls Try.prog 20 #[.agg #[.int .i64 n, .slice dx0 x0.length fx0, .slice dx1 x1.length fx1]] W fun e W1 => e = .returned (.bool true) ∧ Ext WA W1) := fun W h => by
        have := rright_any n _ _ x0 x1 W (Ax0.out.ext h) (Ax1.out.ext h)
        rw [hrS.out] at this
        exact this.mono fun e W1 h1 => ⟨h1.1, h.trans h1.2⟩
      try have Ex : Hid (∀ W, Ext WA W → Calls Try.prog 16 #[.agg #[.int .i64 n, .slice dx0 x0.length fx0, .slice dx1 x1.length fx1], .agg #[.int .i64 n, .slice b0 xs.length c0, .slice b1 ys.length c1]] W fun e W1 => e = .returned (.bool true) ∧ Ext WA W1) := fun W h => by
            have := rsame_any n n _ _ _ _ x0 x1 xs ys W (Ax0.out.ext h) (Ax1.out.ext h) (S0.out.ext (HEA.out.trans h)) (S1.out.ext (HEA.out.trans h))
            rw [Qx.out] at this
            exact this.mono fun e W1 h1 => ⟨h1.1, h.trans h1.2⟩
      have Ry : Hid (∀ W, Ext WA W → Calls Try.prog 20 #[.agg #[.int .i64 n, .slice dy0 y0.length fy0, .slice dy1 y1.length fy1]] W fun e W1 => e = .returned (.bool true) ∧ Ext WA W1) := fun W h => by
        have := rright_any n _ _ y0 y1 W (Ay0.out.ext h) (Ay1.out.ext h)
        rw [hrW.out] at this
        exact this.mono fun e W1 h1 => ⟨h1.1, h.trans h1.2⟩
      try have Ey : Hid (∀ W, Ext WA W → Calls Try.prog 16 #[.agg #[.int .i64 n, .slice dy0 y0.length fy0, .slice dy1 y1.length fy1], .agg #[.int .i64 n, .slice b0 xs.length c0, .slice b1 ys.length c1]] W fun e W1 => e = .returned (.bool true) ∧ Ext WA W1) := fun W h => by
            have := rsame_any n n _ _ _ _ y0 y1 xs ys W (Ay0.out.ext h) (Ay1.out.ext h) (S0.out.ext (HEA.out.trans h)) (S1.out.ext (HEA.out.trans h))
            rw [Qy.out] at this
            exact this.mono fun e W1 h1 => ⟨h1.1, h.trans h1.2⟩
      have Rz : Hid (∀ W, Ext WA W → Calls Try.prog 20 #[.agg #[.int .i64 n, .slice dz0 z0.length fz0, .slice dz1 z1.length fz1]] W fun e W1 => e = .returned (.bool true) ∧ Ext WA W1) := fun W h => by
        have := rright_any n _ _ z0 z1 W (Az0.out.ext h) (Az1.out.ext h)
        rw [hrM.out] at this
        exact this.mono fun e W1 h1 => ⟨h1.1, h.trans h1.2⟩
      try have Ez : Hid (∀ W, Ext WA W → Calls Try.prog 16 #[.agg #[.int .i64 n, .slice dz0 z0.length fz0, .slice dz1 z1.length fz1], .agg #[.int .i64 n, .slice b0 xs.length c0, .slice b1 ys.length c1]] W fun e W1 => e = .returned (.bool true) ∧ Ext WA W1) := fun W h => by
            have := rsame_any n n _ _ _ _ z0 z1 xs ys W (Az0.out.ext h) (Az1.out.ext h) (S0.out.ext (HEA.out.trans h)) (S1.out.ext (HEA.out.trans h))
            rw [Qz.out] at this
            exact this.mono fun e W1 h1 => ⟨h1.1, h.trans h1.2⟩
      subst hWA
      obtain ⟨p0, p1, p2, _, _, _⟩ := HBmA.out.three
      obtain ⟨p0, p1, p2, _, _, _⟩ := HBxA.out.three
      obtain ⟨p0, p1, p2, _, _, _⟩ := HByA.out.three
      obtain ⟨p0, p1, p2, _, _, _⟩ := HBzA.out.three
      go_wp2_with (first
        | (go_at_call 16; (with_reducible refine (Ex.out _ (by assumption)).mono ?_); rintro e wq ⟨rfl, hA2⟩; obtain ⟨p0, p1, p2, _, _, _⟩ := (HBmA.out.ext hA2).three; obtain ⟨p0, p1, p2, _, _, _⟩ := (HBxA.out.ext hA2).three; obtain ⟨p0, p1, p2, _, _, _⟩ := (HByA.out.ext hA2).three; obtain ⟨p0, p1, p2, _, _, _⟩ := (HBzA.out.ext hA2).three)
        | (go_at_call 16; (with_reducible refine (Ey.out _ (by assumption)).mono ?_); rintro e wq ⟨rfl, hA2⟩; obtain ⟨p0, p1, p2, _, _, _⟩ := (HBmA.out.ext hA2).three; obtain ⟨p0, p1, p2, _, _, _⟩ := (HBxA.out.ext hA2).three; obtain ⟨p0, p1, p2, _, _, _⟩ := (HByA.out.ext hA2).three; obtain ⟨p0, p1, p2, _, _, _⟩ := (HBzA.out.ext hA2).three)
        | (go_at_call 16; (with_reducible refine (Ez.out _ (by assumption)).mono ?_); rintro e wq ⟨rfl, hA2⟩; obtain ⟨p0, p1, p2, _, _, _⟩ := (HBmA.out.ext hA2).three; obtain ⟨p0, p1, p2, _, _, _⟩ := (HBxA.out.ext hA2).three; obtain ⟨p0, p1, p2, _, _, _⟩ := (HByA.out.ext hA2).three; obtain ⟨p0, p1, p2, _, _, _⟩ := (HBzA.out.ext hA2).three)
        | (go_at_call 20; (with_reducible refine (Rx.out _ (by assumption)).mono ?_); rintro e wq ⟨rfl, hA2⟩; obtain ⟨p0, p1, p2, _, _, _⟩ := (HBmA.out.ext hA2).three; obtain ⟨p0, p1, p2, _, _, _⟩ := (HBxA.out.ext hA2).three; obtain ⟨p0, p1, p2, _, _, _⟩ := (HByA.out.ext hA2).three; obtain ⟨p0, p1, p2, _, _, _⟩ := (HBzA.out.ext hA2).three)
        | (go_at_call 20; (with_reducible refine (Ry.out _ (by assumption)).mono ?_); rintro e wq ⟨rfl, hA2⟩; obtain ⟨p0, p1, p2, _, _, _⟩ := (HBmA.out.ext hA2).three; obtain ⟨p0, p1, p2, _, _, _⟩ := (HBxA.out.ext hA2).three; obtain ⟨p0, p1, p2, _, _, _⟩ := (HByA.out.ext hA2).three; obtain ⟨p0, p1, p2, _, _, _⟩ := (HBzA.out.ext hA2).three)
        | (go_at_call 20; (with_reducible refine (Rz.out _ (by assumption)).mono ?_); rintro e wq ⟨rfl, hA2⟩; obtain ⟨p0, p1, p2, _, _, _⟩ := (HBmA.out.ext hA2).three; obtain ⟨p0, p1, p2, _, _, _⟩ := (HBxA.out.ext hA2).three; obtain ⟨p0, p1, p2, _, _, _⟩ := (HByA.out.ext hA2).three; obtain ⟨p0, p1, p2, _, _, _⟩ := (HBzA.out.ext hA2).three))
      go_ret
      exact ⟨by first | rfl | (simp; done), HEA.out.trans (by assumption)⟩

theorem walk (v0 : Value) (W : World) (r0 : Rd.V Try.prog W 60 v0) : Calls Try.prog 9 #[v0] W fun e w' => e = .returned (.bool true) ∧ Below W.heap.size W w' := by
  have k3 : Try.prog.cellsOf 25 = 3 := by kernel_rfl
  obtain ⟨cs, rfl, hs⟩ := r0.struct Try.underlying60
  obtain ⟨hl, _⟩ := hs.struct Try.underlying60
  rw [show Try.prog.cellsOf 60 = 7 by kernel_rfl] at hl
  match cs, hl with
  | [c0, c1, c2, c3, c4, c5, c6], _ =>
    obtain ⟨n, v0, v1, xs, ys, hm, h0, h1, wx, wy, wn⟩ := An.mem_R (Rd.R.field Try.underlying60 hs 0 rfl 0 3 25 rfl rfl k3)
    simp at hm
    obtain ⟨rfl, rfl, rfl⟩ := hm
    obtain ⟨a, ha, wa⟩ := (Rd.R.field Try.underlying60 hs 1 rfl 3 1 26 rfl rfl (by kernel_rfl)).int Try.underlying26
    obtain rfl : c3 = .int .u64 a := by simpa using ha
    have ba := Rd.u64_bd wa
    obtain ⟨b, hb, wb⟩ := (Rd.R.field Try.underlying60 hs 2 rfl 4 1 26 rfl rfl (by kernel_rfl)).int Try.underlying26
    obtain rfl : c4 = .int .u64 b := by simpa using hb
    have bb := Rd.u64_bd wb
    obtain ⟨v, hv, wv⟩ := (Rd.R.field Try.underlying60 hs 3 rfl 5 1 26 rfl rfl (by kernel_rfl)).int Try.underlying26
    obtain rfl : c5 = .int .u64 v := by simpa using hv
    have bv := Rd.u64_bd wv
    obtain ⟨c, hc, wc⟩ := (Rd.R.field Try.underlying60 hs 4 rfl 6 1 3 rfl rfl (by kernel_rfl)).int Try.underlying3
    obtain rfl : c6 = .int .i64 c := by simpa using hc
    have bc := Rd.i64_bd wc
    exact (go n c1 c2 xs ys a b v c ba.1 ba.2 bb.1 bb.2 bv.1 bv.2 bc.1 bc.2 W h0 h1).mono fun e w' ⟨he, hw⟩ => ⟨he, hw.below⟩

open Go.ChangeShapes Go.WideShapes Go.ChangeAt Go.RowKit
theorem own : ownKnob Try.prog.godebug = none := by kernel_rfl
theorem laidOut : laidOutB Try.prog = true := by kernel_rfl

set_option maxRecDepth 100000 in
theorem lifted (os : Os) (started : os.Started) (H : Type) (enc : TypeId × Value → H) :
    ReturnsInHanded {} Try.checked os 9 .any (Rows.arenaRefusesSpec.pre6 enc Try.prog Try.f9 Rows.arenaRefusesRow.domain false) (Rows.arenaRefusesSpec.post enc Try.prog Try.f9 false true false false) := by
  refine returnsInHanded_of_change_sized (C := Try.checked) own started (by kernel_rfl) Try.func9
    (ChangeSpec.witness6 (enc := enc) (C := Try.checked) false ⟨#[], #[.agg #[.int .i64 0, .slice none 0 0, .slice none 0 0, .int .u64 0, .int .u64 0, .int .u64 0, .int .i64 0]], []⟩ 12 (by kernel_rfl) (by kernel_rfl) (by kernel_rfl) (by kernel_rfl)) ?_
  intro W base args ds gs before hval0 hW _ hsz0 _
  have hval : ∀ (j : Nat) t v, Try.f9.params[j]? = some t → args[j]? = some v → Value.okWide Try.prog W .any base t v := hval0
  have hW' := hW
  obtain ⟨p, q, hA0, hV, rfl, _, _⟩ := hW
  have hA : DataW.TrodAll enc Try.prog W 0 (fun _ => true) true Try.f9.params.toList args.toList ds p := hA0
  obtain ⟨rfl, rfl⟩ := trodVars_none hV
  have hsz : (DataW.weightsEach Try.prog (Try.f9.params.toList ++ []) (ds ++ [])).all (· ≤ reachBytes) = true := hsz0
  rw [Try.params9] at hA hval hsz
  have hA2 := hA
  obtain ⟨v0, vs0, d0, ds0, p0, q0, hargs, rfl, rfl, h0, r0⟩ := trodAll_cons hA2
  obtain ⟨rfl, rfl, rfl⟩ := trodAll_nil r0
  obtain rfl : args = #[v0] := by cases args; simp_all
  have hR := Rd.trodAll_V hA (fun n hn => by simpa using List.all_eq_true.1 hsz n (by simpa using hn)) (fun j t v hj hv => hval j t v (by simpa using hj) (by simpa using hv))
  clear hA0 hval0 hA2
  refine (walk v0 W (hR 0 60 v0 rfl rfl)).mono fun e W' ⟨he, bel⟩ => ?_
  subst he
  exact ⟨_, rfl, _, _, _, [], _, [], hW', trodAll_mk1 (shut_bool Try.underlying4 _), Rd.trodAll_below laidOut bel (List.forall_mem_cons.2 ⟨⟨by kernel_rfl, of_decide_eq_true (by kernel_rfl)⟩, fun _ h => by cases h⟩) hA, rfl, bel.frame _, fun h => by cases h⟩

theorem over : Rows.arenaRefusesRow.holds Try.pinned (OpenSpec.ofChange Rows.arenaRefusesSpec) :=
  OpenClaim.holds_of_wide 9 Try.f9 rfl rfl rfl rfl rfl rfl rfl ⟨rfl, rfl, rfl, rfl, rfl⟩ rfl rfl rfl rfl rfl (by kernel_rfl) Try.func9 (by kernel_rfl)
    (of_decide_eq_true (by kernel_rfl)) (by unfold Func.isWrapper; first | (rw [if_pos (by decide +kernel)]; kernel_rfl) | (rw [if_neg (by decide +kernel)]; exact ⟨rfl, rfl⟩))
    (fun os started H enc _ => lifted os started H enc)

theorem proved : Rows.ArenaRefusesSaid := over
#print axioms proved
end Go.Proofs.Ytjobhdcjjegpfaa.arenaRefuses
