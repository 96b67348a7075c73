/- Few words; the document's example; how memory comes in as an argument. -/
import Derived.Test.YtjobhdcjjegpfaaAf
namespace Go.Proofs.Ytjobhdcjjegpfaa.An
open Go.RowKit Go.ChangeShapes
open Go.Proofs.Ytjobhdcjjegpfaa Go.Proofs.Ytjobhdcjjegpfaa.Ar
set_option linter.unusedVariables false

def fewB (n x y : Int) : Bool := rightB n x y && decide (n ≤ 200)
theorem few_right {n : Int} {xs ys : List Int} (h : fewB n xs.length ys.length = true) : Ap.Rt n xs ys ∧ n ≤ 200 := by
  unfold fewB at h
  rw [Bool.and_eq_true] at h
  exact ⟨rightB_iff.1 h.1, of_decide_eq_true h.2⟩
theorem few_any (n : Int) (v0 v1 : Value) (xs ys : List Int) (w : World) (h0 : Sl .u64 w v0 xs) (h1 : Sl .u64 w v1 ys) :
    Calls Try.prog 12 #[.agg #[.int .i64 n, v0, v1]] w fun e w' => e = .returned (.bool (fewB n xs.length ys.length)) ∧ Ext w w' := by
  have HR := Lib.hid (fun (w' : World) (he : Ext w w') => rright_any n v0 v1 xs ys w' (h0.ext he) (h1.ext he))
  unfold fewB
  clear h0 h1
  generalize rightB n xs.length ys.length = r at HR ⊢
  obtain ⟨b, hb⟩ : ∃ b, decide (n ≤ 200) = b := ⟨_, rfl⟩
  rw [hb]
  cases r
  all_goals cases b
  all_goals
    go_enter Try.func12, Try.ntmps12
    go_wp2_with fail
    refine (HR.out _ (by repeat (first | exact Ext.refl _ | assumption | refine Ext.alloc ?_ _ | refine Ext.drewN ?_ _ | refine Ext.drew ?_ | refine Ext.trans ?_ (by assumption)))).mono ?_; rintro e w1 ⟨rfl, hx1⟩
    have c0 : w1.cell? ⟨w.heap.size, 0, none⟩ = some (.int .i64 n) := Ext.cell hx1 (by go_cell)
    have hE : Ext w w1 := Ext.trans (by repeat (first | exact Ext.refl _ | assumption | refine Ext.alloc ?_ _ | refine Ext.drewN ?_ _ | refine Ext.drew ?_ | refine Ext.trans ?_ (by assumption))) hx1
    clear hx1
    go_wp2_with fail
    go_ret
    exact ⟨rfl, hE⟩

theorem shown_any (w : World) : Calls Try.prog 11 #[] w fun e w' => e = .returned (.bool true) ∧ Ext w w' := by
  have z1 : nwN 16 = 16 := by decide
  have z2 : nwE 16 = 0 := by decide
  have z3 : nwL 16 = List.replicate 16 0 := by decide
  have hr : Ap.Rt 16 (List.replicate 16 0) (List.replicate 16 0) := by unfold Ap.Rt; decide
  have HN : Hid (∀ w, Calls Try.prog 17 #[.int .i64 16] w fun e w' => ∃ u0 u1, e = .returned (.tuple #[.agg #[.int .i64 16, u0, u1], .int .i64 0]) ∧ Sl .u64 w' u0 (List.replicate 16 0) ∧ Sl .u64 w' u1 (List.replicate 16 0) ∧ Ext w w') := fun w => by
    have := new_any 16 w
    rwa [z1, z2, z3] at this
  have e1 : Ap.ldE 16 8589934595 = 0 := by decide
  have e2 : Ap.st 0 16 (List.replicate 16 0) 8589934595 7 = List.replicate 16 0 := by decide
  obtain ⟨ys, hys⟩ : ∃ ys, Ap.st 1 16 (List.replicate 16 0) 8589934595 7 = ys := ⟨_, rfl⟩
  have hr2 : Hid (Ap.Rt 16 (List.replicate 16 0) ys) := by
    have := hr.st 8589934595 7
    rw [e2, hys] at this
    exact this
  have e3 : Hid (Ap.ldV 16 (List.replicate 16 0) ys 8589934595 = 7) := by rw [← hys]; show _ = _; decide
  have e4 : Hid (Ap.ldV 16 (List.replicate 16 0) ys 4294967299 = 0) := by rw [← hys]; show _ = _; decide
  have e5 : Hid (Ap.ldE 16 4294967299 = 0) := by show _ = _; decide
  have HE1 := Lib.hid e1
  have HE2 := Lib.hid e2
  have HYS := Lib.hid hys
  have HR := Lib.hid hr
  clear z1 z2 z3 e1 e2 hys hr
  generalize List.replicate 16 (0 : Int) = xs at HN HE2 HYS HR hr2 e3 e4
  go_enter Try.func11, Try.ntmps11
  go_wp2_with fail
  refine (HN.out _).mono ?_; rintro e w1 ⟨u0, u1, rfl, hu0, hu1, hx1⟩
  obtain ⟨b0, c0, rfl⟩ := Row.form hu0
  obtain ⟨b1, c1, rfl⟩ := Row.form hu1
  have HU0 := Lib.hid hu0
  have HU1 := Lib.hid hu1
  have HX1 := Lib.hid hx1
  clear hu0 hu1 hx1
  go_wp2_with fail
  refine (store_any 16 _ _ xs xs 8589934595 7 (by decide) (by decide) HR.out _ (HU0.out.ext (by repeat (first | exact Ext.refl _ | assumption | refine Ext.alloc ?_ _ | refine Ext.drewN ?_ _ | refine Ext.drew ?_ | refine Ext.trans ?_ (by assumption)))) (HU1.out.ext (by repeat (first | exact Ext.refl _ | assumption | refine Ext.alloc ?_ _ | refine Ext.drewN ?_ _ | refine Ext.drew ?_ | refine Ext.trans ?_ (by assumption))))).mono ?_; rintro e w2 ⟨t0, t1, rfl, ht0, ht1, hx2⟩
  rw [HE1.out]
  rw [HE2.out] at ht0
  rw [HYS.out] at ht1
  have hE2 : Ext w1 w2 := Ext.trans (by repeat (first | exact Ext.refl _ | assumption | refine Ext.alloc ?_ _ | refine Ext.drewN ?_ _ | refine Ext.drew ?_ | refine Ext.trans ?_ (by assumption))) hx2
  have bm := (Blk.new w1 #[.int .i64 16, .slice b0 xs.length c0, .slice b1 xs.length c1] 25).ext hx2
  obtain ⟨d0, f0, rfl⟩ := Row.form (ht0.sl (HU0.out.ext hE2))
  obtain ⟨d1, f1, rfl⟩ := Row.form (ht1.sl (HU1.out.ext hE2))
  have bm3 := bm.fill (.int .i64 16) (.slice d0 xs.length f0) (.slice d1 ys.length f1)
  have hE3 := hE2.fill (b := w1.heap.size) (Nat.le_refl _) (.int .i64 16) (.slice d0 xs.length f0) (.slice d1 ys.length f1)
  have HT0 := Lib.hid ((ht0.fill (b := w1.heap.size) (by simp) (.int .i64 16) (.slice d0 xs.length f0) (.slice d1 ys.length f1)).sl (HU0.out.ext hE3))
  have HT1 := Lib.hid ((ht1.fill (b := w1.heap.size) (by simp) (.int .i64 16) (.slice d0 xs.length f0) (.slice d1 ys.length f1)).sl (HU1.out.ext hE3))
  have HE3 := Lib.hid (HX1.out.trans hE3)
  have HBM := Lib.hid bm3
  obtain ⟨p0, p1, p2, q0, q1, q2⟩ := bm.three
  obtain ⟨s0, s1, s2, _, _, _⟩ := bm3.three
  clear bm bm3 hE2 hE3 hx2 ht0 ht1
  go_wp2_with fail
  generalize ((w2.setCell ⟨w1.heap.size, 0, none⟩ (.int .i64 16)).setCell ⟨w1.heap.size, 1, none⟩ (.slice d0 xs.length f0)).setCell ⟨w1.heap.size, 2, none⟩ (.slice d1 ys.length f1) = W3 at HT0 HT1 HE3 HBM s0 s1 s2 ⊢
  refine (load_any 16 _ _ xs ys 8589934595 (by decide) (by decide) hr2.out _ HT0.out HT1.out).mono ?_; rintro e w4 ⟨rfl, hx4⟩
  rw [e3.out, HE1.out]
  obtain ⟨s0, s1, s2, _, _, _⟩ := (HBM.out.ext hx4).three
  have HX4 := Lib.hid hx4
  clear hx4
  go_wp2_with fail
  refine (load_any 16 _ _ xs ys 4294967299 (by decide) (by decide) hr2.out _ (HT0.out.ext HX4.out) (HT1.out.ext HX4.out)).mono ?_; rintro e w5 ⟨rfl, hx5⟩
  rw [e4.out, e5.out]
  have HX5 := Lib.hid (HE3.out.trans (HX4.out.trans hx5))
  clear hx5
  go_wp2_with fail
  go_ret
  exact ⟨by first | rfl | (simp; done), HX5.out⟩

/-- A memory among the cells of an argument. -/
theorem mem_R {w : World} {cs : List Value} (h : Rd.R Try.prog w 25 cs) : ∃ n v0 v1 xs ys, cs = [.int .i64 n, v0, v1] ∧ Sl .u64 w v0 xs ∧ Sl .u64 w v1 ys ∧ (∀ x ∈ xs, (Lit.int .u64 x).wf = true) ∧ (∀ y ∈ ys, (Lit.int .u64 y).wf = true) ∧ (Lit.int .i64 n).wf = true := by
  have k1 : Try.prog.cellsOf 3 = 1 := by kernel_rfl
  have k2 : Try.prog.cellsOf 23 = 2 := by kernel_rfl
  have k3 : Try.prog.cellsOf 22 = 1 := by kernel_rfl
  obtain ⟨hl, _⟩ := h.struct Try.underlying25
  rw [show Try.prog.cellsOf 25 = 3 by kernel_rfl] at hl
  match cs, hl with
  | [c0, c1, c2], _ =>
    obtain ⟨n, hs0, wn⟩ := (Rd.R.field Try.underlying25 h 0 rfl 0 1 3 rfl rfl k1).int Try.underlying3
    obtain rfl : c0 = .int .i64 n := by simpa using hs0
    have ha : Rd.R Try.prog w 23 [c1, c2] := Rd.R.field Try.underlying25 h 1 rfl 1 2 23 rfl rfl k2
    obtain ⟨_, he⟩ := ha.array Try.underlying23
    have e0 := he 0 (by decide)
    have e1 := he 1 (by decide)
    rw [k3] at e0 e1
    obtain ⟨xs, hx, wx⟩ := Sl.of_R Try.underlying22 Try.underlying26 (by kernel_rfl) (by kernel_rfl) (show Rd.R Try.prog w 22 [c1] from e0)
    obtain ⟨ys, hy, wy⟩ := Sl.of_R Try.underlying22 Try.underlying26 (by kernel_rfl) (by kernel_rfl) (show Rd.R Try.prog w 22 [c2] from e1)
    exact ⟨n, c1, c2, xs, ys, rfl, hx, hy, wx, wy, wn⟩
end Go.Proofs.Ytjobhdcjjegpfaa.An
