/- What each function of package arena computes, said of lists. -/
import Derived.Test.YtjobhdcjjegpfaaAw
import Derived.Test.YtjobhdcjjegpfaaAp
import Derived.Test.YtjobhdcjjegpfaaSw
import Derived.Test.YtjobhdcjjegpfaaSr
namespace Go.Proofs.Ytjobhdcjjegpfaa.Ar
open Go.RowKit
open Go.Proofs.Ytjobhdcjjegpfaa
set_option linter.unusedVariables false

/-- Where an address leads. -/
theorem there_any (n : Int) (v0 v1 : Value) (a k : Int) (a0 : 0 ≤ a) (a1 : a ≤ 18446744073709551615) (k0 : -9223372036854775808 ≤ k) (k1 : k ≤ 9223372036854775807) (n1 : n ≤ 4096) (w : World) :
    Calls Try.prog 31 #[.agg #[.int .i64 n, v0, v1], .int .u64 a, .int .i64 k] w fun e w' => e = .returned (.tuple #[.int .i64 (Ap.thS n a k), .int .i64 (Ap.thA n a k), .bool (Ap.okAt n a k)]) ∧ Ext w w' := by
  have HW := Lib.hid (fun w => Sw.where_any a a0 a1 w)
  have hb := Sz.wh_bd a
  have HF := Lib.hid (fun w => Sw.fits_any (Sz.whA a) k n (by omega) (by omega) k0 k1 (by omega) w)
  cases h1 : Sz.whOk a with
  | false =>
    have e1 : Ap.okAt n a k = false := by unfold Ap.okAt; rw [h1]; rfl
    have e2 : Ap.thS n a k = 0 := by unfold Ap.thS; rw [e1]; rfl
    have e3 : Ap.thA n a k = 0 := by unfold Ap.thA; rw [e1]; rfl
    rw [h1] at HW
    rw [e1, e2, e3]
    clear e1 e2 e3 h1 hb HF
    generalize Sz.whS a = s at HW
    generalize Sz.whA a = q at HW
    go_enter Try.func31, Try.ntmps31
    go_wp2_with fail
    refine (HW.out _).mono ?_; rintro e w1 ⟨rfl, hx1⟩
    have hE : Ext w w1 := Ext.trans ((Ext.refl w).alloc _) hx1
    clear hx1
    go_wp2_with fail
    go_ret3
    exact ⟨rfl, hE⟩
  | true =>
    have e1 : Ap.okAt n a k = (decide (Sz.whA a < n) && Sz.fits (Sz.whA a) k n) := by unfold Ap.okAt; rw [h1]; rfl
    have e2 : Ap.thS n a k = if (decide (Sz.whA a < n) && Sz.fits (Sz.whA a) k n) = true then Sz.whS a else 0 := by unfold Ap.thS; rw [e1]
    have e3 : Ap.thA n a k = if (decide (Sz.whA a < n) && Sz.fits (Sz.whA a) k n) = true then Sz.whA a else 0 := by unfold Ap.thA; rw [e1]
    rw [h1] at HW
    rw [e1, e2, e3]
    clear e1 e2 e3 h1
    obtain ⟨hs0, hs1, hq0, hq1⟩ := hb
    generalize Sz.whS a = s at HW hs0 hs1 ⊢
    generalize Sz.whA a = q at HW HF hq0 hq1 ⊢
    by_cases h2 : q < n
    · have d2 : decide (q < n) = true := decide_eq_true h2
      generalize Sz.fits q k n = f at HF ⊢
      rw [d2, Bool.true_and]
      have d3 : decide (n ≤ q) = false := decide_eq_false (by omega)
      cases f
      all_goals
        clear d2 h2
        go_enter Try.func31, Try.ntmps31
        go_wp2_with fail
        refine (HW.out _).mono ?_; rintro e w1 ⟨rfl, hx1⟩
        have c0 : w1.cell? ⟨w.heap.size, 0, none⟩ = some (.int .i64 n) := Ext.cell hx1 (by go_cell)
        have hE : Ext w w1 := Ext.trans ((Ext.refl w).alloc _) hx1
        clear hx1
        go_wp2_with fail
        refine (HF.out _).mono ?_; rintro e w2 ⟨rfl, hx2⟩
        have hE2 : Ext w w2 := Ext.trans hE hx2
        clear hx2
        go_wp2_with fail
        go_ret3
        exact ⟨rfl, hE2⟩
    · have d2 : decide (q < n) = false := decide_eq_false h2
      rw [d2, Bool.false_and]
      have d3 : decide (n ≤ q) = true := decide_eq_true (by omega)
      clear d2 h2
      go_enter Try.func31, Try.ntmps31
      go_wp2_with fail
      refine (HW.out _).mono ?_; rintro e w1 ⟨rfl, hx1⟩
      have c0 : w1.cell? ⟨w.heap.size, 0, none⟩ = some (.int .i64 n) := Ext.cell hx1 (by go_cell)
      have hE : Ext w w1 := Ext.trans ((Ext.refl w).alloc _) hx1
      clear hx1
      go_wp2_with fail
      go_ret3
      exact ⟨rfl, hE⟩

/-- A word is loaded. -/
theorem load_any (n : Int) (v0 v1 : Value) (xs ys : List Int) (a : Int) (a0 : 0 ≤ a) (a1 : a ≤ 18446744073709551615) (hr : Ap.Rt n xs ys) (w : World) (h0 : Sl .u64 w v0 xs) (h1 : Sl .u64 w v1 ys) :
    Calls Try.prog 14 #[.agg #[.int .i64 n, v0, v1], .int .u64 a] w fun e w' => e = .returned (.tuple #[.int .u64 (Ap.ldV n xs ys a), .int .i64 (Ap.ldE n a)]) ∧ Ext w w' := by
  have HT := Lib.hid (fun w => there_any n v0 v1 a 1 a0 a1 (by decide) (by decide) hr.2.1 w)
  cases ho : Ap.okAt n a 1 with
  | false =>
    have e1 : Ap.ldV n xs ys a = 0 := by unfold Ap.ldV; rw [ho]; rfl
    have e2 : Ap.ldE n a = 2 := by unfold Ap.ldE; rw [ho]; rfl
    rw [ho] at HT
    rw [e1, e2]
    clear e1 e2 h0 h1 hr ho
    generalize Ap.thS n a 1 = s at HT
    generalize Ap.thA n a 1 = q at HT
    go_enter Try.func14, Try.ntmps14
    go_wp2_with fail
    refine (HT.out _).mono ?_; rintro e w1 ⟨rfl, hx1⟩
    have hE : Ext w w1 := Ext.trans ((Ext.refl w).alloc _) hx1
    clear hx1
    go_wp2_with fail
    go_ret2
    exact ⟨rfl, hE⟩
  | true =>
    have hk := Ap.ok1_iff.1 ho
    have hb := Sz.wh_bd a
    have e1 : Ap.ldV n xs ys a = (Ap.spOf a xs ys).getD (Sz.whA a).toNat 0 := by unfold Ap.ldV; rw [if_pos ho]
    have e2 : Ap.ldE n a = 0 := by unfold Ap.ldE; rw [if_pos ho]
    have e3 : Ap.thS n a 1 = Sz.whS a := by unfold Ap.thS; rw [if_pos ho]
    have e4 : Ap.thA n a 1 = Sz.whA a := by unfold Ap.thA; rw [if_pos ho]
    rw [ho, e3, e4] at HT
    rw [e1, e2]
    have hq1 : Sz.whA a < n := hk.2
    obtain ⟨_, _, hq0, _⟩ := hb
    clear e1 e2 e3 e4 ho hk
    have hs := Ap.whS_01 (a := a)
    unfold Ap.spOf
    rcases hs with e | e
    · rw [if_pos e]
      rw [e] at HT
      generalize Sz.whA a = q at HT hq0 hq1 ⊢
      have hlen : (xs.length : Int) = n := hr.2.2.1
      obtain ⟨p, hp, hcp⟩ := h0.at_ Aw.uT Aw.sz (i := q) hq0 (by omega)
      generalize xs.getD q.toNat 0 = x at hcp ⊢
      clear e h0 h1 hr hlen
      go_enter Try.func14, Try.ntmps14
      go_wp2_with fail
      refine (HT.out _).mono ?_; rintro e w1 ⟨rfl, hx1⟩
      have c1 : w1.cell? ⟨w.heap.size, 1, none⟩ = some v0 := Ext.cell hx1 (by go_cell)
      have hE : Ext w w1 := Ext.trans ((Ext.refl w).alloc _) hx1
      replace hcp := hE.cell hcp
      clear hx1
      go_wp2_with fail
      go_ret2
      exact ⟨rfl, hE⟩
    · rw [if_neg (by omega)]
      rw [e] at HT
      generalize Sz.whA a = q at HT hq0 hq1 ⊢
      have hlen : (ys.length : Int) = n := hr.2.2.2
      obtain ⟨p, hp, hcp⟩ := h1.at_ Aw.uT Aw.sz (i := q) hq0 (by omega)
      generalize ys.getD q.toNat 0 = x at hcp ⊢
      clear e h0 h1 hr hlen
      go_enter Try.func14, Try.ntmps14
      go_wp2_with fail
      refine (HT.out _).mono ?_; rintro e w1 ⟨rfl, hx1⟩
      have c2 : w1.cell? ⟨w.heap.size, 2, none⟩ = some v1 := Ext.cell hx1 (by go_cell)
      have hE : Ext w w1 := Ext.trans ((Ext.refl w).alloc _) hx1
      replace hcp := hE.cell hcp
      clear hx1
      go_wp2_with fail
      go_ret2
      exact ⟨rfl, hE⟩
end Go.Proofs.Ytjobhdcjjegpfaa.Ar
