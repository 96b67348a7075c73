/- Storing, swapping, clearing, and whether memory is right: said of lists. -/
import Derived.Test.YtjobhdcjjegpfaaAv
namespace Go.Proofs.Ytjobhdcjjegpfaa.Ar
open Go.RowKit
open Go.Proofs.Ytjobhdcjjegpfaa
set_option linter.unusedVariables false

set_option maxHeartbeats 1000000 in
theorem store_any (n : Int) (v0 v1 : Value) (xs ys : List Int) (a v : Int) (a0 : 0 ≤ a) (a1 : a ≤ 18446744073709551615) (hr : Ap.Rt n xs ys) (w : World) (h0 : Sl .u64 w v0 xs) (h1 : Sl .u64 w v1 ys) :
    Calls Try.prog 13 #[.agg #[.int .i64 n, v0, v1], .int .u64 a, .int .u64 v] w fun e w' => ∃ u0 u1, e = .returned (.tuple #[.agg #[.int .i64 n, u0, u1], .int .i64 (Ap.ldE n a)]) ∧
      Nw w' w.heap.size v0 xs u0 (Ap.st 0 n xs a v) ∧ Nw w' w.heap.size v1 ys u1 (Ap.st 1 n ys a v) ∧ Ext w w' := by
  have HT := Lib.hid (fun w => there_any n v0 v1 a 1 a0 a1 (by decide) (by decide) hr.2.1 w)
  obtain ⟨b0, c0, rfl⟩ := Row.form h0
  obtain ⟨b1, c1, rfl⟩ := Row.form h1
  have S0 := Lib.hid h0
  have S1 := Lib.hid h1
  have hl0 : Hid ((xs.length : Int) = n) := hr.2.2.1
  have hl1 : Hid ((ys.length : Int) = n) := hr.2.2.2
  have hn1 := hr.2.1
  clear h0 h1 hr
  cases ho : Ap.okAt n a 1 with
  | false =>
    have e2 : Ap.ldE n a = 2 := by unfold Ap.ldE; rw [ho]; rfl
    have e3 : Ap.st 0 n xs a v = xs := by unfold Ap.st; rw [if_neg (by rw [ho]; simp)]
    have e4 : Ap.st 1 n ys a v = ys := by unfold Ap.st; rw [if_neg (by rw [ho]; simp)]
    rw [ho] at HT
    rw [e2, e3, e4]
    clear e2 e3 e4 ho
    generalize Ap.thS n a 1 = s at HT
    generalize Ap.thA n a 1 = q at HT
    go_enter Try.func13, Try.ntmps13
    go_wp2_with fail
    refine (HT.out _).mono ?_; rintro e w1 ⟨rfl, hx1⟩
    have hE : Ext w w1 := Ext.trans (((Ext.refl w).alloc _).alloc _) hx1
    have bb := ((Blk.new w #[.int .i64 n, .slice b0 xs.length c0, .slice b1 ys.length c1] 25).alloc (.cells #[.int .i64 0, .slice none 0 0, .slice none 0 0] 25)).ext hx1
    have br : Blk w1 (w.heap.size + 1) #[.int .i64 0, .slice none 0 0, .slice none 0 0] 25 := (blk_at (by simp)).ext hx1
    have HBR := Lib.hid br
    have HE := Lib.hid hE
    obtain ⟨p0, p1, p2, _, _, _⟩ := bb.three
    obtain ⟨r0, r1, r2, q0, q1, q2⟩ := br.three
    clear bb br hx1 hE
    go_wp2_with fail
    obtain ⟨k0, k1, k2, _⟩ := (HBR.out.fill (.int .i64 n) (.slice b0 xs.length c0) (.slice b1 ys.length c1)).three
    have hE2 := HE.out.fill (b := w.heap.size + 1) (by omega) (.int .i64 n) (.slice b0 xs.length c0) (.slice b1 ys.length c1)
    exact bodyPost_ret (v := .tuple #[.agg #[.int .i64 n, .slice b0 xs.length c0, .slice b1 ys.length c1], .int .i64 2]) (by simp [results, Try.results13, go_sem, k0, k1, k2]) rfl ⟨_, _, rfl, Nw.refl _ _ _ _, Nw.refl _ _ _ _, hE2⟩
  | true =>
    have hk := Ap.ok1_iff.1 ho
    have hb := Sz.wh_bd a
    have e2 : Ap.ldE n a = 0 := by unfold Ap.ldE; rw [if_pos ho]
    have e3 : Ap.thS n a 1 = Sz.whS a := by unfold Ap.thS; rw [if_pos ho]
    have e4 : Ap.thA n a 1 = Sz.whA a := by unfold Ap.thA; rw [if_pos ho]
    rw [ho, e3, e4] at HT
    rw [e2]
    have hq1 : Sz.whA a < n := hk.2
    obtain ⟨_, _, hq0, _⟩ := hb
    rcases Ap.whS_01 (a := a) with e | e
    · have e5 : Ap.st 0 n xs a v = xs.set (Sz.whA a).toNat v := by unfold Ap.st; rw [if_pos ⟨ho, e⟩]
      have e6 : Ap.st 1 n ys a v = ys := by unfold Ap.st; rw [if_neg (by rw [e]; simp)]
      rw [e5, e6]
      rw [e] at HT
      obtain ⟨q, hq⟩ : ∃ q : Nat, Sz.whA a = q := ⟨(Sz.whA a).toNat, by omega⟩
      rw [hq] at HT hq1 ⊢
      have hqn : q < xs.length := by have := hl0.out; omega
      have HQ := Lib.hid hqn
      clear e e2 e3 e4 e5 e6 ho hk hq hq0 hqn
      go_enter Try.func13, Try.ntmps13
      go_wp2_with fail
      refine (HT.out _).mono ?_; rintro e w1 ⟨rfl, hx1⟩
      have hE : Ext w w1 := Ext.trans (((Ext.refl w).alloc _).alloc _) hx1
      have bb := ((Blk.new w #[.int .i64 n, .slice b0 xs.length c0, .slice b1 ys.length c1] 25).alloc (.cells #[.int .i64 0, .slice none 0 0, .slice none 0 0] 25)).ext hx1
      have br : Blk w1 (w.heap.size + 1) #[.int .i64 0, .slice none 0 0, .slice none 0 0] 25 := (blk_at (by simp)).ext hx1
      have HBR := Lib.hid br
      have HE := Lib.hid hE
      obtain ⟨p0, p1, p2, _, _, _⟩ := bb.three
      clear bb br hx1 hE
      go_wp2_with fail
      refine (with0 n _ _ _ xs ys [v] q _ (S0.out.ext (HE.out.alloc _)) (S1.out.ext (HE.out.alloc _)) (Aw.Sl.one w1 v) (by have := HQ.out; simp; omega)).mono ?_; rintro e w2 ⟨u, rfl, hu, hx2⟩
      rw [Ap.lay_one v HQ.out] at hu
      have hb8 : xs.length * 8 ≤ 140737488355328 := S0.out.2.1
      obtain ⟨ua, uc, rfl⟩ := Row.form (Row.of_own (b := 8) hu hb8 (by omega))
      have hE2 : Ext w w2 := Ext.trans (HE.out.alloc _) hx2
      have br2 := HBR.out.ext (((Ext.refl w1).alloc _).trans hx2)
      have hw1 : w.heap.size + 1 < w1.heap.size := HBR.out.lt
      have hU : Nw w2 w1.heap.size (.slice b0 xs.length c0) xs (.slice ua xs.length uc) (xs.set q v) := Nw.of_own (own_le hu (by simp)) (by simp) hb8 _ _
      have HBR2 := Lib.hid br2
      have HE2 := Lib.hid hE2
      have HU := Lib.hid hU
      have HW1 := Lib.hid hw1
      obtain ⟨r0, r1, r2, q0, q1, q2⟩ := br2.three
      clear br2 hx2 hE2 hU hu p0 p1 p2 hw1
      go_wp2_with fail
      obtain ⟨k0, k1, k2, _⟩ := (HBR2.out.fill (.int .i64 n) (.slice ua xs.length uc) (.slice b1 ys.length c1)).three
      have hE3 := HE2.out.fill (b := w.heap.size + 1) (by omega) (.int .i64 n) (.slice ua xs.length uc) (.slice b1 ys.length c1)
      exact bodyPost_ret (v := .tuple #[.agg #[.int .i64 n, .slice ua xs.length uc, .slice b1 ys.length c1], .int .i64 0]) (by simp [results, Try.results13, go_sem, k0, k1, k2]) rfl
        ⟨_, _, rfl, (HU.out.fill HW1.out _ _ _).le (by have := HW1.out; omega), Nw.refl _ _ _ _, hE3⟩
    · have e5 : Ap.st 1 n ys a v = ys.set (Sz.whA a).toNat v := by unfold Ap.st; rw [if_pos ⟨ho, e⟩]
      have e6 : Ap.st 0 n xs a v = xs := by unfold Ap.st; rw [if_neg (by rw [e]; simp)]
      rw [e5, e6]
      rw [e] at HT
      obtain ⟨q, hq⟩ : ∃ q : Nat, Sz.whA a = q := ⟨(Sz.whA a).toNat, by omega⟩
      rw [hq] at HT hq1 ⊢
      have hqn : q < ys.length := by have := hl1.out; omega
      have HQ := Lib.hid hqn
      clear e e2 e3 e4 e5 e6 ho hk hq hq0 hqn
      go_enter Try.func13, Try.ntmps13
      go_wp2_with fail
      refine (HT.out _).mono ?_; rintro e w1 ⟨rfl, hx1⟩
      have hE : Ext w w1 := Ext.trans (((Ext.refl w).alloc _).alloc _) hx1
      have bb := ((Blk.new w #[.int .i64 n, .slice b0 xs.length c0, .slice b1 ys.length c1] 25).alloc (.cells #[.int .i64 0, .slice none 0 0, .slice none 0 0] 25)).ext hx1
      have br : Blk w1 (w.heap.size + 1) #[.int .i64 0, .slice none 0 0, .slice none 0 0] 25 := (blk_at (by simp)).ext hx1
      have HBR := Lib.hid br
      have HE := Lib.hid hE
      obtain ⟨p0, p1, p2, _, _, _⟩ := bb.three
      clear bb br hx1 hE
      go_wp2_with fail
      refine (with1 n _ _ _ xs ys [v] q _ (S0.out.ext (HE.out.alloc _)) (S1.out.ext (HE.out.alloc _)) (Aw.Sl.one w1 v) (by have := HQ.out; simp; omega)).mono ?_; rintro e w2 ⟨u, rfl, hu, hx2⟩
      rw [Ap.lay_one v HQ.out] at hu
      have hb8 : ys.length * 8 ≤ 140737488355328 := S1.out.2.1
      obtain ⟨ua, uc, rfl⟩ := Row.form (Row.of_own (b := 8) hu hb8 (by omega))
      have hE2 : Ext w w2 := Ext.trans (HE.out.alloc _) hx2
      have br2 := HBR.out.ext (((Ext.refl w1).alloc _).trans hx2)
      have hw1 : w.heap.size + 1 < w1.heap.size := HBR.out.lt
      have hU : Nw w2 w1.heap.size (.slice b1 ys.length c1) ys (.slice ua ys.length uc) (ys.set q v) := Nw.of_own (own_le hu (by simp)) (by simp) hb8 _ _
      have HBR2 := Lib.hid br2
      have HE2 := Lib.hid hE2
      have HU := Lib.hid hU
      have HW1 := Lib.hid hw1
      obtain ⟨r0, r1, r2, q0, q1, q2⟩ := br2.three
      clear br2 hx2 hE2 hU hu p0 p1 p2 hw1
      go_wp2_with fail
      obtain ⟨k0, k1, k2, _⟩ := (HBR2.out.fill (.int .i64 n) (.slice b0 xs.length c0) (.slice ua ys.length uc)).three
      have hE3 := HE2.out.fill (b := w.heap.size + 1) (by omega) (.int .i64 n) (.slice b0 xs.length c0) (.slice ua ys.length uc)
      exact bodyPost_ret (v := .tuple #[.agg #[.int .i64 n, .slice b0 xs.length c0, .slice ua ys.length uc], .int .i64 0]) (by simp [results, Try.results13, go_sem, k0, k1, k2]) rfl
        ⟨_, _, rfl, Nw.refl _ _ _ _, (HU.out.fill HW1.out _ _ _).le (by have := HW1.out; omega), hE3⟩

set_option maxHeartbeats 1000000 in
theorem swap_any (n : Int) (v0 v1 : Value) (xs ys : List Int) (a o v : Int) (a0 : 0 ≤ a) (a1 : a ≤ 18446744073709551615) (hr : Ap.Rt n xs ys) (w : World) (h0 : Sl .u64 w v0 xs) (h1 : Sl .u64 w v1 ys) :
    Calls Try.prog 24 #[.agg #[.int .i64 n, v0, v1], .int .u64 a, .int .u64 o, .int .u64 v] w fun e w' => ∃ u0 u1, e = .returned (.tuple #[.agg #[.int .i64 n, u0, u1], .bool (Ap.swD n xs ys a o), .int .i64 (Ap.ldE n a)]) ∧
      Nw w' w.heap.size v0 xs u0 (Ap.sw 0 n xs ys xs a o v) ∧ Nw w' w.heap.size v1 ys u1 (Ap.sw 1 n xs ys ys a o v) ∧ Ext w w' := by
  obtain ⟨b0, c0, rfl⟩ := Row.form h0
  obtain ⟨b1, c1, rfl⟩ := Row.form h1
  have HL : Hid (∀ w', Ext w w' → Calls Try.prog 14 #[.agg #[.int .i64 n, .slice b0 xs.length c0, .slice b1 ys.length c1], .int .u64 a] w' fun e w'' => e = .returned (.tuple #[.int .u64 (Ap.ldV n xs ys a), .int .i64 (Ap.ldE n a)]) ∧ Ext w' w'') :=
    fun w' he => load_any n _ _ xs ys a a0 a1 hr w' (h0.ext he) (h1.ext he)
  have HS : Hid (∀ w', Ext w w' → Calls Try.prog 13 #[.agg #[.int .i64 n, .slice b0 xs.length c0, .slice b1 ys.length c1], .int .u64 a, .int .u64 v] w' fun e w'' => ∃ u0 u1, e = .returned (.tuple #[.agg #[.int .i64 n, u0, u1], .int .i64 (Ap.ldE n a)]) ∧
      Nw w'' w'.heap.size (.slice b0 xs.length c0) xs u0 (Ap.st 0 n xs a v) ∧ Nw w'' w'.heap.size (.slice b1 ys.length c1) ys u1 (Ap.st 1 n ys a v) ∧ Ext w' w'') :=
    fun w' he => store_any n _ _ xs ys a v a0 a1 hr w' (h0.ext he) (h1.ext he)
  have S0 := Lib.hid h0
  have S1 := Lib.hid h1
  clear h0 h1 hr
  cases hd : Ap.swD n xs ys a o with
  | false =>
    have e1 : Ap.sw 0 n xs ys xs a o v = xs := by unfold Ap.sw; rw [if_neg (by rw [hd]; simp)]
    have e2 : Ap.sw 1 n xs ys ys a o v = ys := by unfold Ap.sw; rw [if_neg (by rw [hd]; simp)]
    have hcase : (Ap.ldE n a != 0) = true ∨ ((Ap.ldE n a != 0) = false ∧ (Ap.ldV n xs ys a != o) = true) := by
      unfold Ap.swD at hd
      cases ho : Ap.okAt n a 1 with
      | false => left; unfold Ap.ldE; rw [ho]; rfl
      | true =>
        right
        rw [ho, Bool.true_and] at hd
        exact ⟨by unfold Ap.ldE; rw [ho]; rfl, by rw [bne, hd]; rfl⟩
    rw [e1, e2]
    clear e1 e2 hd HS
    generalize Ap.ldE n a = r at HL hcase ⊢
    generalize Ap.ldV n xs ys a = x at HL hcase
    rcases hcase with hc | ⟨hc, hc2⟩
    all_goals
      go_enter Try.func24, Try.ntmps24
      go_wp2_with fail
      refine (HL.out _ (((Ext.refl w).alloc _).alloc _)).mono ?_; rintro e w1 ⟨rfl, hx1⟩
      have hE : Ext w w1 := Ext.trans (((Ext.refl w).alloc _).alloc _) hx1
      have bb := ((Blk.new w #[.int .i64 n, .slice b0 xs.length c0, .slice b1 ys.length c1] 25).alloc (.cells #[.int .i64 0, .slice none 0 0, .slice none 0 0] 25)).ext hx1
      have br : Blk w1 (w.heap.size + 1) #[.int .i64 0, .slice none 0 0, .slice none 0 0] 25 := (blk_at (by simp)).ext hx1
      have HBR := Lib.hid br
      have HE := Lib.hid hE
      obtain ⟨p0, p1, p2, _, _, _⟩ := bb.three
      obtain ⟨r0, r1, r2, q0, q1, q2⟩ := br.three
      clear bb br hx1 hE
      go_wp2_with fail
      obtain ⟨k0, k1, k2, _⟩ := (HBR.out.fill (.int .i64 n) (.slice b0 xs.length c0) (.slice b1 ys.length c1)).three
      have hE2 := HE.out.fill (b := w.heap.size + 1) (by omega) (.int .i64 n) (.slice b0 xs.length c0) (.slice b1 ys.length c1)
      exact bodyPost_ret (v := .tuple #[.agg #[.int .i64 n, .slice b0 xs.length c0, .slice b1 ys.length c1], .bool false, .int .i64 r]) (by simp [results, Try.results24, go_sem, k0, k1, k2]) rfl ⟨_, _, rfl, Nw.refl _ _ _ _, Nw.refl _ _ _ _, hE2⟩
  | true =>
    have e1 : Ap.sw 0 n xs ys xs a o v = Ap.st 0 n xs a v := by unfold Ap.sw; rw [if_pos hd]
    have e2 : Ap.sw 1 n xs ys ys a o v = Ap.st 1 n ys a v := by unfold Ap.sw; rw [if_pos hd]
    rw [e1, e2]
    have ho : Ap.okAt n a 1 = true ∧ (Ap.ldV n xs ys a == o) = true := by unfold Ap.swD at hd; rw [Bool.and_eq_true] at hd; exact hd
    have e3 : Ap.ldE n a = 0 := by unfold Ap.ldE; rw [if_pos ho.1]
    rw [e3] at HL HS ⊢
    have e4 : Ap.ldV n xs ys a = o := beq_iff_eq.1 ho.2
    rw [e4] at HL
    clear e1 e2 hd ho e3 e4
    generalize Ap.st 0 n xs a v = xs' at HS ⊢
    generalize Ap.st 1 n ys a v = ys' at HS ⊢
    go_enter Try.func24, Try.ntmps24
    go_wp2_with fail
    refine (HL.out _ (((Ext.refl w).alloc _).alloc _)).mono ?_; rintro e w1 ⟨rfl, hx1⟩
    have hE : Ext w w1 := Ext.trans (((Ext.refl w).alloc _).alloc _) hx1
    have bb := ((Blk.new w #[.int .i64 n, .slice b0 xs.length c0, .slice b1 ys.length c1] 25).alloc (.cells #[.int .i64 0, .slice none 0 0, .slice none 0 0] 25)).ext hx1
    have br : Blk w1 (w.heap.size + 1) #[.int .i64 0, .slice none 0 0, .slice none 0 0] 25 := (blk_at (by simp)).ext hx1
    have HBB := Lib.hid bb
    have HBR := Lib.hid br
    have HE := Lib.hid hE
    obtain ⟨p0, p1, p2, _, _, _⟩ := bb.three
    clear bb br hx1 hE
    go_wp2_with fail
    refine (HS.out _ HE.out).mono ?_; rintro e w2 ⟨u0, u1, rfl, hu0, hu1, hx2⟩
    have hE2 : Ext w w2 := Ext.trans HE.out hx2
    have bb2 := HBB.out.ext hx2
    have br2 := HBR.out.ext hx2
    have hw1 : w.heap.size + 1 < w1.heap.size := HBR.out.lt
    obtain ⟨d0, f0, rfl⟩ := Row.form (hu0.sl (S0.out.ext hE2))
    obtain ⟨d1, f1, rfl⟩ := Row.form (hu1.sl (S1.out.ext hE2))
    have bb3 := bb2.fill (.int .i64 n) (.slice d0 xs'.length f0) (.slice d1 ys'.length f1)
    have br3 := ((br2.other (p := ⟨w.heap.size, 0, none⟩) (by simp) (.int .i64 n)).other (p := ⟨w.heap.size, 1, none⟩) (by simp) (.slice d0 xs'.length f0)).other (p := ⟨w.heap.size, 2, none⟩) (by simp) (.slice d1 ys'.length f1)
    have HBR2 := Lib.hid br3
    have HE2 := Lib.hid (hE2.fill (b := w.heap.size) (Nat.le_refl _) (.int .i64 n) (.slice d0 xs'.length f0) (.slice d1 ys'.length f1))
    have HU0 := Lib.hid (hu0.fill (b := w.heap.size) (by omega) (.int .i64 n) (.slice d0 xs'.length f0) (.slice d1 ys'.length f1))
    have HU1 := Lib.hid (hu1.fill (b := w.heap.size) (by omega) (.int .i64 n) (.slice d0 xs'.length f0) (.slice d1 ys'.length f1))
    have HW1 := Lib.hid hw1
    obtain ⟨s0, s1, s2, t0, t1, t2⟩ := bb2.three
    obtain ⟨y0, y1, y2, _, _, _⟩ := bb3.three
    obtain ⟨r0, r1, r2, q0, q1, q2⟩ := br3.three
    clear bb2 bb3 br2 br3 hx2 hE2 hu0 hu1 p0 p1 p2 hw1
    go_wp2_with fail
    obtain ⟨k0, k1, k2, _⟩ := (HBR2.out.fill (.int .i64 n) (.slice d0 xs'.length f0) (.slice d1 ys'.length f1)).three
    have hE3 := HE2.out.fill (b := w.heap.size + 1) (by omega) (.int .i64 n) (.slice d0 xs'.length f0) (.slice d1 ys'.length f1)
    exact bodyPost_ret (v := .tuple #[.agg #[.int .i64 n, .slice d0 xs'.length f0, .slice d1 ys'.length f1], .bool true, .int .i64 0]) (by simp [results, Try.results24, go_sem, k0, k1, k2]) rfl
      ⟨_, _, rfl, (HU0.out.fill HW1.out _ _ _).le (by have := HW1.out; omega), (HU1.out.fill HW1.out _ _ _).le (by have := HW1.out; omega), hE3⟩

/-- Is memory right? -/
def rightB (n x y : Int) : Bool := decide (16 ≤ n) && (decide (n ≤ 4096) && ((x == n) && (y == n)))
theorem rightB_iff {n : Int} {xs ys : List Int} : rightB n xs.length ys.length = true ↔ Ap.Rt n xs ys := by
  unfold rightB Ap.Rt
  simp

theorem right_any (n : Int) (v0 v1 : Value) (xs ys : List Int) (w : World) (h0 : Sl .u64 w v0 xs) (h1 : Sl .u64 w v1 ys) :
    Calls Try.prog 19 #[.agg #[.int .i64 n, v0, v1]] w fun e w' => e = .returned (.bool (rightB n xs.length ys.length)) ∧ Ext w w' := by
  have l0 := h0.len Aw.uT
  have l1 := h1.len Aw.uT
  clear h0 h1
  generalize (xs.length : Int) = x at l0
  generalize (ys.length : Int) = y at l1
  by_cases g1 : 16 ≤ n
  · by_cases g2 : n ≤ 4096
    · cases g3 : (x == n)
      all_goals cases g4 : (y == n)
      all_goals
        have hz : rightB n x y = (decide (16 ≤ n) && (decide (n ≤ 4096) && ((x == n) && (y == n)))) := rfl
        rw [hz, decide_eq_true g1, decide_eq_true g2, g3, g4]
        have d1 : decide (16 ≤ n) = true := decide_eq_true g1
        have d2 : decide (n ≤ 4096) = true := decide_eq_true g2
        clear hz g1 g2
        go_enter Try.func19, Try.ntmps19
        go_wp2_with fail
        go_ret
        exact ⟨rfl, (Ext.refl w).alloc _⟩
    · have hz : rightB n x y = false := by unfold rightB; rw [decide_eq_false g2]; simp
      rw [hz]
      have d1 : decide (16 ≤ n) = true := decide_eq_true g1
      have d2 : decide (n ≤ 4096) = false := decide_eq_false g2
      clear hz g1 g2
      go_enter Try.func19, Try.ntmps19
      go_wp2_with fail
      go_ret
      exact ⟨rfl, (Ext.refl w).alloc _⟩
  · have hz : rightB n x y = false := by unfold rightB; rw [decide_eq_false g1]; simp
    rw [hz]
    have d1 : decide (16 ≤ n) = false := decide_eq_false g1
    clear hz g1
    go_enter Try.func19, Try.ntmps19
    go_wp2_with fail
    go_ret
    exact ⟨rfl, (Ext.refl w).alloc _⟩

theorem rright_any (n : Int) (v0 v1 : Value) (xs ys : List Int) (w : World) (h0 : Sl .u64 w v0 xs) (h1 : Sl .u64 w v1 ys) :
    Calls Try.prog 20 #[.agg #[.int .i64 n, v0, v1]] w fun e w' => e = .returned (.bool (rightB n xs.length ys.length)) ∧ Ext w w' := by
  have l0 := h0.len Aw.uT
  have l1 := h1.len Aw.uT
  clear h0 h1
  generalize (xs.length : Int) = x at l0
  generalize (ys.length : Int) = y at l1
  by_cases g1 : 16 ≤ n
  · by_cases g2 : n ≤ 4096
    · cases g3 : (x == n)
      all_goals cases g4 : (y == n)
      all_goals
        have hz : rightB n x y = (decide (16 ≤ n) && (decide (n ≤ 4096) && ((x == n) && (y == n)))) := rfl
        rw [hz, decide_eq_true g1, decide_eq_true g2, g3, g4]
        have d1 : decide (16 ≤ n) = true := decide_eq_true g1
        have d2 : decide (n ≤ 4096) = true := decide_eq_true g2
        clear hz g1 g2
        go_enter Try.func20, Try.ntmps20
        go_wp2_with fail
        go_ret
        exact ⟨rfl, (Ext.refl w).alloc _⟩
    · have hz : rightB n x y = false := by unfold rightB; rw [decide_eq_false g2]; simp
      rw [hz]
      have d1 : decide (16 ≤ n) = true := decide_eq_true g1
      have d2 : decide (n ≤ 4096) = false := decide_eq_false g2
      clear hz g1 g2
      go_enter Try.func20, Try.ntmps20
      go_wp2_with fail
      go_ret
      exact ⟨rfl, (Ext.refl w).alloc _⟩
  · have hz : rightB n x y = false := by unfold rightB; rw [decide_eq_false g1]; simp
    rw [hz]
    have d1 : decide (16 ≤ n) = false := decide_eq_false g1
    clear hz g1
    go_enter Try.func20, Try.ntmps20
    go_wp2_with fail
    go_ret
    exact ⟨rfl, (Ext.refl w).alloc _⟩

end Go.Proofs.Ytjobhdcjjegpfaa.Ar
