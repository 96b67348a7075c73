/- The reference's memory: what is there, loaded, stored, swapped; few; the document's example. -/
import Derived.Test.YtjobhdcjjegpfaaAm
namespace Go.Proofs.Ytjobhdcjjegpfaa.Ar
open Go.RowKit
open Go.Proofs.Ytjobhdcjjegpfaa
set_option linter.unusedVariables false

theorem rthere_any (n : Int) (v0 v1 : Value) (xs ys : List Int) (a : Int) (a0 : 0 ≤ a) (a1 : a ≤ 18446744073709551615) (hr : Ap.Rt n xs ys) (w : World) (h0 : Sl .u64 w v0 xs) (h1 : Sl .u64 w v1 ys) :
    Calls Try.prog 15 #[.agg #[.int .i64 n, v0, v1], .int .u64 a] w fun e w' => e = .returned (.bool (Ap.okAt n a 1)) ∧ Ext w w' := by
  have HW := Lib.hid (fun w => Sr.where_any a a0 a1 w)
  have l0 := h0.len Aw.uT
  have l1 := h1.len Aw.uT
  have hb := Sz.wh_bd a
  rw [hr.2.2.1] at l0
  rw [hr.2.2.2] at l1
  clear h0 h1 hr
  cases h1 : Sz.whOk a with
  | false =>
    have e1 : Ap.okAt n a 1 = false := by unfold Ap.okAt; rw [h1]; rfl
    rw [h1] at HW
    rw [e1]
    clear e1 h1 hb
    generalize Sz.whS a = s at HW
    generalize Sz.whA a = q at HW
    go_enter Try.func15, Try.ntmps15
    go_wp2_with fail
    refine (HW.out _).mono ?_; rintro e w1 ⟨rfl, rfl⟩
    go_wp2_with fail
    go_ret
    exact ⟨rfl, (by repeat (first | exact Ext.refl _ | assumption | refine Ext.alloc ?_ _ | refine Ext.drewN ?_ _ | refine Ext.drew ?_ | refine Ext.trans ?_ (by assumption)))⟩
  | true =>
    have e1 : Ap.okAt n a 1 = decide (Sz.whA a < n) := by
      cases hd : decide (Sz.whA a < n) with
      | true => exact Ap.ok1_iff.2 ⟨h1, of_decide_eq_true hd⟩
      | false => exact Sz.eq_false_of Ap.ok1_iff (fun h => of_decide_eq_false hd h.2)
    rw [h1] at HW
    rw [e1]
    obtain ⟨_, _, hq0, hq1⟩ := hb
    have hs := Ap.whS_01 (a := a)
    clear e1 h1
    generalize Sz.whS a = s at HW hs
    generalize Sz.whA a = q at HW hq0 hq1 ⊢
    obtain ⟨b, hb⟩ : ∃ b, decide (q < n) = b := ⟨_, rfl⟩
    rw [hb]
    rcases hs with rfl | rfl
    all_goals cases b
    all_goals
      go_enter Try.func15, Try.ntmps15
      go_wp2_with fail
      refine (HW.out _).mono ?_; rintro e w1 ⟨rfl, rfl⟩
      go_wp2_with fail
      go_ret
      exact ⟨rfl, (by repeat (first | exact Ext.refl _ | assumption | refine Ext.alloc ?_ _ | refine Ext.drewN ?_ _ | refine Ext.drew ?_ | refine Ext.trans ?_ (by assumption)))⟩

theorem rload_any (n : Int) (v0 v1 : Value) (xs ys : List Int) (a : Int) (a0 : 0 ≤ a) (a1 : a ≤ 18446744073709551615) (hr : Ap.Rt n xs ys) (w : World) (h0 : Sl .u64 w v0 xs) (h1 : Sl .u64 w v1 ys) :
    Calls Try.prog 25 #[.agg #[.int .i64 n, v0, v1], .int .u64 a] w fun e w' => e = .returned (.tuple #[.int .u64 (Ap.ldV n xs ys a), .int .i64 (Ap.ldE n a)]) ∧ Ext w w' := by
  have HT := Lib.hid (fun (w' : World) (he : Ext w w') => rthere_any n v0 v1 xs ys a a0 a1 hr w' (h0.ext he) (h1.ext he))
  have HW := Lib.hid (fun w => Sr.where_any a a0 a1 w)
  cases ho : Ap.okAt n a 1 with
  | false =>
    have e1 : Ap.ldV n xs ys a = 0 := by unfold Ap.ldV; rw [ho]; rfl
    have e2 : Ap.ldE n a = 2 := by unfold Ap.ldE; rw [ho]; rfl
    rw [ho] at HT
    rw [e1, e2]
    clear e1 e2 h0 h1 hr ho
    go_enter Try.func25, Try.ntmps25
    go_wp2_with fail
    refine (HT.out _ (by repeat (first | exact Ext.refl _ | assumption | refine Ext.alloc ?_ _ | refine Ext.drewN ?_ _ | refine Ext.drew ?_ | refine Ext.trans ?_ (by assumption)))).mono ?_; rintro e w1 ⟨rfl, hx1⟩
    have hE : Ext w w1 := Ext.trans (by repeat (first | exact Ext.refl _ | assumption | refine Ext.alloc ?_ _ | refine Ext.drewN ?_ _ | refine Ext.drew ?_ | refine Ext.trans ?_ (by assumption))) hx1
    clear hx1
    go_wp2_with fail
    go_ret2
    exact ⟨rfl, hE⟩
  | true =>
    have hk := Ap.ok1_iff.1 ho
    have hb := Sz.wh_bd a
    have e1 : Ap.ldV n xs ys a = (Ap.spOf a xs ys).getD (Sz.whA a).toNat 0 := by unfold Ap.ldV; rw [if_pos ho]
    have e2 : Ap.ldE n a = 0 := by unfold Ap.ldE; rw [if_pos ho]
    rw [ho] at HT
    rw [hk.1] at HW
    rw [e1, e2]
    have hq1 : Sz.whA a < n := hk.2
    obtain ⟨_, _, hq0, _⟩ := hb
    clear e1 e2 ho hk
    have hs := Ap.whS_01 (a := a)
    unfold Ap.spOf
    rcases hs with e | e
    · rw [if_pos e]
      rw [e] at HW
      generalize Sz.whA a = q at HW hq0 hq1 ⊢
      have hlen : (xs.length : Int) = n := hr.2.2.1
      obtain ⟨p, hp, hcp⟩ := h0.at_ Aw.uT Aw.sz (i := q) hq0 (by omega)
      generalize xs.getD q.toNat 0 = x at hcp ⊢
      clear e h0 h1 hr hlen
      go_enter Try.func25, Try.ntmps25
      go_wp2_with fail
      refine (HT.out _ (by repeat (first | exact Ext.refl _ | assumption | refine Ext.alloc ?_ _ | refine Ext.drewN ?_ _ | refine Ext.drew ?_ | refine Ext.trans ?_ (by assumption)))).mono ?_; rintro e w1 ⟨rfl, hx1⟩
      have c1 : w1.cell? ⟨w.heap.size, 1, none⟩ = some v0 := Ext.cell hx1 (by go_cell)
      have hE : Ext w w1 := Ext.trans (by repeat (first | exact Ext.refl _ | assumption | refine Ext.alloc ?_ _ | refine Ext.drewN ?_ _ | refine Ext.drew ?_ | refine Ext.trans ?_ (by assumption))) hx1
      replace hcp := hE.cell hcp
      clear hx1
      go_wp2_with fail
      refine (HW.out _).mono ?_; rintro e w2 ⟨rfl, rfl⟩
      go_wp2_with fail
      go_ret2
      exact ⟨rfl, hE⟩
    · rw [if_neg (by omega)]
      rw [e] at HW
      generalize Sz.whA a = q at HW hq0 hq1 ⊢
      have hlen : (ys.length : Int) = n := hr.2.2.2
      obtain ⟨p, hp, hcp⟩ := h1.at_ Aw.uT Aw.sz (i := q) hq0 (by omega)
      generalize ys.getD q.toNat 0 = x at hcp ⊢
      clear e h0 h1 hr hlen
      go_enter Try.func25, Try.ntmps25
      go_wp2_with fail
      refine (HT.out _ (by repeat (first | exact Ext.refl _ | assumption | refine Ext.alloc ?_ _ | refine Ext.drewN ?_ _ | refine Ext.drew ?_ | refine Ext.trans ?_ (by assumption)))).mono ?_; rintro e w1 ⟨rfl, hx1⟩
      have c1 : w1.cell? ⟨w.heap.size, 2, none⟩ = some v1 := Ext.cell hx1 (by go_cell)
      have hE : Ext w w1 := Ext.trans (by repeat (first | exact Ext.refl _ | assumption | refine Ext.alloc ?_ _ | refine Ext.drewN ?_ _ | refine Ext.drew ?_ | refine Ext.trans ?_ (by assumption))) hx1
      replace hcp := hE.cell hcp
      clear hx1
      go_wp2_with fail
      refine (HW.out _).mono ?_; rintro e w2 ⟨rfl, rfl⟩
      go_wp2_with fail
      go_ret2
      exact ⟨rfl, hE⟩

set_option maxHeartbeats 1000000 in
theorem rstore_any (n : Int) (v0 v1 : Value) (xs ys : List Int) (a v : Int) (a0 : 0 ≤ a) (a1 : a ≤ 18446744073709551615) (hr : Ap.Rt n xs ys) (w : World) (h0 : Sl .u64 w v0 xs) (h1 : Sl .u64 w v1 ys) :
    Calls Try.prog 26 #[.agg #[.int .i64 n, v0, v1], .int .u64 a, .int .u64 v] w fun e w' => ∃ u0 u1, e = .returned (.tuple #[.agg #[.int .i64 n, u0, u1], .int .i64 (Ap.ldE n a)]) ∧
      Nw w' w.heap.size v0 xs u0 (Ap.st 0 n xs a v) ∧ Nw w' w.heap.size v1 ys u1 (Ap.st 1 n ys a v) ∧ Ext w w' := by
  obtain ⟨b0, c0, rfl⟩ := Row.form h0
  obtain ⟨b1, c1, rfl⟩ := Row.form h1
  have HT := Lib.hid (fun (w' : World) (he : Ext w w') => rthere_any n (.slice b0 xs.length c0) (.slice b1 ys.length c1) xs ys a a0 a1 hr w' (h0.ext he) (h1.ext he))
  have HW := Lib.hid (fun w => Sr.where_any a a0 a1 w)
  have S0 := Lib.hid h0
  have S1 := Lib.hid h1
  have hl0 : Hid ((xs.length : Int) = n) := hr.2.2.1
  have hl1 : Hid ((ys.length : Int) = n) := hr.2.2.2
  have hn1 := hr.2.1
  clear h0 h1 hr
  cases ho : Ap.okAt n a 1 with
  | false =>
    have e2 : Ap.ldE n a = 2 := by unfold Ap.ldE; rw [ho]; rfl
    have e3 : Ap.st 0 n xs a v = xs := by unfold Ap.st; rw [if_neg (by rw [ho]; simp)]
    have e4 : Ap.st 1 n ys a v = ys := by unfold Ap.st; rw [if_neg (by rw [ho]; simp)]
    rw [ho] at HT
    rw [e2, e3, e4]
    clear e2 e3 e4 ho
    go_enter Try.func26, Try.ntmps26
    go_wp2_with fail
    refine (HT.out _ (by repeat (first | exact Ext.refl _ | assumption | refine Ext.alloc ?_ _ | refine Ext.drewN ?_ _ | refine Ext.drew ?_ | refine Ext.trans ?_ (by assumption)))).mono ?_; rintro e w1 ⟨rfl, hx1⟩
    have hE : Ext w w1 := Ext.trans (((Ext.refl w).alloc _).alloc _) hx1
    have bb := ((Blk.new w #[.int .i64 n, .slice b0 xs.length c0, .slice b1 ys.length c1] 25).alloc (.cells #[.int .i64 0, .slice none 0 0, .slice none 0 0] 25)).ext hx1
    have br : Blk w1 (w.heap.size + 1) #[.int .i64 0, .slice none 0 0, .slice none 0 0] 25 := (blk_at (by simp)).ext hx1
    have HBR := Lib.hid br
    have HE := Lib.hid hE
    obtain ⟨p0, p1, p2, _, _, _⟩ := bb.three
    obtain ⟨r0, r1, r2, q0, q1, q2⟩ := br.three
    clear bb br hx1 hE
    go_wp2_with fail
    obtain ⟨k0, k1, k2, _⟩ := (HBR.out.fill (.int .i64 n) (.slice b0 xs.length c0) (.slice b1 ys.length c1)).three
    have hE2 := HE.out.fill (b := w.heap.size + 1) (by omega) (.int .i64 n) (.slice b0 xs.length c0) (.slice b1 ys.length c1)
    exact bodyPost_ret (v := .tuple #[.agg #[.int .i64 n, .slice b0 xs.length c0, .slice b1 ys.length c1], .int .i64 2]) (by simp [results, Try.results26, go_sem, k0, k1, k2]) rfl ⟨_, _, rfl, Nw.refl _ _ _ _, Nw.refl _ _ _ _, hE2⟩
  | true =>
    have hk := Ap.ok1_iff.1 ho
    have hb := Sz.wh_bd a
    have e2 : Ap.ldE n a = 0 := by unfold Ap.ldE; rw [if_pos ho]
    rw [ho] at HT
    rw [hk.1] at HW
    rw [e2]
    have hq1 : Sz.whA a < n := hk.2
    obtain ⟨_, _, hq0, _⟩ := hb
    rcases Ap.whS_01 (a := a) with e | e
    · have e5 : Ap.st 0 n xs a v = xs.set (Sz.whA a).toNat v := by unfold Ap.st; rw [if_pos ⟨ho, e⟩]
      have e6 : Ap.st 1 n ys a v = ys := by unfold Ap.st; rw [if_neg (by rw [e]; simp)]
      rw [e5, e6]
      rw [e] at HW
      obtain ⟨q, hq⟩ : ∃ q : Nat, Sz.whA a = q := ⟨(Sz.whA a).toNat, by omega⟩
      rw [hq] at HW hq1 ⊢
      rw [Int.toNat_natCast]
      have hqn : q < xs.length := by have := hl0.out; omega
      have HQ := Lib.hid hqn
      clear e e2 e5 e6 ho hk hq hq0 hqn
      go_enter Try.func26, Try.ntmps26
      go_wp2_with fail
      refine (HT.out _ (by repeat (first | exact Ext.refl _ | assumption | refine Ext.alloc ?_ _ | refine Ext.drewN ?_ _ | refine Ext.drew ?_ | refine Ext.trans ?_ (by assumption)))).mono ?_; rintro e w1 ⟨rfl, hx1⟩
      have hE : Ext w w1 := Ext.trans (((Ext.refl w).alloc _).alloc _) hx1
      have bb := ((Blk.new w #[.int .i64 n, .slice b0 xs.length c0, .slice b1 ys.length c1] 25).alloc (.cells #[.int .i64 0, .slice none 0 0, .slice none 0 0] 25)).ext hx1
      have br : Blk w1 (w.heap.size + 1) #[.int .i64 0, .slice none 0 0, .slice none 0 0] 25 := (blk_at (by simp)).ext hx1
      have HBB := Lib.hid bb
      have HBR := Lib.hid br
      have HE := Lib.hid hE
      obtain ⟨p0, p1, p2, _, _, _⟩ := bb.three
      clear bb br hx1 hE
      go_wp2_with fail
      refine (HW.out _).mono ?_; rintro e w1' ⟨rfl, rfl⟩
      obtain ⟨i0, hi, hz0, hz1, hz2⟩ := Aw.info_u64
      obtain ⟨u, w2, hrun, hown, hg, _⟩ := append_own (ty := 22) Aw.uT hi hz0 hz1 hz2 rfl (by decide) (own_empty w1 26 1) (by simp) (Row.ext S0.out (HE.out.alloc (.cells #[] 26))) (oneCells _ _) (by have := S0.out.2.1; omega) (by decide)
      rw [Nat.zero_add, List.nil_append] at hown
      have hx2 : Ext w1 w2 := ((Ext.refl w1).alloc _).grown hg (fun k hk => by simp [Value.ownBlock] at hk; omega)
      have hb8 : xs.length * 8 ≤ 140737488355328 := S0.out.2.1
      obtain ⟨ua, uc, rfl⟩ := Row.form (Row.of_own (b := 8) hown hb8 (by omega))
      obtain ⟨g, hgo, hgb, hgs, hix, hcell, hfz, hset⟩ := own_at Aw.uT Aw.sz hown HQ.out
      replace hcell := hcell (.int .u64 (xs.getD q 0)) (by have := HQ.out; simp [List.getD_eq_getElem?_getD, this])
      replace hset := hset (.int .u64 v)
      rw [← List.map_set] at hset
      have hw1 : w.heap.size + 1 < w1.heap.size := HBR.out.lt
      have hne : ∀ b : Nat, b ≤ w.heap.size + 1 → b ≠ g := fun b hb e => by omega
      have bb3 := (HBB.out.ext hx2).other (p := ⟨g, q, none⟩) (hne _ (by omega)) (.int .u64 v)
      have br3 := (HBR.out.ext hx2).other (p := ⟨g, q, none⟩) (hne _ (by omega)) (.int .u64 v)
      have hE3 : Ext w (w2.setCell ⟨g, q, none⟩ (.int .u64 v)) := (HE.out.trans hx2).setCell (p := ⟨g, q, none⟩) (by simp; omega) _
      have HU : Hid (Nw ((w2.setCell ⟨g, q, none⟩ (.int .u64 v)).alloc (.cells #[.int .i64 n, .slice ua xs.length uc, .slice b1 ys.length c1] 25)) w1.heap.size (.slice b0 xs.length c0) xs (.slice ua xs.length uc) (xs.set q v)) := Nw.ext (Nw.of_own hset (by simp) hb8 _ _) ((Ext.refl _).alloc _)
      have HBR3 := Lib.hid (br3.alloc (.cells #[.int .i64 n, .slice ua xs.length uc, .slice b1 ys.length c1] 25))
      have HE3 := Lib.hid (hE3.alloc (.cells #[.int .i64 n, .slice ua xs.length uc, .slice b1 ys.length c1] 25))
      have HW1 := Lib.hid hw1
      obtain ⟨s0, s1, s2, _, _, _⟩ := bb3.three
      obtain ⟨n0, n1', n2, _, _, _⟩ := (HBB.out.alloc (.cells #[] 26)).three
      obtain ⟨r0, r1, r2, q0, q1, q2⟩ := HBR3.out.three
      have hrun' := Lib.hid hrun
      clear bb3 br3 hE3 hset hgo hgb hgs hx2 hg hown hi hz0 hz1 hz2 hne hrun hw1
      go_wp2_with (at_builtin; refine Lib.wpList_append_run _ rfl _ _ _ _ rfl _ _ rfl rfl _ w2 hrun'.out ?_)
      obtain ⟨k0, k1, k2, _⟩ := (HBR3.out.fill (.int .i64 n) (.slice ua xs.length uc) (.slice b1 ys.length c1)).three
      have hE4 := HE3.out.fill (b := w.heap.size + 1) (by omega) (.int .i64 n) (.slice ua xs.length uc) (.slice b1 ys.length c1)
      exact bodyPost_ret (v := .tuple #[.agg #[.int .i64 n, .slice ua xs.length uc, .slice b1 ys.length c1], .int .i64 0]) (by simp [results, Try.results26, go_sem, k0, k1, k2]) rfl
        ⟨_, _, rfl, (HU.out.fill HW1.out _ _ _).le (by have := HW1.out; omega), Nw.refl _ _ _ _, hE4⟩
    · have e5 : Ap.st 1 n ys a v = ys.set (Sz.whA a).toNat v := by unfold Ap.st; rw [if_pos ⟨ho, e⟩]
      have e6 : Ap.st 0 n xs a v = xs := by unfold Ap.st; rw [if_neg (by rw [e]; simp)]
      rw [e5, e6]
      rw [e] at HW
      obtain ⟨q, hq⟩ : ∃ q : Nat, Sz.whA a = q := ⟨(Sz.whA a).toNat, by omega⟩
      rw [hq] at HW hq1 ⊢
      rw [Int.toNat_natCast]
      have hqn : q < ys.length := by have := hl1.out; omega
      have HQ := Lib.hid hqn
      clear e e2 e5 e6 ho hk hq hq0 hqn
      go_enter Try.func26, Try.ntmps26
      go_wp2_with fail
      refine (HT.out _ (by repeat (first | exact Ext.refl _ | assumption | refine Ext.alloc ?_ _ | refine Ext.drewN ?_ _ | refine Ext.drew ?_ | refine Ext.trans ?_ (by assumption)))).mono ?_; rintro e w1 ⟨rfl, hx1⟩
      have hE : Ext w w1 := Ext.trans (((Ext.refl w).alloc _).alloc _) hx1
      have bb := ((Blk.new w #[.int .i64 n, .slice b0 xs.length c0, .slice b1 ys.length c1] 25).alloc (.cells #[.int .i64 0, .slice none 0 0, .slice none 0 0] 25)).ext hx1
      have br : Blk w1 (w.heap.size + 1) #[.int .i64 0, .slice none 0 0, .slice none 0 0] 25 := (blk_at (by simp)).ext hx1
      have HBB := Lib.hid bb
      have HBR := Lib.hid br
      have HE := Lib.hid hE
      obtain ⟨p0, p1, p2, _, _, _⟩ := bb.three
      clear bb br hx1 hE
      go_wp2_with fail
      refine (HW.out _).mono ?_; rintro e w1' ⟨rfl, rfl⟩
      obtain ⟨i0, hi, hz0, hz1, hz2⟩ := Aw.info_u64
      obtain ⟨u, w2, hrun, hown, hg, _⟩ := append_own (ty := 22) Aw.uT hi hz0 hz1 hz2 rfl (by decide) (own_empty w1 26 1) (by simp) (Row.ext S1.out (HE.out.alloc (.cells #[] 26))) (oneCells _ _) (by have := S1.out.2.1; omega) (by decide)
      rw [Nat.zero_add, List.nil_append] at hown
      have hx2 : Ext w1 w2 := ((Ext.refl w1).alloc _).grown hg (fun k hk => by simp [Value.ownBlock] at hk; omega)
      have hb8 : ys.length * 8 ≤ 140737488355328 := S1.out.2.1
      obtain ⟨ua, uc, rfl⟩ := Row.form (Row.of_own (b := 8) hown hb8 (by omega))
      obtain ⟨g, hgo, hgb, hgs, hix, hcell, hfz, hset⟩ := own_at Aw.uT Aw.sz hown HQ.out
      replace hcell := hcell (.int .u64 (ys.getD q 0)) (by have := HQ.out; simp [List.getD_eq_getElem?_getD, this])
      replace hset := hset (.int .u64 v)
      rw [← List.map_set] at hset
      have hw1 : w.heap.size + 1 < w1.heap.size := HBR.out.lt
      have hne : ∀ b : Nat, b ≤ w.heap.size + 1 → b ≠ g := fun b hb e => by omega
      have bb3 := (HBB.out.ext hx2).other (p := ⟨g, q, none⟩) (hne _ (by omega)) (.int .u64 v)
      have br3 := (HBR.out.ext hx2).other (p := ⟨g, q, none⟩) (hne _ (by omega)) (.int .u64 v)
      have hE3 : Ext w (w2.setCell ⟨g, q, none⟩ (.int .u64 v)) := (HE.out.trans hx2).setCell (p := ⟨g, q, none⟩) (by simp; omega) _
      have HU : Hid (Nw ((w2.setCell ⟨g, q, none⟩ (.int .u64 v)).alloc (.cells #[.int .i64 n, .slice b0 xs.length c0, .slice ua ys.length uc] 25)) w1.heap.size (.slice b1 ys.length c1) ys (.slice ua ys.length uc) (ys.set q v)) := Nw.ext (Nw.of_own hset (by simp) hb8 _ _) ((Ext.refl _).alloc _)
      have HBR3 := Lib.hid (br3.alloc (.cells #[.int .i64 n, .slice b0 xs.length c0, .slice ua ys.length uc] 25))
      have HE3 := Lib.hid (hE3.alloc (.cells #[.int .i64 n, .slice b0 xs.length c0, .slice ua ys.length uc] 25))
      have HW1 := Lib.hid hw1
      obtain ⟨s0, s1, s2, _, _, _⟩ := bb3.three
      obtain ⟨n0, n1', n2, _, _, _⟩ := (HBB.out.alloc (.cells #[] 26)).three
      obtain ⟨r0, r1, r2, q0, q1, q2⟩ := HBR3.out.three
      have hrun' := Lib.hid hrun
      clear bb3 br3 hE3 hset hgo hgb hgs hx2 hg hown hi hz0 hz1 hz2 hne hrun hw1
      go_wp2_with (at_builtin; refine Lib.wpList_append_run _ rfl _ _ _ _ rfl _ _ rfl rfl _ w2 hrun'.out ?_)
      obtain ⟨k0, k1, k2, _⟩ := (HBR3.out.fill (.int .i64 n) (.slice b0 xs.length c0) (.slice ua ys.length uc)).three
      have hE4 := HE3.out.fill (b := w.heap.size + 1) (by omega) (.int .i64 n) (.slice b0 xs.length c0) (.slice ua ys.length uc)
      exact bodyPost_ret (v := .tuple #[.agg #[.int .i64 n, .slice b0 xs.length c0, .slice ua ys.length uc], .int .i64 0]) (by simp [results, Try.results26, go_sem, k0, k1, k2]) rfl
        ⟨_, _, rfl, Nw.refl _ _ _ _, (HU.out.fill HW1.out _ _ _).le (by have := HW1.out; omega), hE4⟩
end Go.Proofs.Ytjobhdcjjegpfaa.Ar
