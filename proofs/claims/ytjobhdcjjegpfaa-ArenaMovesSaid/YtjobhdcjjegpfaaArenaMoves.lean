/- ArenaMoves holds for every input: what was moved is there, word by word, as it was; what is stored nowhere isn't changed. No condition. -/
import Derived.Test.YtjobhdcjjegpfaaRows
import Derived.Test.YtjobhdcjjegpfaaAn
namespace Go.Proofs.Ytjobhdcjjegpfaa.arenaMoves
open Go.RowKit Go.Proofs.Ytjobhdcjjegpfaa Go.Proofs.Ytjobhdcjjegpfaa.Ar
set_option linter.unusedVariables false

theorem lay_getD {L cs : List Int} {o : Nat} (h : o + cs.length ≤ L.length) (j : Nat) : (Ap.lay L o cs).getD j 0 = if o ≤ j ∧ j < o + cs.length then cs.getD (j - o) 0 else L.getD j 0 := by
  unfold Ap.lay
  have e1 : (L.take o).length = o := by rw [List.length_take]; omega
  simp only [List.getD_eq_getElem?_getD, List.getElem?_append, e1, List.getElem?_take, List.getElem?_drop]
  by_cases h1 : j < o
  · rw [if_pos h1, if_pos h1, if_neg (by omega)]
  · rw [if_neg h1]
    by_cases h2 : j - o < cs.length
    · rw [if_pos h2, if_pos (by omega)]
    · rw [if_neg h2, if_neg (by omega), show o + cs.length + (j - o - cs.length) = j by omega]
theorem wh_eq {a : Int} (h : Sz.whOk a = true) : a = (Sz.whS a + 1) * 4294967296 + Sz.whA a := by
  rw [Sz.whS_ok h, Sz.whA_ok h]; omega
theorem wh_add {a i : Int} (h : Sz.whOk a = true) (i0 : 0 ≤ i) (i1 : Sz.whA a + i ≤ 4294967295) : Sz.whOk (a + i) = true ∧ Sz.whS (a + i) = Sz.whS a ∧ Sz.whA (a + i) = Sz.whA a + i := by
  have e := Sz.whA_ok h
  have h' := Sz.whOk_iff.1 h
  rw [e] at i1
  have hq : Sz.whOk (a + i) = true := Sz.whOk_iff.2 (by omega)
  exact ⟨hq, by rw [Sz.whS_ok hq, Sz.whS_ok h]; omega, by rw [Sz.whA_ok hq, e]; omega⟩
theorem mv_oks {n a b c : Int} (hok : Ap.mvOk n a b c = true) : Ap.okAt n a c = true ∧ Ap.okAt n b c = true := by unfold Ap.mvOk at hok; rwa [Bool.and_eq_true] at hok
section
variable {n : Int} {xs ys : List Int} (hr : Ap.Rt n xs ys) {a b c : Int} (hok : Ap.mvOk n a b c = true)
include hr hok
/-- Space s behind the move, word by word. -/
theorem mv_at (s : Int) (zs : List Int) (hz : (zs.length : Int) = n) (j : Nat) : (Ap.mv s n xs ys zs a b c).getD j 0 =
    if Sz.whS b = s ∧ Sz.whA b ≤ j ∧ (j : Int) < Sz.whA b + c then (Ap.spOf a xs ys).getD ((Sz.whA a).toNat + (j - (Sz.whA b).toNat)) 0 else zs.getD j 0 := by
  obtain ⟨o1, o2⟩ := mv_oks hok
  have k1 := Ap.okAt_iff.1 o1
  have k2 := Ap.okAt_iff.1 o2
  have b1 := (Sz.wh_bd a).2.2.1
  have b2 := (Sz.wh_bd b).2.2.1
  have hl := Ap.src_len hr o1
  unfold Ap.mv
  by_cases hs : Sz.whS b = s
  · rw [if_pos ⟨hok, hs⟩, lay_getD (by omega)]
    by_cases hj : Sz.whA b ≤ j ∧ (j : Int) < Sz.whA b + c
    · rw [if_pos (by omega), if_pos ⟨hs, hj.1, hj.2⟩]
      unfold Ap.src
      simp only [List.getD_eq_getElem?_getD, List.getElem?_take, List.getElem?_drop]
      rw [if_pos (by omega)]
    · rw [if_neg (by omega), if_neg (fun h => hj h.2)]
  · rw [if_neg (fun h => hs h.2), if_neg (fun h => hs h.1)]
theorem mv_out (t : Int) (ht : ¬ (b ≤ t ∧ t - b < c)) : Ap.ldV n (Ap.mv 0 n xs ys xs a b c) (Ap.mv 1 n xs ys ys a b c) t = Ap.ldV n xs ys t := by
  obtain ⟨o1, o2⟩ := mv_oks hok
  have k2 := Ap.okAt_iff.1 o2
  unfold Ap.ldV
  by_cases ho : Ap.okAt n t 1 = true
  · rw [if_pos ho, if_pos ho]
    have k3 := Ap.ok1_iff.1 ho
    have e1 := wh_eq k2.1
    have e2 := wh_eq k3.1
    have b3 := (Sz.wh_bd t).2.2.1
    unfold Ap.spOf
    rcases Ap.whS_01 (a := t) with e | e
    · rw [if_pos e, if_pos e, mv_at hr hok 0 xs hr.2.2.1, if_neg]
      rintro ⟨h1, h2, h3⟩
      exact ht (by omega)
    · rw [if_neg (by omega), if_neg (by omega), mv_at hr hok 1 ys hr.2.2.2, if_neg]
      rintro ⟨h1, h2, h3⟩
      exact ht (by omega)
  · rw [if_neg ho, if_neg ho]
theorem mv_in {i : Int} (i0 : 0 ≤ i) (i1 : i < c) : Ap.ldE n (a + i) = 0 ∧ Ap.ldE n (b + i) = 0 ∧ Ap.ldV n (Ap.mv 0 n xs ys xs a b c) (Ap.mv 1 n xs ys ys a b c) (b + i) = Ap.ldV n xs ys (a + i) := by
  obtain ⟨o1, o2⟩ := mv_oks hok
  have k1 := Ap.okAt_iff.1 o1
  have k2 := Ap.okAt_iff.1 o2
  have n1 := hr.2.1
  have b1 := (Sz.wh_bd a).2.2.1
  have b2 := (Sz.wh_bd b).2.2.1
  obtain ⟨wa1, wa2, wa3⟩ := wh_add k1.1 i0 (by omega)
  obtain ⟨wb1, wb2, wb3⟩ := wh_add k2.1 i0 (by omega)
  have p1 : Ap.okAt n (a + i) 1 = true := Ap.ok1_iff.2 ⟨wa1, by omega⟩
  have p2 : Ap.okAt n (b + i) 1 = true := Ap.ok1_iff.2 ⟨wb1, by omega⟩
  refine ⟨by unfold Ap.ldE; rw [if_pos p1], by unfold Ap.ldE; rw [if_pos p2], ?_⟩
  unfold Ap.ldV
  rw [if_pos p1, if_pos p2, wa3, wb3]
  have ej : (Sz.whA b + i).toNat = (Sz.whA b).toNat + i.toNat := by omega
  have ek : (Sz.whA a + i).toNat = (Sz.whA a).toNat + i.toNat := by omega
  have key : ∀ s zs, (zs.length : Int) = n → Sz.whS b = s → (Ap.mv s n xs ys zs a b c).getD (Sz.whA b + i).toNat 0 = (Ap.spOf a xs ys).getD (Sz.whA a + i).toNat 0 := fun s zs hz hs => by
    rw [mv_at hr hok s zs hz, if_pos ⟨hs, by omega, by omega⟩, ek]
    congr 2
    omega
  have esp : Ap.spOf (a + i) xs ys = Ap.spOf a xs ys := by unfold Ap.spOf; rw [wa2]
  rw [esp]
  unfold Ap.spOf
  rw [wb2]
  rcases Ap.whS_01 (a := b) with e | e
  · rw [if_pos e, key 0 xs hr.2.2.1 e]; rfl
  · rw [if_neg (by omega), key 1 ys hr.2.2.2 e]; rfl
end

set_option maxHeartbeats 8000000 in
theorem go (n : Int) (v0 v1 : Value) (xs ys : List Int) (a b c i t : Int) (aL : 0 ≤ a) (aH : a ≤ 18446744073709551615) (bL : 0 ≤ b) (bH : b ≤ 18446744073709551615) (cL : -9223372036854775808 ≤ c) (cH : c ≤ 9223372036854775807) (iL : -9223372036854775808 ≤ i) (iH : i ≤ 9223372036854775807) (tL : 0 ≤ t) (tH : t ≤ 18446744073709551615) (w : World) (h0 : Sl .u64 w v0 xs) (h1 : Sl .u64 w v1 ys) :
    Calls Try.prog 7 #[.agg #[.int .i64 n, v0, v1, .int .u64 a, .int .u64 b, .int .i64 c, .int .i64 i, .int .u64 t]] w fun e w' => e = .returned (.bool true) ∧ Ext w w' := by
  obtain ⟨b0, c0, rfl⟩ := Row.form h0
  obtain ⟨b1, c1, rfl⟩ := Row.form h1
  have HF := Lib.hid (fun (w' : World) (he : Ext w w') => An.few_any n _ _ xs ys w' (h0.ext he) (h1.ext he))
  cases hf : An.fewB n xs.length ys.length with
  | false =>
    rw [hf] at HF
    clear h0 h1 hf
    go_enter Try.func7, Try.ntmps7
    go_wp2_with fail
    refine (An.shown_any _).mono ?_; rintro e w1 ⟨rfl, hx⟩
    have HE1 := Lib.hid (Ext.trans (by repeat (first | exact Ext.refl _ | assumption | refine Ext.alloc ?_ _ | refine Ext.drewN ?_ _ | refine Ext.drew ?_ | refine Ext.trans ?_ (by assumption))) hx : Ext w w1)
    have HBm1 := Lib.hid (show Blk w1 (w.heap.size + 1) #[.int .i64 n, .slice b0 xs.length c0, .slice b1 ys.length c1] 25 from (blk_at (by simp)).ext hx)
    obtain ⟨p0, p1, p2, _, _, _⟩ := HBm1.out.three
    clear hx
    go_wp2_with fail
    refine (HF.out _ HE1.out).mono ?_; rintro e w2 ⟨rfl, hx⟩
    have HE2 := Lib.hid (HE1.out.trans hx)
    have HBm2 := Lib.hid (HBm1.out.ext hx)
    obtain ⟨p0, p1, p2, _, _, _⟩ := HBm2.out.three
    clear hx
    go_wp2_with fail
    go_ret
    exact ⟨by first | rfl | (simp; done), HE2.out⟩
  | true =>
    obtain ⟨hr, h200⟩ := An.few_right hf
    rw [hf] at HF
    have HM := Lib.hid (fun (w' : World) (he : Ext w w') => move_any n _ _ xs ys a b c aL aH bL bH cL cH hr w' (h0.ext he) (h1.ext he))
    have S0 := Lib.hid h0
    have S1 := Lib.hid h1
    have hr2 := hr.mv a b c
    cases hok : Ap.mvOk n a b c with
    | false =>
      have e1 : (Ap.mvE n a b c != 0) = true := by unfold Ap.mvE; rw [hok]; split <;> rfl
      clear h0 h1 hr hr2 hf hok
      generalize Ap.mv 0 n xs ys xs a b c = x0 at HM
      generalize Ap.mv 1 n xs ys ys a b c = x1 at HM
      generalize Ap.mvE n a b c = e at HM e1
      go_enter Try.func7, Try.ntmps7
      go_wp2_with fail
      refine (An.shown_any _).mono ?_; rintro e w1 ⟨rfl, hx⟩
      have HE1 := Lib.hid (Ext.trans (by repeat (first | exact Ext.refl _ | assumption | refine Ext.alloc ?_ _ | refine Ext.drewN ?_ _ | refine Ext.drew ?_ | refine Ext.trans ?_ (by assumption))) hx : Ext w w1)
      have HBm1 := Lib.hid (show Blk w1 (w.heap.size + 1) #[.int .i64 n, .slice b0 xs.length c0, .slice b1 ys.length c1] 25 from (blk_at (by simp)).ext hx)
      obtain ⟨p0, p1, p2, _, _, _⟩ := HBm1.out.three
      clear hx
      go_wp2_with fail
      refine (HF.out _ HE1.out).mono ?_; rintro e w2 ⟨rfl, hx⟩
      have HE2 := Lib.hid (HE1.out.trans hx)
      have HBm2 := Lib.hid (HBm1.out.ext hx)
      obtain ⟨p0, p1, p2, _, _, _⟩ := HBm2.out.three
      clear hx
      go_wp2_with fail
      refine (HM.out _ HE2.out).mono ?_; rintro e w3 ⟨u0, u1, rfl, hu0, hu1, hx⟩
      have HE3 := Lib.hid (HE2.out.trans hx)
      have HBm3 := Lib.hid (HBm2.out.ext hx)
      obtain ⟨dk0, fk0, rfl⟩ := Row.form (hu0.sl (S0.out.ext HE3.out))
      obtain ⟨dk1, fk1, rfl⟩ := Row.form (hu1.sl (S1.out.ext HE3.out))
      have Uk0 := Lib.hid (hu0.sl (S0.out.ext HE3.out))
      have Uk1 := Lib.hid (hu1.sl (S1.out.ext HE3.out))
      obtain ⟨p0, p1, p2, _, _, _⟩ := HBm3.out.three
      obtain ⟨q0, q1, q2, _, _, _⟩ := (HBm3.out.alloc (.cells #[.int .i64 n, .slice dk0 x0.length fk0, .slice dk1 x1.length fk1] 25)).three
      clear hx hu0 hu1
      go_wp2_with fail
      have HBk3 := Lib.hid (Blk.new w3 #[.int .i64 n, .slice dk0 x0.length fk0, .slice dk1 x1.length fk1] 25)
      go_ret
      exact ⟨by first | rfl | (simp; done), (HE3.out.alloc _)⟩
    | true =>
      have hc0 : 0 ≤ c := by
        rcases Int.lt_or_le c 0 with h | h
        · rw [Ap.mvOk_neg h] at hok; cases hok
        · exact h
      have e1 : Ap.mvE n a b c = 0 := by unfold Ap.mvE; rw [if_neg (by omega), if_pos hok]
      have HL := Lib.hid (fun (w' : World) (he : Ext w w') => load_any n _ _ xs ys t tL tH hr w' (h0.ext he) (h1.ext he))
      have HL2 : Hid (∀ (w' : World) (v0 v1 : Value), Sl .u64 w' v0 (Ap.mv 0 n xs ys xs a b c) → Sl .u64 w' v1 (Ap.mv 1 n xs ys ys a b c) → Calls Try.prog 14 #[.agg #[.int .i64 n, v0, v1], .int .u64 t] w' _) := fun w' v0 v1 g0 g1 => load_any n v0 v1 _ _ t tL tH hr2 w' g0 g1
      have hin : (∃ z, Ap.ldV n (Ap.mv 0 n xs ys xs a b c) (Ap.mv 1 n xs ys ys a b c) t = z ∧ decide (b ≤ t) = true ∧ 0 ≤ t - b ∧ t - b ≤ 18446744073709551615 ∧ decide (t - b < c) = true) ∨
          (Ap.ldV n (Ap.mv 0 n xs ys xs a b c) (Ap.mv 1 n xs ys ys a b c) t = Ap.ldV n xs ys t ∧ decide (b ≤ t) = false) ∨
          (Ap.ldV n (Ap.mv 0 n xs ys xs a b c) (Ap.mv 1 n xs ys ys a b c) t = Ap.ldV n xs ys t ∧ decide (b ≤ t) = true ∧ 0 ≤ t - b ∧ t - b ≤ 18446744073709551615 ∧ decide (t - b < c) = false) := by
        by_cases h1 : b ≤ t
        · by_cases h2 : t - b < c
          · exact .inl ⟨_, rfl, decide_eq_true h1, by omega, by omega, decide_eq_true h2⟩
          · exact .inr (.inr ⟨mv_out hr hok t (fun h => h2 h.2), decide_eq_true h1, by omega, by omega, decide_eq_false h2⟩)
        · exact .inr (.inl ⟨mv_out hr hok t (fun h => h1 h.1), decide_eq_false h1⟩)
      have HLA := Lib.hid (fun (j : Int) (jL : 0 ≤ j) (jH : j ≤ 18446744073709551615) (w' : World) (he : Ext w w') => load_any n _ _ xs ys j jL jH hr w' (h0.ext he) (h1.ext he))
      have HLB : Hid (∀ (j : Int) (_ : 0 ≤ j) (_ : j ≤ 18446744073709551615) (w' : World) (v0 v1 : Value), Sl .u64 w' v0 (Ap.mv 0 n xs ys xs a b c) → Sl .u64 w' v1 (Ap.mv 1 n xs ys ys a b c) → Calls Try.prog 14 #[.agg #[.int .i64 n, v0, v1], .int .u64 j] w' _) := fun j jL jH w' v0 v1 g0 g1 => load_any n v0 v1 _ _ j jL jH hr2 w' g0 g1
      have hcase : (decide (i < 0) = true) ∨ (decide (i < 0) = false ∧ decide (c ≤ i) = true) ∨
          (decide (i < 0) = false ∧ decide (c ≤ i) = false ∧ 0 ≤ i ∧ i ≤ 4096 ∧ a ≤ 12884901887 ∧ b ≤ 12884901887 ∧ Hid (Ap.ldE n (a + i) = 0 ∧ Ap.ldE n (b + i) = 0 ∧ Ap.ldV n (Ap.mv 0 n xs ys xs a b c) (Ap.mv 1 n xs ys ys a b c) (b + i) = Ap.ldV n xs ys (a + i))) := by
        by_cases h1 : i < 0
        · exact .inl (decide_eq_true h1)
        · right
          by_cases h2 : c ≤ i
          · exact .inl ⟨decide_eq_false h1, decide_eq_true h2⟩
          · right
            obtain ⟨o1, o2⟩ := mv_oks hok
            have k1 := Ap.okAt_iff.1 o1
            have k2 := Ap.okAt_iff.1 o2
            have g1 := wh_eq k1.1
            have g2 := wh_eq k2.1
            have b1 := Sz.wh_bd a
            have b2 := Sz.wh_bd b
            have n1 := hr.2.1
            exact ⟨decide_eq_false h1, decide_eq_false h2, by omega, by omega, by omega, by omega, mv_in hr hok (by omega) (by omega)⟩
      rw [e1] at HM
      clear h0 h1 hr hr2 hf hok e1
      generalize Ap.mv 0 n xs ys xs a b c = x0 at HM HL2 HLB hin hcase
      generalize Ap.mv 1 n xs ys ys a b c = x1 at HM HL2 HLB hin hcase
      obtain ⟨r, hrr⟩ : ∃ r, Ap.ldE n t = r := ⟨_, rfl⟩
      rw [hrr] at HL HL2
      clear hrr
      generalize Ap.ldV n x0 x1 t = z at HL2 hin
      generalize Ap.ldV n xs ys t = y at HL hin
      have hwc : IntKind.u64.wrap c = c := by rw [IntKind.wrap_u64]; omega
      rcases hin with ⟨z', rfl, d1, d2, d3, d4⟩ | ⟨rfl, d1⟩ | ⟨rfl, d1, d2, d3, d4⟩
      all_goals rcases hcase with g1 | ⟨g1, g2⟩ | ⟨g1, g2, i0, i1, a2, b2, HV⟩
      ·
        go_enter Try.func7, Try.ntmps7
        go_wp2_with fail
        refine (An.shown_any _).mono ?_; rintro e w1 ⟨rfl, hx⟩
        have HE1 := Lib.hid (Ext.trans (by repeat (first | exact Ext.refl _ | assumption | refine Ext.alloc ?_ _ | refine Ext.drewN ?_ _ | refine Ext.drew ?_ | refine Ext.trans ?_ (by assumption))) hx : Ext w w1)
        have HBm1 := Lib.hid (show Blk w1 (w.heap.size + 1) #[.int .i64 n, .slice b0 xs.length c0, .slice b1 ys.length c1] 25 from (blk_at (by simp)).ext hx)
        obtain ⟨p0, p1, p2, _, _, _⟩ := HBm1.out.three
        clear hx
        go_wp2_with fail
        refine (HF.out _ HE1.out).mono ?_; rintro e w2 ⟨rfl, hx⟩
        have HE2 := Lib.hid (HE1.out.trans hx)
        have HBm2 := Lib.hid (HBm1.out.ext hx)
        obtain ⟨p0, p1, p2, _, _, _⟩ := HBm2.out.three
        clear hx
        go_wp2_with fail
        refine (HM.out _ HE2.out).mono ?_; rintro e w3 ⟨u0, u1, rfl, hu0, hu1, hx⟩
        have HE3 := Lib.hid (HE2.out.trans hx)
        have HBm3 := Lib.hid (HBm2.out.ext hx)
        obtain ⟨dk0, fk0, rfl⟩ := Row.form (hu0.sl (S0.out.ext HE3.out))
        obtain ⟨dk1, fk1, rfl⟩ := Row.form (hu1.sl (S1.out.ext HE3.out))
        have Uk0 := Lib.hid (hu0.sl (S0.out.ext HE3.out))
        have Uk1 := Lib.hid (hu1.sl (S1.out.ext HE3.out))
        obtain ⟨p0, p1, p2, _, _, _⟩ := HBm3.out.three
        obtain ⟨q0, q1, q2, _, _, _⟩ := (HBm3.out.alloc (.cells #[.int .i64 n, .slice dk0 x0.length fk0, .slice dk1 x1.length fk1] 25)).three
        clear hx hu0 hu1
        go_wp2_with fail
        have HBk3 := Lib.hid (Blk.new w3 #[.int .i64 n, .slice dk0 x0.length fk0, .slice dk1 x1.length fk1] 25)
        refine (HL.out _ (HE3.out.alloc _)).mono ?_; rintro e w4 ⟨rfl, hx⟩
        have HE4 := Lib.hid ((HE3.out.alloc _).trans hx)
        have HBm4 := Lib.hid ((HBm3.out.alloc _).ext hx)
        have HBk4 := Lib.hid (HBk3.out.ext hx)
        have HXk4 := Lib.hid (((Ext.refl _).alloc _).trans hx)
        obtain ⟨p0, p1, p2, _, _, _⟩ := HBm4.out.three
        obtain ⟨p0, p1, p2, _, _, _⟩ := HBk4.out.three
        clear hx
        go_wp2_with fail
        refine (HL2.out _ _ _ (Uk0.out.ext HXk4.out) (Uk1.out.ext HXk4.out)).mono ?_; rintro e w5 ⟨rfl, hx⟩
        have HE5 := Lib.hid (HE4.out.trans hx)
        have HBm5 := Lib.hid (HBm4.out.ext hx)
        have HBk5 := Lib.hid (HBk4.out.ext hx)
        have HXk5 := Lib.hid (HXk4.out.trans hx)
        obtain ⟨p0, p1, p2, _, _, _⟩ := HBm5.out.three
        obtain ⟨p0, p1, p2, _, _, _⟩ := HBk5.out.three
        clear hx
        go_wp2_with fail
        go_ret
        exact ⟨by first | rfl | (simp; done), HE5.out⟩
      ·
        go_enter Try.func7, Try.ntmps7
        go_wp2_with fail
        refine (An.shown_any _).mono ?_; rintro e w1 ⟨rfl, hx⟩
        have HE1 := Lib.hid (Ext.trans (by repeat (first | exact Ext.refl _ | assumption | refine Ext.alloc ?_ _ | refine Ext.drewN ?_ _ | refine Ext.drew ?_ | refine Ext.trans ?_ (by assumption))) hx : Ext w w1)
        have HBm1 := Lib.hid (show Blk w1 (w.heap.size + 1) #[.int .i64 n, .slice b0 xs.length c0, .slice b1 ys.length c1] 25 from (blk_at (by simp)).ext hx)
        obtain ⟨p0, p1, p2, _, _, _⟩ := HBm1.out.three
        clear hx
        go_wp2_with fail
        refine (HF.out _ HE1.out).mono ?_; rintro e w2 ⟨rfl, hx⟩
        have HE2 := Lib.hid (HE1.out.trans hx)
        have HBm2 := Lib.hid (HBm1.out.ext hx)
        obtain ⟨p0, p1, p2, _, _, _⟩ := HBm2.out.three
        clear hx
        go_wp2_with fail
        refine (HM.out _ HE2.out).mono ?_; rintro e w3 ⟨u0, u1, rfl, hu0, hu1, hx⟩
        have HE3 := Lib.hid (HE2.out.trans hx)
        have HBm3 := Lib.hid (HBm2.out.ext hx)
        obtain ⟨dk0, fk0, rfl⟩ := Row.form (hu0.sl (S0.out.ext HE3.out))
        obtain ⟨dk1, fk1, rfl⟩ := Row.form (hu1.sl (S1.out.ext HE3.out))
        have Uk0 := Lib.hid (hu0.sl (S0.out.ext HE3.out))
        have Uk1 := Lib.hid (hu1.sl (S1.out.ext HE3.out))
        obtain ⟨p0, p1, p2, _, _, _⟩ := HBm3.out.three
        obtain ⟨q0, q1, q2, _, _, _⟩ := (HBm3.out.alloc (.cells #[.int .i64 n, .slice dk0 x0.length fk0, .slice dk1 x1.length fk1] 25)).three
        clear hx hu0 hu1
        go_wp2_with fail
        have HBk3 := Lib.hid (Blk.new w3 #[.int .i64 n, .slice dk0 x0.length fk0, .slice dk1 x1.length fk1] 25)
        refine (HL.out _ (HE3.out.alloc _)).mono ?_; rintro e w4 ⟨rfl, hx⟩
        have HE4 := Lib.hid ((HE3.out.alloc _).trans hx)
        have HBm4 := Lib.hid ((HBm3.out.alloc _).ext hx)
        have HBk4 := Lib.hid (HBk3.out.ext hx)
        have HXk4 := Lib.hid (((Ext.refl _).alloc _).trans hx)
        obtain ⟨p0, p1, p2, _, _, _⟩ := HBm4.out.three
        obtain ⟨p0, p1, p2, _, _, _⟩ := HBk4.out.three
        clear hx
        go_wp2_with fail
        refine (HL2.out _ _ _ (Uk0.out.ext HXk4.out) (Uk1.out.ext HXk4.out)).mono ?_; rintro e w5 ⟨rfl, hx⟩
        have HE5 := Lib.hid (HE4.out.trans hx)
        have HBm5 := Lib.hid (HBm4.out.ext hx)
        have HBk5 := Lib.hid (HBk4.out.ext hx)
        have HXk5 := Lib.hid (HXk4.out.trans hx)
        obtain ⟨p0, p1, p2, _, _, _⟩ := HBm5.out.three
        obtain ⟨p0, p1, p2, _, _, _⟩ := HBk5.out.three
        clear hx
        go_wp2_with fail
        go_ret
        exact ⟨by first | rfl | (simp; done), HE5.out⟩
      ·
        go_enter Try.func7, Try.ntmps7
        go_wp2_with fail
        refine (An.shown_any _).mono ?_; rintro e w1 ⟨rfl, hx⟩
        have HE1 := Lib.hid (Ext.trans (by repeat (first | exact Ext.refl _ | assumption | refine Ext.alloc ?_ _ | refine Ext.drewN ?_ _ | refine Ext.drew ?_ | refine Ext.trans ?_ (by assumption))) hx : Ext w w1)
        have HBm1 := Lib.hid (show Blk w1 (w.heap.size + 1) #[.int .i64 n, .slice b0 xs.length c0, .slice b1 ys.length c1] 25 from (blk_at (by simp)).ext hx)
        obtain ⟨p0, p1, p2, _, _, _⟩ := HBm1.out.three
        clear hx
        go_wp2_with fail
        refine (HF.out _ HE1.out).mono ?_; rintro e w2 ⟨rfl, hx⟩
        have HE2 := Lib.hid (HE1.out.trans hx)
        have HBm2 := Lib.hid (HBm1.out.ext hx)
        obtain ⟨p0, p1, p2, _, _, _⟩ := HBm2.out.three
        clear hx
        go_wp2_with fail
        refine (HM.out _ HE2.out).mono ?_; rintro e w3 ⟨u0, u1, rfl, hu0, hu1, hx⟩
        have HE3 := Lib.hid (HE2.out.trans hx)
        have HBm3 := Lib.hid (HBm2.out.ext hx)
        obtain ⟨dk0, fk0, rfl⟩ := Row.form (hu0.sl (S0.out.ext HE3.out))
        obtain ⟨dk1, fk1, rfl⟩ := Row.form (hu1.sl (S1.out.ext HE3.out))
        have Uk0 := Lib.hid (hu0.sl (S0.out.ext HE3.out))
        have Uk1 := Lib.hid (hu1.sl (S1.out.ext HE3.out))
        obtain ⟨p0, p1, p2, _, _, _⟩ := HBm3.out.three
        obtain ⟨q0, q1, q2, _, _, _⟩ := (HBm3.out.alloc (.cells #[.int .i64 n, .slice dk0 x0.length fk0, .slice dk1 x1.length fk1] 25)).three
        clear hx hu0 hu1
        go_wp2_with fail
        have HBk3 := Lib.hid (Blk.new w3 #[.int .i64 n, .slice dk0 x0.length fk0, .slice dk1 x1.length fk1] 25)
        refine (HL.out _ (HE3.out.alloc _)).mono ?_; rintro e w4 ⟨rfl, hx⟩
        have HE4 := Lib.hid ((HE3.out.alloc _).trans hx)
        have HBm4 := Lib.hid ((HBm3.out.alloc _).ext hx)
        have HBk4 := Lib.hid (HBk3.out.ext hx)
        have HXk4 := Lib.hid (((Ext.refl _).alloc _).trans hx)
        obtain ⟨p0, p1, p2, _, _, _⟩ := HBm4.out.three
        obtain ⟨p0, p1, p2, _, _, _⟩ := HBk4.out.three
        clear hx
        go_wp2_with fail
        refine (HL2.out _ _ _ (Uk0.out.ext HXk4.out) (Uk1.out.ext HXk4.out)).mono ?_; rintro e w5 ⟨rfl, hx⟩
        have HE5 := Lib.hid (HE4.out.trans hx)
        have HBm5 := Lib.hid (HBm4.out.ext hx)
        have HBk5 := Lib.hid (HBk4.out.ext hx)
        have HXk5 := Lib.hid (HXk4.out.trans hx)
        obtain ⟨p0, p1, p2, _, _, _⟩ := HBm5.out.three
        obtain ⟨p0, p1, p2, _, _, _⟩ := HBk5.out.three
        clear hx
        go_wp2_with fail
        refine (HLA.out _ (by omega) (by omega) _ HE5.out).mono ?_; rintro e w6 ⟨rfl, hx⟩
        rw [HV.out.1]
        have HE6 := Lib.hid (HE5.out.trans hx)
        have HBm6 := Lib.hid (HBm5.out.ext hx)
        have HBk6 := Lib.hid (HBk5.out.ext hx)
        have HXk6 := Lib.hid (HXk5.out.trans hx)
        obtain ⟨p0, p1, p2, _, _, _⟩ := HBm6.out.three
        obtain ⟨p0, p1, p2, _, _, _⟩ := HBk6.out.three
        clear hx
        go_wp2_with fail
        refine (HLB.out _ (by omega) (by omega) _ _ _ (Uk0.out.ext HXk6.out) (Uk1.out.ext HXk6.out)).mono ?_; rintro e w7 ⟨rfl, hx⟩
        rw [HV.out.2.1, HV.out.2.2]
        have HE7 := Lib.hid (HE6.out.trans hx)
        have HBm7 := Lib.hid (HBm6.out.ext hx)
        have HBk7 := Lib.hid (HBk6.out.ext hx)
        have HXk7 := Lib.hid (HXk6.out.trans hx)
        obtain ⟨p0, p1, p2, _, _, _⟩ := HBm7.out.three
        obtain ⟨p0, p1, p2, _, _, _⟩ := HBk7.out.three
        clear hx
        go_wp2_with fail
        go_ret
        exact ⟨by first | rfl | (simp; done), HE7.out⟩
      ·
        go_enter Try.func7, Try.ntmps7
        go_wp2_with fail
        refine (An.shown_any _).mono ?_; rintro e w1 ⟨rfl, hx⟩
        have HE1 := Lib.hid (Ext.trans (by repeat (first | exact Ext.refl _ | assumption | refine Ext.alloc ?_ _ | refine Ext.drewN ?_ _ | refine Ext.drew ?_ | refine Ext.trans ?_ (by assumption))) hx : Ext w w1)
        have HBm1 := Lib.hid (show Blk w1 (w.heap.size + 1) #[.int .i64 n, .slice b0 xs.length c0, .slice b1 ys.length c1] 25 from (blk_at (by simp)).ext hx)
        obtain ⟨p0, p1, p2, _, _, _⟩ := HBm1.out.three
        clear hx
        go_wp2_with fail
        refine (HF.out _ HE1.out).mono ?_; rintro e w2 ⟨rfl, hx⟩
        have HE2 := Lib.hid (HE1.out.trans hx)
        have HBm2 := Lib.hid (HBm1.out.ext hx)
        obtain ⟨p0, p1, p2, _, _, _⟩ := HBm2.out.three
        clear hx
        go_wp2_with fail
        refine (HM.out _ HE2.out).mono ?_; rintro e w3 ⟨u0, u1, rfl, hu0, hu1, hx⟩
        have HE3 := Lib.hid (HE2.out.trans hx)
        have HBm3 := Lib.hid (HBm2.out.ext hx)
        obtain ⟨dk0, fk0, rfl⟩ := Row.form (hu0.sl (S0.out.ext HE3.out))
        obtain ⟨dk1, fk1, rfl⟩ := Row.form (hu1.sl (S1.out.ext HE3.out))
        have Uk0 := Lib.hid (hu0.sl (S0.out.ext HE3.out))
        have Uk1 := Lib.hid (hu1.sl (S1.out.ext HE3.out))
        obtain ⟨p0, p1, p2, _, _, _⟩ := HBm3.out.three
        obtain ⟨q0, q1, q2, _, _, _⟩ := (HBm3.out.alloc (.cells #[.int .i64 n, .slice dk0 x0.length fk0, .slice dk1 x1.length fk1] 25)).three
        clear hx hu0 hu1
        go_wp2_with fail
        have HBk3 := Lib.hid (Blk.new w3 #[.int .i64 n, .slice dk0 x0.length fk0, .slice dk1 x1.length fk1] 25)
        refine (HL.out _ (HE3.out.alloc _)).mono ?_; rintro e w4 ⟨rfl, hx⟩
        have HE4 := Lib.hid ((HE3.out.alloc _).trans hx)
        have HBm4 := Lib.hid ((HBm3.out.alloc _).ext hx)
        have HBk4 := Lib.hid (HBk3.out.ext hx)
        have HXk4 := Lib.hid (((Ext.refl _).alloc _).trans hx)
        obtain ⟨p0, p1, p2, _, _, _⟩ := HBm4.out.three
        obtain ⟨p0, p1, p2, _, _, _⟩ := HBk4.out.three
        clear hx
        go_wp2_with fail
        refine (HL2.out _ _ _ (Uk0.out.ext HXk4.out) (Uk1.out.ext HXk4.out)).mono ?_; rintro e w5 ⟨rfl, hx⟩
        have HE5 := Lib.hid (HE4.out.trans hx)
        have HBm5 := Lib.hid (HBm4.out.ext hx)
        have HBk5 := Lib.hid (HBk4.out.ext hx)
        have HXk5 := Lib.hid (HXk4.out.trans hx)
        obtain ⟨p0, p1, p2, _, _, _⟩ := HBm5.out.three
        obtain ⟨p0, p1, p2, _, _, _⟩ := HBk5.out.three
        clear hx
        go_wp2_with fail
        go_ret
        exact ⟨by first | rfl | (simp; done), HE5.out⟩
      ·
        go_enter Try.func7, Try.ntmps7
        go_wp2_with fail
        refine (An.shown_any _).mono ?_; rintro e w1 ⟨rfl, hx⟩
        have HE1 := Lib.hid (Ext.trans (by repeat (first | exact Ext.refl _ | assumption | refine Ext.alloc ?_ _ | refine Ext.drewN ?_ _ | refine Ext.drew ?_ | refine Ext.trans ?_ (by assumption))) hx : Ext w w1)
        have HBm1 := Lib.hid (show Blk w1 (w.heap.size + 1) #[.int .i64 n, .slice b0 xs.length c0, .slice b1 ys.length c1] 25 from (blk_at (by simp)).ext hx)
        obtain ⟨p0, p1, p2, _, _, _⟩ := HBm1.out.three
        clear hx
        go_wp2_with fail
        refine (HF.out _ HE1.out).mono ?_; rintro e w2 ⟨rfl, hx⟩
        have HE2 := Lib.hid (HE1.out.trans hx)
        have HBm2 := Lib.hid (HBm1.out.ext hx)
        obtain ⟨p0, p1, p2, _, _, _⟩ := HBm2.out.three
        clear hx
        go_wp2_with fail
        refine (HM.out _ HE2.out).mono ?_; rintro e w3 ⟨u0, u1, rfl, hu0, hu1, hx⟩
        have HE3 := Lib.hid (HE2.out.trans hx)
        have HBm3 := Lib.hid (HBm2.out.ext hx)
        obtain ⟨dk0, fk0, rfl⟩ := Row.form (hu0.sl (S0.out.ext HE3.out))
        obtain ⟨dk1, fk1, rfl⟩ := Row.form (hu1.sl (S1.out.ext HE3.out))
        have Uk0 := Lib.hid (hu0.sl (S0.out.ext HE3.out))
        have Uk1 := Lib.hid (hu1.sl (S1.out.ext HE3.out))
        obtain ⟨p0, p1, p2, _, _, _⟩ := HBm3.out.three
        obtain ⟨q0, q1, q2, _, _, _⟩ := (HBm3.out.alloc (.cells #[.int .i64 n, .slice dk0 x0.length fk0, .slice dk1 x1.length fk1] 25)).three
        clear hx hu0 hu1
        go_wp2_with fail
        have HBk3 := Lib.hid (Blk.new w3 #[.int .i64 n, .slice dk0 x0.length fk0, .slice dk1 x1.length fk1] 25)
        refine (HL.out _ (HE3.out.alloc _)).mono ?_; rintro e w4 ⟨rfl, hx⟩
        have HE4 := Lib.hid ((HE3.out.alloc _).trans hx)
        have HBm4 := Lib.hid ((HBm3.out.alloc _).ext hx)
        have HBk4 := Lib.hid (HBk3.out.ext hx)
        have HXk4 := Lib.hid (((Ext.refl _).alloc _).trans hx)
        obtain ⟨p0, p1, p2, _, _, _⟩ := HBm4.out.three
        obtain ⟨p0, p1, p2, _, _, _⟩ := HBk4.out.three
        clear hx
        go_wp2_with fail
        refine (HL2.out _ _ _ (Uk0.out.ext HXk4.out) (Uk1.out.ext HXk4.out)).mono ?_; rintro e w5 ⟨rfl, hx⟩
        have HE5 := Lib.hid (HE4.out.trans hx)
        have HBm5 := Lib.hid (HBm4.out.ext hx)
        have HBk5 := Lib.hid (HBk4.out.ext hx)
        have HXk5 := Lib.hid (HXk4.out.trans hx)
        obtain ⟨p0, p1, p2, _, _, _⟩ := HBm5.out.three
        obtain ⟨p0, p1, p2, _, _, _⟩ := HBk5.out.three
        clear hx
        go_wp2_with fail
        go_ret
        exact ⟨by first | rfl | (simp; done), HE5.out⟩
      ·
        go_enter Try.func7, Try.ntmps7
        go_wp2_with fail
        refine (An.shown_any _).mono ?_; rintro e w1 ⟨rfl, hx⟩
        have HE1 := Lib.hid (Ext.trans (by repeat (first | exact Ext.refl _ | assumption | refine Ext.alloc ?_ _ | refine Ext.drewN ?_ _ | refine Ext.drew ?_ | refine Ext.trans ?_ (by assumption))) hx : Ext w w1)
        have HBm1 := Lib.hid (show Blk w1 (w.heap.size + 1) #[.int .i64 n, .slice b0 xs.length c0, .slice b1 ys.length c1] 25 from (blk_at (by simp)).ext hx)
        obtain ⟨p0, p1, p2, _, _, _⟩ := HBm1.out.three
        clear hx
        go_wp2_with fail
        refine (HF.out _ HE1.out).mono ?_; rintro e w2 ⟨rfl, hx⟩
        have HE2 := Lib.hid (HE1.out.trans hx)
        have HBm2 := Lib.hid (HBm1.out.ext hx)
        obtain ⟨p0, p1, p2, _, _, _⟩ := HBm2.out.three
        clear hx
        go_wp2_with fail
        refine (HM.out _ HE2.out).mono ?_; rintro e w3 ⟨u0, u1, rfl, hu0, hu1, hx⟩
        have HE3 := Lib.hid (HE2.out.trans hx)
        have HBm3 := Lib.hid (HBm2.out.ext hx)
        obtain ⟨dk0, fk0, rfl⟩ := Row.form (hu0.sl (S0.out.ext HE3.out))
        obtain ⟨dk1, fk1, rfl⟩ := Row.form (hu1.sl (S1.out.ext HE3.out))
        have Uk0 := Lib.hid (hu0.sl (S0.out.ext HE3.out))
        have Uk1 := Lib.hid (hu1.sl (S1.out.ext HE3.out))
        obtain ⟨p0, p1, p2, _, _, _⟩ := HBm3.out.three
        obtain ⟨q0, q1, q2, _, _, _⟩ := (HBm3.out.alloc (.cells #[.int .i64 n, .slice dk0 x0.length fk0, .slice dk1 x1.length fk1] 25)).three
        clear hx hu0 hu1
        go_wp2_with fail
        have HBk3 := Lib.hid (Blk.new w3 #[.int .i64 n, .slice dk0 x0.length fk0, .slice dk1 x1.length fk1] 25)
        refine (HL.out _ (HE3.out.alloc _)).mono ?_; rintro e w4 ⟨rfl, hx⟩
        have HE4 := Lib.hid ((HE3.out.alloc _).trans hx)
        have HBm4 := Lib.hid ((HBm3.out.alloc _).ext hx)
        have HBk4 := Lib.hid (HBk3.out.ext hx)
        have HXk4 := Lib.hid (((Ext.refl _).alloc _).trans hx)
        obtain ⟨p0, p1, p2, _, _, _⟩ := HBm4.out.three
        obtain ⟨p0, p1, p2, _, _, _⟩ := HBk4.out.three
        clear hx
        go_wp2_with fail
        refine (HL2.out _ _ _ (Uk0.out.ext HXk4.out) (Uk1.out.ext HXk4.out)).mono ?_; rintro e w5 ⟨rfl, hx⟩
        have HE5 := Lib.hid (HE4.out.trans hx)
        have HBm5 := Lib.hid (HBm4.out.ext hx)
        have HBk5 := Lib.hid (HBk4.out.ext hx)
        have HXk5 := Lib.hid (HXk4.out.trans hx)
        obtain ⟨p0, p1, p2, _, _, _⟩ := HBm5.out.three
        obtain ⟨p0, p1, p2, _, _, _⟩ := HBk5.out.three
        clear hx
        go_wp2_with fail
        refine (HLA.out _ (by omega) (by omega) _ HE5.out).mono ?_; rintro e w6 ⟨rfl, hx⟩
        rw [HV.out.1]
        have HE6 := Lib.hid (HE5.out.trans hx)
        have HBm6 := Lib.hid (HBm5.out.ext hx)
        have HBk6 := Lib.hid (HBk5.out.ext hx)
        have HXk6 := Lib.hid (HXk5.out.trans hx)
        obtain ⟨p0, p1, p2, _, _, _⟩ := HBm6.out.three
        obtain ⟨p0, p1, p2, _, _, _⟩ := HBk6.out.three
        clear hx
        go_wp2_with fail
        refine (HLB.out _ (by omega) (by omega) _ _ _ (Uk0.out.ext HXk6.out) (Uk1.out.ext HXk6.out)).mono ?_; rintro e w7 ⟨rfl, hx⟩
        rw [HV.out.2.1, HV.out.2.2]
        have HE7 := Lib.hid (HE6.out.trans hx)
        have HBm7 := Lib.hid (HBm6.out.ext hx)
        have HBk7 := Lib.hid (HBk6.out.ext hx)
        have HXk7 := Lib.hid (HXk6.out.trans hx)
        obtain ⟨p0, p1, p2, _, _, _⟩ := HBm7.out.three
        obtain ⟨p0, p1, p2, _, _, _⟩ := HBk7.out.three
        clear hx
        go_wp2_with fail
        go_ret
        exact ⟨by first | rfl | (simp; done), HE7.out⟩
      ·
        go_enter Try.func7, Try.ntmps7
        go_wp2_with fail
        refine (An.shown_any _).mono ?_; rintro e w1 ⟨rfl, hx⟩
        have HE1 := Lib.hid (Ext.trans (by repeat (first | exact Ext.refl _ | assumption | refine Ext.alloc ?_ _ | refine Ext.drewN ?_ _ | refine Ext.drew ?_ | refine Ext.trans ?_ (by assumption))) hx : Ext w w1)
        have HBm1 := Lib.hid (show Blk w1 (w.heap.size + 1) #[.int .i64 n, .slice b0 xs.length c0, .slice b1 ys.length c1] 25 from (blk_at (by simp)).ext hx)
        obtain ⟨p0, p1, p2, _, _, _⟩ := HBm1.out.three
        clear hx
        go_wp2_with fail
        refine (HF.out _ HE1.out).mono ?_; rintro e w2 ⟨rfl, hx⟩
        have HE2 := Lib.hid (HE1.out.trans hx)
        have HBm2 := Lib.hid (HBm1.out.ext hx)
        obtain ⟨p0, p1, p2, _, _, _⟩ := HBm2.out.three
        clear hx
        go_wp2_with fail
        refine (HM.out _ HE2.out).mono ?_; rintro e w3 ⟨u0, u1, rfl, hu0, hu1, hx⟩
        have HE3 := Lib.hid (HE2.out.trans hx)
        have HBm3 := Lib.hid (HBm2.out.ext hx)
        obtain ⟨dk0, fk0, rfl⟩ := Row.form (hu0.sl (S0.out.ext HE3.out))
        obtain ⟨dk1, fk1, rfl⟩ := Row.form (hu1.sl (S1.out.ext HE3.out))
        have Uk0 := Lib.hid (hu0.sl (S0.out.ext HE3.out))
        have Uk1 := Lib.hid (hu1.sl (S1.out.ext HE3.out))
        obtain ⟨p0, p1, p2, _, _, _⟩ := HBm3.out.three
        obtain ⟨q0, q1, q2, _, _, _⟩ := (HBm3.out.alloc (.cells #[.int .i64 n, .slice dk0 x0.length fk0, .slice dk1 x1.length fk1] 25)).three
        clear hx hu0 hu1
        go_wp2_with fail
        have HBk3 := Lib.hid (Blk.new w3 #[.int .i64 n, .slice dk0 x0.length fk0, .slice dk1 x1.length fk1] 25)
        refine (HL.out _ (HE3.out.alloc _)).mono ?_; rintro e w4 ⟨rfl, hx⟩
        have HE4 := Lib.hid ((HE3.out.alloc _).trans hx)
        have HBm4 := Lib.hid ((HBm3.out.alloc _).ext hx)
        have HBk4 := Lib.hid (HBk3.out.ext hx)
        have HXk4 := Lib.hid (((Ext.refl _).alloc _).trans hx)
        obtain ⟨p0, p1, p2, _, _, _⟩ := HBm4.out.three
        obtain ⟨p0, p1, p2, _, _, _⟩ := HBk4.out.three
        clear hx
        go_wp2_with fail
        refine (HL2.out _ _ _ (Uk0.out.ext HXk4.out) (Uk1.out.ext HXk4.out)).mono ?_; rintro e w5 ⟨rfl, hx⟩
        have HE5 := Lib.hid (HE4.out.trans hx)
        have HBm5 := Lib.hid (HBm4.out.ext hx)
        have HBk5 := Lib.hid (HBk4.out.ext hx)
        have HXk5 := Lib.hid (HXk4.out.trans hx)
        obtain ⟨p0, p1, p2, _, _, _⟩ := HBm5.out.three
        obtain ⟨p0, p1, p2, _, _, _⟩ := HBk5.out.three
        clear hx
        go_wp2_with fail
        go_ret
        exact ⟨by first | rfl | (simp; done), HE5.out⟩
      ·
        go_enter Try.func7, Try.ntmps7
        go_wp2_with fail
        refine (An.shown_any _).mono ?_; rintro e w1 ⟨rfl, hx⟩
        have HE1 := Lib.hid (Ext.trans (by repeat (first | exact Ext.refl _ | assumption | refine Ext.alloc ?_ _ | refine Ext.drewN ?_ _ | refine Ext.drew ?_ | refine Ext.trans ?_ (by assumption))) hx : Ext w w1)
        have HBm1 := Lib.hid (show Blk w1 (w.heap.size + 1) #[.int .i64 n, .slice b0 xs.length c0, .slice b1 ys.length c1] 25 from (blk_at (by simp)).ext hx)
        obtain ⟨p0, p1, p2, _, _, _⟩ := HBm1.out.three
        clear hx
        go_wp2_with fail
        refine (HF.out _ HE1.out).mono ?_; rintro e w2 ⟨rfl, hx⟩
        have HE2 := Lib.hid (HE1.out.trans hx)
        have HBm2 := Lib.hid (HBm1.out.ext hx)
        obtain ⟨p0, p1, p2, _, _, _⟩ := HBm2.out.three
        clear hx
        go_wp2_with fail
        refine (HM.out _ HE2.out).mono ?_; rintro e w3 ⟨u0, u1, rfl, hu0, hu1, hx⟩
        have HE3 := Lib.hid (HE2.out.trans hx)
        have HBm3 := Lib.hid (HBm2.out.ext hx)
        obtain ⟨dk0, fk0, rfl⟩ := Row.form (hu0.sl (S0.out.ext HE3.out))
        obtain ⟨dk1, fk1, rfl⟩ := Row.form (hu1.sl (S1.out.ext HE3.out))
        have Uk0 := Lib.hid (hu0.sl (S0.out.ext HE3.out))
        have Uk1 := Lib.hid (hu1.sl (S1.out.ext HE3.out))
        obtain ⟨p0, p1, p2, _, _, _⟩ := HBm3.out.three
        obtain ⟨q0, q1, q2, _, _, _⟩ := (HBm3.out.alloc (.cells #[.int .i64 n, .slice dk0 x0.length fk0, .slice dk1 x1.length fk1] 25)).three
        clear hx hu0 hu1
        go_wp2_with fail
        have HBk3 := Lib.hid (Blk.new w3 #[.int .i64 n, .slice dk0 x0.length fk0, .slice dk1 x1.length fk1] 25)
        refine (HL.out _ (HE3.out.alloc _)).mono ?_; rintro e w4 ⟨rfl, hx⟩
        have HE4 := Lib.hid ((HE3.out.alloc _).trans hx)
        have HBm4 := Lib.hid ((HBm3.out.alloc _).ext hx)
        have HBk4 := Lib.hid (HBk3.out.ext hx)
        have HXk4 := Lib.hid (((Ext.refl _).alloc _).trans hx)
        obtain ⟨p0, p1, p2, _, _, _⟩ := HBm4.out.three
        obtain ⟨p0, p1, p2, _, _, _⟩ := HBk4.out.three
        clear hx
        go_wp2_with fail
        refine (HL2.out _ _ _ (Uk0.out.ext HXk4.out) (Uk1.out.ext HXk4.out)).mono ?_; rintro e w5 ⟨rfl, hx⟩
        have HE5 := Lib.hid (HE4.out.trans hx)
        have HBm5 := Lib.hid (HBm4.out.ext hx)
        have HBk5 := Lib.hid (HBk4.out.ext hx)
        have HXk5 := Lib.hid (HXk4.out.trans hx)
        obtain ⟨p0, p1, p2, _, _, _⟩ := HBm5.out.three
        obtain ⟨p0, p1, p2, _, _, _⟩ := HBk5.out.three
        clear hx
        go_wp2_with fail
        go_ret
        exact ⟨by first | rfl | (simp; done), HE5.out⟩
      ·
        go_enter Try.func7, Try.ntmps7
        go_wp2_with fail
        refine (An.shown_any _).mono ?_; rintro e w1 ⟨rfl, hx⟩
        have HE1 := Lib.hid (Ext.trans (by repeat (first | exact Ext.refl _ | assumption | refine Ext.alloc ?_ _ | refine Ext.drewN ?_ _ | refine Ext.drew ?_ | refine Ext.trans ?_ (by assumption))) hx : Ext w w1)
        have HBm1 := Lib.hid (show Blk w1 (w.heap.size + 1) #[.int .i64 n, .slice b0 xs.length c0, .slice b1 ys.length c1] 25 from (blk_at (by simp)).ext hx)
        obtain ⟨p0, p1, p2, _, _, _⟩ := HBm1.out.three
        clear hx
        go_wp2_with fail
        refine (HF.out _ HE1.out).mono ?_; rintro e w2 ⟨rfl, hx⟩
        have HE2 := Lib.hid (HE1.out.trans hx)
        have HBm2 := Lib.hid (HBm1.out.ext hx)
        obtain ⟨p0, p1, p2, _, _, _⟩ := HBm2.out.three
        clear hx
        go_wp2_with fail
        refine (HM.out _ HE2.out).mono ?_; rintro e w3 ⟨u0, u1, rfl, hu0, hu1, hx⟩
        have HE3 := Lib.hid (HE2.out.trans hx)
        have HBm3 := Lib.hid (HBm2.out.ext hx)
        obtain ⟨dk0, fk0, rfl⟩ := Row.form (hu0.sl (S0.out.ext HE3.out))
        obtain ⟨dk1, fk1, rfl⟩ := Row.form (hu1.sl (S1.out.ext HE3.out))
        have Uk0 := Lib.hid (hu0.sl (S0.out.ext HE3.out))
        have Uk1 := Lib.hid (hu1.sl (S1.out.ext HE3.out))
        obtain ⟨p0, p1, p2, _, _, _⟩ := HBm3.out.three
        obtain ⟨q0, q1, q2, _, _, _⟩ := (HBm3.out.alloc (.cells #[.int .i64 n, .slice dk0 x0.length fk0, .slice dk1 x1.length fk1] 25)).three
        clear hx hu0 hu1
        go_wp2_with fail
        have HBk3 := Lib.hid (Blk.new w3 #[.int .i64 n, .slice dk0 x0.length fk0, .slice dk1 x1.length fk1] 25)
        refine (HL.out _ (HE3.out.alloc _)).mono ?_; rintro e w4 ⟨rfl, hx⟩
        have HE4 := Lib.hid ((HE3.out.alloc _).trans hx)
        have HBm4 := Lib.hid ((HBm3.out.alloc _).ext hx)
        have HBk4 := Lib.hid (HBk3.out.ext hx)
        have HXk4 := Lib.hid (((Ext.refl _).alloc _).trans hx)
        obtain ⟨p0, p1, p2, _, _, _⟩ := HBm4.out.three
        obtain ⟨p0, p1, p2, _, _, _⟩ := HBk4.out.three
        clear hx
        go_wp2_with fail
        refine (HL2.out _ _ _ (Uk0.out.ext HXk4.out) (Uk1.out.ext HXk4.out)).mono ?_; rintro e w5 ⟨rfl, hx⟩
        have HE5 := Lib.hid (HE4.out.trans hx)
        have HBm5 := Lib.hid (HBm4.out.ext hx)
        have HBk5 := Lib.hid (HBk4.out.ext hx)
        have HXk5 := Lib.hid (HXk4.out.trans hx)
        obtain ⟨p0, p1, p2, _, _, _⟩ := HBm5.out.three
        obtain ⟨p0, p1, p2, _, _, _⟩ := HBk5.out.three
        clear hx
        go_wp2_with fail
        refine (HLA.out _ (by omega) (by omega) _ HE5.out).mono ?_; rintro e w6 ⟨rfl, hx⟩
        rw [HV.out.1]
        have HE6 := Lib.hid (HE5.out.trans hx)
        have HBm6 := Lib.hid (HBm5.out.ext hx)
        have HBk6 := Lib.hid (HBk5.out.ext hx)
        have HXk6 := Lib.hid (HXk5.out.trans hx)
        obtain ⟨p0, p1, p2, _, _, _⟩ := HBm6.out.three
        obtain ⟨p0, p1, p2, _, _, _⟩ := HBk6.out.three
        clear hx
        go_wp2_with fail
        refine (HLB.out _ (by omega) (by omega) _ _ _ (Uk0.out.ext HXk6.out) (Uk1.out.ext HXk6.out)).mono ?_; rintro e w7 ⟨rfl, hx⟩
        rw [HV.out.2.1, HV.out.2.2]
        have HE7 := Lib.hid (HE6.out.trans hx)
        have HBm7 := Lib.hid (HBm6.out.ext hx)
        have HBk7 := Lib.hid (HBk6.out.ext hx)
        have HXk7 := Lib.hid (HXk6.out.trans hx)
        obtain ⟨p0, p1, p2, _, _, _⟩ := HBm7.out.three
        obtain ⟨p0, p1, p2, _, _, _⟩ := HBk7.out.three
        clear hx
        go_wp2_with fail
        go_ret
        exact ⟨by first | rfl | (simp; done), HE7.out⟩

theorem walk (v0 : Value) (W : World) (r0 : Rd.V Try.prog W 51 v0) : Calls Try.prog 7 #[v0] W fun e w' => e = .returned (.bool true) ∧ Below W.heap.size W w' := by
  have k3 : Try.prog.cellsOf 25 = 3 := by kernel_rfl
  obtain ⟨cs, rfl, hs⟩ := r0.struct Try.underlying51
  obtain ⟨hl, _⟩ := hs.struct Try.underlying51
  rw [show Try.prog.cellsOf 51 = 8 by kernel_rfl] at hl
  match cs, hl with
  | [c0, c1, c2, c3, c4, c5, c6, c7], _ =>
    obtain ⟨n, v0, v1, xs, ys, hm, h0, h1, wx, wy, wn⟩ := An.mem_R (Rd.R.field Try.underlying51 hs 0 rfl 0 3 25 rfl rfl k3)
    simp at hm
    obtain ⟨rfl, rfl, rfl⟩ := hm
    obtain ⟨a, ha, wa⟩ := (Rd.R.field Try.underlying51 hs 1 rfl 3 1 26 rfl rfl (by kernel_rfl)).int Try.underlying26
    obtain rfl : c3 = .int .u64 a := by simpa using ha
    have ba := Rd.u64_bd wa
    obtain ⟨b, hb, wb⟩ := (Rd.R.field Try.underlying51 hs 2 rfl 4 1 26 rfl rfl (by kernel_rfl)).int Try.underlying26
    obtain rfl : c4 = .int .u64 b := by simpa using hb
    have bb := Rd.u64_bd wb
    obtain ⟨c, hc, wc⟩ := (Rd.R.field Try.underlying51 hs 3 rfl 5 1 3 rfl rfl (by kernel_rfl)).int Try.underlying3
    obtain rfl : c5 = .int .i64 c := by simpa using hc
    have bc := Rd.i64_bd wc
    obtain ⟨i, hi, wi⟩ := (Rd.R.field Try.underlying51 hs 4 rfl 6 1 3 rfl rfl (by kernel_rfl)).int Try.underlying3
    obtain rfl : c6 = .int .i64 i := by simpa using hi
    have bi := Rd.i64_bd wi
    obtain ⟨t, ht, wt⟩ := (Rd.R.field Try.underlying51 hs 5 rfl 7 1 26 rfl rfl (by kernel_rfl)).int Try.underlying26
    obtain rfl : c7 = .int .u64 t := by simpa using ht
    have bt := Rd.u64_bd wt
    exact (go n c1 c2 xs ys a b c i t ba.1 ba.2 bb.1 bb.2 bc.1 bc.2 bi.1 bi.2 bt.1 bt.2 W h0 h1).mono fun e w' ⟨he, hw⟩ => ⟨he, hw.below⟩

open Go.ChangeShapes Go.WideShapes Go.ChangeAt Go.RowKit
theorem own : ownKnob Try.prog.godebug = none := by kernel_rfl
theorem laidOut : laidOutB Try.prog = true := by kernel_rfl

set_option maxRecDepth 100000 in
theorem lifted (os : Os) (started : os.Started) (H : Type) (enc : TypeId × Value → H) :
    ReturnsInHanded {} Try.checked os 7 .any (Rows.arenaMovesSpec.pre6 enc Try.prog Try.f7 Rows.arenaMovesRow.domain false) (Rows.arenaMovesSpec.post enc Try.prog Try.f7 false true false false) := by
  refine returnsInHanded_of_change_sized (C := Try.checked) own started (by kernel_rfl) Try.func7
    (ChangeSpec.witness6 (enc := enc) (C := Try.checked) false ⟨#[], #[.agg #[.int .i64 0, .slice none 0 0, .slice none 0 0, .int .u64 0, .int .u64 0, .int .i64 0, .int .i64 0, .int .u64 0]], []⟩ 12 (by kernel_rfl) (by kernel_rfl) (by kernel_rfl) (by kernel_rfl)) ?_
  intro W base args ds gs before hval0 hW _ hsz0 _
  have hval : ∀ (j : Nat) t v, Try.f7.params[j]? = some t → args[j]? = some v → Value.okWide Try.prog W .any base t v := hval0
  have hW' := hW
  obtain ⟨p, q, hA0, hV, rfl, _, _⟩ := hW
  have hA : DataW.TrodAll enc Try.prog W 0 (fun _ => true) true Try.f7.params.toList args.toList ds p := hA0
  obtain ⟨rfl, rfl⟩ := trodVars_none hV
  have hsz : (DataW.weightsEach Try.prog (Try.f7.params.toList ++ []) (ds ++ [])).all (· ≤ reachBytes) = true := hsz0
  rw [Try.params7] at hA hval hsz
  have hA2 := hA
  obtain ⟨v0, vs0, d0, ds0, p0, q0, hargs, rfl, rfl, h0, r0⟩ := trodAll_cons hA2
  obtain ⟨rfl, rfl, rfl⟩ := trodAll_nil r0
  obtain rfl : args = #[v0] := by cases args; simp_all
  have hR := Rd.trodAll_V hA (fun n hn => by simpa using List.all_eq_true.1 hsz n (by simpa using hn)) (fun j t v hj hv => hval j t v (by simpa using hj) (by simpa using hv))
  clear hA0 hval0 hA2
  refine (walk v0 W (hR 0 51 v0 rfl rfl)).mono fun e W' ⟨he, bel⟩ => ?_
  subst he
  exact ⟨_, rfl, _, _, _, [], _, [], hW', trodAll_mk1 (shut_bool Try.underlying4 _), Rd.trodAll_below laidOut bel (List.forall_mem_cons.2 ⟨⟨by kernel_rfl, of_decide_eq_true (by kernel_rfl)⟩, fun _ h => by cases h⟩) hA, rfl, bel.frame _, fun h => by cases h⟩

theorem over : Rows.arenaMovesRow.holds Try.pinned (OpenSpec.ofChange Rows.arenaMovesSpec) :=
  OpenClaim.holds_of_wide 7 Try.f7 rfl rfl rfl rfl rfl rfl rfl ⟨rfl, rfl, rfl, rfl, rfl⟩ rfl rfl rfl rfl rfl (by kernel_rfl) Try.func7 (by kernel_rfl)
    (of_decide_eq_true (by kernel_rfl)) (by unfold Func.isWrapper; first | (rw [if_pos (by decide +kernel)]; kernel_rfl) | (rw [if_neg (by decide +kernel)]; exact ⟨rfl, rfl⟩))
    (fun os started H enc _ => lifted os started H enc)

theorem proved : Rows.ArenaMovesSaid := over
#print axioms proved
end Go.Proofs.Ytjobhdcjjegpfaa.arenaMoves
