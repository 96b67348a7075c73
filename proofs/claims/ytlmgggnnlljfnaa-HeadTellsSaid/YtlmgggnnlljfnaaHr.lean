/- The reference's Right, Word, Take. -/
import Derived.Test.YtlmgggnnlljfnaaHt
namespace Go.Proofs.Ytlmgggnnlljfnaa.Hr
open Go.RowKit
open Go.Proofs.Ytlmgggnnlljfnaa Go.Proofs.Ytlmgggnnlljfnaa.Hd Go.Proofs.Ytlmgggnnlljfnaa.Hw Go.Proofs.Ytlmgggnnlljfnaa.Ht
set_option linter.unusedVariables false

set_option maxHeartbeats 4000000 in
theorem rright_any (t l m : Int) (m0 : 0 ≤ m) (w : World) :
    Calls Try.prog 15 #[.agg #[.int .i64 t, .int .i64 l, .int .u64 m]] w fun e w' => e = .returned (.int .i64 (rightE t l m)) ∧ Ext w w' := by
  cases ht : (t != 255) with
  | true =>
    have ht' : t ≠ 255 := bne_iff_ne.1 ht
    have ht2 : (t == 255) = false := beq_eq_false_iff_ne.2 ht'
    by_cases h2 : t < 1
    · have e : rightE t l m = 1 := by unfold rightE; rw [if_pos (.inl ⟨ht', .inl h2⟩)]
      have d1 : decide (t < 1) = true := decide_eq_true h2
      rw [e]; clear e ht' h2
      go_enter Try.func15, Try.ntmps15
      go_wp2_with fail
      go_ret
      exact ⟨rfl, (by repeat (first | exact Ext.refl _ | assumption | refine Ext.alloc ?_ _ | refine Ext.drewN ?_ _ | refine Ext.drew ?_ | refine Ext.trans ?_ (by assumption)))⟩
    by_cases h3 : 200 < t
    · have e : rightE t l m = 1 := by unfold rightE; rw [if_pos (.inl ⟨ht', .inr h3⟩)]
      have d1 : decide (t < 1) = false := decide_eq_false h2
      have d2 : decide (200 < t) = true := decide_eq_true h3
      rw [e]; clear e ht' h2 h3
      go_enter Try.func15, Try.ntmps15
      go_wp2_with fail
      go_ret
      exact ⟨rfl, (by repeat (first | exact Ext.refl _ | assumption | refine Ext.alloc ?_ _ | refine Ext.drewN ?_ _ | refine Ext.drew ?_ | refine Ext.trans ?_ (by assumption)))⟩
    have d1 : decide (t < 1) = false := decide_eq_false h2
    have d2 : decide (200 < t) = false := decide_eq_false h3
    by_cases h1 : l < 0
    · have e : rightE t l m = 1 := by unfold rightE; rw [if_pos (.inr h1)]
      have d3 : decide (l < 0) = true := decide_eq_true h1
      rw [e]; clear e ht' h2 h3 h1
      go_enter Try.func15, Try.ntmps15
      go_wp2_with fail
      go_ret
      exact ⟨rfl, (by repeat (first | exact Ext.refl _ | assumption | refine Ext.alloc ?_ _ | refine Ext.drewN ?_ _ | refine Ext.drew ?_ | refine Ext.trans ?_ (by assumption)))⟩
    have d3 : decide (l < 0) = false := decide_eq_false h1
    by_cases h4 : 16 < l
    · have e : rightE t l m = 3 := by unfold rightE most; rw [if_neg (by omega), if_neg ht', if_pos h4]
      have d4 : decide (16 < l) = true := decide_eq_true h4
      rw [e]; clear e ht' h2 h3 h1 h4
      go_enter Try.func15, Try.ntmps15
      go_wp2_with fail
      go_ret
      exact ⟨rfl, (by repeat (first | exact Ext.refl _ | assumption | refine Ext.alloc ?_ _ | refine Ext.drewN ?_ _ | refine Ext.drew ?_ | refine Ext.trans ?_ (by assumption)))⟩
    have d4 : decide (16 < l) = false := decide_eq_false h4
    obtain ⟨j, rfl⟩ : ∃ j : Nat, l = j := ⟨l.toNat, by omega⟩
    have HP := Lib.hid (fun w => power_any j (by omega) w)
    have hpb := pw_bd (n := j) (by omega)
    have e : rightE t j m = if m < pw j then 0 else 8 := by
      unfold rightE most shiftN
      rw [if_neg (by omega), if_neg ht', if_neg h4, if_neg ht']
      have hpos : (0 : Int) < 2 ^ (j : Int).toNat := Int.pow_pos (by omega)
      have hpe : (2 : Int) ^ (j : Int).toNat = pw j := by unfold pw; simp
      rw [hpe] at hpos ⊢
      by_cases hm : m < pw j
      · rw [if_pos hm, Int.ediv_eq_zero_of_lt m0 hm, if_pos rfl]
      · rw [if_neg hm, if_neg]
        intro h0
        have := Int.ediv_mul_le m (b := pw j) (by omega)
        have h5 := Int.lt_ediv_add_one_mul_self m hpos
        rw [h0] at h5
        omega
    rw [e]
    clear e ht' h2 h3 h1 h4
    obtain ⟨hb0, hb1⟩ := hpb
    generalize pw j = v at HP hb0 hb1 ⊢
    by_cases hm : m < v
    · rw [if_pos hm]
      have d5 : decide (v ≤ m) = false := decide_eq_false (by omega)
      clear hm
      go_enter Try.func15, Try.ntmps15
      go_wp2_with fail
      go_quiet ((go_at_call 19; exact Calls.quiet_of_same (HP.out _)))
      go_wp2_with fail
      go_ret
      exact ⟨rfl, (by repeat (first | exact Ext.refl _ | assumption | refine Ext.alloc ?_ _ | refine Ext.drewN ?_ _ | refine Ext.drew ?_ | refine Ext.trans ?_ (by assumption)))⟩
    · rw [if_neg hm]
      have d5 : decide (v ≤ m) = true := decide_eq_true (by omega)
      clear hm
      go_enter Try.func15, Try.ntmps15
      go_wp2_with fail
      go_quiet ((go_at_call 19; exact Calls.quiet_of_same (HP.out _)))
      go_wp2_with fail
      go_ret
      exact ⟨rfl, (by repeat (first | exact Ext.refl _ | assumption | refine Ext.alloc ?_ _ | refine Ext.drewN ?_ _ | refine Ext.drew ?_ | refine Ext.trans ?_ (by assumption)))⟩
  | false =>
    obtain rfl : t = 255 := by simpa using ht
    clear ht
    by_cases h1 : l < 0
    · have e : rightE 255 l m = 1 := by unfold rightE; rw [if_pos (.inr h1)]
      have d3 : decide (l < 0) = true := decide_eq_true h1
      rw [e]; clear e h1
      go_enter Try.func15, Try.ntmps15
      go_wp2_with fail
      go_ret
      exact ⟨rfl, (by repeat (first | exact Ext.refl _ | assumption | refine Ext.alloc ?_ _ | refine Ext.drewN ?_ _ | refine Ext.drew ?_ | refine Ext.trans ?_ (by assumption)))⟩
    have d3 : decide (l < 0) = false := decide_eq_false h1
    by_cases h2 : 65535 < l
    · have e : rightE 255 l m = 3 := by unfold rightE most; rw [if_neg (by omega), if_pos (by simpa using h2)]
      have d4 : decide (65535 < l) = true := decide_eq_true h2
      rw [e]; clear e h1 h2
      go_enter Try.func15, Try.ntmps15
      go_wp2_with fail
      go_ret
      exact ⟨rfl, (by repeat (first | exact Ext.refl _ | assumption | refine Ext.alloc ?_ _ | refine Ext.drewN ?_ _ | refine Ext.drew ?_ | refine Ext.trans ?_ (by assumption)))⟩
    have d4 : decide (65535 < l) = false := decide_eq_false h2
    have e : rightE 255 l m = if m = 0 then 0 else 8 := by unfold rightE most shiftN; rw [if_neg (by omega), if_neg (by simp; omega)]; simp
    rw [e]; clear e h1 h2
    by_cases h3 : m = 0
    · have h3' : (m != 0) = false := by rw [h3]; rfl
      rw [if_pos h3]
      clear h3
      go_enter Try.func15, Try.ntmps15
      go_wp2_with fail
      go_ret
      exact ⟨rfl, (by repeat (first | exact Ext.refl _ | assumption | refine Ext.alloc ?_ _ | refine Ext.drewN ?_ _ | refine Ext.drew ?_ | refine Ext.trans ?_ (by assumption)))⟩
    · have h3' : (m != 0) = true := bne_iff_ne.2 h3
      rw [if_neg h3]
      clear h3
      go_enter Try.func15, Try.ntmps15
      go_wp2_with fail
      go_ret
      exact ⟨rfl, (by repeat (first | exact Ext.refl _ | assumption | refine Ext.alloc ?_ _ | refine Ext.drewN ?_ _ | refine Ext.drew ?_ | refine Ext.trans ?_ (by assumption)))⟩

theorem rword_any (t l m : Int) (m0 : 0 ≤ m) (w : World) :
    Calls Try.prog 12 #[.agg #[.int .i64 t, .int .i64 l, .int .u64 m]] w fun e w' => e = .returned (.tuple #[.int .u64 (wordV t l m), .int .i64 (rightE t l m)]) ∧ Ext w w' := by
  have HR : Hid (∀ w, Calls Try.prog 15 #[.agg #[.int .i64 t, .int .i64 l, .int .u64 m]] w fun e w' => e = .returned (.int .i64 (rightE t l m)) ∧ Ext w w') := fun w => rright_any t l m m0 w
  cases hz : (rightE t l m != 0) with
  | true =>
    have e : wordV t l m = 0 := by unfold wordV; rw [if_neg (bne_iff_ne.1 hz)]
    rw [e]; clear e
    generalize rightE t l m = r at HR hz
    go_enter Try.func12, Try.ntmps12
    go_wp2_with fail
    refine (HR.out _).mono ?_; rintro e w1 ⟨rfl, hx1⟩
    go_wp2_with fail
    go_ret2
    exact ⟨rfl, Ext.trans (by repeat (first | exact Ext.refl _ | assumption | refine Ext.alloc ?_ _ | refine Ext.drewN ?_ _ | refine Ext.drew ?_ | refine Ext.trans ?_ (by assumption))) hx1⟩
  | false =>
    have hz' : rightE t l m = 0 := by simpa using hz
    obtain ⟨t0, t1, l0, l1, m1, _⟩ := right_zero hz' m0
    have e : wordV t l m = (t * 16777216 + l) * 4294967296 + m := by unfold wordV; rw [if_pos hz']; omega
    have u1 : 0 ≤ t * 16777216 := by omega
    have u2 : t * 16777216 ≤ 4278190080 := by omega
    have u3 : 0 ≤ (t * 16777216 + l) * 4294967296 := by omega
    have u4 : (t * 16777216 + l) * 4294967296 + m ≤ 18446744073709551615 := by omega
    rw [e]; clear e hz
    rw [hz'] at HR ⊢
    clear hz'
    go_enter Try.func12, Try.ntmps12
    go_wp2_with fail
    refine (HR.out _).mono ?_; rintro e w1 ⟨rfl, hx1⟩
    have HB := (Blk.new w #[.int .i64 t, .int .i64 l, .int .u64 m] 24).ext hx1
    have HE := Lib.hid (Ext.trans ((Ext.refl w).alloc _) hx1)
    obtain ⟨c0, c1, c2, _, _, _⟩ := Blk.three HB
    clear hx1 HB
    go_wp2_with fail
    go_ret2
    exact ⟨rfl, HE.out⟩

theorem rtake_any (x : Int) (x0 : 0 ≤ x) (x1 : x ≤ 18446744073709551615) (w : World) :
    Calls Try.prog 14 #[.int .u64 x] w fun e w' => e = .returned (.tuple #[.agg #[.int .i64 (tkT x), .int .i64 (tkL x), .int .u64 (tkM x)], .int .i64 (tkE x)]) ∧ Ext w w' := by
  obtain ⟨t, ht⟩ : ∃ t, x / 72057594037927936 = t := ⟨_, rfl⟩
  obtain ⟨q, hq⟩ : ∃ q, x / 4294967296 = q := ⟨_, rfl⟩
  obtain ⟨l, hl⟩ : ∃ l, q % 16777216 = l := ⟨_, rfl⟩
  obtain ⟨m, hm⟩ : ∃ m, x % 4294967296 = m := ⟨_, rfl⟩
  have t0 : 0 ≤ t := by omega
  have t1 : t ≤ 255 := by omega
  have q0 : 0 ≤ q := by omega
  have l0 : 0 ≤ l := by omega
  have l1 : l ≤ 16777215 := by omega
  have m0 : 0 ≤ m := by omega
  have e1 : wT x = t := ht
  have e2 : wL x = l := by unfold wL; rw [hq]; exact hl
  have e3 : wM x = m := hm
  unfold tkT tkL tkM tkE tkOk
  rw [e1, e2, e3]
  have HR : Hid (∀ w, Calls Try.prog 15 #[.agg #[.int .i64 t, .int .i64 l, .int .u64 m]] w fun e w' => e = .returned (.int .i64 (rightE t l m)) ∧ Ext w w') := fun w => rright_any t l m m0 w
  clear e1 e2 e3
  generalize rightE t l m = r at HR ⊢
  obtain ⟨b, hb⟩ : ∃ b, (r == 0) = b := ⟨_, rfl⟩
  have hb2 : (r != 0) = !b := by rw [bne, hb]
  rw [hb]
  cases b
  all_goals
    simp only [if_true, if_false, Bool.false_eq_true]
    go_enter Try.func14, Try.ntmps14
    go_wp2_with fail
    refine (HR.out _).mono ?_; rintro e w1 ⟨rfl, hx1⟩
    have HE := Lib.hid (Ext.trans (((Ext.refl w).alloc _).alloc _) hx1)
    have HB1 := Lib.hid (((Blk.new w #[.int .i64 0, .int .i64 0, .int .u64 0] 24).alloc (.cells #[.int .i64 t, .int .i64 l, .int .u64 m] 24)).ext hx1)
    have HB2 := Lib.hid (show Blk w1 (w.heap.size + 1) #[.int .i64 t, .int .i64 l, .int .u64 m] 24 from (blk_at (by simp)).ext hx1)
    obtain ⟨p0, p1, p2, s0, s1, s2⟩ := HB1.out.three
    obtain ⟨y0, y1, y2, _, _, _⟩ := HB2.out.three
    clear hx1
    go_wp2_with fail
  · obtain ⟨k0, k1, k2, _⟩ := (HB1.out.fill (.int .i64 0) (.int .i64 0) (.int .u64 0)).three
    exact bodyPost_ret (v := .tuple #[.agg #[.int .i64 0, .int .i64 0, .int .u64 0], .int .i64 10]) (by simp [results, Try.results14, go_sem, k0, k1, k2]) rfl ⟨rfl, HE.out.fill (Nat.le_refl _) _ _ _⟩
  · obtain ⟨k0, k1, k2, _⟩ := (HB1.out.fill (.int .i64 t) (.int .i64 l) (.int .u64 m)).three
    exact bodyPost_ret (v := .tuple #[.agg #[.int .i64 t, .int .i64 l, .int .u64 m], .int .i64 0]) (by simp [results, Try.results14, go_sem, k0, k1, k2]) rfl ⟨rfl, HE.out.fill (Nat.le_refl _) _ _ _⟩
end Go.Proofs.Ytlmgggnnlljfnaa.Hr
