/- Whole numbers as floats of 64 bits: sums, products, the way there and back are exact below 2^53. Plain Lean, no program in sight. -/
import Derived.Laws.ComplexArith
namespace Go.Proofs.Ytjhmlbhfnogdiaa.Fl
open Ieee

/-- 'd' stands for the whole number n. -/
def Whole (d : Datum) (n : Int) : Prop :=
  ∃ (s : Bool) (k p : Nat), d = .number s (k * 2 ^ p) (-(p : Int)) ∧ n = (if s then -(k : Int) else k)

theorem signed_shift (s : Bool) (k p q : Nat) : signed s (k * 2 ^ p) q = (if s then -(k : Int) else k) * 2 ^ (p + q) := by
  unfold signed
  rw [Nat.shiftLeft_eq]
  cases s <;> simp [Int.pow_add, Int.mul_assoc, Int.neg_mul]

theorem whole_sum {d e : Datum} {x y : Int} (hd : Whole d x) (he : Whole e y) : ∃ r, d.sum e = some r ∧ Whole r (x + y) := by
  obtain ⟨s, k, p, rfl, rfl⟩ := hd
  obtain ⟨t, l, q, rfl, rfl⟩ := he
  generalize hx : (if s then -(k : Int) else k) = x
  generalize hy : (if t then -(l : Int) else l) = y
  refine ⟨_, rfl, ?_⟩
  have hbase : min (-(p : Int)) (-(q : Int)) = -((max p q : Nat) : Int) := by omega
  have hi : (-(p : Int) - -((max p q : Nat) : Int)).toNat = max p q - p := by omega
  have hj : (-(q : Int) - -((max p q : Nat) : Int)).toNat = max p q - q := by omega
  simp only [hbase, hi, hj, signed_shift, hx, hy]
  have e1 : p + (max p q - p) = max p q := by omega
  have e2 : q + (max p q - q) = max p q := by omega
  rw [e1, e2]
  generalize max p q = m
  have hpos : (0 : Int) < 2 ^ m := Int.pow_pos (by decide)
  have htot : x * 2 ^ m + y * 2 ^ m = (x + y) * 2 ^ m := by rw [Int.add_mul]
  rw [htot]
  refine ⟨if (x + y) * 2 ^ m = 0 then s && t else decide ((x + y) * 2 ^ m < 0), (x + y).natAbs, m, ?_, ?_⟩
  · rw [Int.natAbs_mul, Int.natAbs_pow]; rfl
  · rcases Int.lt_trichotomy (x + y) 0 with h | h | h
    · have h0 : (x + y) * 2 ^ m < 0 := Int.mul_neg_of_neg_of_pos h hpos
      have hne : ¬ ((x + y) * 2 ^ m = 0) := by omega
      rw [if_neg hne]
      simp only [h0, decide_true, if_true]
      omega
    · rw [h]; simp
    · have h0 : 0 < (x + y) * 2 ^ m := Int.mul_pos h hpos
      have hne : ¬ ((x + y) * 2 ^ m = 0) := by omega
      rw [if_neg hne]
      have h1 : ¬ ((x + y) * 2 ^ m < 0) := by omega
      simp only [h1, decide_false, Bool.false_eq_true, if_false]
      omega

theorem whole_opposite {d : Datum} {x : Int} (hd : Whole d x) : Whole d.opposite (-x) := by
  obtain ⟨s, k, p, rfl, rfl⟩ := hd
  refine ⟨!s, k, p, rfl, ?_⟩
  cases s <;> simp

theorem whole_product {d e : Datum} {x y : Int} (hd : Whole d x) (he : Whole e y) : ∃ r, d.product e = some r ∧ Whole r (x * y) := by
  obtain ⟨s, k, p, rfl, rfl⟩ := hd
  obtain ⟨t, l, q, rfl, rfl⟩ := he
  refine ⟨_, rfl, s ^^ t, k * l, p + q, ?_, ?_⟩
  · congr 1
    · rw [Nat.pow_add]; ac_rfl
    · omega
  · cases s <;> cases t <;> simp [Int.neg_mul, Int.mul_neg]

theorem log2_shift (k p : Nat) (hk : k ≠ 0) : (k * 2 ^ p).log2 = k.log2 + p := by
  have h0 : k * 2 ^ p ≠ 0 := Nat.mul_ne_zero hk (Nat.ne_of_gt (Nat.two_pow_pos p))
  rw [Nat.log2_eq_iff h0]
  have h1 := Nat.log2_self_le hk
  have h2 := Nat.lt_log2_self (n := k)
  constructor
  · rw [Nat.pow_add]; exact Nat.mul_le_mul_right _ h1
  · have : 2 ^ (k.log2 + p + 1) = 2 ^ (k.log2 + 1) * 2 ^ p := by rw [← Nat.pow_add]; congr 1; omega
    rw [this]; exact (Nat.mul_lt_mul_right (Nat.two_pow_pos p)).2 h2

theorem cut_exact (s : Bool) (K drop : Nat) (way : Toward) (h : K ≠ 0) : way.cut s (K * 2 ^ drop) drop = K := by
  have hl : drop ≤ (K * 2 ^ drop).log2 + 2 := by rw [log2_shift K drop h]; omega
  have hg : 1 <<< drop = 2 ^ drop := by rw [Nat.shiftLeft_eq, Nat.one_mul]
  have hp := Nat.two_pow_pos drop
  have h1 : K * 2 ^ drop / 2 ^ drop = K := Nat.mul_div_cancel _ hp
  have h2 : K * 2 ^ drop % 2 ^ drop = 0 := Nat.mul_mod_left _ _
  have h3 : ¬ (2 ^ drop < 2 * 0) := by omega
  have h4 : ((2 ^ drop == 2 * 0) = false) := by rw [beq_eq_false_iff_ne]; omega
  unfold Toward.cut
  simp only [Nat.min_eq_left hl, hg, h1, h2, h3, h4]
  cases way <;> simp

theorem whole_toInt {d : Datum} {n : Int} (hd : Whole d n) : d.toInt .zero = some n := by
  obtain ⟨s, k, p, rfl, rfl⟩ := hd
  unfold Datum.toInt Datum.integral
  have e1 : (-(p : Int)).toNat = 0 := by omega
  have e2 : (- -(p : Int)).toNat = p := by omega
  simp only [e1, e2, Nat.shiftLeft_zero]
  by_cases hk : k = 0
  · subst hk
    have : Toward.zero.cut s (0 * 2 ^ p) p = 0 := by simp [Toward.cut]
    rw [this]
    unfold signed
    cases s <;> simp
  · rw [cut_exact s k p .zero hk]
    unfold signed
    cases s <;> simp

theorem double_signWeight : double.signWeight = 9223372036854775808 := by decide
theorem double_binade : double.binade = 4503599627370496 := by decide
theorem double_infRung : double.infRung = 9218868437227405312 := by decide
theorem double_leastPlace : double.leastPlace = -1074 := by decide

theorem read_word (s : Bool) (r : Nat) (hr : r < 9218868437227405312) : double.read (double.word s r) =
    if r < 4503599627370496 then .number s r (-1074) else .number s (4503599627370496 + r % 4503599627370496) (-1074 + (r / 4503599627370496 - 1 : Nat)) := by
  have hw1 : double.word s r / double.signWeight % 2 = if s then 1 else 0 := by
    unfold Format.word; rw [double_signWeight]; cases s <;> simp <;> omega
  have hw2 : double.word s r % double.signWeight = r := by
    unfold Format.word; rw [double_signWeight]; cases s <;> simp <;> omega
  have hs : ((if s then 1 else 0) == (1 : Nat)) = s := by cases s <;> rfl
  unfold Format.read
  simp only [hw1, hw2, double_binade, double_infRung, double_leastPlace, hs]
  by_cases h : r < 4503599627370496
  · rw [if_pos h, if_pos h]
  · rw [if_neg h, if_neg h, if_pos hr]

theorem kept_of (s : Bool) (k p L K : Nat) (hL52 : L ≤ 52) (hK : k * 2 ^ (52 - L) = K) (hK0 : K ≠ 0) :
    Toward.even.cut s ((k * 2 ^ p) <<< (-(p : Int) - ((L : Int) - 52)).toNat) ((L : Int) - 52 - -(p : Int)).toNat = K := by
  by_cases hc : 52 ≤ p + L
  · have a1 : (-(p : Int) - ((L : Int) - 52)).toNat = 0 := by omega
    have a2 : ((L : Int) - 52 - -(p : Int)).toNat = p + L - 52 := by omega
    have a3 : k * 2 ^ p = K * 2 ^ (p + L - 52) := by
      rw [← hK, Nat.mul_assoc, ← Nat.pow_add]; congr 2; omega
    rw [a1, a2, Nat.shiftLeft_zero, a3]
    exact cut_exact _ _ _ _ hK0
  · have a1 : (-(p : Int) - ((L : Int) - 52)).toNat = 52 - L - p := by omega
    have a2 : ((L : Int) - 52 - -(p : Int)).toNat = 0 := by omega
    have a3 : k * 2 ^ p * 2 ^ (52 - L - p) = K * 2 ^ 0 := by
      rw [← hK, Nat.mul_assoc, ← Nat.pow_add, Nat.pow_zero, Nat.mul_one]; congr 2; omega
    rw [a1, a2, Nat.shiftLeft_eq, a3]
    exact cut_exact _ _ _ _ hK0

theorem min_rung (L K B I : Nat) (hB : B = 4503599627370496) (hI : I = 9218868437227405312) (hL : L ≤ 52) (hK : K < 9007199254740992) : min ((L + 1022) * B + K) I = (L + 1022) * B + K := by
  have : (L + 1022) * B ≤ 1074 * B := Nat.mul_le_mul_right _ (by omega)
  omega

theorem near_pos (s : Bool) (k p L K : Nat) (hk : k ≠ 0) (hLe : k.log2 = L) (hL52 : L ≤ 52) (hK : k * 2 ^ (52 - L) = K) (hK1 : 4503599627370496 ≤ K) (hK2 : K < 9007199254740992) :
    double.nearest s (k * 2 ^ p) (-(p : Int)) = double.word s ((L + 1022) * 4503599627370496 + K) := by
  have hm0 : k * 2 ^ p ≠ 0 := Nat.mul_ne_zero hk (Nat.ne_of_gt (Nat.two_pow_pos p))
  have hlast : max (-(p : Int) + ((L + p : Nat) : Int) - ((52 : Nat) : Int)) (-1074) = (L : Int) - 52 := by omega
  have hkept := kept_of s k p L K hL52 hK (by omega)
  have a4 : ((L : Int) - 52 - -1074).toNat = L + 1022 := by omega
  have hfb : double.fractionBits = 52 := rfl
  unfold Format.nearest
  rw [if_neg hm0]
  simp only [log2_shift k p hk, hLe, hfb, double_leastPlace, hlast, hkept, a4, min_rung L K double.binade double.infRung double_binade double_infRung hL52 hK2]
  rw [double_binade]

theorem rung_parts (L K B : Nat) (hB : B = 4503599627370496) (hK1 : B ≤ K) (hK2 : K < 2 * B) : ((L + 1022) * B + K) % B = K - B ∧ ((L + 1022) * B + K) / B = L + 1023 ∧ B ≤ (L + 1022) * B + K := by
  have hp : 0 < B := by omega
  have e : (L + 1022) * B + K = (K - B) + B * (L + 1023) := by
    have : B * (L + 1023) = (L + 1022) * B + B := by rw [Nat.mul_comm, show L + 1023 = (L + 1022) + 1 from rfl, Nat.succ_mul]
    omega
  have hlt : K - B < B := by omega
  refine ⟨?_, ?_, ?_⟩
  · rw [e, Nat.add_mul_mod_self_left, Nat.mod_eq_of_lt hlt]
  · rw [e, Nat.add_mul_div_left _ _ hp, Nat.div_eq_of_lt hlt]; omega
  · exact Nat.le_trans hK1 (Nat.le_add_left _ _)

theorem zero_case (s : Bool) (q : Nat) : Datum.number s 0 (-(q : Int)) = .number s (0 * 2 ^ q) (-(q : Int)) := by rw [Nat.zero_mul]

/-- The nearest word of a whole number below 2^53 stands for it. -/
theorem whole_nearest {d : Datum} {n : Int} (hd : Whole d n) (hn : n.natAbs < 9007199254740992) : Whole (double.read (double.write d)) n := by
  obtain ⟨s, k, p, rfl, rfl⟩ := hd
  have hk53 : k < 9007199254740992 := by cases s <;> simp at hn <;> exact hn
  show Whole (double.read (double.nearest s (k * 2 ^ p) (-(p : Int)))) _
  by_cases hk : k = 0
  · subst hk
    have h0 : double.nearest s (0 * 2 ^ p) (-(p : Int)) = double.word s 0 := by unfold Format.nearest; simp
    rw [h0, read_word s 0 (by omega), if_pos (by omega)]
    exact ⟨s, 0, 1074, zero_case s 1074, rfl⟩
  · have hL := Nat.log2_self_le hk
    have hL2 := Nat.lt_log2_self (n := k)
    obtain ⟨L, hLe⟩ : ∃ L, k.log2 = L := ⟨_, rfl⟩
    rw [hLe] at hL hL2
    have hL52 : L ≤ 52 := by
      have : 2 ^ L < 2 ^ 53 := Nat.lt_of_le_of_lt hL (by omega)
      have := (Nat.pow_lt_pow_iff_right (by decide : 1 < 2)).1 this
      omega
    have hK1 : 4503599627370496 ≤ k * 2 ^ (52 - L) := by
      have : (4503599627370496 : Nat) = 2 ^ L * 2 ^ (52 - L) := by rw [← Nat.pow_add, Nat.add_sub_cancel' hL52]
      rw [this]; exact Nat.mul_le_mul_right _ hL
    have hK2 : k * 2 ^ (52 - L) < 9007199254740992 := by
      have : (9007199254740992 : Nat) = 2 ^ (L + 1) * 2 ^ (52 - L) := by rw [← Nat.pow_add, show L + 1 + (52 - L) = 53 from by omega]
      rw [this]; exact (Nat.mul_lt_mul_right (Nat.two_pow_pos _)).2 hL2
    obtain ⟨K, hKe⟩ : ∃ K, k * 2 ^ (52 - L) = K := ⟨_, rfl⟩
    rw [hKe] at hK1 hK2
    obtain ⟨r1, r2, r3⟩ := rung_parts L K _ rfl hK1 hK2
    have r4 : (L + 1022) * 4503599627370496 + K < 9218868437227405312 := by
      have := min_rung L K _ _ rfl rfl hL52 hK2
      have h2 : (L + 1022) * 4503599627370496 ≤ 1074 * 4503599627370496 := Nat.mul_le_mul_right _ (by omega)
      omega
    rw [near_pos s k p L K hk hLe hL52 hKe hK1 hK2, read_word s _ r4, if_neg (by omega), r1, r2]
    refine ⟨s, k, 52 - L, ?_, rfl⟩
    have e1 : 4503599627370496 + (K - 4503599627370496) = K := by omega
    have e2 : (-1074 : Int) + ((L + 1023 - 1 : Nat) : Int) = -((52 - L : Nat) : Int) := by omega
    rw [hKe, e1, e2]

/-- The bits b stand for the whole number n. -/
def Rep (b : Nat) (n : Int) : Prop := Whole (FloatKind.f64.decode b) n

theorem rep_write {d : Datum} {n : Int} (hd : Whole d n) (hn : n.natAbs < 9007199254740992) : Rep (double.write d) n := whole_nearest hd hn

theorem rep_int {n : Int} (hn : n.natAbs < 9007199254740992) : Rep (floatOfInt .f64 n) n := by
  refine rep_write (d := .number (decide (n < 0)) n.natAbs 0) ⟨decide (n < 0), n.natAbs, 0, by simp, ?_⟩ hn
  by_cases h : n < 0
  · simp [h]; omega
  · simp [h]; omega

theorem rep_add {a b : Nat} {x y : Int} (ha : Rep a x) (hb : Rep b y) (h : (x + y).natAbs < 9007199254740992) : ∃ r, floatBits .add .f64 a b = some r ∧ Rep r (x + y) := by
  obtain ⟨d, hd, hw⟩ := whole_sum ha hb
  refine ⟨double.write d, ?_, rep_write hw h⟩
  show ((double.read a).sum (double.read b)).map double.write = _
  have : (double.read a).sum (double.read b) = some d := hd
  rw [this]; rfl

theorem rep_sub {a b : Nat} {x y : Int} (ha : Rep a x) (hb : Rep b y) (h : (x - y).natAbs < 9007199254740992) : ∃ r, floatBits .sub .f64 a b = some r ∧ Rep r (x - y) := by
  obtain ⟨d, hd, hw⟩ := whole_sum ha (whole_opposite hb)
  refine ⟨double.write d, ?_, rep_write hw h⟩
  show ((double.read a).sum (double.read b).opposite).map double.write = _
  have : (double.read a).sum (double.read b).opposite = some d := hd
  rw [this]; rfl

theorem rep_mul {a b : Nat} {x y : Int} (ha : Rep a x) (hb : Rep b y) (h : (x * y).natAbs < 9007199254740992) : ∃ r, floatBits .mul .f64 a b = some r ∧ Rep r (x * y) := by
  obtain ⟨d, hd, hw⟩ := whole_product ha hb
  refine ⟨double.write d, ?_, rep_write hw h⟩
  show ((double.read a).product (double.read b)).map double.write = _
  have : (double.read a).product (double.read b) = some d := hd
  rw [this]; rfl

/-- The sum of two complex numbers with whole parts. -/
theorem rep_csum {a b c d : Nat} {x y u v : Int} (ha : Rep a x) (hb : Rep b y) (hc : Rep c u) (hd : Rep d v) (h1 : (x + u).natAbs < 9007199254740992) (h2 : (y + v).natAbs < 9007199254740992) :
    ∃ re im, cSumBits .add .f64 a b c d = some (re, im) ∧ Rep re (x + u) ∧ Rep im (y + v) := by
  obtain ⟨r, hr, hr'⟩ := rep_add ha hc h1
  obtain ⟨i, hi, hi'⟩ := rep_add hb hd h2
  exact ⟨r, i, by simp [cSumBits, hr, hi], hr', hi'⟩

/-- The product of two complex numbers with whole parts. -/
theorem rep_cmul {a b c d : Nat} {x y u v : Int} (ha : Rep a x) (hb : Rep b y) (hc : Rep c u) (hd : Rep d v) (b1 : (x * u).natAbs < 9007199254740992) (b2 : (y * v).natAbs < 9007199254740992)
    (b3 : (x * u - y * v).natAbs < 9007199254740992) (b4 : (x * v).natAbs < 9007199254740992) (b5 : (y * u).natAbs < 9007199254740992) (b6 : (x * v + y * u).natAbs < 9007199254740992) :
    ∃ re im, cMulBits a b c d = some (re, im) ∧ Rep re (x * u - y * v) ∧ Rep im (x * v + y * u) := by
  obtain ⟨r1, h1, h1'⟩ := rep_mul ha hc b1
  obtain ⟨r2, h2, h2'⟩ := rep_mul hb hd b2
  obtain ⟨r3, h3, h3'⟩ := rep_sub h1' h2' b3
  obtain ⟨r4, h4, h4'⟩ := rep_mul ha hd b4
  obtain ⟨r5, h5, h5'⟩ := rep_mul hb hc b5
  obtain ⟨r6, h6, h6'⟩ := rep_add h4' h5' b6
  exact ⟨r3, r6, by simp [cMulBits, h1, h2, h3, h4, h5, h6], h3', h6'⟩

theorem rep_int_back {b : Nat} {n : Int} (h : Rep b n) (h1 : -9223372036854775808 ≤ n) (h2 : n ≤ 9223372036854775807) : floatToIntVal .f64 b .i64 = some n := by
  unfold floatToIntVal
  rw [whole_toInt h]
  have e1 : IntKind.i64.min = -9223372036854775808 := by decide
  have e2 : IntKind.i64.max = 9223372036854775807 := by decide
  simp only [e1, e2]
  rw [if_pos ⟨h1, h2⟩]

/-- The sign turned. -/
theorem rep_neg {b : Nat} {n : Int} (h : Rep b n) (hb : b < 18446744073709551616) : Rep (Op.negFloat .f64 b) (-n) := by
  have e : FloatKind.f64.decode (Op.negFloat .f64 b) = (FloatKind.f64.decode b).opposite := by
    show double.read (b ^^^ 2 ^ 63) = (double.read b).opposite
    have hx : b ^^^ 2 ^ 63 = if b < 9223372036854775808 then b + 9223372036854775808 else b - 9223372036854775808 := by
      have h1 : (b ^^^ 2 ^ 63) % 2 ^ 63 = b % 2 ^ 63 := by rw [Nat.xor_mod_two_pow]; simp
      have h2 : (b ^^^ 2 ^ 63) / 2 ^ 63 = (b / 2 ^ 63) ^^^ 1 := by rw [Nat.xor_div_two_pow]
      split
      · rename_i hlt
        have h3 : b / 2 ^ 63 = 0 := by omega
        rw [h3] at h2
        have h4 : (0 ^^^ 1 : Nat) = 1 := rfl
        rw [h4] at h2
        omega
      · rename_i hlt
        have h3 : b / 2 ^ 63 = 1 := by omega
        rw [h3] at h2
        have h4 : (1 ^^^ 1 : Nat) = 0 := rfl
        rw [h4] at h2
        omega
    have hsw : double.signWeight = 9223372036854775808 := by decide
    unfold Format.read
    have e1 : (b ^^^ 2 ^ 63) % double.signWeight = b % double.signWeight := by rw [hx, hsw]; split <;> omega
    have e2 : ((b ^^^ 2 ^ 63) / double.signWeight % 2 == 1) = !(b / double.signWeight % 2 == 1) := by
      rw [hx, hsw]
      split
      · have q1 : (b + 9223372036854775808) / 9223372036854775808 % 2 = 1 := by omega
        have q2 : b / 9223372036854775808 % 2 = 0 := by omega
        rw [q1, q2]; rfl
      · have q1 : (b - 9223372036854775808) / 9223372036854775808 % 2 = 0 := by omega
        have q2 : b / 9223372036854775808 % 2 = 1 := by omega
        rw [q1, q2]; rfl
    simp only [e1, e2]
    split
    · rfl
    · split
      · rfl
      · split <;> rfl
  unfold Rep
  rw [e]
  exact whole_opposite h

theorem floatOfInt_lt (n : Int) : floatOfInt .f64 n < 18446744073709551616 := by
  have := double.write_lt (.number (n < 0) n.natAbs 0)
  exact this

end Go.Proofs.Ytjhmlbhfnogdiaa.Fl
