/- What each function of package num computes: parts, packing, norm, number, word, sum, product, conjugate, power, said of the plain integers of the text Nm. -/
import Derived.Test.YtjhmlbhfnogdiaaProg
import Derived.Test.YtjhmlbhfnogdiaaFl
import Derived.Test.YtjhmlbhfnogdiaaNm
import Derived.WalkKit
import Derived.WalkLawsBesides
import Derived.KernelRfl
import Derived.Lib.Hide
import Derived.Laws.ComplexArith
namespace Go.Proofs.Ytjhmlbhfnogdiaa.Ng
open Go.RowKit
open Go.Proofs.Ytjhmlbhfnogdiaa

set_option linter.unusedVariables false

theorem ret_int {k : IntKind} {a b : Int} (h : a = b) : Ending.returned (.int k a) = .returned (.int k b) := by rw [h]
theorem wraps_u64 (n : Int) (h₀ : 0 ≤ n) (h₁ : n < 2 ^ 64) : IntKind.u64.wrap n = n := by rw [IntKind.wrap_u64]; omega
theorem u16_wrap (x : Int) : IntKind.u16.wrap x = x % 65536 := by simp [IntKind.wrap, IntKind.bits, IntKind.signed]
theorem i16_wrap (x : Int) : IntKind.i16.wrap x = Nm.s16 x := by
  unfold Nm.s16; simp [IntKind.wrap, IntKind.bits, IntKind.signed]
theorem i16_wrap64 (x : Int) : wrap64 (IntKind.i16.wrap x) = Nm.s16 x := by
  rw [i16_wrap]; have := Nm.s16_bd x; unfold wrap64; omega
theorem mask32 (a : Int) (h0 : 0 ≤ a) (h1 : a ≤ 18446744073709551615) : bits BinOp.and .u64 a 4294967295 = a % 4294967296 := bits_mask .u64 64 (by decide) wraps_u64 32 (by decide) a h0 (by omega)
theorem pack_bits (x y : Int) : bits BinOp.or IntKind.u64 (IntKind.u64.wrap (IntKind.u64.wrap (IntKind.u16.wrap x) * 65536)) (IntKind.u64.wrap (IntKind.u16.wrap y)) = Nm.packW x y := by
  have e1 : IntKind.u64.wrap (IntKind.u64.wrap (IntKind.u16.wrap x) * 65536) = x % 65536 * 65536 := by
    rw [u16_wrap, IntKind.wrap_u64, IntKind.wrap_u64]; omega
  have e2 : IntKind.u64.wrap (IntKind.u16.wrap y) = y % 65536 := by rw [u16_wrap, IntKind.wrap_u64]; omega
  rw [e1, e2, bits_join .u64 64 (by decide) wraps_u64 16 _ _ (by omega) (by omega) (by omega) (by omega) (by omega) (by omega)]
  rfl

theorem parts_any (a : Int) (w : World) :
    Calls Try.prog 87 #[.int .u64 a] w fun e w' => e = .returned (.tuple #[.int .i64 (Nm.reW a), .int .i64 (Nm.imW a)]) ∧ w = w' := by
  go_enter Try.func87, Try.ntmps87
  go_wp2
  simp only [i16_wrap64]
  go_ret2
  exact ⟨rfl, rfl⟩

theorem pack_any (x y : Int) (w : World) :
    Calls Try.prog 86 #[.int .i64 x, .int .i64 y] w fun e w' => e = .returned (.int .u64 (Nm.packW x y)) ∧ w = w' := by
  go_enter Try.func86, Try.ntmps86
  go_wp2
  simp only [pack_bits]
  go_ret
  exact ⟨rfl, rfl⟩


/-- A word's number: its parts as floats. -/
theorem number_any (a : Int) (w : World) :
    Calls Try.prog 83 #[.int .u64 a] w fun e w' => e = .returned (.complex .f64 (floatOfInt .f64 (Nm.reW a)) (floatOfInt .f64 (Nm.imW a))) ∧ w = w' := by
  go_enter Try.func83, Try.ntmps83
  go_wp2_with (go_at_call 87; refine (parts_any a _).mono ?_; rintro e w' ⟨rfl, rfl⟩)
  go_ret
  exact ⟨rfl, rfl⟩

theorem back_any (b : Nat) (n : Int) (h : floatToIntVal .f64 b .i64 = some n) (w : World) :
    Calls Try.prog 85 #[.float .f64 b] w fun e w' => e = .returned (.int .i64 n) ∧ w = w' := by
  have hc : ∀ w, (convert 116 3 (.float .f64 b)).run Try.prog w = .ok (.int .i64 n) w := fun w => run_convert_float_int w 116 3 .f64 .i64 b n (by kernel_rfl) Try.underlying3 h
  clear h
  go_enter Try.func85, Try.ntmps85
  go_wp2
  go_ret
  exact ⟨rfl, rfl⟩

/-- A number's word. -/
theorem word_any (a b : Nat) (x y : Int) (ha : Fl.Rep a x) (hb : Fl.Rep b y) (x0 : -9000000000000000000 ≤ x) (x1 : x ≤ 9000000000000000000) (y0 : -9000000000000000000 ≤ y) (y1 : y ≤ 9000000000000000000) (w : World) :
    Calls Try.prog 82 #[.complex .f64 a b] w fun e w' => e = .returned (.int .u64 (Nm.packW x y)) ∧ w = w' := by
  have f1 := Lib.hid (Fl.rep_int_back ha (by omega) (by omega))
  have f2 := Lib.hid (Fl.rep_int_back hb (by omega) (by omega))
  clear ha hb
  go_enter Try.func82, Try.ntmps82
  go_wp2_with fail
  refine (back_any a x f1.out _).mono ?_; rintro e w' ⟨rfl, rfl⟩
  go_wp2_with fail
  refine (back_any b y f2.out _).mono ?_; rintro e w' ⟨rfl, rfl⟩
  go_wp2_with fail
  refine (pack_any x y _).mono ?_; rintro e w' ⟨rfl, rfl⟩
  go_wp2_with fail
  go_ret
  exact ⟨rfl, rfl⟩

theorem natAbs_lt {x : Int} (h0 : -4503599627370496 ≤ x) (h1 : x ≤ 4503599627370496) : x.natAbs < 9007199254740992 := by omega
theorem mul_bd {x y : Int} (x0 : -32768 ≤ x) (x1 : x ≤ 32767) (y0 : -32768 ≤ y) (y1 : y ≤ 32767) : -1073741824 ≤ x * y ∧ x * y ≤ 1073741824 := by
  have h : (x * y).natAbs ≤ 32768 * 32768 := by rw [Int.natAbs_mul]; exact Nat.mul_le_mul (by omega) (by omega)
  omega

theorem add_any (a b : Int) (w : World) :
    Calls Try.prog 73 #[.int .u64 a, .int .u64 b] w fun e w' => e = .returned (.int .u64 (Nm.addW a b)) ∧ w = w' := by
  have r1 := Nm.re_bd a; have i1 := Nm.im_bd a; have r2 := Nm.re_bd b; have i2 := Nm.im_bd b
  obtain ⟨re, im, hs, hre, him⟩ := Fl.rep_csum (Fl.rep_int (natAbs_lt (x := Nm.reW a) (by omega) (by omega))) (Fl.rep_int (natAbs_lt (x := Nm.imW a) (by omega) (by omega))) (Fl.rep_int (natAbs_lt (x := Nm.reW b) (by omega) (by omega))) (Fl.rep_int (natAbs_lt (x := Nm.imW b) (by omega) (by omega)))
    (natAbs_lt (by omega) (by omega)) (natAbs_lt (by omega) (by omega))
  have hop : ∀ w t, (binOp .add t (.complex .f64 (floatOfInt .f64 (Nm.reW a)) (floatOfInt .f64 (Nm.imW a))) (.complex .f64 (floatOfInt .f64 (Nm.reW b)) (floatOfInt .f64 (Nm.imW b)))).run Try.prog w = .ok (.complex .f64 re im) w := fun w t => run_complex_sum w .add (.inl rfl) t .f64 _ _ _ _ re im hs
  have hw := word_any re im _ _ hre him (by omega) (by omega) (by omega) (by omega)
  have Hw := Lib.hid hw
  clear hs hre him hw r1 i1 r2 i2
  go_enter Try.func73, Try.ntmps73
  go_wp2_with fail
  refine (number_any a _).mono ?_; rintro e w' ⟨rfl, rfl⟩
  go_wp2_with fail
  refine (number_any b _).mono ?_; rintro e w' ⟨rfl, rfl⟩
  go_wp2_with fail
  refine (Hw.out _).mono ?_; rintro e w' ⟨rfl, rfl⟩
  go_wp2_with fail
  go_ret
  exact ⟨rfl, rfl⟩

theorem mul_any (a b : Int) (w : World) :
    Calls Try.prog 74 #[.int .u64 a, .int .u64 b] w fun e w' => e = .returned (.int .u64 (Nm.mulW a b)) ∧ w = w' := by
  have r1 := Nm.re_bd a; have i1 := Nm.im_bd a; have r2 := Nm.re_bd b; have i2 := Nm.im_bd b
  have m1 := mul_bd r1.1 r1.2 r2.1 r2.2
  have m2 := mul_bd i1.1 i1.2 i2.1 i2.2
  have m3 := mul_bd r1.1 r1.2 i2.1 i2.2
  have m4 := mul_bd i1.1 i1.2 r2.1 r2.2
  obtain ⟨re, im, hs, hre, him⟩ := Fl.rep_cmul (Fl.rep_int (natAbs_lt (x := Nm.reW a) (by omega) (by omega))) (Fl.rep_int (natAbs_lt (x := Nm.imW a) (by omega) (by omega))) (Fl.rep_int (natAbs_lt (x := Nm.reW b) (by omega) (by omega))) (Fl.rep_int (natAbs_lt (x := Nm.imW b) (by omega) (by omega)))
    (natAbs_lt (by omega) (by omega)) (natAbs_lt (by omega) (by omega)) (natAbs_lt (by omega) (by omega)) (natAbs_lt (by omega) (by omega)) (natAbs_lt (by omega) (by omega)) (natAbs_lt (by omega) (by omega))
  have hop : ∀ w t, (binOp .mul t (.complex .f64 (floatOfInt .f64 (Nm.reW a)) (floatOfInt .f64 (Nm.imW a))) (.complex .f64 (floatOfInt .f64 (Nm.reW b)) (floatOfInt .f64 (Nm.imW b)))).run Try.prog w = .ok (.complex .f64 re im) w := fun w t => run_complex_mul w t _ _ _ _ re im hs
  have Hw := Lib.hid (word_any re im _ _ hre him (by omega) (by omega) (by omega) (by omega))
  clear hs hre him r1 i1 r2 i2 m1 m2 m3 m4
  go_enter Try.func74, Try.ntmps74
  go_wp2_with fail
  refine (number_any a _).mono ?_; rintro e w' ⟨rfl, rfl⟩
  go_wp2_with fail
  refine (number_any b _).mono ?_; rintro e w' ⟨rfl, rfl⟩
  go_wp2_with fail
  refine (Hw.out _).mono ?_; rintro e w' ⟨rfl, rfl⟩
  go_wp2_with fail
  go_ret
  exact ⟨rfl, rfl⟩



end Go.Proofs.Ytjhmlbhfnogdiaa.Ng
