/- What the document's own answer for numbers computes (the package dovecoteref01), said of the plain integers of the text Nm. -/
import Derived.Test.YtjhmlbhfnogdiaaNg
namespace Go.Proofs.Ytjhmlbhfnogdiaa.No
open Go.RowKit
open Go.Proofs.Ytjhmlbhfnogdiaa
set_option linter.unusedVariables false

theorem tmod_part (n : Int) : n % 65536 = if n.tmod 65536 < 0 then n.tmod 65536 + 65536 else n.tmod 65536 := by
  rw [Int.tmod_eq_emod]
  split
  · split <;> omega
  · rename_i h
    have : ((65536 : Int).natAbs : Int) = 65536 := rfl
    split <;> omega

theorem tmod_bd (n : Int) : -65536 ≤ n.tmod 65536 ∧ n.tmod 65536 < 65536 := by
  have h := tmod_part n
  generalize n.tmod 65536 = t at h
  by_cases ht : t < 0
  · rw [if_pos ht] at h; omega
  · rw [if_neg ht] at h; omega

theorem part_any (n : Int) (w : World) : Calls Try.prog 81 #[.int .i64 n] w fun e w' => e = .returned (.int .u64 (n % 65536)) ∧ w = w' := by
  have hb := tmod_bd n
  have H := Lib.hid (tmod_part n)
  have b1 := hb.1; have b2 := hb.2
  clear hb
  go_enter Try.func81, Try.ntmps81
  go_wp2
  · have h : n.tmod 65536 < 0 := by assumption
    go_ret
    exact ⟨Ng.ret_int (by have := H.out; rw [if_pos h] at this; rw [this]), rfl⟩
  · have h : 0 ≤ n.tmod 65536 := by assumption
    go_ret
    exact ⟨Ng.ret_int (by have := H.out; rw [if_neg (by omega)] at this; rw [this]), rfl⟩

theorem sign_any (n : Int) (h0 : 0 ≤ n) (h1 : n ≤ 65535) (w : World) : Calls Try.prog 80 #[.int .u64 n] w fun e w' => e = .returned (.int .i64 (Nm.s16 n)) ∧ w = w' := by
  go_enter Try.func80, Try.ntmps80
  go_wp2
  · have h : 32768 ≤ n := by assumption
    go_ret
    exact ⟨Ng.ret_int (by show n - 65536 = Nm.s16 n; unfold Nm.s16; rw [if_pos (by omega)]; omega), rfl⟩
  · have h : n < 32768 := by assumption
    go_ret
    exact ⟨Ng.ret_int (by show n = Nm.s16 n; unfold Nm.s16; rw [if_neg (by omega)]; omega), rfl⟩

theorem pack_any (x y : Int) (w : World) : Calls Try.prog 71 #[.int .i64 x, .int .i64 y] w fun e w' => e = .returned (.int .u64 (Nm.packW x y)) ∧ w = w' := by
  have b1 : 0 ≤ x % 65536 := by omega
  have b2 : x % 65536 < 65536 := by omega
  have b3 : 0 ≤ y % 65536 := by omega
  have b4 : y % 65536 < 65536 := by omega
  go_enter Try.func71, Try.ntmps71
  go_wp2_with (go_at_call 81; refine (part_any _ _).mono ?_; rintro e w' ⟨rfl, rfl⟩)
  go_ret
  exact ⟨Ng.ret_int (by show 65536 * (x % 65536) + y % 65536 = Nm.packW x y; unfold Nm.packW; omega), rfl⟩

theorem parts_any (a : Int) (h0 : 0 ≤ a) (h1 : a ≤ 18446744073709551615) (w : World) : Calls Try.prog 70 #[.int .u64 a] w fun e w' => e = .returned (.tuple #[.int .i64 (Nm.reW a), .int .i64 (Nm.imW a)]) ∧ w = w' := by
  have e1 : Nm.s16 (a / 65536 % 65536) = Nm.reW a := by unfold Nm.reW; exact Nm.s16_congr (by omega)
  have e2 : Nm.s16 (a % 65536) = Nm.imW a := by unfold Nm.imW; exact Nm.s16_congr (by omega)
  rw [← e1, ← e2]
  clear e1 e2
  go_enter Try.func70, Try.ntmps70
  go_wp2_with (go_at_call 80; refine (sign_any _ (by omega) (by omega) _).mono ?_; rintro e w' ⟨rfl, rfl⟩)
  go_ret2
  exact ⟨rfl, rfl⟩


theorem add_any (a b : Int) (a0 : 0 ≤ a) (a1 : a ≤ 18446744073709551615) (b0 : 0 ≤ b) (b1 : b ≤ 18446744073709551615) (w : World) : Calls Try.prog 39 #[.int .u64 a, .int .u64 b] w fun e w' => e = .returned (.int .u64 (Nm.addW a b)) ∧ w = w' := by
  obtain ⟨c1, c2⟩ := Nm.re_bd a; obtain ⟨c3, c4⟩ := Nm.im_bd a; obtain ⟨c5, c6⟩ := Nm.re_bd b; obtain ⟨c7, c8⟩ := Nm.im_bd b
  go_enter Try.func39, Try.ntmps39
  go_wp2_with fail
  refine (parts_any a a0 a1 _).mono ?_; rintro e w' ⟨rfl, rfl⟩
  go_wp2_with fail
  refine (parts_any b b0 b1 _).mono ?_; rintro e w' ⟨rfl, rfl⟩
  go_wp2_with fail
  refine (pack_any _ _ _).mono ?_; rintro e w' ⟨rfl, rfl⟩
  go_wp2_with fail
  go_ret
  exact ⟨rfl, rfl⟩

theorem mul_any (a b : Int) (a0 : 0 ≤ a) (a1 : a ≤ 18446744073709551615) (b0 : 0 ≤ b) (b1 : b ≤ 18446744073709551615) (w : World) : Calls Try.prog 40 #[.int .u64 a, .int .u64 b] w fun e w' => e = .returned (.int .u64 (Nm.mulW a b)) ∧ w = w' := by
  obtain ⟨c1, c2⟩ := Nm.re_bd a; obtain ⟨c3, c4⟩ := Nm.im_bd a; obtain ⟨c5, c6⟩ := Nm.re_bd b; obtain ⟨c7, c8⟩ := Nm.im_bd b
  obtain ⟨m1, m2⟩ := Ng.mul_bd c1 c2 c5 c6
  obtain ⟨m3, m4⟩ := Ng.mul_bd c3 c4 c7 c8
  obtain ⟨m5, m6⟩ := Ng.mul_bd c1 c2 c7 c8
  obtain ⟨m7, m8⟩ := Ng.mul_bd c3 c4 c5 c6
  clear c1 c2 c3 c4 c5 c6 c7 c8
  go_enter Try.func40, Try.ntmps40
  go_wp2_with fail
  refine (parts_any a a0 a1 _).mono ?_; rintro e w' ⟨rfl, rfl⟩
  go_wp2_with fail
  refine (parts_any b b0 b1 _).mono ?_; rintro e w' ⟨rfl, rfl⟩
  go_wp2_with fail
  refine (pack_any _ _ _).mono ?_; rintro e w' ⟨rfl, rfl⟩
  go_wp2_with fail
  go_ret
  exact ⟨rfl, rfl⟩


end Go.Proofs.Ytjhmlbhfnogdiaa.No
