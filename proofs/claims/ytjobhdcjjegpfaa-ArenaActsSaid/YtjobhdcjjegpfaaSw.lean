/- What each function of package size computes, said of the plain integers of the text Sz; and a word for worlds that only grew. -/
import Derived.Test.YtjobhdcjjegpfaaProg
import Derived.Test.YtjobhdcjjegpfaaSz
import Derived.WalkKit
import Derived.WalkLawsBesides
import Derived.KernelRfl
import Derived.Lib.Hide
import Derived.Deep.QuietTactic
import Derived.BigQuiet
namespace Go.Proofs.Ytjobhdcjjegpfaa.Sw
open Go.RowKit
open Go.Proofs.Ytjobhdcjjegpfaa
set_option linter.unusedVariables false

/-- What was there when the call began is as it was. -/
def Ext (w w' : World) : Prop := Below w.heap.size w w'
theorem Ext.refl (w : World) : Ext w w := Below.refl _ _
theorem Ext.trans {a b c : World} (h : Ext a b) (k : Ext b c) : Ext a c := Below.trans h (Below.mono k h.size)
theorem Ext.alloc {a b : World} (h : Ext a b) (o : Obj) : Ext a (b.alloc o) := Below.alloc h h.size o
theorem Ext.drew {a b : World} (h : Ext a b) : Ext a b.drew := Below.drew h
theorem Ext.drewN {a b : World} (h : Ext a b) (n : Nat) : Ext a (b.drewN n) := Below.trans h ⟨rfl, rfl, rfl, Nat.le_refl _, fun _ _ => rfl⟩
theorem Ext.of_eq {a b : World} (h : a = b) : Ext a b := h ▸ Ext.refl a
theorem Ext.below {a b : World} (h : Ext a b) : Below a.heap.size a b := h

theorem ret_int {k : IntKind} {a b : Int} (h : a = b) : Ending.returned (.int k a) = .returned (.int k b) := by rw [h]
theorem ret_two {u v u' v' : Value} (h : u = u') (k : v = v') : Ending.returned (.tuple #[u, v]) = .returned (.tuple #[u', v']) := by rw [h, k]
theorem ret_three {u v x u' v' x' : Value} (h : u = u') (k : v = v') (l : x = x') : Ending.returned (.tuple #[u, v, x]) = .returned (.tuple #[u', v', x']) := by rw [h, k, l]
theorem wraps_u64 (n : Int) (h₀ : 0 ≤ n) (h₁ : n < 2 ^ 64) : IntKind.u64.wrap n = n := by rw [IntKind.wrap_u64]; omega
theorem mask32 (a : Int) (h0 : 0 ≤ a) (h1 : a ≤ 18446744073709551615) : bits BinOp.and .u64 a 4294967295 = a % 4294967296 := bits_mask .u64 64 (by decide) wraps_u64 32 (by decide) a h0 (by omega)
theorem or32 (x y : Int) (h0 : 0 ≤ x) (h1 : x ≤ 4294967295) (h2 : 0 ≤ y) (h3 : y ≤ 4294967295) : bits BinOp.or .u64 (x * 4294967296) y = x * 4294967296 + y :=
  bits_join .u64 64 (by decide) wraps_u64 32 _ _ (by omega) (by omega) (by omega) (by omega) (by omega) (by omega)

theorem add_any (a b : Int) (a0 : -9223372036854775808 ≤ a) (a1 : a ≤ 9223372036854775807) (b0 : -9223372036854775808 ≤ b) (b1 : b ≤ 9223372036854775807) (w : World) :
    Calls Try.prog 38 #[.int .i64 a, .int .i64 b] w fun e w' => e = .returned (.tuple #[.int .i64 (Sz.addS a b), .bool (Sz.addOk a b)]) ∧ Ext w w' := by
  by_cases h1 : 0 ≤ a
  · by_cases h2 : 0 ≤ b
    · by_cases h3 : a + b ≤ 9223372036854775807
      · have e1 : Sz.addOk a b = true := Sz.addOk_iff.2 ⟨h1, h2, h3⟩
        have e2 := Sz.addS_ok e1
        rw [e2, e1]
        clear e1 e2
        go_enter Try.func38, Try.ntmps38
        go_wp2
        go_ret2
        exact ⟨rfl, ((Ext.refl w).alloc _).alloc _⟩
      · have e1 : Sz.addOk a b = false := Sz.eq_false_of Sz.addOk_iff (by omega)
        have e2 := Sz.addS_no e1
        have hw : wrap64 (a + b) < 0 := by unfold wrap64; omega
        rw [e2, e1]
        clear e1 e2 h3
        go_enter Try.func38, Try.ntmps38
        go_wp2
        go_ret2
        exact ⟨rfl, ((Ext.refl w).alloc _).alloc _⟩
    · have e1 : Sz.addOk a b = false := Sz.eq_false_of Sz.addOk_iff (by omega)
      have e2 := Sz.addS_no e1
      have h2' : b < 0 := by omega
      rw [e2, e1]
      clear e1 e2 h2
      go_enter Try.func38, Try.ntmps38
      go_wp2
      go_ret2
      exact ⟨rfl, ((Ext.refl w).alloc _).alloc _⟩
  · have e1 : Sz.addOk a b = false := Sz.eq_false_of Sz.addOk_iff (by omega)
    have e2 := Sz.addS_no e1
    have h1' : a < 0 := by omega
    rw [e2, e1]
    clear e1 e2 h1
    go_enter Try.func38, Try.ntmps38
    go_wp2
    go_ret2
    exact ⟨rfl, ((Ext.refl w).alloc _).alloc _⟩


theorem fits_any (a n k : Int) (a0 : -9223372036854775808 ≤ a) (a1 : a ≤ 9223372036854775807) (b0 : -9223372036854775808 ≤ n) (b1 : n ≤ 9223372036854775807) (c1 : k ≤ 9223372036854775807) (w : World) :
    Calls Try.prog 36 #[.int .i64 a, .int .i64 n, .int .i64 k] w fun e w' => e = .returned (.bool (Sz.fits a n k)) ∧ Ext w w' := by
  cases hok : Sz.addOk a n with
  | true =>
    have e2 := Sz.addS_ok hok
    have h' := Sz.addOk_iff.1 hok
    have e3 : Sz.fits a n k = decide (a + n ≤ k) := by unfold Sz.fits; rw [decide_eq_decide]; omega
    have hc := Lib.hid (add_any a n a0 a1 b0 b1)
    rw [e2, hok] at hc
    rw [e3]
    clear e2 e3 hok h'
    go_enter Try.func36, Try.ntmps36
    go_wp2_with fail
    refine (hc.out _).mono ?_; rintro e w' ⟨rfl, hb⟩
    go_wp2_with fail
    go_ret
    exact ⟨rfl, hb⟩
  | false =>
    have e2 := Sz.addS_no hok
    have e3 : Sz.fits a n k = false := Sz.eq_false_of Sz.fits_iff (fun h => by have := Sz.addOk_iff (a := a) (b := n); rw [hok] at this; simp at this; omega)
    have hc := Lib.hid (add_any a n a0 a1 b0 b1)
    rw [e2, hok] at hc
    rw [e3]
    clear e2 e3 hok
    go_enter Try.func36, Try.ntmps36
    go_wp2_with fail
    refine (hc.out _).mono ?_; rintro e w' ⟨rfl, hb⟩
    go_wp2_with fail
    go_ret
    exact ⟨rfl, hb⟩


theorem eqPlace (a b c d : Int) (w : World) : (Op.equalIn 10000 80 (.agg #[.int .i64 a, .int .i64 b]) (.agg #[.int .i64 c, .int .i64 d])).run Try.prog w = .ok (a == c && b == d) w := by
  have u3 := Try.underlying3
  have a3 := Try.isAgg3
  have z3 := Try.sizeOf3
  have hS : Try.prog.underlying 80 = some (.struct (Try.prog.fieldsOf 80)) := by kernel_rfl
  have hp : Try.prog.stoodInHeld 80 = false := by kernel_rfl
  rw [show (10000 : Nat) = 9999 + 1 from rfl, run_equalIn_agg w 9999 80 _ _ hS hp]
  simp only [Program.fieldsOf, Try.underlying80]
  go_simp
  by_cases h1 : a = c <;> by_cases h2 : b = d <;> simp [h1, h2]
attribute [local go_sem] eqPlace

/-- The walk of Where, the address' two halves under names of their own. -/
theorem where_yes (a x y : Int) (hx : a / 4294967296 = x) (hy : bits BinOp.and IntKind.u64 a 4294967295 = y) (x0 : 1 ≤ x) (x1 : x ≤ 2) (y0 : 0 ≤ y) (y1 : y ≤ 4294967295) (w : World) :
    Calls Try.prog 35 #[.int .u64 a] w fun e w' => e = .returned (.tuple #[.int .i64 (x - 1), .int .i64 y, .bool true]) ∧ Ext w w' := by
  have hne : (x - 1 == -1) = false := beq_eq_false_iff_ne.2 (by omega)
  go_enter Try.func35, Try.ntmps35
  go_wp2
  go_quiet (fail)
  go_wp2
  go_ret3
  exact ⟨rfl, ((Ext.refl w).alloc _).drewN _⟩

theorem where_no0 (a y : Int) (hx : a / 4294967296 = 0) (hy : bits BinOp.and IntKind.u64 a 4294967295 = y) (y0 : 0 ≤ y) (y1 : y ≤ 4294967295) (w : World) :
    Calls Try.prog 35 #[.int .u64 a] w fun e w' => e = .returned (.tuple #[.int .i64 0, .int .i64 0, .bool false]) ∧ Ext w w' := by
  cases hz : (y == 0) with
  | true =>
    go_enter Try.func35, Try.ntmps35
    go_wp2
    go_ret3
    exact ⟨rfl, (Ext.refl w).alloc _⟩
  | false =>
    go_enter Try.func35, Try.ntmps35
    go_wp2
    go_ret3
    exact ⟨rfl, (Ext.refl w).alloc _⟩

theorem where_no (a x y : Int) (hx : a / 4294967296 = x) (hy : bits BinOp.and IntKind.u64 a 4294967295 = y) (x0 : 3 ≤ x) (x1 : x ≤ 4294967295) (y0 : 0 ≤ y) (y1 : y ≤ 4294967295) (w : World) :
    Calls Try.prog 35 #[.int .u64 a] w fun e w' => e = .returned (.tuple #[.int .i64 0, .int .i64 0, .bool false]) ∧ Ext w w' := by
  have hne : (x - 1 == -1) = false := beq_eq_false_iff_ne.2 (by omega)
  go_enter Try.func35, Try.ntmps35
  go_wp2
  go_ret3
  exact ⟨rfl, (Ext.refl w).alloc _⟩

theorem where_any (a : Int) (h0 : 0 ≤ a) (h1 : a ≤ 18446744073709551615) (w : World) :
    Calls Try.prog 35 #[.int .u64 a] w fun e w' => e = .returned (.tuple #[.int .i64 (Sz.whS a), .int .i64 (Sz.whA a), .bool (Sz.whOk a)]) ∧ Ext w w' := by
  cases hok : Sz.whOk a with
  | true =>
    rw [Sz.whS_ok hok, Sz.whA_ok hok, ← mask32 a h0 h1]
    have h' := Sz.whOk_iff.1 hok
    exact where_yes a _ _ rfl rfl (by omega) (by omega) (by rw [mask32 a h0 h1]; omega) (by rw [mask32 a h0 h1]; omega) w
  | false =>
    have h := Sz.whOk_iff (a := a)
    rw [hok] at h
    simp only [Bool.false_eq_true, false_iff] at h
    rw [Sz.whS_no hok, Sz.whA_no hok]
    by_cases hz : a / 4294967296 = 0
    · exact where_no0 a _ hz rfl (by rw [mask32 a h0 h1]; omega) (by rw [mask32 a h0 h1]; omega) w
    · exact where_no a _ _ rfl rfl (by omega) (by omega) (by rw [mask32 a h0 h1]; omega) (by rw [mask32 a h0 h1]; omega) w

end Go.Proofs.Ytjobhdcjjegpfaa.Sw
