/- What the document's own answer for sizes and addresses computes (the package dovecoteref02), said of the plain integers of the text Sz. -/
import Derived.Test.YtlldfglmoeeocaaSw
namespace Go.Proofs.Ytlldfglmoeeocaa.Sr
open Go.RowKit
open Go.Proofs.Ytlldfglmoeeocaa Go.Proofs.Ytlldfglmoeeocaa.Sw
set_option linter.unusedVariables false

theorem add_any (a b : Int) (a0 : -9223372036854775808 ≤ a) (a1 : a ≤ 9223372036854775807) (b0 : -9223372036854775808 ≤ b) (b1 : b ≤ 9223372036854775807) (w : World) :
    Calls Try.prog 17 #[.int .i64 a, .int .i64 b] w fun e w' => e = .returned (.tuple #[.int .i64 (Sz.addS a b), .bool (Sz.addOk a b)]) ∧ w = w' := by
  by_cases h1 : 0 ≤ a
  · by_cases h2 : 0 ≤ b
    · by_cases h3 : a + b ≤ 9223372036854775807
      · have e1 : Sz.addOk a b = true := Sz.addOk_iff.2 ⟨h1, h2, h3⟩
        have e2 := Sz.addS_ok e1
        rw [e2, e1]
        clear e1 e2
        have h4 : a ≤ 9223372036854775807 - b := by omega
        go_enter Try.func17, Try.ntmps17
        go_wp2
        go_ret2
        exact ⟨rfl, rfl⟩
      · have e1 : Sz.addOk a b = false := Sz.eq_false_of Sz.addOk_iff (by omega)
        have e2 := Sz.addS_no e1
        rw [e2, e1]
        have h4 : 9223372036854775807 - b < a := by omega
        clear e1 e2 h3
        go_enter Try.func17, Try.ntmps17
        go_wp2
        go_ret2
        exact ⟨rfl, rfl⟩
    · have e1 : Sz.addOk a b = false := Sz.eq_false_of Sz.addOk_iff (by omega)
      have e2 := Sz.addS_no e1
      have h2' : b < 0 := by omega
      rw [e2, e1]
      clear e1 e2 h2
      go_enter Try.func17, Try.ntmps17
      go_wp2
      go_ret2
      exact ⟨rfl, rfl⟩
  · have e1 : Sz.addOk a b = false := Sz.eq_false_of Sz.addOk_iff (by omega)
    have e2 := Sz.addS_no e1
    have h1' : a < 0 := by omega
    rw [e2, e1]
    clear e1 e2 h1
    go_enter Try.func17, Try.ntmps17
    go_wp2
    go_ret2
    exact ⟨rfl, rfl⟩

theorem object_any (n : Int) (w : World) :
    Calls Try.prog 18 #[.int .i64 n] w fun e w' => e = .returned (.tuple #[.int .i64 (Sz.objS n), .int .i64 (Sz.objE n)]) ∧ w = w' := by
  by_cases h1 : n < 0
  · have e1 : Sz.objS n = 0 := by unfold Sz.objS; rw [if_pos h1]
    have e2 : Sz.objE n = 1 := by unfold Sz.objE; rw [if_pos h1]
    rw [e1, e2]; clear e1 e2
    go_enter Try.func18, Try.ntmps18
    go_wp2
    go_ret2
    exact ⟨rfl, rfl⟩
  · by_cases h2 : 16 < n
    · have e1 : Sz.objS n = 0 := by unfold Sz.objS; rw [if_neg h1, if_pos h2]
      have e2 : Sz.objE n = 3 := by unfold Sz.objE; rw [if_neg h1, if_pos h2]
      rw [e1, e2]; clear e1 e2
      go_enter Try.func18, Try.ntmps18
      go_wp2
      go_ret2
      exact ⟨rfl, rfl⟩
    · have e1 : Sz.objS n = n + 2 := by unfold Sz.objS; rw [if_neg h1, if_neg h2]
      have e2 : Sz.objE n = 0 := by unfold Sz.objE; rw [if_neg h1, if_neg h2]
      rw [e1, e2]; clear e1 e2
      go_enter Try.func18, Try.ntmps18
      go_wp2
      go_ret2
      exact ⟨rfl, rfl⟩

theorem fits_any (a n k : Int) (k0 : -9223372036854775808 ≤ k) (k1 : k ≤ 9223372036854775807) (w : World) :
    Calls Try.prog 20 #[.int .i64 a, .int .i64 n, .int .i64 k] w fun e w' => e = .returned (.bool (Sz.fits a n k)) ∧ w = w' := by
  by_cases h1 : 0 ≤ a
  · by_cases h2 : 0 ≤ n
    · by_cases h3 : a ≤ k
      · have e3 : Sz.fits a n k = decide (n ≤ k - a) := by unfold Sz.fits; rw [decide_eq_decide]; omega
        rw [e3]; clear e3
        go_enter Try.func20, Try.ntmps20
        go_wp2
        go_ret
        exact ⟨rfl, rfl⟩
      · have e3 : Sz.fits a n k = false := Sz.eq_false_of Sz.fits_iff (by omega)
        have h3' : k < a := by omega
        rw [e3]; clear e3 h3
        go_enter Try.func20, Try.ntmps20
        go_wp2
        go_ret
        exact ⟨rfl, rfl⟩
    · have e3 : Sz.fits a n k = false := Sz.eq_false_of Sz.fits_iff (by omega)
      have h2' : n < 0 := by omega
      rw [e3]; clear e3 h2
      go_enter Try.func20, Try.ntmps20
      go_wp2
      go_ret
      exact ⟨rfl, rfl⟩
  · have e3 : Sz.fits a n k = false := Sz.eq_false_of Sz.fits_iff (by omega)
    have h1' : a < 0 := by omega
    rw [e3]; clear e3 h1
    go_enter Try.func20, Try.ntmps20
    go_wp2
    go_ret
    exact ⟨rfl, rfl⟩

theorem addr_any (s a : Int) (w : World) :
    Calls Try.prog 21 #[.int .i64 s, .int .i64 a] w fun e w' => e = .returned (.int .u64 (Sz.addr s a)) ∧ w = w' := by
  cases hz : (s != 0) with
  | true =>
    have z : s ≠ 0 := bne_iff_ne.1 hz
    cases ho : (s != 1) with
    | true =>
      have o : s ≠ 1 := bne_iff_ne.1 ho
      rw [Sz.addr_no (Sz.eq_false_of Sz.addrOk_iff (by omega))]
      clear z o
      go_enter Try.func21, Try.ntmps21
      go_wp2
      go_ret
      exact ⟨rfl, rfl⟩
    | false =>
      obtain rfl : s = 1 := by simpa using ho
      clear z hz ho
      by_cases h1 : 0 ≤ a
      · by_cases h2 : a < 4294967296
        · have e : Sz.addr 1 a = 8589934592 + a := by rw [Sz.addr_ok (Sz.addrOk_iff.2 (by omega))]; omega
          rw [e]; clear e
          go_enter Try.func21, Try.ntmps21
          go_wp2
          go_ret
          exact ⟨rfl, rfl⟩
        · have h2' : 4294967296 ≤ a := by omega
          rw [Sz.addr_no (Sz.eq_false_of Sz.addrOk_iff (by omega))]
          clear h2
          go_enter Try.func21, Try.ntmps21
          go_wp2
          go_ret
          exact ⟨rfl, rfl⟩
      · have h1' : a < 0 := by omega
        rw [Sz.addr_no (Sz.eq_false_of Sz.addrOk_iff (by omega))]
        clear h1
        go_enter Try.func21, Try.ntmps21
        go_wp2
        go_ret
        exact ⟨rfl, rfl⟩
  | false =>
    obtain rfl : s = 0 := by simpa using hz
    clear hz
    by_cases h1 : 0 ≤ a
    · by_cases h2 : a < 4294967296
      · have e : Sz.addr 0 a = 4294967296 + a := by rw [Sz.addr_ok (Sz.addrOk_iff.2 (by omega))]; omega
        rw [e]; clear e
        go_enter Try.func21, Try.ntmps21
        go_wp2
        go_ret
        exact ⟨rfl, rfl⟩
      · have h2' : 4294967296 ≤ a := by omega
        rw [Sz.addr_no (Sz.eq_false_of Sz.addrOk_iff (by omega))]
        clear h2
        go_enter Try.func21, Try.ntmps21
        go_wp2
        go_ret
        exact ⟨rfl, rfl⟩
    · have h1' : a < 0 := by omega
      rw [Sz.addr_no (Sz.eq_false_of Sz.addrOk_iff (by omega))]
      clear h1
      go_enter Try.func21, Try.ntmps21
      go_wp2
      go_ret
      exact ⟨rfl, rfl⟩

theorem where_yes (a x : Int) (h0 : 0 ≤ a) (h1 : a ≤ 18446744073709551615) (hx : a / 4294967296 = x) (x0 : 1 ≤ x) (x1 : x ≤ 2) (w : World) :
    Calls Try.prog 19 #[.int .u64 a] w fun e w' => e = .returned (.tuple #[.int .i64 (x - 1), .int .i64 (a % 4294967296), .bool true]) ∧ w = w' := by
  have d0 : 0 ≤ a / 4294967296 := by omega
  have d1 : 0 ≤ a % 4294967296 := by omega
  have d2 : a % 4294967296 < 4294967296 := by omega
  rcases (by omega : x = 1 ∨ x = 2) with e | e
  · have g1 : (x != 1) = false := by rw [e]; rfl
    clear e
    go_enter Try.func19, Try.ntmps19
    go_wp2
    go_ret3
    exact ⟨rfl, rfl⟩
  · have g1 : (x != 1) = true := by rw [e]; rfl
    have g2 : (x != 2) = false := by rw [e]; rfl
    clear e
    go_enter Try.func19, Try.ntmps19
    go_wp2
    go_ret3
    exact ⟨rfl, rfl⟩

theorem where_no (a x : Int) (h0 : 0 ≤ a) (h1 : a ≤ 18446744073709551615) (hx : a / 4294967296 = x) (g1 : (x != 1) = true) (g2 : (x != 2) = true) (w : World) :
    Calls Try.prog 19 #[.int .u64 a] w fun e w' => e = .returned (.tuple #[.int .i64 0, .int .i64 0, .bool false]) ∧ w = w' := by
  go_enter Try.func19, Try.ntmps19
  go_wp2
  go_ret3
  exact ⟨rfl, rfl⟩

theorem where_any (a : Int) (h0 : 0 ≤ a) (h1 : a ≤ 18446744073709551615) (w : World) :
    Calls Try.prog 19 #[.int .u64 a] w fun e w' => e = .returned (.tuple #[.int .i64 (Sz.whS a), .int .i64 (Sz.whA a), .bool (Sz.whOk a)]) ∧ w = w' := by
  cases hok : Sz.whOk a with
  | true =>
    rw [Sz.whS_ok hok, Sz.whA_ok hok]
    have h' := Sz.whOk_iff.1 hok
    exact where_yes a _ h0 h1 rfl (by omega) (by omega) w
  | false =>
    have h := Sz.whOk_iff (a := a)
    rw [hok] at h
    simp only [Bool.false_eq_true, false_iff] at h
    rw [Sz.whS_no hok, Sz.whA_no hok]
    exact where_no a _ h0 h1 rfl (bne_iff_ne.2 (by omega)) (bne_iff_ne.2 (by omega)) w
end Go.Proofs.Ytlldfglmoeeocaa.Sr
