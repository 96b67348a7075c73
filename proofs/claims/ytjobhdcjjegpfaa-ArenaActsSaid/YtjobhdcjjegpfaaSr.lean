/- What the document's own answer for sizes and addresses computes (the package dovecoteref02), said of the plain integers of the text Sz. -/
import Derived.Test.YtjobhdcjjegpfaaSw
namespace Go.Proofs.Ytjobhdcjjegpfaa.Sr
open Go.RowKit
open Go.Proofs.Ytjobhdcjjegpfaa Go.Proofs.Ytjobhdcjjegpfaa.Sw
set_option linter.unusedVariables false





theorem where_yes (a x : Int) (h0 : 0 ≤ a) (h1 : a ≤ 18446744073709551615) (hx : a / 4294967296 = x) (x0 : 1 ≤ x) (x1 : x ≤ 2) (w : World) :
    Calls Try.prog 22 #[.int .u64 a] w fun e w' => e = .returned (.tuple #[.int .i64 (x - 1), .int .i64 (a % 4294967296), .bool true]) ∧ w = w' := by
  have d0 : 0 ≤ a / 4294967296 := by omega
  have d1 : 0 ≤ a % 4294967296 := by omega
  have d2 : a % 4294967296 < 4294967296 := by omega
  rcases (by omega : x = 1 ∨ x = 2) with e | e
  · have g1 : (x != 1) = false := by rw [e]; rfl
    clear e
    go_enter Try.func22, Try.ntmps22
    go_wp2
    go_ret3
    exact ⟨rfl, rfl⟩
  · have g1 : (x != 1) = true := by rw [e]; rfl
    have g2 : (x != 2) = false := by rw [e]; rfl
    clear e
    go_enter Try.func22, Try.ntmps22
    go_wp2
    go_ret3
    exact ⟨rfl, rfl⟩

theorem where_no (a x : Int) (h0 : 0 ≤ a) (h1 : a ≤ 18446744073709551615) (hx : a / 4294967296 = x) (g1 : (x != 1) = true) (g2 : (x != 2) = true) (w : World) :
    Calls Try.prog 22 #[.int .u64 a] w fun e w' => e = .returned (.tuple #[.int .i64 0, .int .i64 0, .bool false]) ∧ w = w' := by
  go_enter Try.func22, Try.ntmps22
  go_wp2
  go_ret3
  exact ⟨rfl, rfl⟩

theorem where_any (a : Int) (h0 : 0 ≤ a) (h1 : a ≤ 18446744073709551615) (w : World) :
    Calls Try.prog 22 #[.int .u64 a] w fun e w' => e = .returned (.tuple #[.int .i64 (Sz.whS a), .int .i64 (Sz.whA a), .bool (Sz.whOk a)]) ∧ w = w' := by
  cases hok : Sz.whOk a with
  | true =>
    rw [Sz.whS_ok hok, Sz.whA_ok hok]
    have h' := Sz.whOk_iff.1 hok
    exact where_yes a _ h0 h1 rfl (by omega) (by omega) w
  | false =>
    have h := Sz.whOk_iff (a := a)
    rw [hok] at h
    simp only [Bool.false_eq_true, false_iff] at h
    rw [Sz.whS_no hok, Sz.whA_no hok]
    exact where_no a _ h0 h1 rfl (bne_iff_ne.2 (by omega)) (bne_iff_ne.2 (by omega)) w
end Go.Proofs.Ytjobhdcjjegpfaa.Sr
