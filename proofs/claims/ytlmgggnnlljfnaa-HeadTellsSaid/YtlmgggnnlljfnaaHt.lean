/- What Take of package head computes; and the reference's Right, Word, Take. -/
import Derived.Test.YtlmgggnnlljfnaaHw
import Derived.Test.YtlmgggnnlljfnaaBk
namespace Go.Proofs.Ytlmgggnnlljfnaa.Ht
open Go.RowKit
open Go.Proofs.Ytlmgggnnlljfnaa Go.Proofs.Ytlmgggnnlljfnaa.Hd Go.Proofs.Ytlmgggnnlljfnaa.Hw
set_option linter.unusedVariables false

def wT (x : Int) : Int := x / 72057594037927936
def wL (x : Int) : Int := x / 4294967296 % 16777216
def wM (x : Int) : Int := x % 4294967296
def tkOk (x : Int) : Bool := rightE (wT x) (wL x) (wM x) == 0
def tkE (x : Int) : Int := if tkOk x = true then 0 else 10
def tkT (x : Int) : Int := if tkOk x = true then wT x else 0
def tkL (x : Int) : Int := if tkOk x = true then wL x else 0
def tkM (x : Int) : Int := if tkOk x = true then wM x else 0

theorem blk_at {w : World} {b : Nat} {cs : Array Value} {T : TypeId} (h : b = w.heap.size) : Blk (w.alloc (.cells cs T)) b cs T := h ▸ Blk.new w cs T

theorem take_core (x t q l m : Int) (ht : x / 72057594037927936 = t) (hq : x / 4294967296 = q) (hl : bits .and .u64 q 16777215 = l) (hm : bits .and .u64 x 4294967295 = m) (t0 : 0 ≤ t) (t1 : t ≤ 255) (q0 : 0 ≤ q) (q1 : q ≤ 4294967295) (l0 : 0 ≤ l) (l1 : l ≤ 16777215) (m0 : 0 ≤ m) (m1 : m ≤ 4294967295) (w : World) :
    Calls Try.prog 13 #[.int .u64 x] w fun e w' => e = .returned (.tuple #[.agg #[.int .i64 (if (rightE t l m == 0) = true then t else 0), .int .i64 (if (rightE t l m == 0) = true then l else 0), .int .u64 (if (rightE t l m == 0) = true then m else 0)], .int .i64 (if (rightE t l m == 0) = true then 0 else 10)]) ∧ Ext w w' := by
  have HR : Hid (∀ w, Calls Try.prog 10 #[.agg #[.int .i64 t, .int .i64 l, .int .u64 m]] w fun e w' => e = .returned (.int .i64 (rightE t l m)) ∧ Ext w w') := fun w => right_any t l m w
  generalize rightE t l m = r at HR ⊢
  obtain ⟨b, hb⟩ : ∃ b, (r == 0) = b := ⟨_, rfl⟩
  have hb2 : (r != 0) = !b := by rw [bne, hb]
  rw [hb]
  cases b
  all_goals
    simp only [if_true, if_false, Bool.false_eq_true]
    go_enter Try.func13, Try.ntmps13
    go_wp2_with fail
    refine (HR.out _).mono ?_; rintro e w1 ⟨rfl, hx1⟩
    have HE := Lib.hid (Ext.trans (((Ext.refl w).alloc _).alloc _) hx1)
    have HB1 := Lib.hid (((Blk.new w #[.int .i64 0, .int .i64 0, .int .u64 0] 24).alloc (.cells #[.int .i64 t, .int .i64 l, .int .u64 m] 24)).ext hx1)
    have HB2 := Lib.hid (show Blk w1 (w.heap.size + 1) #[.int .i64 t, .int .i64 l, .int .u64 m] 24 from (blk_at (by simp)).ext hx1)
    obtain ⟨p0, p1, p2, s0, s1, s2⟩ := HB1.out.three
    obtain ⟨y0, y1, y2, _, _, _⟩ := HB2.out.three
    clear hx1
    go_wp2_with fail
  · obtain ⟨k0, k1, k2, _⟩ := (HB1.out.fill (.int .i64 0) (.int .i64 0) (.int .u64 0)).three
    exact bodyPost_ret (v := .tuple #[.agg #[.int .i64 0, .int .i64 0, .int .u64 0], .int .i64 10]) (by simp [results, Try.results13, go_sem, k0, k1, k2]) rfl ⟨rfl, HE.out.fill (Nat.le_refl _) _ _ _⟩
  · obtain ⟨k0, k1, k2, _⟩ := (HB1.out.fill (.int .i64 t) (.int .i64 l) (.int .u64 m)).three
    exact bodyPost_ret (v := .tuple #[.agg #[.int .i64 t, .int .i64 l, .int .u64 m], .int .i64 0]) (by simp [results, Try.results13, go_sem, k0, k1, k2]) rfl ⟨rfl, HE.out.fill (Nat.le_refl _) _ _ _⟩

theorem take_any (x : Int) (x0 : 0 ≤ x) (x1 : x ≤ 18446744073709551615) (w : World) :
    Calls Try.prog 13 #[.int .u64 x] w fun e w' => e = .returned (.tuple #[.agg #[.int .i64 (tkT x), .int .i64 (tkL x), .int .u64 (tkM x)], .int .i64 (tkE x)]) ∧ Ext w w' := by
  have e1 : bits .and .u64 (x / 4294967296) 16777215 = x / 4294967296 % 16777216 := by
    have := bits_mask .u64 64 (by decide) Hw.wraps_u64 24 (by decide) (x / 4294967296) (by omega) (by omega)
    simpa using this
  have e2 : bits .and .u64 x 4294967295 = x % 4294967296 := by
    have := bits_mask .u64 64 (by decide) Hw.wraps_u64 32 (by decide) x (by omega) (by omega)
    simpa using this
  exact take_core x _ _ _ _ rfl rfl e1 e2 (by omega) (by omega) (by omega) (by omega) (by omega) (by omega) (by omega) (by omega) w

/-- 2 to the n. -/
def pw (n : Nat) : Int := 2 ^ n
theorem pw_succ (n : Nat) : pw (n + 1) = pw n + pw n := by unfold pw; rw [Int.pow_succ]; omega
theorem pw_bd {n : Nat} (h : n ≤ 62) : 1 ≤ pw n ∧ pw n ≤ 4611686018427387904 := by
  unfold pw
  have h1 : (2 : Nat) ^ n ≤ 2 ^ 62 := Nat.pow_le_pow_right (by omega) h
  have h2 : 0 < (2 : Nat) ^ n := Nat.two_pow_pos n
  have h3 : ((2 : Int) ^ n) = ((2 ^ n : Nat) : Int) := by simp
  rw [h3]
  omega
theorem power_any (n : Nat) (h : n ≤ 63) (w : World) : Calls Try.prog 19 #[.int .i64 n] w fun e w' => e = .returned (.int .u64 (pw n)) ∧ w' = w := by
  have h63 : (n : Int) ≤ 63 := by omega
  go_enter Try.func19, Try.ntmps19
  go_wp2
  go_loop [3, 4] (fun v i => ∃ j : Nat, i = .int .i64 j ∧ j ≤ n ∧ v = .int .u64 (pw j)) (fun _ i => n - (intOf i).toNat)
  case atStart => exact ⟨0, rfl, Nat.zero_le _, rfl⟩
  case round =>
    obtain ⟨j, rfl, hj, rfl⟩ := hrel
    by_cases hlt : j < n
    · have hb := pw_bd (n := j) (by omega)
      have HS := Lib.hid (pw_succ j)
      obtain ⟨hb0, hb1⟩ := hb
      generalize pw j = v at HS hb0 hb1
      go_wp2
      go_round
      case rel => exact ⟨j + 1, by go_num, hlt, by rw [HS.out]⟩
      case measure => simp [intOf]; omega
    · obtain rfl : j = n := by omega
      go_wp2
      go_ret
      exact ⟨rfl, rfl⟩
end Go.Proofs.Ytlmgggnnlljfnaa.Ht
