/- What Word, Take of package head compute; and the comparing of two heads. -/
import Derived.Test.YtlmgggnnlljfnaaHd
namespace Go.Proofs.Ytlmgggnnlljfnaa.Hw
open Go.RowKit
open Go.Proofs.Ytlmgggnnlljfnaa Go.Proofs.Ytlmgggnnlljfnaa.Hd
set_option linter.unusedVariables false

def wordV (t l m : Int) : Int := if rightE t l m = 0 then t * 72057594037927936 + l * 4294967296 + m else 0

theorem right_zero {t l m : Int} (h : rightE t l m = 0) (m0 : 0 ≤ m) : 1 ≤ t ∧ t ≤ 255 ∧ 0 ≤ l ∧ l ≤ 65535 ∧ m ≤ 65535 ∧ (t ≠ 255 → t ≤ 200 ∧ l ≤ 16) := by
  unfold rightE at h
  split at h
  · omega
  split at h
  · omega
  split at h
  · rename_i h1 h2 h3
    unfold most at h2
    unfold shiftN at h3
    by_cases ht : t = 255
    · rw [if_pos ht] at h2 h3
      simp at h3
      omega
    · rw [if_neg ht] at h2 h3
      have hl : l.toNat ≤ 16 := by omega
      have hp : (2 : Int) ^ l.toNat ≤ 65536 := by
        have : (2 : Nat) ^ l.toNat ≤ 2 ^ 16 := Nat.pow_le_pow_right (by omega) hl
        have : ((2 ^ l.toNat : Nat) : Int) ≤ ((2 ^ 16 : Nat) : Int) := by exact_mod_cast this
        simpa using this
      have hpos : (0 : Int) < 2 ^ l.toNat := Int.pow_pos (by omega)
      have hm : m < 2 ^ l.toNat := by
        rcases Int.lt_or_le m (2 ^ l.toNat) with h | h
        · exact h
        · have := Int.ediv_le_ediv hpos h
          rw [Int.ediv_self (by omega)] at this
          omega
      omega
  · omega

theorem wraps_u64 (n : Int) (h₀ : 0 ≤ n) (h₁ : n < 2 ^ 64) : IntKind.u64.wrap n = n := by rw [IntKind.wrap_u64]; omega
theorem word_bits {t l m : Int} (t0 : 0 ≤ t) (t1 : t ≤ 255) (l0 : 0 ≤ l) (l1 : l ≤ 65535) (m0 : 0 ≤ m) (m1 : m ≤ 65535) :
    bits .or .u64 (bits .or .u64 (IntKind.u64.wrap (IntKind.u64.wrap t * 72057594037927936)) (IntKind.u64.wrap (IntKind.u64.wrap l * 4294967296))) m = t * 72057594037927936 + l * 4294967296 + m := by
  have e1 : IntKind.u64.wrap (IntKind.u64.wrap t * 72057594037927936) = t * 72057594037927936 := by rw [IntKind.wrap_u64, IntKind.wrap_u64]; omega
  have e2 : IntKind.u64.wrap (IntKind.u64.wrap l * 4294967296) = l * 4294967296 := by rw [IntKind.wrap_u64, IntKind.wrap_u64]; omega
  rw [e1, e2, bits_join .u64 64 (by decide) wraps_u64 56 (t * 72057594037927936) (l * 4294967296) (by omega) (by omega) (by omega) (by omega) (by omega) (by omega),
    bits_join .u64 64 (by decide) wraps_u64 32 (t * 72057594037927936 + l * 4294967296) m (by omega) (by omega) (by omega) (by omega) (by omega) (by omega)]

theorem word_any (t l m : Int) (m0 : 0 ≤ m) (w : World) :
    Calls Try.prog 9 #[.agg #[.int .i64 t, .int .i64 l, .int .u64 m]] w fun e w' => e = .returned (.tuple #[.int .u64 (wordV t l m), .int .i64 (rightE t l m)]) ∧ Ext w w' := by
  have HR : Hid (∀ w, Calls Try.prog 10 #[.agg #[.int .i64 t, .int .i64 l, .int .u64 m]] w fun e w' => e = .returned (.int .i64 (rightE t l m)) ∧ Ext w w') := fun w => right_any t l m w
  cases hz : (rightE t l m != 0) with
  | true =>
    have e : wordV t l m = 0 := by unfold wordV; rw [if_neg (bne_iff_ne.1 hz)]
    rw [e]; clear e
    generalize rightE t l m = r at HR hz
    go_enter Try.func9, Try.ntmps9
    go_wp2_with fail
    refine (HR.out _).mono ?_; rintro e w1 ⟨rfl, hx1⟩
    go_wp2_with fail
    go_ret2
    exact ⟨rfl, Ext.trans (by repeat (first | exact Ext.refl _ | assumption | refine Ext.alloc ?_ _ | refine Ext.drewN ?_ _ | refine Ext.drew ?_ | refine Ext.trans ?_ (by assumption))) hx1⟩
  | false =>
    have hz' : rightE t l m = 0 := by simpa using hz
    have hb := right_zero hz' m0
    have e : wordV t l m = t * 72057594037927936 + l * 4294967296 + m := by unfold wordV; rw [if_pos hz']
    have hy := word_bits (by omega : 0 ≤ t) hb.2.1 hb.2.2.1 hb.2.2.2.1 m0 hb.2.2.2.2.1
    rw [e]; clear e hz
    rw [hz'] at HR ⊢
    generalize t * 72057594037927936 + l * 4294967296 + m = y at hy
    clear hz' hb m0
    go_enter Try.func9, Try.ntmps9
    go_wp2_with fail
    refine (HR.out _).mono ?_; rintro e w1 ⟨rfl, hx1⟩
    have hc := (Ext.refl w).alloc (.cells #[.int .i64 t, .int .i64 l, .int .u64 m] 24)
    have c0 : w1.cell? ⟨w.heap.size, 0, none⟩ = some (.int .i64 t) := hx1.cell (by go_cell)
    have c1 : w1.cell? ⟨w.heap.size, 1, none⟩ = some (.int .i64 l) := hx1.cell (by go_cell)
    have c2 : w1.cell? ⟨w.heap.size, 2, none⟩ = some (.int .u64 m) := hx1.cell (by go_cell)
    go_wp2_with fail
    go_ret2
    exact ⟨rfl, Ext.trans (by repeat (first | exact Ext.refl _ | assumption | refine Ext.alloc ?_ _ | refine Ext.drewN ?_ _ | refine Ext.drew ?_ | refine Ext.trans ?_ (by assumption))) hx1⟩

/-- Two heads, compared. -/
theorem eqHead (a b c d e f : Int) (w : World) : (Op.equalIn 10000 24 (.agg #[.int .i64 a, .int .i64 b, .int .u64 c]) (.agg #[.int .i64 d, .int .i64 e, .int .u64 f])).run Try.prog w = .ok (a == d && (b == e && c == f)) w := by
  have u3 := Try.underlying3
  have a3 := Try.isAgg3
  have z3 := Try.sizeOf3
  have u4 := Try.underlying22
  have a4 := Try.isAgg22
  have z4 := Try.sizeOf22
  have hS : Try.prog.underlying 24 = some (.struct (Try.prog.fieldsOf 24)) := by kernel_rfl
  have hp : Try.prog.stoodInHeld 24 = false := by kernel_rfl
  rw [show (10000 : Nat) = 9999 + 1 from rfl, run_equalIn_agg w 9999 24 _ _ hS hp]
  simp only [Program.fieldsOf, Try.underlying24]
  go_simp
  by_cases h1 : a = d <;> by_cases h2 : b = e <;> by_cases h3 : c = f <;> simp [h1, h2, h3]

/-- The document's example. -/
theorem shown_any (w : World) : Calls Try.prog 8 #[] w fun e w' => e = .returned (.bool true) ∧ Ext w w' := by
  have e1 : wordV 1 2 2 = 72057602627862530 := by decide
  have e2 : rightE 1 2 2 = 0 := by decide
  have HW : Hid (∀ w, Calls Try.prog 9 #[.agg #[.int .i64 1, .int .i64 2, .int .u64 2]] w fun e w' => e = .returned (.tuple #[.int .u64 72057602627862530, .int .i64 0]) ∧ Ext w w') := fun w => by
    have := word_any 1 2 2 (by decide) w
    rw [e1, e2] at this
    exact this
  clear e1 e2
  go_enter Try.func8, Try.ntmps8
  go_wp2_with fail
  refine (HW.out _).mono ?_; rintro e w1 ⟨rfl, hx1⟩
  go_wp2_with fail
  go_ret
  exact ⟨by first | rfl | (simp; done), hx1⟩

/-- Right heads have one word just if they are the same. -/
theorem apart {a b c d e f : Int} (h : rightE a b c = 0) (k : rightE d e f = 0) (c0 : 0 ≤ c) (f0 : 0 ≤ f) : (wordV a b c == wordV d e f) = (a == d && (b == e && c == f)) := by
  have h1 := right_zero h c0
  have k1 := right_zero k f0
  unfold wordV
  rw [if_pos h, if_pos k]
  by_cases hh : a = d ∧ b = e ∧ c = f
  · obtain ⟨rfl, rfl, rfl⟩ := hh
    simp
  · have hne : ¬ (a * 72057594037927936 + b * 4294967296 + c = d * 72057594037927936 + e * 4294967296 + f) := by omega
    have h2 : (a == d && (b == e && c == f)) = false := by
      rw [Bool.eq_false_iff]
      intro hc
      simp at hc
      exact hh hc
    rw [h2]
    exact beq_eq_false_iff_ne.2 hne
theorem word_ne {a b c : Int} (h : rightE a b c = 0) (c0 : 0 ≤ c) : (wordV a b c != 0) = true := by
  have h1 := right_zero h c0
  unfold wordV
  rw [if_pos h, bne_iff_ne]
  omega
end Go.Proofs.Ytlmgggnnlljfnaa.Hw
