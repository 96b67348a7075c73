/- What Pointer computes; a head with one bit of its map turned. -/
import Derived.Test.YtlmgggnnlljfnaaHw
namespace Go.Proofs.Ytlmgggnnlljfnaa.Hp
open Go.RowKit
open Go.Proofs.Ytlmgggnnlljfnaa Go.Proofs.Ytlmgggnnlljfnaa.Hd
set_option linter.unusedVariables false

/-- The i-th bit. -/
def bit (m : Int) (i : Int) : Bool := m / 2 ^ i.toNat % 2 == 1

theorem wraps_u64 (n : Int) (h₀ : 0 ≤ n) (h₁ : n < 2 ^ 64) : IntKind.u64.wrap n = n := by rw [IntKind.wrap_u64]; omega

/-- A field among the fields. -/
theorem pointer_in (t l m i : Int) (i0 : 0 ≤ i) (i1 : i < l) (i2 : i ≤ 63) (m0 : 0 ≤ m) (m1 : m ≤ 65535) (w : World) :
    Calls Try.prog 11 #[.agg #[.int .i64 t, .int .i64 l, .int .u64 m], .int .i64 i] w fun e w' => e = .returned (.bool (bit m i)) ∧ Ext w w' := by
  have d1 : decide (i < l) = true := decide_eq_true i1
  have hq0 : 0 ≤ m / 2 ^ i.toNat := Int.ediv_nonneg m0 (Int.le_of_lt (Int.pow_pos (by omega)))
  have hq1 : m / 2 ^ i.toNat ≤ 65535 := Int.le_trans (Int.ediv_le_self _ m0) m1
  have hb : bits .and .u64 (m / 2 ^ i.toNat) 1 = m / 2 ^ i.toNat % 2 := by
    have := bits_mask .u64 64 (by decide) wraps_u64 1 (by decide) (m / 2 ^ i.toNat) hq0 (by omega)
    simpa using this
  obtain ⟨q, hq⟩ : ∃ q, m / 2 ^ i.toNat = q := ⟨_, rfl⟩
  obtain ⟨b, hbb⟩ : ∃ b, bit m i = b := ⟨_, rfl⟩
  rw [hbb]
  unfold bit at hbb
  rw [hq] at hb hq0 hq1 hbb
  obtain ⟨y, hy⟩ : ∃ y, q % 2 = y := ⟨_, rfl⟩
  rw [hy] at hb hbb
  clear hy m0 m1
  subst hbb
  cases hy1 : (y == 1)
  all_goals
    go_enter Try.func11, Try.ntmps11
    go_wp2
    go_ret
    exact ⟨rfl, (Ext.refl _).alloc _⟩
end Go.Proofs.Ytlmgggnnlljfnaa.Hp
