/- What Right, Word, Take, Pointer of package head compute, said of whole numbers. -/
import Derived.Test.YtjhmlbhfnogdiaaProg
import Derived.Test.YtjhmlbhfnogdiaaEx
import Derived.Test.YtjhmlbhfnogdiaaRd
import Derived.Laws.BitsLemmas
namespace Go.Proofs.Ytjhmlbhfnogdiaa.Hd
open Go.RowKit
open Go.Proofs.Ytjhmlbhfnogdiaa
set_option linter.unusedVariables false

def most (t : Int) : Int := if t = 255 then 65535 else 16
def shiftN (t l : Int) : Nat := if t = 255 then 0 else l.toNat
def rightE (t l m : Int) : Int := if (t ≠ 255 ∧ (t < 1 ∨ 200 < t)) ∨ l < 0 then 1 else if most t < l then 3 else if m / 2 ^ shiftN t l = 0 then 0 else 8

theorem most_any (p : Addr) (b : Bool) (w : World) (h : w.cell? p = some (.bool b)) :
    Calls Try.prog 79 #[.pointer (some p)] w fun e w' => e = .returned (.int .i64 (if b = true then 65535 else 16)) ∧ w' = w := by
  cases b
  all_goals
    go_enter Try.func79, Try.ntmps79
    go_wp2
    go_ret
    exact ⟨rfl, rfl⟩

set_option maxHeartbeats 4000000 in
theorem right_any (t l m : Int) (w : World) :
    Calls Try.prog 68 #[.agg #[.int .i64 t, .int .i64 l, .int .u64 m]] w fun e w' => e = .returned (.int .i64 (rightE t l m)) ∧ Ext w w' := by
  by_cases h1 : l < 0
  · have e : rightE t l m = 1 := by unfold rightE; rw [if_pos (.inr h1)]
    rw [e]; clear e
    cases ht : (t == 255)
    all_goals
      by_cases h2 : t < 1
      ·
        go_enter Try.func68, Try.ntmps68
        go_wp2_with fail
        try (go_quiet ((go_at_call 79; exact Calls.quiet_of_same (most_any _ true _ (by go_cell)))))
        go_wp2_with fail
        go_ret
        exact ⟨rfl, (by repeat (first | exact Ext.refl _ | assumption | refine Ext.alloc ?_ _ | refine Ext.drewN ?_ _ | refine Ext.drew ?_ | refine Ext.trans ?_ (by assumption)))⟩
      by_cases h3 : 200 < t
      ·
        go_enter Try.func68, Try.ntmps68
        go_wp2_with fail
        try (go_quiet ((go_at_call 79; exact Calls.quiet_of_same (most_any _ true _ (by go_cell)))))
        go_wp2_with fail
        go_ret
        exact ⟨rfl, (by repeat (first | exact Ext.refl _ | assumption | refine Ext.alloc ?_ _ | refine Ext.drewN ?_ _ | refine Ext.drew ?_ | refine Ext.trans ?_ (by assumption)))⟩
      ·
        go_enter Try.func68, Try.ntmps68
        go_wp2_with fail
        try (go_quiet ((go_at_call 79; exact Calls.quiet_of_same (most_any _ true _ (by go_cell)))))
        go_wp2_with fail
        go_ret
        exact ⟨rfl, (by repeat (first | exact Ext.refl _ | assumption | refine Ext.alloc ?_ _ | refine Ext.drewN ?_ _ | refine Ext.drew ?_ | refine Ext.trans ?_ (by assumption)))⟩
  · have h1' : 0 ≤ l := by omega
    clear h1
    cases ht : (t == 255) with
    | true =>
      obtain rfl : t = 255 := beq_iff_eq.1 ht
      clear ht
      by_cases h2 : 65535 < l
      · have e : rightE 255 l m = 3 := by unfold rightE most; rw [if_neg (by omega), if_pos (by simpa using h2)]
        rw [e]; clear e
        go_enter Try.func68, Try.ntmps68
        go_wp2_with fail
        try (go_quiet ((go_at_call 79; exact Calls.quiet_of_same (most_any _ true _ (by go_cell)))))
        go_wp2_with fail
        go_ret
        exact ⟨rfl, (by repeat (first | exact Ext.refl _ | assumption | refine Ext.alloc ?_ _ | refine Ext.drewN ?_ _ | refine Ext.drew ?_ | refine Ext.trans ?_ (by assumption)))⟩
      · have h2' : l ≤ 65535 := by omega
        have e : rightE 255 l m = if m = 0 then 0 else 8 := by unfold rightE most shiftN; rw [if_neg (by omega), if_neg (by simp; omega)]; simp
        rw [e]; clear e h2
        by_cases h3 : m = 0
        · have h3' : (m != 0) = false := by rw [h3]; rfl
          rw [if_pos h3]
          clear h3
          go_enter Try.func68, Try.ntmps68
          go_wp2_with fail
          try (go_quiet ((go_at_call 79; exact Calls.quiet_of_same (most_any _ true _ (by go_cell)))))
          go_wp2_with fail
          go_ret
          exact ⟨rfl, (by repeat (first | exact Ext.refl _ | assumption | refine Ext.alloc ?_ _ | refine Ext.drewN ?_ _ | refine Ext.drew ?_ | refine Ext.trans ?_ (by assumption)))⟩
        · have h3' : (m != 0) = true := bne_iff_ne.2 h3
          rw [if_neg h3]
          clear h3
          go_enter Try.func68, Try.ntmps68
          go_wp2_with fail
          try (go_quiet ((go_at_call 79; exact Calls.quiet_of_same (most_any _ true _ (by go_cell)))))
          go_wp2_with fail
          go_ret
          exact ⟨rfl, (by repeat (first | exact Ext.refl _ | assumption | refine Ext.alloc ?_ _ | refine Ext.drewN ?_ _ | refine Ext.drew ?_ | refine Ext.trans ?_ (by assumption)))⟩
    | false =>
      have ht' : t ≠ 255 := beq_eq_false_iff_ne.1 ht
      by_cases h2 : t < 1
      · have e : rightE t l m = 1 := by unfold rightE; rw [if_pos (.inl ⟨ht', .inl h2⟩)]
        rw [e]; clear e ht'
        go_enter Try.func68, Try.ntmps68
        go_wp2_with fail
        try (go_quiet ((go_at_call 79; exact Calls.quiet_of_same (most_any _ false _ (by go_cell)))))
        go_wp2_with fail
        go_ret
        exact ⟨rfl, (by repeat (first | exact Ext.refl _ | assumption | refine Ext.alloc ?_ _ | refine Ext.drewN ?_ _ | refine Ext.drew ?_ | refine Ext.trans ?_ (by assumption)))⟩
      by_cases h3 : 200 < t
      · have e : rightE t l m = 1 := by unfold rightE; rw [if_pos (.inl ⟨ht', .inr h3⟩)]
        rw [e]; clear e ht'
        go_enter Try.func68, Try.ntmps68
        go_wp2_with fail
        try (go_quiet ((go_at_call 79; exact Calls.quiet_of_same (most_any _ false _ (by go_cell)))))
        go_wp2_with fail
        go_ret
        exact ⟨rfl, (by repeat (first | exact Ext.refl _ | assumption | refine Ext.alloc ?_ _ | refine Ext.drewN ?_ _ | refine Ext.drew ?_ | refine Ext.trans ?_ (by assumption)))⟩
      have h2' : 1 ≤ t := by omega
      have h3' : t ≤ 200 := by omega
      have d1 : decide (t < 1) = false := decide_eq_false (by omega)
      have d2 : decide (200 < t) = false := decide_eq_false (by omega)
      have d3 : decide (l < 0) = false := decide_eq_false (by omega)
      by_cases h4 : 16 < l
      · have e : rightE t l m = 3 := by unfold rightE most; rw [if_neg (by omega), if_neg ht', if_pos h4]
        rw [e]; clear e ht' h2 h3
        go_enter Try.func68, Try.ntmps68
        go_wp2_with fail
        try (go_quiet ((go_at_call 79; exact Calls.quiet_of_same (most_any _ false _ (by go_cell)))))
        go_wp2_with fail
        go_ret
        exact ⟨rfl, (by repeat (first | exact Ext.refl _ | assumption | refine Ext.alloc ?_ _ | refine Ext.drewN ?_ _ | refine Ext.drew ?_ | refine Ext.trans ?_ (by assumption)))⟩
      · have e : rightE t l m = if m / 2 ^ l.toNat = 0 then 0 else 8 := by unfold rightE most shiftN; rw [if_neg (by omega), if_neg ht', if_neg h4, if_neg ht']
        have h4' : l ≤ 16 := by omega
        rw [e]; clear e h4 ht' h2 h3
        obtain ⟨q, hq⟩ : ∃ q, m / 2 ^ l.toNat = q := ⟨_, rfl⟩
        rw [hq]
        cases hq0 : (q != 0) with
        | true =>
          rw [if_neg (bne_iff_ne.1 hq0)]
          go_enter Try.func68, Try.ntmps68
          go_wp2_with fail
          try (go_quiet ((go_at_call 79; exact Calls.quiet_of_same (most_any _ false _ (by go_cell)))))
          go_wp2_with fail
          go_ret
          exact ⟨rfl, (by repeat (first | exact Ext.refl _ | assumption | refine Ext.alloc ?_ _ | refine Ext.drewN ?_ _ | refine Ext.drew ?_ | refine Ext.trans ?_ (by assumption)))⟩
        | false =>
          rw [if_pos (by simpa using hq0)]
          go_enter Try.func68, Try.ntmps68
          go_wp2_with fail
          try (go_quiet ((go_at_call 79; exact Calls.quiet_of_same (most_any _ false _ (by go_cell)))))
          go_wp2_with fail
          go_ret
          exact ⟨rfl, (by repeat (first | exact Ext.refl _ | assumption | refine Ext.alloc ?_ _ | refine Ext.drewN ?_ _ | refine Ext.drew ?_ | refine Ext.trans ?_ (by assumption)))⟩
end Go.Proofs.Ytjhmlbhfnogdiaa.Hd
