/- What chapter 15 reaches of chapters 03, 04: the references' Right, Pointer, Pointers, Ints, Words, power; Pointer; is a head an object's. -/
import Derived.Test.YtjhmlbhfnogdiaaHd
import Derived.Test.YtjhmlbhfnogdiaaGr
namespace Go.Proofs.Ytjhmlbhfnogdiaa.Hg
open Go.RowKit
open Go.Proofs.Ytjhmlbhfnogdiaa Go.Proofs.Ytjhmlbhfnogdiaa.Hd Go.Proofs.Ytjhmlbhfnogdiaa.Gr
set_option linter.unusedVariables false

theorem right_zero {t l m : Int} (h : rightE t l m = 0) (m0 : 0 ≤ m) : 1 ≤ t ∧ t ≤ 255 ∧ 0 ≤ l ∧ l ≤ 65535 ∧ m ≤ 65535 ∧ (t ≠ 255 → t ≤ 200 ∧ l ≤ 16) := by
  unfold rightE at h
  split at h
  · omega
  split at h
  · omega
  split at h
  · rename_i h1 h2 h3
    unfold most at h2
    unfold shiftN at h3
    by_cases ht : t = 255
    · rw [if_pos ht] at h2 h3
      simp at h3
      omega
    · rw [if_neg ht] at h2 h3
      have hl : l.toNat ≤ 16 := by omega
      have hp : (2 : Int) ^ l.toNat ≤ 65536 := by
        have : (2 : Nat) ^ l.toNat ≤ 2 ^ 16 := Nat.pow_le_pow_right (by omega) hl
        have : ((2 ^ l.toNat : Nat) : Int) ≤ ((2 ^ 16 : Nat) : Int) := by exact_mod_cast this
        simpa using this
      have hpos : (0 : Int) < 2 ^ l.toNat := Int.pow_pos (by omega)
      have hm : m < 2 ^ l.toNat := by
        rcases Int.lt_or_le m (2 ^ l.toNat) with h | h
        · exact h
        · have := Int.ediv_le_ediv hpos h
          rw [Int.ediv_self (by omega)] at this
          omega
      omega
  · omega

/-- 2 to the n. -/
def pw (n : Nat) : Int := 2 ^ n
theorem pw_succ (n : Nat) : pw (n + 1) = pw n + pw n := by unfold pw; rw [Int.pow_succ]; omega
theorem pw_bd {n : Nat} (h : n ≤ 62) : 1 ≤ pw n ∧ pw n ≤ 4611686018427387904 := by
  unfold pw
  have h1 : (2 : Nat) ^ n ≤ 2 ^ 62 := Nat.pow_le_pow_right (by omega) h
  have h2 : 0 < (2 : Nat) ^ n := Nat.two_pow_pos n
  have h3 : ((2 : Int) ^ n) = ((2 ^ n : Nat) : Int) := by simp
  rw [h3]
  omega
theorem power_any (n : Nat) (h : n ≤ 63) (w : World) : Calls Try.prog 65 #[.int .i64 n] w fun e w' => e = .returned (.int .u64 (pw n)) ∧ w' = w := by
  have h63 : (n : Int) ≤ 63 := by omega
  go_enter Try.func65, Try.ntmps65
  go_wp2
  go_loop [3, 4] (fun v i => ∃ j : Nat, i = .int .i64 j ∧ j ≤ n ∧ v = .int .u64 (pw j)) (fun _ i => n - (intOf i).toNat)
  case atStart => exact ⟨0, rfl, Nat.zero_le _, rfl⟩
  case round =>
    obtain ⟨j, rfl, hj, rfl⟩ := hrel
    by_cases hlt : j < n
    · have hb := pw_bd (n := j) (by omega)
      have HS := Lib.hid (pw_succ j)
      obtain ⟨hb0, hb1⟩ := hb
      generalize pw j = v at HS hb0 hb1
      go_wp2
      go_round
      case rel => exact ⟨j + 1, by go_num, hlt, by rw [HS.out]⟩
      case measure => simp [intOf]; omega
    · obtain rfl : j = n := by omega
      go_wp2
      go_ret
      exact ⟨rfl, rfl⟩

set_option maxHeartbeats 4000000 in
theorem rright_any (t l m : Int) (m0 : 0 ≤ m) (w : World) :
    Calls Try.prog 24 #[.agg #[.int .i64 t, .int .i64 l, .int .u64 m]] w fun e w' => e = .returned (.int .i64 (rightE t l m)) ∧ Ext w w' := by
  cases ht : (t != 255) with
  | true =>
    have ht' : t ≠ 255 := bne_iff_ne.1 ht
    have ht2 : (t == 255) = false := beq_eq_false_iff_ne.2 ht'
    by_cases h2 : t < 1
    · have e : rightE t l m = 1 := by unfold rightE; rw [if_pos (.inl ⟨ht', .inl h2⟩)]
      have d1 : decide (t < 1) = true := decide_eq_true h2
      rw [e]; clear e ht' h2
      go_enter Try.func24, Try.ntmps24
      go_wp2_with fail
      go_ret
      exact ⟨rfl, (by repeat (first | exact Ext.refl _ | assumption | refine Ext.alloc ?_ _ | refine Ext.drewN ?_ _ | refine Ext.drew ?_ | refine Ext.trans ?_ (by assumption)))⟩
    by_cases h3 : 200 < t
    · have e : rightE t l m = 1 := by unfold rightE; rw [if_pos (.inl ⟨ht', .inr h3⟩)]
      have d1 : decide (t < 1) = false := decide_eq_false h2
      have d2 : decide (200 < t) = true := decide_eq_true h3
      rw [e]; clear e ht' h2 h3
      go_enter Try.func24, Try.ntmps24
      go_wp2_with fail
      go_ret
      exact ⟨rfl, (by repeat (first | exact Ext.refl _ | assumption | refine Ext.alloc ?_ _ | refine Ext.drewN ?_ _ | refine Ext.drew ?_ | refine Ext.trans ?_ (by assumption)))⟩
    have d1 : decide (t < 1) = false := decide_eq_false h2
    have d2 : decide (200 < t) = false := decide_eq_false h3
    by_cases h1 : l < 0
    · have e : rightE t l m = 1 := by unfold rightE; rw [if_pos (.inr h1)]
      have d3 : decide (l < 0) = true := decide_eq_true h1
      rw [e]; clear e ht' h2 h3 h1
      go_enter Try.func24, Try.ntmps24
      go_wp2_with fail
      go_ret
      exact ⟨rfl, (by repeat (first | exact Ext.refl _ | assumption | refine Ext.alloc ?_ _ | refine Ext.drewN ?_ _ | refine Ext.drew ?_ | refine Ext.trans ?_ (by assumption)))⟩
    have d3 : decide (l < 0) = false := decide_eq_false h1
    by_cases h4 : 16 < l
    · have e : rightE t l m = 3 := by unfold rightE most; rw [if_neg (by omega), if_neg ht', if_pos h4]
      have d4 : decide (16 < l) = true := decide_eq_true h4
      rw [e]; clear e ht' h2 h3 h1 h4
      go_enter Try.func24, Try.ntmps24
      go_wp2_with fail
      go_ret
      exact ⟨rfl, (by repeat (first | exact Ext.refl _ | assumption | refine Ext.alloc ?_ _ | refine Ext.drewN ?_ _ | refine Ext.drew ?_ | refine Ext.trans ?_ (by assumption)))⟩
    have d4 : decide (16 < l) = false := decide_eq_false h4
    obtain ⟨j, rfl⟩ : ∃ j : Nat, l = j := ⟨l.toNat, by omega⟩
    have HP := Lib.hid (fun w => power_any j (by omega) w)
    have hpb := pw_bd (n := j) (by omega)
    have e : rightE t j m = if m < pw j then 0 else 8 := by
      unfold rightE most shiftN
      rw [if_neg (by omega), if_neg ht', if_neg h4, if_neg ht']
      have hpos : (0 : Int) < 2 ^ (j : Int).toNat := Int.pow_pos (by omega)
      have hpe : (2 : Int) ^ (j : Int).toNat = pw j := by unfold pw; simp
      rw [hpe] at hpos ⊢
      by_cases hm : m < pw j
      · rw [if_pos hm, Int.ediv_eq_zero_of_lt m0 hm, if_pos rfl]
      · rw [if_neg hm, if_neg]
        intro h0
        have := Int.ediv_mul_le m (b := pw j) (by omega)
        have h5 := Int.lt_ediv_add_one_mul_self m hpos
        rw [h0] at h5
        omega
    rw [e]
    clear e ht' h2 h3 h1 h4
    obtain ⟨hb0, hb1⟩ := hpb
    generalize pw j = v at HP hb0 hb1 ⊢
    by_cases hm : m < v
    · rw [if_pos hm]
      have d5 : decide (v ≤ m) = false := decide_eq_false (by omega)
      clear hm
      go_enter Try.func24, Try.ntmps24
      go_wp2_with fail
      go_quiet ((go_at_call 65; exact Calls.quiet_of_same (HP.out _)))
      go_wp2_with fail
      go_ret
      exact ⟨rfl, (by repeat (first | exact Ext.refl _ | assumption | refine Ext.alloc ?_ _ | refine Ext.drewN ?_ _ | refine Ext.drew ?_ | refine Ext.trans ?_ (by assumption)))⟩
    · rw [if_neg hm]
      have d5 : decide (v ≤ m) = true := decide_eq_true (by omega)
      clear hm
      go_enter Try.func24, Try.ntmps24
      go_wp2_with fail
      go_quiet ((go_at_call 65; exact Calls.quiet_of_same (HP.out _)))
      go_wp2_with fail
      go_ret
      exact ⟨rfl, (by repeat (first | exact Ext.refl _ | assumption | refine Ext.alloc ?_ _ | refine Ext.drewN ?_ _ | refine Ext.drew ?_ | refine Ext.trans ?_ (by assumption)))⟩
  | false =>
    obtain rfl : t = 255 := by simpa using ht
    clear ht
    by_cases h1 : l < 0
    · have e : rightE 255 l m = 1 := by unfold rightE; rw [if_pos (.inr h1)]
      have d3 : decide (l < 0) = true := decide_eq_true h1
      rw [e]; clear e h1
      go_enter Try.func24, Try.ntmps24
      go_wp2_with fail
      go_ret
      exact ⟨rfl, (by repeat (first | exact Ext.refl _ | assumption | refine Ext.alloc ?_ _ | refine Ext.drewN ?_ _ | refine Ext.drew ?_ | refine Ext.trans ?_ (by assumption)))⟩
    have d3 : decide (l < 0) = false := decide_eq_false h1
    by_cases h2 : 65535 < l
    · have e : rightE 255 l m = 3 := by unfold rightE most; rw [if_neg (by omega), if_pos (by simpa using h2)]
      have d4 : decide (65535 < l) = true := decide_eq_true h2
      rw [e]; clear e h1 h2
      go_enter Try.func24, Try.ntmps24
      go_wp2_with fail
      go_ret
      exact ⟨rfl, (by repeat (first | exact Ext.refl _ | assumption | refine Ext.alloc ?_ _ | refine Ext.drewN ?_ _ | refine Ext.drew ?_ | refine Ext.trans ?_ (by assumption)))⟩
    have d4 : decide (65535 < l) = false := decide_eq_false h2
    have e : rightE 255 l m = if m = 0 then 0 else 8 := by unfold rightE most shiftN; rw [if_neg (by omega), if_neg (by simp; omega)]; simp
    rw [e]; clear e h1 h2
    by_cases h3 : m = 0
    · have h3' : (m != 0) = false := by rw [h3]; rfl
      rw [if_pos h3]
      clear h3
      go_enter Try.func24, Try.ntmps24
      go_wp2_with fail
      go_ret
      exact ⟨rfl, (by repeat (first | exact Ext.refl _ | assumption | refine Ext.alloc ?_ _ | refine Ext.drewN ?_ _ | refine Ext.drew ?_ | refine Ext.trans ?_ (by assumption)))⟩
    · have h3' : (m != 0) = true := bne_iff_ne.2 h3
      rw [if_neg h3]
      clear h3
      go_enter Try.func24, Try.ntmps24
      go_wp2_with fail
      go_ret
      exact ⟨rfl, (by repeat (first | exact Ext.refl _ | assumption | refine Ext.alloc ?_ _ | refine Ext.drewN ?_ _ | refine Ext.drew ?_ | refine Ext.trans ?_ (by assumption)))⟩

/-- The i-th bit. -/
def bit (m : Int) (i : Int) : Bool := m / 2 ^ i.toNat % 2 == 1

theorem wraps_u64 (n : Int) (h₀ : 0 ≤ n) (h₁ : n < 2 ^ 64) : IntKind.u64.wrap n = n := by rw [IntKind.wrap_u64]; omega

/-- A field among the fields. -/
theorem pointer_in (t l m i : Int) (i0 : 0 ≤ i) (i1 : i < l) (i2 : i ≤ 63) (m0 : 0 ≤ m) (m1 : m ≤ 65535) (w : World) :
    Calls Try.prog 72 #[.agg #[.int .i64 t, .int .i64 l, .int .u64 m], .int .i64 i] w fun e w' => e = .returned (.bool (bit m i)) ∧ Ext w w' := by
  have d1 : decide (i < l) = true := decide_eq_true i1
  have hq0 : 0 ≤ m / 2 ^ i.toNat := Int.ediv_nonneg m0 (Int.le_of_lt (Int.pow_pos (by omega)))
  have hq1 : m / 2 ^ i.toNat ≤ 65535 := Int.le_trans (Int.ediv_le_self _ m0) m1
  have hb : bits .and .u64 (m / 2 ^ i.toNat) 1 = m / 2 ^ i.toNat % 2 := by
    have := bits_mask .u64 64 (by decide) wraps_u64 1 (by decide) (m / 2 ^ i.toNat) hq0 (by omega)
    simpa using this
  obtain ⟨q, hq⟩ : ∃ q, m / 2 ^ i.toNat = q := ⟨_, rfl⟩
  obtain ⟨b, hbb⟩ : ∃ b, bit m i = b := ⟨_, rfl⟩
  rw [hbb]
  unfold bit at hbb
  rw [hq] at hb hq0 hq1 hbb
  obtain ⟨y, hy⟩ : ∃ y, q % 2 = y := ⟨_, rfl⟩
  rw [hy] at hb hbb
  clear hy m0 m1
  subst hbb
  cases hy1 : (y == 1)
  all_goals
    go_enter Try.func72, Try.ntmps72
    go_wp2
    go_ret
    exact ⟨rfl, (Ext.refl _).alloc _⟩

/-- The reference's Pointer, of a field among the fields. -/
theorem rpointer_in (t l m : Int) (i : Nat) (i1 : (i : Int) < l) (i2 : i ≤ 16) (m0 : 0 ≤ m) (m1 : m ≤ 65535) (w : World) :
    Calls Try.prog 66 #[.agg #[.int .i64 t, .int .i64 l, .int .u64 m], .int .i64 i] w fun e w' => e = .returned (.bool (bit m i)) ∧ Ext w w' := by
  have HP := Lib.hid (fun w => power_any i (by omega) w)
  have d0 : decide ((i : Int) < 0) = false := decide_eq_false (by omega)
  have d1 : decide (l ≤ (i : Int)) = false := decide_eq_false (by omega)
  have d2 : decide (63 < (i : Int)) = false := decide_eq_false (by omega)
  have hb := pw_bd (n := i) (by omega)
  obtain ⟨b, hbb⟩ : ∃ b, bit m i = b := ⟨_, rfl⟩
  rw [hbb]
  unfold bit at hbb
  have hpe : (2 : Int) ^ (i : Int).toNat = pw i := by unfold pw; simp
  rw [hpe] at hbb
  have hq0 : 0 ≤ m / pw i := Int.ediv_nonneg m0 (by omega)
  have hq1 : m / pw i ≤ 65535 := Int.le_trans (Int.ediv_le_self _ m0) m1
  generalize pw i = v at HP hb hbb hq0 hq1
  have hv0 : (v == 0) = false := beq_eq_false_iff_ne.2 (by omega)
  have hdv : m.tdiv v = m / v := Int.tdiv_eq_ediv_of_nonneg m0
  have hmm : (m / v).tmod 2 = m / v % 2 := Int.tmod_eq_emod_of_nonneg hq0
  have hw1 : IntKind.u64.wrap (m / v) = m / v := wraps_u64 _ hq0 (by omega)
  obtain ⟨q, hq⟩ : ∃ q, m / v = q := ⟨_, rfl⟩
  rw [hq] at hbb hq0 hq1 hmm hw1 hdv
  have hw2 : IntKind.u64.wrap (q % 2) = q % 2 := wraps_u64 _ (by omega) (by omega)
  obtain ⟨y, hy⟩ : ∃ y, q % 2 = y := ⟨_, rfl⟩
  rw [hy] at hbb hmm hw2
  obtain ⟨hb0, hb1⟩ := hb
  clear hy hq m0 m1 i2
  subst hbb
  cases hy1 : (y == 1)
  all_goals
    go_enter Try.func66, Try.ntmps66
    go_wp2_with fail
    go_quiet ((go_at_call 65; exact Calls.quiet_of_same (HP.out _)))
    go_wp2_with fail
    go_ret
    exact ⟨rfl, (by repeat (first | exact Ext.refl _ | assumption | refine Ext.alloc ?_ _ | refine Ext.drewN ?_ _ | refine Ext.drew ?_ | refine Ext.trans ?_ (by assumption)))⟩

theorem words_any (v u : Value) (xs ys : List Int) (w : World) (h : Sl .u64 w v xs) (k : Sl .u64 w u ys) :
    Calls Try.prog 26 #[v, u] w fun e w' => e = .returned (.bool (decide (xs = ys))) ∧ ∃ m, w' = w.drewN m := by
  have hlen := h.len uU
  have klen := k.len uU
  have hsm := h.small
  have ksm := k.small
  by_cases hl : xs.length = ys.length
  · rw [← hl] at klen
    obtain ⟨n, hn⟩ : ∃ n, xs.length = n := ⟨_, rfl⟩
    have HX : Hid (∀ i : Nat, i < n → ∃ p : Addr, (∀ w', (Instr.indexAt 65 v (.int .i64 i)).run Try.prog w' = .ok (.pointer (some p)) w') ∧ w.cell? p = some (.int .u64 (xs.getD i 0))) := fun i hi => h.at_ uU szU (i := i) (by omega) (by omega)
    have HY : Hid (∀ i : Nat, i < n → ∃ p : Addr, (∀ w', (Instr.indexAt 65 u (.int .i64 i)).run Try.prog w' = .ok (.pointer (some p)) w') ∧ w.cell? p = some (.int .u64 (ys.getD i 0))) := fun i hi => k.at_ uU szU (i := i) (by omega) (by omega)
    have HN := Lib.hid hn
    have HL := Lib.hid hl
    rw [hn] at hlen klen hsm
    clear h k hn hl ksm
    go_enter Try.func26, Try.ntmps26
    go_wp2
    go_loopw [5] (fun i wr => ∃ j : Nat, i = .int .i64 j ∧ j ≤ n ∧ (∀ t : Nat, t < j → xs.getD t 0 = ys.getD t 0) ∧ ∃ nq, wr = w.drewN nq) (fun i _ => n - (intOf i).toNat)
    case atStart => exact ⟨0, rfl, Nat.zero_le _, fun t ht => by omega, 0, rfl⟩
    case round =>
      obtain ⟨j, rfl, hj, hall, nq, rfl⟩ := hrel
      have HA := Lib.hid hall
      clear hall
      by_cases hlt : j < n
      · obtain ⟨p, hp, hcp⟩ := HX.out j hlt
        obtain ⟨q, hq, hcq⟩ := HY.out j hlt
        obtain ⟨x, hx⟩ : ∃ x, xs.getD j 0 = x := ⟨_, rfl⟩
        obtain ⟨y, hy⟩ : ∃ y, ys.getD j 0 = y := ⟨_, rfl⟩
        rw [hx] at hcp
        rw [hy] at hcq
        have HXY := Lib.hid (And.intro hx hy)
        clear hx hy
        cases hxy : (x != y) with
        | true =>
          go_wp2
          go_quiet (fail)
          go_wp2
          go_ret
          refine ⟨?_, (by first | exact ⟨_, rfl⟩ | (rw [World.drewN_drewN]; exact ⟨_, rfl⟩))⟩
          have : xs ≠ ys := fun e => by have h2 := HXY.out; rw [e, h2.2] at h2; exact absurd h2.1 (fun h3 => by rw [h3] at hxy; simp at hxy)
          simp [this]
        | false =>
          go_wp2
          go_quiet (fail)
          go_wp2
          go_roundw
          case rel => exact ⟨j + 1, by go_num, hlt, fun t ht => by
            by_cases e : t = j
            · subst e; have h2 := HXY.out; rw [h2.1, h2.2]; simpa using hxy
            · exact HA.out t (by omega), (by first | exact ⟨_, rfl⟩ | (rw [World.drewN_drewN]; exact ⟨_, rfl⟩))⟩
          case measure => simp [intOf]; omega
      · have hjn : j = n := by omega
        subst hjn
        go_wp2
        go_ret
        refine ⟨?_, (by first | exact ⟨_, rfl⟩ | (rw [World.drewN_drewN]; exact ⟨_, rfl⟩))⟩
        have : xs = ys := List.ext_getElem HL.out fun i h1 h2 => by
          have := HA.out i (by have := HN.out; omega)
          simpa [h1, h2] using this
        simp [this]
  · have hne : ((xs.length : Int) != ys.length) = true := by rw [bne_iff_ne]; omega
    have hd : decide (xs = ys) = false := decide_eq_false (fun e => hl (by rw [e]))
    rw [hd]
    clear h k hl hd
    go_enter Try.func26, Try.ntmps26
    go_wp2
    go_ret
    exact ⟨rfl, 0, rfl⟩


theorem ints_any (v u : Value) (xs ys : List Int) (w : World) (h : Sl .i64 w v xs) (k : Sl .i64 w u ys) :
    Calls Try.prog 27 #[v, u] w fun e w' => e = .returned (.bool (decide (xs = ys))) ∧ ∃ m, w' = w.drewN m := by
  have hlen := h.len uI
  have klen := k.len uI
  have hsm := h.small
  have ksm := k.small
  by_cases hl : xs.length = ys.length
  · rw [← hl] at klen
    obtain ⟨n, hn⟩ : ∃ n, xs.length = n := ⟨_, rfl⟩
    have HX : Hid (∀ i : Nat, i < n → ∃ p : Addr, (∀ w', (Instr.indexAt 42 v (.int .i64 i)).run Try.prog w' = .ok (.pointer (some p)) w') ∧ w.cell? p = some (.int .i64 (xs.getD i 0))) := fun i hi => h.at_ uI szI (i := i) (by omega) (by omega)
    have HY : Hid (∀ i : Nat, i < n → ∃ p : Addr, (∀ w', (Instr.indexAt 42 u (.int .i64 i)).run Try.prog w' = .ok (.pointer (some p)) w') ∧ w.cell? p = some (.int .i64 (ys.getD i 0))) := fun i hi => k.at_ uI szI (i := i) (by omega) (by omega)
    have HN := Lib.hid hn
    have HL := Lib.hid hl
    rw [hn] at hlen klen hsm
    clear h k hn hl ksm
    go_enter Try.func27, Try.ntmps27
    go_wp2
    go_loopw [5] (fun i wr => ∃ j : Nat, i = .int .i64 j ∧ j ≤ n ∧ (∀ t : Nat, t < j → xs.getD t 0 = ys.getD t 0) ∧ ∃ nq, wr = w.drewN nq) (fun i _ => n - (intOf i).toNat)
    case atStart => exact ⟨0, rfl, Nat.zero_le _, fun t ht => by omega, 0, rfl⟩
    case round =>
      obtain ⟨j, rfl, hj, hall, nq, rfl⟩ := hrel
      have HA := Lib.hid hall
      clear hall
      by_cases hlt : j < n
      · obtain ⟨p, hp, hcp⟩ := HX.out j hlt
        obtain ⟨q, hq, hcq⟩ := HY.out j hlt
        obtain ⟨x, hx⟩ : ∃ x, xs.getD j 0 = x := ⟨_, rfl⟩
        obtain ⟨y, hy⟩ : ∃ y, ys.getD j 0 = y := ⟨_, rfl⟩
        rw [hx] at hcp
        rw [hy] at hcq
        have HXY := Lib.hid (And.intro hx hy)
        clear hx hy
        cases hxy : (x != y) with
        | true =>
          go_wp2
          go_quiet (fail)
          go_wp2
          go_ret
          refine ⟨?_, (by first | exact ⟨_, rfl⟩ | (rw [World.drewN_drewN]; exact ⟨_, rfl⟩))⟩
          have : xs ≠ ys := fun e => by have h2 := HXY.out; rw [e, h2.2] at h2; exact absurd h2.1 (fun h3 => by rw [h3] at hxy; simp at hxy)
          simp [this]
        | false =>
          go_wp2
          go_quiet (fail)
          go_wp2
          go_roundw
          case rel => exact ⟨j + 1, by go_num, hlt, fun t ht => by
            by_cases e : t = j
            · subst e; have h2 := HXY.out; rw [h2.1, h2.2]; simpa using hxy
            · exact HA.out t (by omega), (by first | exact ⟨_, rfl⟩ | (rw [World.drewN_drewN]; exact ⟨_, rfl⟩))⟩
          case measure => simp [intOf]; omega
      · have hjn : j = n := by omega
        subst hjn
        go_wp2
        go_ret
        refine ⟨?_, (by first | exact ⟨_, rfl⟩ | (rw [World.drewN_drewN]; exact ⟨_, rfl⟩))⟩
        have : xs = ys := List.ext_getElem HL.out fun i h1 h2 => by
          have := HA.out i (by have := HN.out; omega)
          simpa [h1, h2] using this
        simp [this]
  · have hne : ((xs.length : Int) != ys.length) = true := by rw [bne_iff_ne]; omega
    have hd : decide (xs = ys) = false := decide_eq_false (fun e => hl (by rw [e]))
    rw [hd]
    clear h k hl hd
    go_enter Try.func27, Try.ntmps27
    go_wp2
    go_ret
    exact ⟨rfl, 0, rfl⟩


/-- Is a head an object's? -/
def isObj (h : Hd) : Bool := rightE h.1 h.2.1 h.2.2 == 0 && h.1 != 255
theorem object_any (t l m : Int) (w : World) : Calls Try.prog 32 #[.agg #[.int .i64 t, .int .i64 l, .int .u64 m]] w fun e w' => e = .returned (.bool (isObj (t, l, m))) ∧ Ext w w' := by
  have HR := Lib.hid (fun w => right_any t l m w)
  unfold isObj
  dsimp only
  generalize rightE t l m = r at HR ⊢
  obtain ⟨wA, hwA⟩ : ∃ wA, wA = w.alloc (.cells #[.int .i64 t, .int .i64 l, .int .u64 m] 28) := ⟨_, rfl⟩
  have hx : Ext w wA := hwA ▸ (Ext.refl w).alloc _
  have hb : Blk wA w.heap.size #[.int .i64 t, .int .i64 l, .int .u64 m] 28 := hwA ▸ Blk.new w _ _
  cases h1 : (r == 0) <;> cases h2 : (t != 255)
  all_goals
    go_enter Try.func32, Try.ntmps32
    go_wp2_with fail
    rw [← hwA]
    clear hwA
    refine (HR.out _).mono ?_; rintro e w1 ⟨rfl, hx1⟩
    have HX := Lib.hid (hx.trans hx1)
    have e0 : w1.cell? ⟨w.heap.size, 0, none⟩ = some (.int .i64 t) := (hb.ext hx1).cell (i := 0) rfl
    clear hx hx1 hb
    go_wp2_with fail
    go_ret
    exact ⟨by first | rfl | (simp; done), HX.out⟩
end Go.Proofs.Ytjhmlbhfnogdiaa.Hg
