/- HeadMaps holds for every input: a head stays right with one pointer less, and with one more among its fields. No condition. -/
import Derived.Test.YtlmgggnnlljfnaaRows
import Derived.Test.YtlmgggnnlljfnaaHp
import Derived.Laws.Bits64
import Derived.Deep.RegionHeld3
namespace Go.Proofs.Ytlmgggnnlljfnaa.headMaps
open Go.RowKit Go.Proofs.Ytlmgggnnlljfnaa Go.Proofs.Ytlmgggnnlljfnaa.Hd

theorem bit_nat (M I : Nat) : Hp.bit (M : Int) (I : Int) = M.testBit I := by
  unfold Hp.bit
  rw [Nat.testBit_eq_decide_div_mod_eq]
  have h : ((M : Int) / 2 ^ (I : Int).toNat % 2) = ((M / 2 ^ I % 2 : Nat) : Int) := by simp
  rw [h]
  by_cases hc : M / 2 ^ I % 2 = 1
  · rw [hc]; rfl
  · have : ¬ ((M / 2 ^ I % 2 : Nat) : Int) = 1 := by omega
    simp only [hc, decide_false]
    exact beq_eq_false_iff_ne.2 this

theorem ok_nat {t : Int} {L M : Nat} (t0 : 1 ≤ t) (t1 : t ≤ 200) (hL : L ≤ 16) : rightE t L M = if M < 2 ^ L then 0 else 8 := by
  unfold rightE most shiftN
  have hne : ¬ t = 255 := by omega
  rw [if_neg (show ¬((t ≠ 255 ∧ (t < 1 ∨ 200 < t)) ∨ (L : Int) < 0) by omega), if_neg hne, if_neg hne, if_neg (show ¬ 16 < (L : Int) by omega)]
  have h : ((M : Int) / 2 ^ (L : Int).toNat) = ((M / 2 ^ L : Nat) : Int) := by simp
  rw [h]
  by_cases hc : M < 2 ^ L
  · rw [Nat.div_eq_of_lt hc, if_pos (by rfl), if_pos hc]
  · have hp : 0 < M / 2 ^ L := Nat.div_pos (by omega) (Nat.two_pow_pos L)
    rw [if_neg (by omega), if_neg hc]

/-- The bit turned. -/
theorem turned {t l m i : Int} (h : rightE t l m = 0) (m0 : 0 ≤ m) (ht : t ≠ 255) (i0 : 0 ≤ i) (i1 : i ≤ 40) :
    ∃ k : Int, bits .xor .u64 m (IntKind.u64.wrap (2 ^ i.toNat)) = k ∧ 0 ≤ k ∧ (l ≤ i → rightE t l k = 8) ∧ (i < l → rightE t l k = 0 ∧ Hp.bit k i = !Hp.bit m i) := by
  have hz := Hw.right_zero h m0
  obtain ⟨M, rfl⟩ := Int.eq_ofNat_of_zero_le m0
  obtain ⟨L, rfl⟩ := Int.eq_ofNat_of_zero_le hz.2.2.1
  obtain ⟨I, rfl⟩ := Int.eq_ofNat_of_zero_le i0
  have h16 := (hz.2.2.2.2.2 ht).2
  have h200 := (hz.2.2.2.2.2 ht).1
  have hL : L ≤ 16 := by omega
  have hI : I ≤ 40 := by omega
  have hp : 2 ^ I ≤ 2 ^ 40 := Nat.pow_le_pow_right (by omega) hI
  have e1 : IntKind.u64.wrap (2 ^ (I : Int).toNat) = ((2 ^ I : Nat) : Int) := by
    have : ((2 : Int) ^ (I : Int).toNat) = ((2 ^ I : Nat) : Int) := by simp
    rw [this, IntKind.wrap_u64]
    generalize 2 ^ I = P at hp
    omega
  have hM : M < 2 ^ L := by
    have := ok_nat (M := M) hz.1 h200 hL
    rw [h] at this
    by_cases hc : M < 2 ^ L
    · exact hc
    · rw [if_neg hc] at this; omega
  refine ⟨((M ^^^ 2 ^ I : Nat) : Int), by rw [e1]; exact bits_xor_u64_nat _ _ (by omega) (by omega), by omega, fun hli => ?_, fun hli => ?_⟩
  · rw [ok_nat hz.1 h200 hL, if_neg]
    intro hlt
    have h1 : M ^^^ 2 ^ I < 2 ^ I := Nat.lt_of_lt_of_le hlt (Nat.pow_le_pow_right (by omega) (by omega))
    have h2 := Nat.testBit_lt_two_pow h1
    rw [Nat.testBit_xor, Nat.testBit_lt_two_pow (Nat.lt_of_lt_of_le hM (Nat.pow_le_pow_right (by omega) (by omega))), Nat.testBit_two_pow_self] at h2
    simp at h2
  · refine ⟨?_, ?_⟩
    · rw [ok_nat hz.1 h200 hL, if_pos]
      exact Nat.xor_lt_two_pow hM (Nat.pow_lt_pow_right (by omega) (by omega))
    · rw [bit_nat, bit_nat, Nat.testBit_xor, Nat.testBit_two_pow_self]
      simp

theorem keep {w W W' : World} {b b' : Nat} {x y z x' y' z' : Value} (h : W.cell? ⟨b, 0, none⟩ = some x ∧ W.cell? ⟨b, 1, none⟩ = some y ∧ W.cell? ⟨b, 2, none⟩ = some z ∧ W.cell? ⟨b', 0, none⟩ = some x' ∧ W.cell? ⟨b', 1, none⟩ = some y' ∧ W.cell? ⟨b', 2, none⟩ = some z' ∧ Ext w W) (he : Ext W W') :
    W'.cell? ⟨b, 0, none⟩ = some x ∧ W'.cell? ⟨b, 1, none⟩ = some y ∧ W'.cell? ⟨b, 2, none⟩ = some z ∧ W'.cell? ⟨b', 0, none⟩ = some x' ∧ W'.cell? ⟨b', 1, none⟩ = some y' ∧ W'.cell? ⟨b', 2, none⟩ = some z' ∧ Ext w W' :=
  ⟨he.cell h.1, he.cell h.2.1, he.cell h.2.2.1, he.cell h.2.2.2.1, he.cell h.2.2.2.2.1, he.cell h.2.2.2.2.2.1, h.2.2.2.2.2.2.trans he⟩

set_option maxHeartbeats 4000000 in
theorem go (t l m i : Int) (m0 : 0 ≤ m) (w : World) : Calls Try.prog 4 #[.agg #[.int .i64 t, .int .i64 l, .int .u64 m], .int .i64 i] w fun e w' => e = .returned (.bool true) ∧ Ext w w' := by
  have HA : Hid (∀ w, Calls Try.prog 10 #[.agg #[.int .i64 t, .int .i64 l, .int .u64 m]] w fun e w' => e = .returned (.int .i64 (rightE t l m)) ∧ Ext w w') := fun w => right_any t l m w
  cases h1 : (rightE t l m != 0) with
  | true =>
    generalize rightE t l m = r1 at HA h1
    go_enter Try.func4, Try.ntmps4
    go_wp2_with fail
    refine (Hw.shown_any _).mono ?_; rintro e0 w0 ⟨rfl, hx0⟩
    have HX0 : Hid (Ext w w0) := Ext.trans (by repeat (first | exact Ext.refl _ | assumption | refine Ext.alloc ?_ _ | refine Ext.drewN ?_ _ | refine Ext.drew ?_ | refine Ext.trans ?_ (by assumption))) hx0
    have p0 : w0.cell? ⟨w.heap.size, 0, none⟩ = some (.int .i64 t) := hx0.cell (by go_cell)
    have p1 : w0.cell? ⟨w.heap.size, 1, none⟩ = some (.int .i64 l) := hx0.cell (by go_cell)
    have p2 : w0.cell? ⟨w.heap.size, 2, none⟩ = some (.int .u64 m) := hx0.cell (by go_cell)
    clear hx0
    go_wp2_with fail
    refine (HA.out _).mono ?_; rintro e1 w1 ⟨rfl, hx1⟩
    replace p0 := hx1.cell p0
    replace p1 := hx1.cell p1
    replace p2 := hx1.cell p2
    have HX1 := Lib.hid (HX0.out.trans hx1)
    clear hx1 HX0
    go_wp2_with fail
    go_ret
    exact ⟨by first | rfl | (simp; done), HX1.out⟩
  | false =>
    have z1 : rightE t l m = 0 := by simpa using h1
    rw [z1] at HA
    clear h1
    cases h2 : (t == 255) with
    | true =>
      clear z1
      go_enter Try.func4, Try.ntmps4
      go_wp2_with fail
      refine (Hw.shown_any _).mono ?_; rintro e0 w0 ⟨rfl, hx0⟩
      have HX0 : Hid (Ext w w0) := Ext.trans (by repeat (first | exact Ext.refl _ | assumption | refine Ext.alloc ?_ _ | refine Ext.drewN ?_ _ | refine Ext.drew ?_ | refine Ext.trans ?_ (by assumption))) hx0
      have p0 : w0.cell? ⟨w.heap.size, 0, none⟩ = some (.int .i64 t) := hx0.cell (by go_cell)
      have p1 : w0.cell? ⟨w.heap.size, 1, none⟩ = some (.int .i64 l) := hx0.cell (by go_cell)
      have p2 : w0.cell? ⟨w.heap.size, 2, none⟩ = some (.int .u64 m) := hx0.cell (by go_cell)
      clear hx0
      go_wp2_with fail
      refine (HA.out _).mono ?_; rintro e1 w1 ⟨rfl, hx1⟩
      replace p0 := hx1.cell p0
      replace p1 := hx1.cell p1
      replace p2 := hx1.cell p2
      have HX1 := Lib.hid (HX0.out.trans hx1)
      clear hx1 HX0
      go_wp2_with fail
      go_ret
      exact ⟨by first | rfl | (simp; done), HX1.out⟩
    | false =>
      have ht : t ≠ 255 := beq_eq_false_iff_ne.1 h2
      by_cases i0 : i < 0
      · clear z1 ht
        have d1 : decide (i < 0) = true := decide_eq_true i0
        go_enter Try.func4, Try.ntmps4
        go_wp2_with fail
        refine (Hw.shown_any _).mono ?_; rintro e0 w0 ⟨rfl, hx0⟩
        have HX0 : Hid (Ext w w0) := Ext.trans (by repeat (first | exact Ext.refl _ | assumption | refine Ext.alloc ?_ _ | refine Ext.drewN ?_ _ | refine Ext.drew ?_ | refine Ext.trans ?_ (by assumption))) hx0
        have p0 : w0.cell? ⟨w.heap.size, 0, none⟩ = some (.int .i64 t) := hx0.cell (by go_cell)
        have p1 : w0.cell? ⟨w.heap.size, 1, none⟩ = some (.int .i64 l) := hx0.cell (by go_cell)
        have p2 : w0.cell? ⟨w.heap.size, 2, none⟩ = some (.int .u64 m) := hx0.cell (by go_cell)
        clear hx0
        go_wp2_with fail
        refine (HA.out _).mono ?_; rintro e1 w1 ⟨rfl, hx1⟩
        replace p0 := hx1.cell p0
        replace p1 := hx1.cell p1
        replace p2 := hx1.cell p2
        have HX1 := Lib.hid (HX0.out.trans hx1)
        clear hx1 HX0
        go_wp2_with fail
        go_ret
        exact ⟨by first | rfl | (simp; done), HX1.out⟩
      by_cases i1 : 40 < i
      · clear z1 ht
        have d1 : decide (i < 0) = false := decide_eq_false i0
        have d2 : decide (40 < i) = true := decide_eq_true i1
        go_enter Try.func4, Try.ntmps4
        go_wp2_with fail
        refine (Hw.shown_any _).mono ?_; rintro e0 w0 ⟨rfl, hx0⟩
        have HX0 : Hid (Ext w w0) := Ext.trans (by repeat (first | exact Ext.refl _ | assumption | refine Ext.alloc ?_ _ | refine Ext.drewN ?_ _ | refine Ext.drew ?_ | refine Ext.trans ?_ (by assumption))) hx0
        have p0 : w0.cell? ⟨w.heap.size, 0, none⟩ = some (.int .i64 t) := hx0.cell (by go_cell)
        have p1 : w0.cell? ⟨w.heap.size, 1, none⟩ = some (.int .i64 l) := hx0.cell (by go_cell)
        have p2 : w0.cell? ⟨w.heap.size, 2, none⟩ = some (.int .u64 m) := hx0.cell (by go_cell)
        clear hx0
        go_wp2_with fail
        refine (HA.out _).mono ?_; rintro e1 w1 ⟨rfl, hx1⟩
        replace p0 := hx1.cell p0
        replace p1 := hx1.cell p1
        replace p2 := hx1.cell p2
        have HX1 := Lib.hid (HX0.out.trans hx1)
        clear hx1 HX0
        go_wp2_with fail
        go_ret
        exact ⟨by first | rfl | (simp; done), HX1.out⟩
      obtain ⟨k, hk, k0, hlo, hhi⟩ := turned (i := i) z1 m0 ht (by omega) (by omega)
      have hz := Hw.right_zero z1 m0
      have d1 : decide (i < 0) = false := decide_eq_false i0
      have d2 : decide (40 < i) = false := decide_eq_false i1
      have i0' : 0 ≤ i := by omega
      have i1' : i ≤ 40 := by omega
      have HK : Hid (∀ w, Calls Try.prog 10 #[.agg #[.int .i64 t, .int .i64 l, .int .u64 k]] w fun e w' => e = .returned (.int .i64 (rightE t l k)) ∧ Ext w w') := fun w => right_any t l k w
      by_cases hil : l ≤ i
      · rw [hlo hil] at HK
        clear z1 ht hhi hlo hz i0 i1
        go_enter Try.func4, Try.ntmps4
        go_wp2_with fail
        refine (Hw.shown_any _).mono ?_; rintro e0 w0 ⟨rfl, hx0⟩
        have HX0 : Hid (Ext w w0) := Ext.trans (by repeat (first | exact Ext.refl _ | assumption | refine Ext.alloc ?_ _ | refine Ext.drewN ?_ _ | refine Ext.drew ?_ | refine Ext.trans ?_ (by assumption))) hx0
        have p0 : w0.cell? ⟨w.heap.size, 0, none⟩ = some (.int .i64 t) := hx0.cell (by go_cell)
        have p1 : w0.cell? ⟨w.heap.size, 1, none⟩ = some (.int .i64 l) := hx0.cell (by go_cell)
        have p2 : w0.cell? ⟨w.heap.size, 2, none⟩ = some (.int .u64 m) := hx0.cell (by go_cell)
        clear hx0
        go_wp2_with fail
        refine (HA.out _).mono ?_; rintro e1 w1 ⟨rfl, hx1⟩
        replace p0 := hx1.cell p0
        replace p1 := hx1.cell p1
        replace p2 := hx1.cell p2
        have HX1 := Lib.hid (HX0.out.trans hx1)
        clear hx1 HX0
        go_wp2_with fail
        have hlt : w.heap.size < w1.heap.size := World.block_lt_of_cell? w1 _ p2
        go_region
        go_wp2_with fail
        refine (HK.out _).mono ?_; rintro e2 w2 ⟨rfl, hx2⟩
        have hE2 : Ext w1 w2 := Ext.trans (by repeat (first | exact Ext.refl _ | assumption | refine Ext.alloc ?_ _ | refine Ext.drewN ?_ _ | refine Ext.drew ?_ | refine Ext.trans ?_ (by assumption))) hx2
        clear hx2
        replace p0 := hE2.cell p0
        replace p1 := hE2.cell p1
        replace p2 := hE2.cell p2
        have HX2 := Lib.hid (HX1.out.trans hE2)
        clear hE2 hlt
        go_wp2_with fail
        go_ret
        exact ⟨by first | rfl | (simp; done), HX2.out⟩
      · have hil' : i < l := by omega
        have hk2 := hhi hil'
        have hkz := Hw.right_zero hk2.1 k0
        have HP1 : Hid (∀ w, Calls Try.prog 11 #[.agg #[.int .i64 t, .int .i64 l, .int .u64 k], .int .i64 i] w fun e w' => e = .returned (.bool (!Hp.bit m i)) ∧ Ext w w') := fun w => by
          have := Hp.pointer_in t l k i (by omega) hil' (by omega) k0 hkz.2.2.2.2.1 w
          rw [hk2.2] at this
          exact this
        have HP2 : Hid (∀ w, Calls Try.prog 11 #[.agg #[.int .i64 t, .int .i64 l, .int .u64 m], .int .i64 i] w fun e w' => e = .returned (.bool (Hp.bit m i)) ∧ Ext w w') := fun w => Hp.pointer_in t l m i (by omega) hil' (by omega) m0 hz.2.2.2.2.1 w
        rw [hk2.1] at HK
        have d3 : decide (l ≤ i) = false := decide_eq_false hil
        generalize Hp.bit m i = b at HP1 HP2
        clear z1 ht hhi hlo hz i0 i1 hkz hk2 hil
        cases b
        all_goals
          go_enter Try.func4, Try.ntmps4
          go_wp2_with fail
          refine (Hw.shown_any _).mono ?_; rintro e0 w0 ⟨rfl, hx0⟩
          have HX0 : Hid (Ext w w0) := Ext.trans (by repeat (first | exact Ext.refl _ | assumption | refine Ext.alloc ?_ _ | refine Ext.drewN ?_ _ | refine Ext.drew ?_ | refine Ext.trans ?_ (by assumption))) hx0
          have p0 : w0.cell? ⟨w.heap.size, 0, none⟩ = some (.int .i64 t) := hx0.cell (by go_cell)
          have p1 : w0.cell? ⟨w.heap.size, 1, none⟩ = some (.int .i64 l) := hx0.cell (by go_cell)
          have p2 : w0.cell? ⟨w.heap.size, 2, none⟩ = some (.int .u64 m) := hx0.cell (by go_cell)
          clear hx0
          go_wp2_with fail
          refine (HA.out _).mono ?_; rintro e1 w1 ⟨rfl, hx1⟩
          replace p0 := hx1.cell p0
          replace p1 := hx1.cell p1
          replace p2 := hx1.cell p2
          have HX1 := Lib.hid (HX0.out.trans hx1)
          clear hx1 HX0
          go_wp2_with fail
          have hlt : w.heap.size < w1.heap.size := World.block_lt_of_cell? w1 _ p2
          go_region
          go_wp2_with fail
          refine (HK.out _).mono ?_; rintro e2 w2 ⟨rfl, hx2⟩
          have q0 : w2.cell? ⟨w1.heap.size, 0, none⟩ = some (.int .i64 t) := hx2.cell (by go_cell)
          have q1 : w2.cell? ⟨w1.heap.size, 1, none⟩ = some (.int .i64 l) := hx2.cell (by go_cell)
          have q2 : w2.cell? ⟨w1.heap.size, 2, none⟩ = some (.int .u64 k) := hx2.cell (by go_cell)
          have hE2 : Ext w1 w2 := Ext.trans (by repeat (first | exact Ext.refl _ | assumption | refine Ext.alloc ?_ _ | refine Ext.drewN ?_ _ | refine Ext.drew ?_ | refine Ext.trans ?_ (by assumption))) hx2
          clear hx2
          replace p0 := hE2.cell p0
          replace p1 := hE2.cell p1
          replace p2 := hE2.cell p2
          have HX2 := Lib.hid (HX1.out.trans hE2)
          clear hE2 hlt HX1
          go_wp2_with fail
          have hheld : ∀ w' : World, (w'.cell? ⟨w.heap.size, 0, none⟩ = some (.int .i64 t) ∧ w'.cell? ⟨w.heap.size, 1, none⟩ = some (.int .i64 l) ∧ w'.cell? ⟨w.heap.size, 2, none⟩ = some (.int .u64 m) ∧ w'.cell? ⟨w1.heap.size, 0, none⟩ = some (.int .i64 t) ∧ w'.cell? ⟨w1.heap.size, 1, none⟩ = some (.int .i64 l) ∧ w'.cell? ⟨w1.heap.size, 2, none⟩ = some (.int .u64 k) ∧ Ext w w') → Ext w w' := fun w' h => h.2.2.2.2.2.2
          go_region_held3 (fun w' : World => w'.cell? ⟨w.heap.size, 0, none⟩ = some (.int .i64 t) ∧ w'.cell? ⟨w.heap.size, 1, none⟩ = some (.int .i64 l) ∧ w'.cell? ⟨w.heap.size, 2, none⟩ = some (.int .u64 m) ∧ w'.cell? ⟨w1.heap.size, 0, none⟩ = some (.int .i64 t) ∧ w'.cell? ⟨w1.heap.size, 1, none⟩ = some (.int .i64 l) ∧ w'.cell? ⟨w1.heap.size, 2, none⟩ = some (.int .u64 k) ∧ Ext w w') (first | exact ⟨p0, p1, p2, q0, q1, q2, HX2.out.drew⟩ | (refine keep ?_ hx3; assumption)) (first | (go_at_call 11; (with_reducible refine (HP1.out _).mono ?_); rintro e3 w3 ⟨rfl, hx3⟩) | (go_at_call 11; (with_reducible refine (HP2.out _).mono ?_); rintro e3 w3 ⟨rfl, hx3⟩))
          all_goals
            have hfin := hheld _ (by assumption)
            go_wp2_with fail
            go_ret
            exact ⟨by first | rfl | (simp; done), hfin⟩

theorem head_of {w : World} {v : Value} (h : Rd.V Try.prog w 24 v) : ∃ a b c : Int, v = .agg #[.int .i64 a, .int .i64 b, .int .u64 c] ∧ 0 ≤ c := by
  have k : Try.prog.cellsOf 3 = 1 := by kernel_rfl
  have k2 : Try.prog.cellsOf 22 = 1 := by kernel_rfl
  obtain ⟨cs, rfl, hs⟩ := h.struct Try.underlying24
  obtain ⟨hl, _⟩ := hs.struct Try.underlying24
  rw [show Try.prog.cellsOf 24 = 3 by kernel_rfl] at hl
  match cs, hl with
  | [c0, c1, c2], _ =>
    obtain ⟨a, hs0, wa⟩ := (Rd.R.field Try.underlying24 hs 0 rfl 0 1 3 rfl rfl k).int Try.underlying3
    obtain rfl : c0 = .int .i64 a := by simpa using hs0
    obtain ⟨b, hs1, wb⟩ := (Rd.R.field Try.underlying24 hs 1 rfl 1 1 3 rfl rfl k).int Try.underlying3
    obtain rfl : c1 = .int .i64 b := by simpa using hs1
    obtain ⟨m, hs2, wm⟩ := (Rd.R.field Try.underlying24 hs 2 rfl 2 1 22 rfl rfl k2).int Try.underlying22
    obtain rfl : c2 = .int .u64 m := by simpa using hs2
    exact ⟨a, b, m, rfl, (Rd.u64_bd wm).1⟩

theorem walk (v0 : Value) (v1 : Value) (W : World) (r0 : Rd.V Try.prog W 24 v0) (r1 : Rd.V Try.prog W 3 v1) : Calls Try.prog 4 #[v0, v1] W fun e w' => e = .returned (.bool true) ∧ Below W.heap.size W w' := by
  obtain ⟨a, b, c, rfl, c0⟩ := head_of r0
  obtain ⟨i, rfl, _⟩ := r1.int Try.underlying3
  exact (go a b c i c0 W).mono fun e w' ⟨he, hw⟩ => ⟨he, hw.below⟩

open Go.ChangeShapes Go.WideShapes Go.ChangeAt Go.RowKit
theorem own : ownKnob Try.prog.godebug = none := by kernel_rfl
theorem laidOut : laidOutB Try.prog = true := by kernel_rfl

set_option maxRecDepth 100000 in
theorem lifted (os : Os) (started : os.Started) (H : Type) (enc : TypeId × Value → H) :
    ReturnsInHanded {} Try.checked os 4 .any (Rows.headMapsSpec.pre6 enc Try.prog Try.f4 Rows.headMapsRow.domain false) (Rows.headMapsSpec.post enc Try.prog Try.f4 false true false false) := by
  refine returnsInHanded_of_change_sized (C := Try.checked) own started (by kernel_rfl) Try.func4
    (ChangeSpec.witness6 (enc := enc) (C := Try.checked) false ⟨#[], #[.agg #[.int .i64 0, .int .i64 0, .int .u64 0], .int .i64 0], []⟩ 12 (by kernel_rfl) (by kernel_rfl) (by kernel_rfl) (by kernel_rfl)) ?_
  intro W base args ds gs before hval0 hW _ hsz0 _
  have hval : ∀ (j : Nat) t v, Try.f4.params[j]? = some t → args[j]? = some v → Value.okWide Try.prog W .any base t v := hval0
  have hW' := hW
  obtain ⟨p, q, hA0, hV, rfl, _, _⟩ := hW
  have hA : DataW.TrodAll enc Try.prog W 0 (fun _ => true) true Try.f4.params.toList args.toList ds p := hA0
  obtain ⟨rfl, rfl⟩ := trodVars_none hV
  have hsz : (DataW.weightsEach Try.prog (Try.f4.params.toList ++ []) (ds ++ [])).all (· ≤ reachBytes) = true := hsz0
  rw [Try.params4] at hA hval hsz
  have hA2 := hA
  obtain ⟨v0, vs0, d0, ds0, p0, q0, hargs, rfl, rfl, h0, r0⟩ := trodAll_cons hA2
  obtain ⟨v1, vs1, d1, ds1, p1, q1, rfl, rfl, rfl, h1, r1⟩ := trodAll_cons r0
  obtain ⟨rfl, rfl, rfl⟩ := trodAll_nil r1
  obtain rfl : args = #[v0, v1] := by cases args; simp_all
  have hR := Rd.trodAll_V hA (fun n hn => by simpa using List.all_eq_true.1 hsz n (by simpa using hn)) (fun j t v hj hv => hval j t v (by simpa using hj) (by simpa using hv))
  clear hA0 hval0 hA2
  refine (walk v0 v1 W (hR 0 24 v0 rfl rfl) (hR 1 3 v1 rfl rfl)).mono fun e W' ⟨he, bel⟩ => ?_
  subst he
  exact ⟨_, rfl, _, _, _, [], _, [], hW', trodAll_mk1 (shut_bool Try.underlying4 _), Rd.trodAll_below laidOut bel (List.forall_mem_cons.2 ⟨⟨by kernel_rfl, of_decide_eq_true (by kernel_rfl)⟩, List.forall_mem_cons.2 ⟨⟨by kernel_rfl, of_decide_eq_true (by kernel_rfl)⟩, fun _ h => by cases h⟩⟩) hA, rfl, bel.frame _, fun h => by cases h⟩

theorem over : Rows.headMapsRow.holds Try.pinned (OpenSpec.ofChange Rows.headMapsSpec) :=
  OpenClaim.holds_of_wide 4 Try.f4 rfl rfl rfl rfl rfl rfl rfl ⟨rfl, rfl, rfl, rfl, rfl⟩ rfl rfl rfl rfl rfl (by kernel_rfl) Try.func4 (by kernel_rfl)
    (of_decide_eq_true (by kernel_rfl)) (by unfold Func.isWrapper; first | (rw [if_pos (by decide +kernel)]; kernel_rfl) | (rw [if_neg (by decide +kernel)]; exact ⟨rfl, rfl⟩))
    (fun os started H enc _ => lifted os started H enc)

theorem proved : Rows.HeadMapsSaid := over
#print axioms proved
end Go.Proofs.Ytlmgggnnlljfnaa.headMaps
