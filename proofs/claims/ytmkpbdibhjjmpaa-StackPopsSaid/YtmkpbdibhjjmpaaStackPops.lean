/- StackPops holds for every input: pushed as often as there is room, and popped as often, a row is as it was. No condition. -/
import Derived.Test.YtmkpbdibhjjmpaaRows
import Derived.Test.YtmkpbdibhjjmpaaSh9
namespace Go.Proofs.Ytmkpbdibhjjmpaa.stackPops
open Go.RowKit Go.Proofs.Ytmkpbdibhjjmpaa

/-- The numbers 1 to j. -/
def sq (j : Nat) : List Int := (List.range j).map fun t : Nat => (t : Int) + 1
theorem sq_len (j : Nat) : (sq j).length = j := by simp [sq]
theorem sq_succ (j : Nat) : sq (j + 1) = sq j ++ [(j : Int) + 1] := by simp [sq, List.range_succ]

theorem get_last (xs : List Int) (t : Nat) : Sk.getV (xs ++ sq (t + 1)) ((xs.length : Int) + t) = (t : Int) + 1 ∧ Sk.getE (xs ++ sq (t + 1)) ((xs.length : Int) + t) = 0 := by
  have e : Sk.inR (xs ++ sq (t + 1)) ((xs.length : Int) + t) = true := Sk.inR_iff.2 (by simp [sq_len]; omega)
  have h2 : ((xs.length : Int) + t).toNat = xs.length + t := by omega
  unfold Sk.getV Sk.getE
  rw [e, h2]
  refine ⟨?_, rfl⟩
  rw [if_pos rfl, sq_succ]
  have : (sq t).length = t := sq_len t
  simp [this]

set_option maxHeartbeats 4000000 in
theorem go (v : Value) (xs : List Int) (n : Int) (w : World) (h : Sl .u64 w v xs) : Calls Try.prog 4 #[v, .int .i64 n] w fun e w' => e = .returned (.bool true) ∧ Ext w w' := by
  have hlen := h.len Sk.uT
  have hsm := h.small
  have H := Lib.hid h
  clear h
  by_cases hn0 : n < 0
  · go_enter Try.func4, Try.ntmps4
    go_wp2_with (go_at_call 11; refine (Sh.shown_any _).mono ?_; rintro e w0 ⟨rfl, hx0⟩)
    (go_ret; exact ⟨(by first | rfl | (simp; done) | (simp; omega)), (by repeat (first | exact Ext.refl _ | assumption | refine Ext.alloc ?_ _ | refine Ext.drewN ?_ _ | refine Ext.drew ?_ | refine Ext.trans ?_ (by assumption)))⟩)
  by_cases hn1 : 20 < n
  · go_enter Try.func4, Try.ntmps4
    go_wp2_with (go_at_call 11; refine (Sh.shown_any _).mono ?_; rintro e w0 ⟨rfl, hx0⟩)
    (go_ret; exact ⟨(by first | rfl | (simp; done) | (simp; omega)), (by repeat (first | exact Ext.refl _ | assumption | refine Ext.alloc ?_ _ | refine Ext.drewN ?_ _ | refine Ext.drew ?_ | refine Ext.trans ?_ (by assumption)))⟩)
  by_cases hl : 30 < xs.length
  · have hl' : (30 : Int) < xs.length := by omega
    have hn0' : 0 ≤ n := by omega
    have hn1' : n ≤ 20 := by omega
    clear hn0 hn1 hl
    go_enter Try.func4, Try.ntmps4
    go_wp2_with (go_at_call 11; refine (Sh.shown_any _).mono ?_; rintro e w0 ⟨rfl, hx0⟩)
    (go_ret; exact ⟨(by first | rfl | (simp; done) | (simp; omega)), (by repeat (first | exact Ext.refl _ | assumption | refine Ext.alloc ?_ _ | refine Ext.drewN ?_ _ | refine Ext.drew ?_ | refine Ext.trans ?_ (by assumption)))⟩)
  obtain ⟨N, rfl⟩ := Int.eq_ofNat_of_zero_le (by omega : 0 ≤ n)
  have hN : N ≤ 20 := by omega
  have hL : xs.length ≤ 30 := by omega
  clear hn0 hn1 hl hsm
  go_enter Try.func4, Try.ntmps4
  go_wp2_with (go_at_call 11; refine (Sh.shown_any _).mono ?_; rintro e w0 ⟨rfl, hx0⟩)
  go_loopw [6, 7, 8] (fun k m i wr => ∃ j : Nat, i = .int .i64 j ∧ m = .int .i64 j ∧ j ≤ N ∧ Sl .u64 wr k (xs ++ sq j) ∧ Ext w wr) (fun _ _ i _ => N - (intOf i).toNat)
  case atStart => exact ⟨0, rfl, rfl, Nat.zero_le _, by simpa [sq] using H.out.ext hx0, hx0⟩
  case round =>
    obtain ⟨j, rfl, rfl, hj, hk, hx1⟩ := hrel
    have HK := Lib.hid hk
    clear hk
    have HX1 := Lib.hid hx1
    clear hx1
    have HJ := Lib.hid (Nat.le_trans hj hN)
    have hcase : (j < N ∧ (xs ++ sq j).length < 16) ∨ (j < N ∧ 16 ≤ (xs ++ sq j).length) ∨ N ≤ j := by omega
    rcases hcase with ⟨hlt, h16⟩ | ⟨hlt, h16⟩ | hlt
    · have hj20 : (j : Int) ≤ 20 := by omega
      have e1 : Sk.pushE (xs ++ sq j) = 0 := by unfold Sk.pushE; rw [if_neg (by omega)]
      have E2 := Lib.hid (by unfold Sk.pushL; rw [if_neg (by omega), List.append_assoc, ← sq_succ] : Sk.pushL (xs ++ sq j) (j + 1) = xs ++ sq (j + 1))
      clear h16
      go_wp2_with fail
      refine (Sk.push_any _ (xs ++ sq j) (j + 1) _ HK.out).mono ?_; rintro e w2 ⟨u, rfl, hu, hx2⟩
      rw [E2.out] at hu
      have HU := Lib.hid hu
      clear hu
      have HX2 := Lib.hid (HX1.out.trans hx2)
      clear hx2
      go_wp2_with fail
      go_roundw
      case rel => exact ⟨j + 1, by go_num, by go_num, hlt, HU.out, HX2.out⟩
      case measure => simp [intOf]; omega
    · have hj20 : (j : Int) ≤ 20 := by omega
      have e1 : Sk.pushE (xs ++ sq j) = 4 := by unfold Sk.pushE; rw [if_pos h16]
      have HM : Hid (j = N ∨ 16 ≤ xs.length + j) := by show j = N ∨ 16 ≤ xs.length + j; simp [sq_len] at h16; exact .inr h16
      clear h16
      go_wp2_with fail
      refine (Sk.push_any _ (xs ++ sq j) (j + 1) _ HK.out).mono ?_; rintro e w2 ⟨u, rfl, hu, hx2⟩
      clear hu
      have HK2 := Lib.hid (HK.out.ext hx2)
      have HX2 := Lib.hid (HX1.out.trans hx2)
      clear hx2
      go_wp2_with fail
      clear hlt hj hj20 e1
      go_loopw [6, 11] (fun k i wr => ∃ t q : Nat, q + t = j ∧ i = .int .i64 q ∧ Sl .u64 wr k (xs ++ sq t) ∧ Ext w wr) (fun _ i _ => j - (intOf i).toNat)
      case atStart => exact ⟨j, 0, by omega, rfl, HK2.out, HX2.out⟩
      case round =>
        obtain ⟨t, q, hq, rfl, hk2, hx3⟩ := hrel
        have HK3 := Lib.hid hk2
        clear hk2
        have HX3 := Lib.hid hx3
        clear hx3
        have HQ := Lib.hid hq
        clear hq
        by_cases ht : t = 0
        · subst ht
          have hqj : j ≤ q := by have := HQ.out; omega
          have hklen : ∀ ty w', (Builtin.len_ #[22] ty #[u6]).run Try.prog w' = .ok (.int .i64 xs.length) w' := fun ty w' => by have := HK3.out.len Sk.uT ty w'; simpa [sq] using this
          rcases HM.out with hm | hm
          · have hm' : ((j : Int) == (N : Int)) = true := beq_iff_eq.2 (by omega)
            go_wp2_with fail
            go_ret
            exact ⟨by first | rfl | (simp; done) | (simp; omega), HX3.out⟩
          · have hm' : (16 : Int) ≤ xs.length + j := by omega
            have hj20 : (j : Int) ≤ 20 := by have := HJ.out; omega
            go_wp2_with fail
            all_goals
              go_ret
              exact ⟨by first | rfl | (simp; done) | (simp; omega), HX3.out⟩
        · obtain ⟨t, rfl⟩ : ∃ t', t = t' + 1 := ⟨t - 1, by omega⟩
          have hqj : q < j := by have := HQ.out; omega
          have hj20 : (j : Int) ≤ 20 := by have := HJ.out; omega
          have hxl : (xs.length : Int) ≤ 30 := by omega
          have htj : (t : Int) ≤ 20 := by have := HQ.out; have := HJ.out; omega
          have hklen : ∀ ty w', (Builtin.len_ #[22] ty #[u6]).run Try.prog w' = .ok (.int .i64 ((xs.length : Int) + t + 1)) w' := fun ty w' => by
            have h1 := HK3.out.len Sk.uT ty w'
            have h2 : (((xs ++ sq (t + 1)).length : Nat) : Int) = (xs.length : Int) + t + 1 := by simp [sq_len]; omega
            rw [h1, h2]
          obtain ⟨g1, g2⟩ := get_last xs t
          have hne : ((t : Int) + 1 != (j : Int) - q) = false := by have := HQ.out; rw [bne_eq_false_iff_eq]; omega
          have hp : Sk.popE (xs ++ sq (t + 1)) = 0 := by unfold Sk.popE; rw [if_neg (by simp [sq_len])]
          have HD : Hid ((xs ++ sq (t + 1)).dropLast = xs ++ sq t) := by show (xs ++ sq (t + 1)).dropLast = xs ++ sq t; rw [sq_succ, ← List.append_assoc, List.dropLast_concat]
          go_wp2_with fail
          refine (Sk.get_any _ (xs ++ sq (t + 1)) ((xs.length : Int) + t) _ HK3.out).mono ?_; rintro e w' ⟨rfl, rfl⟩
          go_wp2_with fail
          refine (Sk.pop_any _ (xs ++ sq (t + 1)) _ HK3.out).mono ?_; rintro e w' ⟨u2, rfl, hu2, rfl⟩
          rw [HD.out] at hu2
          have HU2 := Lib.hid hu2
          clear hu2
          go_wp2_with fail
          go_roundw
          case rel =>
            first
            | exact ⟨t, q + 1, by have := HQ.out; omega, by go_num, HU2.out, HX3.out⟩
            | ((repeat apply Exists.intro); exact ⟨⟨t, q + 1, by have := HQ.out; omega, by go_num, HU2.out, HX3.out⟩, rfl⟩)
          case measure => simp [intOf]; omega
    · have HM : Hid (j = N ∨ 16 ≤ xs.length + j) := by show j = N ∨ 16 ≤ xs.length + j; omega
      have HK2 := HK
      have HX2 := HX1
      have hd : decide (j < N) = false := decide_eq_false (by omega)
      go_wp2_with fail
      clear hlt hj hd
      go_loopw [6, 11] (fun k i wr => ∃ t q : Nat, q + t = j ∧ i = .int .i64 q ∧ Sl .u64 wr k (xs ++ sq t) ∧ Ext w wr) (fun _ i _ => j - (intOf i).toNat)
      case atStart => exact ⟨j, 0, by omega, rfl, HK2.out, HX2.out⟩
      case round =>
        obtain ⟨t, q, hq, rfl, hk2, hx3⟩ := hrel
        have HK3 := Lib.hid hk2
        clear hk2
        have HX3 := Lib.hid hx3
        clear hx3
        have HQ := Lib.hid hq
        clear hq
        by_cases ht : t = 0
        · subst ht
          have hqj : j ≤ q := by have := HQ.out; omega
          have hklen : ∀ ty w', (Builtin.len_ #[22] ty #[u6]).run Try.prog w' = .ok (.int .i64 xs.length) w' := fun ty w' => by have := HK3.out.len Sk.uT ty w'; simpa [sq] using this
          rcases HM.out with hm | hm
          · have hm' : ((j : Int) == (N : Int)) = true := beq_iff_eq.2 (by omega)
            go_wp2_with fail
            go_ret
            exact ⟨by first | rfl | (simp; done) | (simp; omega), HX3.out⟩
          · have hm' : (16 : Int) ≤ xs.length + j := by omega
            have hj20 : (j : Int) ≤ 20 := by have := HJ.out; omega
            go_wp2_with fail
            all_goals
              go_ret
              exact ⟨by first | rfl | (simp; done) | (simp; omega), HX3.out⟩
        · obtain ⟨t, rfl⟩ : ∃ t', t = t' + 1 := ⟨t - 1, by omega⟩
          have hqj : q < j := by have := HQ.out; omega
          have hj20 : (j : Int) ≤ 20 := by have := HJ.out; omega
          have hxl : (xs.length : Int) ≤ 30 := by omega
          have htj : (t : Int) ≤ 20 := by have := HQ.out; have := HJ.out; omega
          have hklen : ∀ ty w', (Builtin.len_ #[22] ty #[u6]).run Try.prog w' = .ok (.int .i64 ((xs.length : Int) + t + 1)) w' := fun ty w' => by
            have h1 := HK3.out.len Sk.uT ty w'
            have h2 : (((xs ++ sq (t + 1)).length : Nat) : Int) = (xs.length : Int) + t + 1 := by simp [sq_len]; omega
            rw [h1, h2]
          obtain ⟨g1, g2⟩ := get_last xs t
          have hne : ((t : Int) + 1 != (j : Int) - q) = false := by have := HQ.out; rw [bne_eq_false_iff_eq]; omega
          have hp : Sk.popE (xs ++ sq (t + 1)) = 0 := by unfold Sk.popE; rw [if_neg (by simp [sq_len])]
          have HD : Hid ((xs ++ sq (t + 1)).dropLast = xs ++ sq t) := by show (xs ++ sq (t + 1)).dropLast = xs ++ sq t; rw [sq_succ, ← List.append_assoc, List.dropLast_concat]
          go_wp2_with fail
          refine (Sk.get_any _ (xs ++ sq (t + 1)) ((xs.length : Int) + t) _ HK3.out).mono ?_; rintro e w' ⟨rfl, rfl⟩
          go_wp2_with fail
          refine (Sk.pop_any _ (xs ++ sq (t + 1)) _ HK3.out).mono ?_; rintro e w' ⟨u2, rfl, hu2, rfl⟩
          rw [HD.out] at hu2
          have HU2 := Lib.hid hu2
          clear hu2
          go_wp2_with fail
          go_roundw
          case rel =>
            first
            | exact ⟨t, q + 1, by have := HQ.out; omega, by go_num, HU2.out, HX3.out⟩
            | ((repeat apply Exists.intro); exact ⟨⟨t, q + 1, by have := HQ.out; omega, by go_num, HU2.out, HX3.out⟩, rfl⟩)
          case measure => simp [intOf]; omega

theorem walk (v0 : Value) (v1 : Value) (W : World) (r0 : Rd.V Try.prog W 22 v0) (r1 : Rd.V Try.prog W 3 v1) : Calls Try.prog 4 #[v0, v1] W fun e w' => e = .returned (.bool true) ∧ Below W.heap.size W w' := by
  obtain ⟨_, n, c, rfl, h⟩ := r0.slice Try.underlying22
  obtain ⟨xs, h, _⟩ := Sl.of_R Try.underlying22 Try.underlying23 (by kernel_rfl) (by kernel_rfl) h
  obtain ⟨i, rfl, _⟩ := r1.int Try.underlying3
  exact (go _ xs i W h).mono fun e w' ⟨he, hw⟩ => ⟨he, hw.below⟩

open Go.ChangeShapes Go.WideShapes Go.ChangeAt Go.RowKit
theorem own : ownKnob Try.prog.godebug = none := by kernel_rfl
theorem laidOut : laidOutB Try.prog = true := by kernel_rfl

set_option maxRecDepth 100000 in
theorem lifted (os : Os) (started : os.Started) (H : Type) (enc : TypeId × Value → H) :
    ReturnsInHanded {} Try.checked os 4 .any (Rows.stackPopsSpec.pre6 enc Try.prog Try.f4 Rows.stackPopsRow.domain false) (Rows.stackPopsSpec.post enc Try.prog Try.f4 false true false false) := by
  refine returnsInHanded_of_change_sized (C := Try.checked) own started (by kernel_rfl) Try.func4
    (ChangeSpec.witness6 (enc := enc) (C := Try.checked) false ⟨#[], #[.slice none 0 0, .int .i64 0], []⟩ 12 (by kernel_rfl) (by kernel_rfl) (by kernel_rfl) (by kernel_rfl)) ?_
  intro W base args ds gs before hval0 hW _ hsz0 _
  have hval : ∀ (j : Nat) t v, Try.f4.params[j]? = some t → args[j]? = some v → Value.okWide Try.prog W .any base t v := hval0
  have hW' := hW
  obtain ⟨p, q, hA0, hV, rfl, _, _⟩ := hW
  have hA : DataW.TrodAll enc Try.prog W 0 (fun _ => true) true Try.f4.params.toList args.toList ds p := hA0
  obtain ⟨rfl, rfl⟩ := trodVars_none hV
  have hsz : (DataW.weightsEach Try.prog (Try.f4.params.toList ++ []) (ds ++ [])).all (· ≤ reachBytes) = true := hsz0
  rw [Try.params4] at hA hval hsz
  have hA2 := hA
  obtain ⟨v0, vs0, d0, ds0, p0, q0, hargs, rfl, rfl, h0, r0⟩ := trodAll_cons hA2
  obtain ⟨v1, vs1, d1, ds1, p1, q1, rfl, rfl, rfl, h1, r1⟩ := trodAll_cons r0
  obtain ⟨rfl, rfl, rfl⟩ := trodAll_nil r1
  obtain rfl : args = #[v0, v1] := by cases args; simp_all
  have hR := Rd.trodAll_V hA (fun n hn => by simpa using List.all_eq_true.1 hsz n (by simpa using hn)) (fun j t v hj hv => hval j t v (by simpa using hj) (by simpa using hv))
  clear hA0 hval0 hA2
  refine (walk v0 v1 W (hR 0 22 v0 rfl rfl) (hR 1 3 v1 rfl rfl)).mono fun e W' ⟨he, bel⟩ => ?_
  subst he
  exact ⟨_, rfl, _, _, _, [], _, [], hW', trodAll_mk1 (shut_bool Try.underlying4 _), Rd.trodAll_below laidOut bel (List.forall_mem_cons.2 ⟨⟨by kernel_rfl, of_decide_eq_true (by kernel_rfl)⟩, List.forall_mem_cons.2 ⟨⟨by kernel_rfl, of_decide_eq_true (by kernel_rfl)⟩, fun _ h => by cases h⟩⟩) hA, rfl, bel.frame _, fun h => by cases h⟩

theorem over : Rows.stackPopsRow.holds Try.pinned (OpenSpec.ofChange Rows.stackPopsSpec) :=
  OpenClaim.holds_of_wide 4 Try.f4 rfl rfl rfl rfl rfl rfl rfl ⟨rfl, rfl, rfl, rfl, rfl⟩ rfl rfl rfl rfl rfl (by kernel_rfl) Try.func4 (by kernel_rfl)
    (of_decide_eq_true (by kernel_rfl)) (by unfold Func.isWrapper; first | (rw [if_pos (by decide +kernel)]; kernel_rfl) | (rw [if_neg (by decide +kernel)]; exact ⟨rfl, rfl⟩))
    (fun os started H enc _ => lifted os started H enc)

theorem proved : Rows.StackPopsSaid := over
#print axioms proved
end Go.Proofs.Ytmkpbdibhjjmpaa.stackPops
