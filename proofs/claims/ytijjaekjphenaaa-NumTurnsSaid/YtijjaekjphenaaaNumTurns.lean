/- NumTurns holds for every input: multiplied by i four times a number is as it was, and powers add up. No condition. -/
import Derived.Test.YtijjaekjphenaaaRows
import Derived.Test.YtijjaekjphenaaaRd
import Derived.Test.YtijjaekjphenaaaSh
namespace Go.Proofs.Ytijjaekjphenaaa.numTurns
open Go.RowKit Go.Proofs.Ytijjaekjphenaaa

theorem go (a n m : Int) (a0 : 0 ≤ a) (a1 : a ≤ 18446744073709551615) (w : World) : Calls Try.prog 8 #[.int .u64 a, .int .i64 n, .int .i64 m] w fun e w' => e = .returned (.bool true) ∧ w = w' := by
  have e0 : (Nm.mulW (Nm.mulW (Nm.mulW (Nm.mulW a (Nm.packW 0 1)) (Nm.packW 0 1)) (Nm.packW 0 1)) (Nm.packW 0 1) == Nm.normW a) = true := beq_iff_eq.2 (Nm.turns a)
  by_cases h1 : 0 ≤ n
  · by_cases h2 : 0 ≤ m
    · by_cases h3 : n ≤ 30
      · by_cases h4 : m ≤ 30
        · have e1 : (Nm.powW a (min (n + m) 64).toNat == Nm.mulW (Nm.powW a (min n 64).toNat) (Nm.powW a (min m 64).toNat)) = true := by
            have x1 : (min (n + m) 64).toNat = n.toNat + m.toNat := by omega
            have x2 : (min n 64).toNat = n.toNat := by omega
            have x3 : (min m 64).toNat = m.toNat := by omega
            rw [x1, x2, x3]; exact beq_iff_eq.2 (Nm.pow_add a _ _)
          obtain ⟨q1, hq1⟩ : ∃ q, Nm.powW a (min (n + m) 64).toNat = q := ⟨_, rfl⟩
          obtain ⟨q2, hq2⟩ : ∃ q, Nm.powW a (min n 64).toNat = q := ⟨_, rfl⟩
          obtain ⟨q3, hq3⟩ : ∃ q, Nm.powW a (min m 64).toNat = q := ⟨_, rfl⟩
          rw [hq1, hq2, hq3] at e1
          have p1 := Lib.hid (fun w => hq1 ▸ Nw.pow_any a (n + m) w : ∀ w, Calls Try.prog 19 #[.int .u64 a, .int .i64 (n + m)] w fun e w' => e = .returned (.int .u64 q1) ∧ w = w')
          have p2 := Lib.hid (fun w => hq2 ▸ Nw.pow_any a n w : ∀ w, Calls Try.prog 19 #[.int .u64 a, .int .i64 n] w fun e w' => e = .returned (.int .u64 q2) ∧ w = w')
          have p3 := Lib.hid (fun w => hq3 ▸ Nw.pow_any a m w : ∀ w, Calls Try.prog 19 #[.int .u64 a, .int .i64 m] w fun e w' => e = .returned (.int .u64 q3) ∧ w = w')
          clear hq1 hq2 hq3
          go_enter Try.func8, Try.ntmps8
          go_wp2_with (first | (go_at_call 11; refine (Sh.shown_any _).mono ?_; rintro e w' ⟨rfl, rfl⟩) | (go_at_call 16; refine (Nw.pack_any _ _ _).mono ?_; rintro e w' ⟨rfl, rfl⟩) | (go_at_call 13; refine (Nw.mul_any _ _ _).mono ?_; rintro e w' ⟨rfl, rfl⟩) | (go_at_call 17; refine (Nw.norm_any _ (by omega) (by omega) _).mono ?_; rintro e w' ⟨rfl, rfl⟩))
          refine (p1.out _).mono ?_; rintro e w' ⟨rfl, rfl⟩
          go_wp2_with (first | (go_at_call 13; refine (Nw.mul_any _ _ _).mono ?_; rintro e w' ⟨rfl, rfl⟩) | (go_at_call 17; refine (Nw.norm_any _ (by omega) (by omega) _).mono ?_; rintro e w' ⟨rfl, rfl⟩))
          refine (p2.out _).mono ?_; rintro e w' ⟨rfl, rfl⟩
          go_wp2_with (first | (go_at_call 13; refine (Nw.mul_any _ _ _).mono ?_; rintro e w' ⟨rfl, rfl⟩) | (go_at_call 17; refine (Nw.norm_any _ (by omega) (by omega) _).mono ?_; rintro e w' ⟨rfl, rfl⟩))
          refine (p3.out _).mono ?_; rintro e w' ⟨rfl, rfl⟩
          go_wp2_with (first | (go_at_call 13; refine (Nw.mul_any _ _ _).mono ?_; rintro e w' ⟨rfl, rfl⟩) | (go_at_call 17; refine (Nw.norm_any _ (by omega) (by omega) _).mono ?_; rintro e w' ⟨rfl, rfl⟩))
          go_ret
          exact ⟨rfl, rfl⟩
        · have h4' : 30 < m := by omega
          clear h4
          go_enter Try.func8, Try.ntmps8
          go_wp2_with (first | (go_at_call 11; refine (Sh.shown_any _).mono ?_; rintro e w' ⟨rfl, rfl⟩) | (go_at_call 16; refine (Nw.pack_any _ _ _).mono ?_; rintro e w' ⟨rfl, rfl⟩) | (go_at_call 13; refine (Nw.mul_any _ _ _).mono ?_; rintro e w' ⟨rfl, rfl⟩) | (go_at_call 17; refine (Nw.norm_any _ (by omega) (by omega) _).mono ?_; rintro e w' ⟨rfl, rfl⟩))
          go_ret
          exact ⟨rfl, rfl⟩
      · have h3' : 30 < n := by omega
        clear h3
        go_enter Try.func8, Try.ntmps8
        go_wp2_with (first | (go_at_call 11; refine (Sh.shown_any _).mono ?_; rintro e w' ⟨rfl, rfl⟩) | (go_at_call 16; refine (Nw.pack_any _ _ _).mono ?_; rintro e w' ⟨rfl, rfl⟩) | (go_at_call 13; refine (Nw.mul_any _ _ _).mono ?_; rintro e w' ⟨rfl, rfl⟩) | (go_at_call 17; refine (Nw.norm_any _ (by omega) (by omega) _).mono ?_; rintro e w' ⟨rfl, rfl⟩))
        go_ret
        exact ⟨rfl, rfl⟩
    · have h2' : m < 0 := by omega
      clear h2
      go_enter Try.func8, Try.ntmps8
      go_wp2_with (first | (go_at_call 11; refine (Sh.shown_any _).mono ?_; rintro e w' ⟨rfl, rfl⟩) | (go_at_call 16; refine (Nw.pack_any _ _ _).mono ?_; rintro e w' ⟨rfl, rfl⟩) | (go_at_call 13; refine (Nw.mul_any _ _ _).mono ?_; rintro e w' ⟨rfl, rfl⟩) | (go_at_call 17; refine (Nw.norm_any _ (by omega) (by omega) _).mono ?_; rintro e w' ⟨rfl, rfl⟩))
      go_ret
      exact ⟨rfl, rfl⟩
  · have h1' : n < 0 := by omega
    clear h1
    go_enter Try.func8, Try.ntmps8
    go_wp2_with (first | (go_at_call 11; refine (Sh.shown_any _).mono ?_; rintro e w' ⟨rfl, rfl⟩) | (go_at_call 16; refine (Nw.pack_any _ _ _).mono ?_; rintro e w' ⟨rfl, rfl⟩) | (go_at_call 13; refine (Nw.mul_any _ _ _).mono ?_; rintro e w' ⟨rfl, rfl⟩) | (go_at_call 17; refine (Nw.norm_any _ (by omega) (by omega) _).mono ?_; rintro e w' ⟨rfl, rfl⟩))
    go_ret
    exact ⟨rfl, rfl⟩

theorem walk (v0 : Value) (v1 : Value) (v2 : Value) (W : World) (r0 : Rd.V Try.prog W 22 v0) (r1 : Rd.V Try.prog W 3 v1) (r2 : Rd.V Try.prog W 3 v2) : Calls Try.prog 8 #[v0, v1, v2] W fun e w' => e = .returned (.bool true) ∧ Below W.heap.size W w' := by
  obtain ⟨a, rfl, ha⟩ := r0.int Try.underlying22
  obtain ⟨n, rfl, _⟩ := r1.int Try.underlying3
  obtain ⟨m, rfl, _⟩ := r2.int Try.underlying3
  have hb := Rd.u64_bd ha
  exact (go a n m hb.1 hb.2 W).mono fun e w' ⟨he, hw⟩ => ⟨he, hw ▸ Below.refl _ _⟩

open Go.ChangeShapes Go.WideShapes Go.ChangeAt Go.RowKit
theorem own : ownKnob Try.prog.godebug = none := by kernel_rfl
theorem laidOut : laidOutB Try.prog = true := by kernel_rfl

set_option maxRecDepth 100000 in
theorem lifted (os : Os) (started : os.Started) (H : Type) (enc : TypeId × Value → H) :
    ReturnsInHanded {} Try.checked os 8 .any (Rows.numTurnsSpec.pre6 enc Try.prog Try.f8 Rows.numTurnsRow.domain false) (Rows.numTurnsSpec.post enc Try.prog Try.f8 false true false false) := by
  refine returnsInHanded_of_change_sized (C := Try.checked) own started (by kernel_rfl) Try.func8
    (ChangeSpec.witness6 (enc := enc) (C := Try.checked) false ⟨#[], #[.int .u64 0, .int .i64 0, .int .i64 0], []⟩ 12 (by kernel_rfl) (by kernel_rfl) (by kernel_rfl) (by kernel_rfl)) ?_
  intro W base args ds gs before hval0 hW _ hsz0 _
  have hval : ∀ (j : Nat) t v, Try.f8.params[j]? = some t → args[j]? = some v → Value.okWide Try.prog W .any base t v := hval0
  have hW' := hW
  obtain ⟨p, q, hA0, hV, rfl, _, _⟩ := hW
  have hA : DataW.TrodAll enc Try.prog W 0 (fun _ => true) true Try.f8.params.toList args.toList ds p := hA0
  obtain ⟨rfl, rfl⟩ := trodVars_none hV
  have hsz : (DataW.weightsEach Try.prog (Try.f8.params.toList ++ []) (ds ++ [])).all (· ≤ reachBytes) = true := hsz0
  rw [Try.params8] at hA hval hsz
  have hA2 := hA
  obtain ⟨v0, vs0, d0, ds0, p0, q0, hargs, rfl, rfl, h0, r0⟩ := trodAll_cons hA2
  obtain ⟨v1, vs1, d1, ds1, p1, q1, rfl, rfl, rfl, h1, r1⟩ := trodAll_cons r0
  obtain ⟨v2, vs2, d2, ds2, p2, q2, rfl, rfl, rfl, h2, r2⟩ := trodAll_cons r1
  obtain ⟨rfl, rfl, rfl⟩ := trodAll_nil r2
  obtain rfl : args = #[v0, v1, v2] := by cases args; simp_all
  have hR := Rd.trodAll_V hA (fun n hn => by simpa using List.all_eq_true.1 hsz n (by simpa using hn)) (fun j t v hj hv => hval j t v (by simpa using hj) (by simpa using hv))
  clear hA0 hval0 hA2
  refine (walk v0 v1 v2 W (hR 0 22 v0 rfl rfl) (hR 1 3 v1 rfl rfl) (hR 2 3 v2 rfl rfl)).mono fun e W' ⟨he, bel⟩ => ?_
  subst he
  exact ⟨_, rfl, _, _, _, [], _, [], hW', trodAll_mk1 (shut_bool Try.underlying4 _), Rd.trodAll_below laidOut bel (List.forall_mem_cons.2 ⟨⟨by kernel_rfl, of_decide_eq_true (by kernel_rfl)⟩, List.forall_mem_cons.2 ⟨⟨by kernel_rfl, of_decide_eq_true (by kernel_rfl)⟩, List.forall_mem_cons.2 ⟨⟨by kernel_rfl, of_decide_eq_true (by kernel_rfl)⟩, fun _ h => by cases h⟩⟩⟩) hA, rfl, bel.frame _, fun h => by cases h⟩

theorem over : Rows.numTurnsRow.holds Try.pinned (OpenSpec.ofChange Rows.numTurnsSpec) :=
  OpenClaim.holds_of_wide 8 Try.f8 rfl rfl rfl rfl rfl rfl rfl ⟨rfl, rfl, rfl, rfl, rfl⟩ rfl rfl rfl rfl rfl (by kernel_rfl) Try.func8 (by kernel_rfl)
    (of_decide_eq_true (by kernel_rfl)) (by unfold Func.isWrapper; first | (rw [if_pos (by decide +kernel)]; kernel_rfl) | (rw [if_neg (by decide +kernel)]; exact ⟨rfl, rfl⟩))
    (fun os started H enc _ => lifted os started H enc)

theorem proved : Rows.NumTurnsSaid := over
#print axioms proved
end Go.Proofs.Ytijjaekjphenaaa.numTurns
