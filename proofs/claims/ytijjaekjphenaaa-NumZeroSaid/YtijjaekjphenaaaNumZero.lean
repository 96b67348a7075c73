/- NumZero holds for every input: with nothing added a number is as it was without its other bits; times nothing it is nothing, times 1 it is itself; its powers 1 and 0. No condition. -/
import Derived.Test.YtijjaekjphenaaaRows
import Derived.Test.YtijjaekjphenaaaRd
import Derived.Test.YtijjaekjphenaaaSh
namespace Go.Proofs.Ytijjaekjphenaaa.numZero
open Go.RowKit Go.Proofs.Ytijjaekjphenaaa

theorem go (a : Int) (a0 : 0 ≤ a) (a1 : a ≤ 18446744073709551615) (w : World) : Calls Try.prog 9 #[.int .u64 a] w fun e w' => e = .returned (.bool true) ∧ w = w' := by
  have e0 : (Nm.addW a 0 == Nm.normW a) = true := beq_iff_eq.2 (Nm.add_zero a)
  have e1 : (Nm.mulW a 0 == 0) = true := beq_iff_eq.2 (Nm.mul_zero a)
  have e2 : (Nm.mulW a (Nm.packW 1 0) == Nm.normW a) = true := beq_iff_eq.2 (Nm.mul_one a)
  have p1 : ∀ w, Calls Try.prog 19 #[.int .u64 a, .int .i64 1] w fun e w' => e = .returned (.int .u64 (Nm.normW a)) ∧ w = w' := fun w => by
    have h := Nw.pow_any a 1 w
    have e : Nm.powW a (min 1 64 : Int).toNat = Nm.normW a := Nm.pow_one a
    rw [e] at h; exact h
  have p0 : ∀ w, Calls Try.prog 19 #[.int .u64 a, .int .i64 0] w fun e w' => e = .returned (.int .u64 (Nm.packW 1 0)) ∧ w = w' := fun w => Nw.pow_any a 0 w
  have P1 := Lib.hid p1
  have P0 := Lib.hid p0
  clear p1 p0
  go_enter Try.func9, Try.ntmps9
  go_wp2_with (first | (go_at_call 11; refine (Sh.shown_any _).mono ?_; rintro e w' ⟨rfl, rfl⟩) | (go_at_call 12; refine (Nw.add_any _ _ _).mono ?_; rintro e w' ⟨rfl, rfl⟩) | (go_at_call 13; refine (Nw.mul_any _ _ _).mono ?_; rintro e w' ⟨rfl, rfl⟩) | (go_at_call 16; refine (Nw.pack_any _ _ _).mono ?_; rintro e w' ⟨rfl, rfl⟩) | (go_at_call 17; refine (Nw.norm_any _ (by omega) (by omega) _).mono ?_; rintro e w' ⟨rfl, rfl⟩))
  refine (P1.out _).mono ?_; rintro e w' ⟨rfl, rfl⟩
  go_wp2_with (first | (go_at_call 16; refine (Nw.pack_any _ _ _).mono ?_; rintro e w' ⟨rfl, rfl⟩) | (go_at_call 17; refine (Nw.norm_any _ (by omega) (by omega) _).mono ?_; rintro e w' ⟨rfl, rfl⟩))
  refine (P0.out _).mono ?_; rintro e w' ⟨rfl, rfl⟩
  go_wp2_with (first | (go_at_call 16; refine (Nw.pack_any _ _ _).mono ?_; rintro e w' ⟨rfl, rfl⟩) | (go_at_call 17; refine (Nw.norm_any _ (by omega) (by omega) _).mono ?_; rintro e w' ⟨rfl, rfl⟩))
  go_ret
  exact ⟨rfl, rfl⟩

theorem walk (v0 : Value) (W : World) (r0 : Rd.V Try.prog W 22 v0) : Calls Try.prog 9 #[v0] W fun e w' => e = .returned (.bool true) ∧ Below W.heap.size W w' := by
  obtain ⟨a, rfl, ha⟩ := r0.int Try.underlying22
  have hb := Rd.u64_bd ha
  exact (go a hb.1 hb.2 W).mono fun e w' ⟨he, hw⟩ => ⟨he, hw ▸ Below.refl _ _⟩

open Go.ChangeShapes Go.WideShapes Go.ChangeAt Go.RowKit
theorem own : ownKnob Try.prog.godebug = none := by kernel_rfl
theorem laidOut : laidOutB Try.prog = true := by kernel_rfl

set_option maxRecDepth 100000 in
theorem lifted (os : Os) (started : os.Started) (H : Type) (enc : TypeId × Value → H) :
    ReturnsInHanded {} Try.checked os 9 .any (Rows.numZeroSpec.pre6 enc Try.prog Try.f9 Rows.numZeroRow.domain false) (Rows.numZeroSpec.post enc Try.prog Try.f9 false true false false) := by
  refine returnsInHanded_of_change_sized (C := Try.checked) own started (by kernel_rfl) Try.func9
    (ChangeSpec.witness6 (enc := enc) (C := Try.checked) false ⟨#[], #[.int .u64 0], []⟩ 12 (by kernel_rfl) (by kernel_rfl) (by kernel_rfl) (by kernel_rfl)) ?_
  intro W base args ds gs before hval0 hW _ hsz0 _
  have hval : ∀ (j : Nat) t v, Try.f9.params[j]? = some t → args[j]? = some v → Value.okWide Try.prog W .any base t v := hval0
  have hW' := hW
  obtain ⟨p, q, hA0, hV, rfl, _, _⟩ := hW
  have hA : DataW.TrodAll enc Try.prog W 0 (fun _ => true) true Try.f9.params.toList args.toList ds p := hA0
  obtain ⟨rfl, rfl⟩ := trodVars_none hV
  have hsz : (DataW.weightsEach Try.prog (Try.f9.params.toList ++ []) (ds ++ [])).all (· ≤ reachBytes) = true := hsz0
  rw [Try.params9] at hA hval hsz
  have hA2 := hA
  obtain ⟨v0, vs0, d0, ds0, p0, q0, hargs, rfl, rfl, h0, r0⟩ := trodAll_cons hA2
  obtain ⟨rfl, rfl, rfl⟩ := trodAll_nil r0
  obtain rfl : args = #[v0] := by cases args; simp_all
  have hR := Rd.trodAll_V hA (fun n hn => by simpa using List.all_eq_true.1 hsz n (by simpa using hn)) (fun j t v hj hv => hval j t v (by simpa using hj) (by simpa using hv))
  clear hA0 hval0 hA2
  refine (walk v0 W (hR 0 22 v0 rfl rfl)).mono fun e W' ⟨he, bel⟩ => ?_
  subst he
  exact ⟨_, rfl, _, _, _, [], _, [], hW', trodAll_mk1 (shut_bool Try.underlying4 _), Rd.trodAll_below laidOut bel (List.forall_mem_cons.2 ⟨⟨by kernel_rfl, of_decide_eq_true (by kernel_rfl)⟩, fun _ h => by cases h⟩) hA, rfl, bel.frame _, fun h => by cases h⟩

theorem over : Rows.numZeroRow.holds Try.pinned (OpenSpec.ofChange Rows.numZeroSpec) :=
  OpenClaim.holds_of_wide 9 Try.f9 rfl rfl rfl rfl rfl rfl rfl ⟨rfl, rfl, rfl, rfl, rfl⟩ rfl rfl rfl rfl rfl (by kernel_rfl) Try.func9 (by kernel_rfl)
    (of_decide_eq_true (by kernel_rfl)) (by unfold Func.isWrapper; first | (rw [if_pos (by decide +kernel)]; kernel_rfl) | (rw [if_neg (by decide +kernel)]; exact ⟨rfl, rfl⟩))
    (fun os started H enc _ => lifted os started H enc)

theorem proved : Rows.NumZeroSaid := over
#print axioms proved
end Go.Proofs.Ytijjaekjphenaaa.numZero
