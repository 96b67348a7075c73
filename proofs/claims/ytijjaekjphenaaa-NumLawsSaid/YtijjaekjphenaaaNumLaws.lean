/- NumLaws holds for every input: sums and products hang on no order, and a product of a sum is the sum of the products. No condition. -/
import Derived.Test.YtijjaekjphenaaaRows
import Derived.Test.YtijjaekjphenaaaRd
import Derived.Test.YtijjaekjphenaaaNw
import Derived.Test.YtijjaekjphenaaaSh
namespace Go.Proofs.Ytijjaekjphenaaa.numLaws
open Go.RowKit Go.Proofs.Ytijjaekjphenaaa

theorem go (a b c : Int) (w : World) : Calls Try.prog 3 #[.int .u64 a, .int .u64 b, .int .u64 c] w fun e w' => e = .returned (.bool true) ∧ w = w' := by
  have e1 : (Nm.addW a b == Nm.addW b a) = true := beq_iff_eq.2 (Nm.add_comm a b)
  have e2 : (Nm.mulW a b == Nm.mulW b a) = true := beq_iff_eq.2 (Nm.mul_comm a b)
  have e3 : (Nm.addW (Nm.addW a b) c == Nm.addW a (Nm.addW b c)) = true := beq_iff_eq.2 (Nm.add_assoc a b c)
  have e4 : (Nm.mulW (Nm.mulW a b) c == Nm.mulW a (Nm.mulW b c)) = true := beq_iff_eq.2 (Nm.mul_assoc a b c)
  have e5 : (Nm.mulW a (Nm.addW b c) == Nm.addW (Nm.mulW a b) (Nm.mulW a c)) = true := beq_iff_eq.2 (Nm.mul_add a b c)
  go_enter Try.func3, Try.ntmps3
  go_wp2_with (first | (go_at_call 11; refine (Sh.shown_any _).mono ?_; rintro e w' ⟨rfl, rfl⟩) | (go_at_call 12; refine (Nw.add_any _ _ _).mono ?_; rintro e w' ⟨rfl, rfl⟩) | (go_at_call 13; refine (Nw.mul_any _ _ _).mono ?_; rintro e w' ⟨rfl, rfl⟩))
  go_ret
  exact ⟨rfl, rfl⟩

theorem walk (v0 : Value) (v1 : Value) (v2 : Value) (W : World) (r0 : Rd.V Try.prog W 22 v0) (r1 : Rd.V Try.prog W 22 v1) (r2 : Rd.V Try.prog W 22 v2) : Calls Try.prog 3 #[v0, v1, v2] W fun e w' => e = .returned (.bool true) ∧ Below W.heap.size W w' := by
  obtain ⟨a, rfl, _⟩ := r0.int Try.underlying22
  obtain ⟨b, rfl, _⟩ := r1.int Try.underlying22
  obtain ⟨c, rfl, _⟩ := r2.int Try.underlying22
  exact (go a b c W).mono fun e w' ⟨he, hw⟩ => ⟨he, hw ▸ Below.refl _ _⟩

open Go.ChangeShapes Go.WideShapes Go.ChangeAt Go.RowKit
theorem own : ownKnob Try.prog.godebug = none := by kernel_rfl
theorem laidOut : laidOutB Try.prog = true := by kernel_rfl

set_option maxRecDepth 100000 in
theorem lifted (os : Os) (started : os.Started) (H : Type) (enc : TypeId × Value → H) :
    ReturnsInHanded {} Try.checked os 3 .any (Rows.numLawsSpec.pre6 enc Try.prog Try.f3 Rows.numLawsRow.domain false) (Rows.numLawsSpec.post enc Try.prog Try.f3 false true false false) := by
  refine returnsInHanded_of_change_sized (C := Try.checked) own started (by kernel_rfl) Try.func3
    (ChangeSpec.witness6 (enc := enc) (C := Try.checked) false ⟨#[], #[.int .u64 0, .int .u64 0, .int .u64 0], []⟩ 12 (by kernel_rfl) (by kernel_rfl) (by kernel_rfl) (by kernel_rfl)) ?_
  intro W base args ds gs before hval0 hW _ hsz0 _
  have hval : ∀ (j : Nat) t v, Try.f3.params[j]? = some t → args[j]? = some v → Value.okWide Try.prog W .any base t v := hval0
  have hW' := hW
  obtain ⟨p, q, hA0, hV, rfl, _, _⟩ := hW
  have hA : DataW.TrodAll enc Try.prog W 0 (fun _ => true) true Try.f3.params.toList args.toList ds p := hA0
  obtain ⟨rfl, rfl⟩ := trodVars_none hV
  have hsz : (DataW.weightsEach Try.prog (Try.f3.params.toList ++ []) (ds ++ [])).all (· ≤ reachBytes) = true := hsz0
  rw [Try.params3] at hA hval hsz
  have hA2 := hA
  obtain ⟨v0, vs0, d0, ds0, p0, q0, hargs, rfl, rfl, h0, r0⟩ := trodAll_cons hA2
  obtain ⟨v1, vs1, d1, ds1, p1, q1, rfl, rfl, rfl, h1, r1⟩ := trodAll_cons r0
  obtain ⟨v2, vs2, d2, ds2, p2, q2, rfl, rfl, rfl, h2, r2⟩ := trodAll_cons r1
  obtain ⟨rfl, rfl, rfl⟩ := trodAll_nil r2
  obtain rfl : args = #[v0, v1, v2] := by cases args; simp_all
  have hR := Rd.trodAll_V hA (fun n hn => by simpa using List.all_eq_true.1 hsz n (by simpa using hn)) (fun j t v hj hv => hval j t v (by simpa using hj) (by simpa using hv))
  clear hA0 hval0 hA2
  refine (walk v0 v1 v2 W (hR 0 22 v0 rfl rfl) (hR 1 22 v1 rfl rfl) (hR 2 22 v2 rfl rfl)).mono fun e W' ⟨he, bel⟩ => ?_
  subst he
  exact ⟨_, rfl, _, _, _, [], _, [], hW', trodAll_mk1 (shut_bool Try.underlying4 _), Rd.trodAll_below laidOut bel (List.forall_mem_cons.2 ⟨⟨by kernel_rfl, of_decide_eq_true (by kernel_rfl)⟩, List.forall_mem_cons.2 ⟨⟨by kernel_rfl, of_decide_eq_true (by kernel_rfl)⟩, List.forall_mem_cons.2 ⟨⟨by kernel_rfl, of_decide_eq_true (by kernel_rfl)⟩, fun _ h => by cases h⟩⟩⟩) hA, rfl, bel.frame _, fun h => by cases h⟩

theorem over : Rows.numLawsRow.holds Try.pinned (OpenSpec.ofChange Rows.numLawsSpec) :=
  OpenClaim.holds_of_wide 3 Try.f3 rfl rfl rfl rfl rfl rfl rfl ⟨rfl, rfl, rfl, rfl, rfl⟩ rfl rfl rfl rfl rfl (by kernel_rfl) Try.func3 (by kernel_rfl)
    (of_decide_eq_true (by kernel_rfl)) (by unfold Func.isWrapper; first | (rw [if_pos (by decide +kernel)]; kernel_rfl) | (rw [if_neg (by decide +kernel)]; exact ⟨rfl, rfl⟩))
    (fun os started H enc _ => lifted os started H enc)

theorem proved : Rows.NumLawsSaid := over
#print axioms proved
end Go.Proofs.Ytijjaekjphenaaa.numLaws
