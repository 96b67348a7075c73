/- StackReal holds for every input: a handle that is told as real is told, and isn't nothing. No condition. -/
import Derived.Test.YtmkpbdibhjjmpaaRows
import Derived.Test.YtmkpbdibhjjmpaaSh9
namespace Go.Proofs.Ytmkpbdibhjjmpaa.stackReal
open Go.RowKit Go.Proofs.Ytmkpbdibhjjmpaa

theorem go (v : Value) (xs : List Int) (i : Int) (w : World) (h : Sl .u64 w v xs) : Calls Try.prog 5 #[v, .int .i64 i] w fun e w' => e = .returned (.bool true) ∧ Ext w w' := by
  have hr : (Sk.getE xs i = 5 ∧ Sk.realE xs i = 5 ∧ Sk.getV xs i = 0) ∨ (Sk.getE xs i = 0 ∧ Sk.realE xs i = 6 ∧ Sk.getV xs i = 0) ∨ (Sk.getE xs i = 0 ∧ Sk.realE xs i = 0 ∧ (Sk.getV xs i == 0) = false ∧ (Sk.getV xs i != 0) = true) := by
    unfold Sk.getE Sk.getV Sk.realE
    cases hb : Sk.inR xs i with
    | false => exact .inl ⟨rfl, rfl, rfl⟩
    | true =>
      by_cases hz : xs.getD i.toNat 0 = 0
      · exact .inr (.inl ⟨rfl, by rw [if_pos rfl, if_pos hz], by rw [if_pos rfl, hz]⟩)
      · exact .inr (.inr ⟨rfl, by rw [if_pos rfl, if_neg hz], by rw [if_pos rfl]; exact beq_eq_false_iff_ne.2 hz, by rw [if_pos rfl]; exact bne_iff_ne.2 hz⟩)
  have H := Lib.hid h
  clear h
  rcases hr with ⟨p1, p2, p3⟩ | ⟨p1, p2, p3⟩ | ⟨p1, p2, p3, p4⟩
  all_goals
    go_enter Try.func5, Try.ntmps5
    go_wp2_with (go_at_call 11; refine (Sh.shown_any _).mono ?_; rintro e w0 ⟨rfl, hx0⟩)
    refine (Sk.get_any v xs i _ (H.out.ext hx0)).mono ?_; rintro e w' ⟨rfl, rfl⟩
    go_wp2_with fail
    refine (Sk.real_any v xs i _ (H.out.ext hx0)).mono ?_; rintro e w' ⟨rfl, rfl⟩
    go_wp2_with fail
    (go_ret; exact ⟨(by first | rfl | (simp; done) | (simp; omega)), (by repeat (first | exact Ext.refl _ | assumption | refine Ext.alloc ?_ _ | refine Ext.drewN ?_ _ | refine Ext.drew ?_ | refine Ext.trans ?_ (by assumption)))⟩)

theorem walk (v0 : Value) (v1 : Value) (W : World) (r0 : Rd.V Try.prog W 22 v0) (r1 : Rd.V Try.prog W 3 v1) : Calls Try.prog 5 #[v0, v1] W fun e w' => e = .returned (.bool true) ∧ Below W.heap.size W w' := by
  obtain ⟨a, n, c, rfl, h⟩ := r0.slice Try.underlying22
  obtain ⟨xs, h, _⟩ := Sl.of_R Try.underlying22 Try.underlying23 (by kernel_rfl) (by kernel_rfl) h
  obtain ⟨i, rfl, _⟩ := r1.int Try.underlying3
  exact (go _ xs i W h).mono fun e w' ⟨he, hw⟩ => ⟨he, hw.below⟩

open Go.ChangeShapes Go.WideShapes Go.ChangeAt Go.RowKit
theorem own : ownKnob Try.prog.godebug = none := by kernel_rfl
theorem laidOut : laidOutB Try.prog = true := by kernel_rfl

set_option maxRecDepth 100000 in
theorem lifted (os : Os) (started : os.Started) (H : Type) (enc : TypeId × Value → H) :
    ReturnsInHanded {} Try.checked os 5 .any (Rows.stackRealSpec.pre6 enc Try.prog Try.f5 Rows.stackRealRow.domain false) (Rows.stackRealSpec.post enc Try.prog Try.f5 false true false false) := by
  refine returnsInHanded_of_change_sized (C := Try.checked) own started (by kernel_rfl) Try.func5
    (ChangeSpec.witness6 (enc := enc) (C := Try.checked) false ⟨#[], #[.slice none 0 0, .int .i64 0], []⟩ 12 (by kernel_rfl) (by kernel_rfl) (by kernel_rfl) (by kernel_rfl)) ?_
  intro W base args ds gs before hval0 hW _ hsz0 _
  have hval : ∀ (j : Nat) t v, Try.f5.params[j]? = some t → args[j]? = some v → Value.okWide Try.prog W .any base t v := hval0
  have hW' := hW
  obtain ⟨p, q, hA0, hV, rfl, _, _⟩ := hW
  have hA : DataW.TrodAll enc Try.prog W 0 (fun _ => true) true Try.f5.params.toList args.toList ds p := hA0
  obtain ⟨rfl, rfl⟩ := trodVars_none hV
  have hsz : (DataW.weightsEach Try.prog (Try.f5.params.toList ++ []) (ds ++ [])).all (· ≤ reachBytes) = true := hsz0
  rw [Try.params5] at hA hval hsz
  have hA2 := hA
  obtain ⟨v0, vs0, d0, ds0, p0, q0, hargs, rfl, rfl, h0, r0⟩ := trodAll_cons hA2
  obtain ⟨v1, vs1, d1, ds1, p1, q1, rfl, rfl, rfl, h1, r1⟩ := trodAll_cons r0
  obtain ⟨rfl, rfl, rfl⟩ := trodAll_nil r1
  obtain rfl : args = #[v0, v1] := by cases args; simp_all
  have hR := Rd.trodAll_V hA (fun n hn => by simpa using List.all_eq_true.1 hsz n (by simpa using hn)) (fun j t v hj hv => hval j t v (by simpa using hj) (by simpa using hv))
  clear hA0 hval0 hA2
  refine (walk v0 v1 W (hR 0 22 v0 rfl rfl) (hR 1 3 v1 rfl rfl)).mono fun e W' ⟨he, bel⟩ => ?_
  subst he
  exact ⟨_, rfl, _, _, _, [], _, [], hW', trodAll_mk1 (shut_bool Try.underlying4 _), Rd.trodAll_below laidOut bel (List.forall_mem_cons.2 ⟨⟨by kernel_rfl, of_decide_eq_true (by kernel_rfl)⟩, List.forall_mem_cons.2 ⟨⟨by kernel_rfl, of_decide_eq_true (by kernel_rfl)⟩, fun _ h => by cases h⟩⟩) hA, rfl, bel.frame _, fun h => by cases h⟩

theorem over : Rows.stackRealRow.holds Try.pinned (OpenSpec.ofChange Rows.stackRealSpec) :=
  OpenClaim.holds_of_wide 5 Try.f5 rfl rfl rfl rfl rfl rfl rfl ⟨rfl, rfl, rfl, rfl, rfl⟩ rfl rfl rfl rfl rfl (by kernel_rfl) Try.func5 (by kernel_rfl)
    (of_decide_eq_true (by kernel_rfl)) (by unfold Func.isWrapper; first | (rw [if_pos (by decide +kernel)]; kernel_rfl) | (rw [if_neg (by decide +kernel)]; exact ⟨rfl, rfl⟩))
    (fun os started H enc _ => lifted os started H enc)

theorem proved : Rows.StackRealSaid := over
#print axioms proved
end Go.Proofs.Ytmkpbdibhjjmpaa.stackReal
