/- SizeApart holds for every input: no two places have one address. No condition. -/
import Derived.Test.YtlldfglmoeeocaaRows
import Derived.Test.YtlldfglmoeeocaaRd
import Derived.Test.YtlldfglmoeeocaaSs
namespace Go.Proofs.Ytlldfglmoeeocaa.sizeApart
open Go.RowKit Go.Proofs.Ytlldfglmoeeocaa

theorem go (s a t b : Int) (w : World) : Calls Try.prog 3 #[.agg #[.int .i64 s, .int .i64 a, .int .i64 t, .int .i64 b]] w fun e w' => e = .returned (.bool true) ∧ Sw.Ext w w' := by
  cases h1 : Sz.addrOk s a with
  | false =>
    have e1 : (Sz.addr s a == 0) = true := beq_iff_eq.2 (Sz.addr_no h1)
    clear h1
    go_enter Try.func3, Try.ntmps3
    go_wp2_with (first | (go_at_call 10; refine (Ss.shown_any _).mono ?_; rintro e w' ⟨rfl, rfl⟩) | (go_at_call 11; refine (Sw.addr_any _ _ _).mono ?_; rintro e w' ⟨rfl, rfl⟩))
    (go_ret; exact ⟨rfl, (by repeat (first | exact Sw.Ext.refl _ | assumption | refine Sw.Ext.alloc ?_ _ | refine Sw.Ext.drewN ?_ _ | refine Sw.Ext.drew ?_ | refine Sw.Ext.trans ?_ (by assumption)))⟩)
  | true =>
    have e1 : (Sz.addr s a == 0) = false := beq_eq_false_iff_ne.2 (Sz.addr_ne h1)
    cases h2 : Sz.addrOk t b with
    | false =>
      have e2 : (Sz.addr t b == 0) = true := beq_iff_eq.2 (Sz.addr_no h2)
      clear h1 h2
      go_enter Try.func3, Try.ntmps3
      go_wp2_with (first | (go_at_call 10; refine (Ss.shown_any _).mono ?_; rintro e w' ⟨rfl, rfl⟩) | (go_at_call 11; refine (Sw.addr_any _ _ _).mono ?_; rintro e w' ⟨rfl, rfl⟩))
      (go_ret; exact ⟨rfl, (by repeat (first | exact Sw.Ext.refl _ | assumption | refine Sw.Ext.alloc ?_ _ | refine Sw.Ext.drewN ?_ _ | refine Sw.Ext.drew ?_ | refine Sw.Ext.trans ?_ (by assumption)))⟩)
    | true =>
      have e2 : (Sz.addr t b == 0) = false := beq_eq_false_iff_ne.2 (Sz.addr_ne h2)
      have hi := Sz.addr_inj h1 h2
      clear h1 h2
      cases e3 : (s == t) with
      | false =>
        have e4 : (Sz.addr s a == Sz.addr t b) = false := beq_eq_false_iff_ne.2 (fun h => by have := (hi.1 h).1; simp [this] at e3)
        clear hi
        go_enter Try.func3, Try.ntmps3
        go_wp2_with (first | (go_at_call 10; refine (Ss.shown_any _).mono ?_; rintro e w' ⟨rfl, rfl⟩) | (go_at_call 11; refine (Sw.addr_any _ _ _).mono ?_; rintro e w' ⟨rfl, rfl⟩))
        (go_ret; exact ⟨rfl, (by repeat (first | exact Sw.Ext.refl _ | assumption | refine Sw.Ext.alloc ?_ _ | refine Sw.Ext.drewN ?_ _ | refine Sw.Ext.drew ?_ | refine Sw.Ext.trans ?_ (by assumption)))⟩)
      | true =>
        cases e5 : (a == b) with
        | false =>
          have e4 : (Sz.addr s a == Sz.addr t b) = false := beq_eq_false_iff_ne.2 (fun h => by have := (hi.1 h).2; simp [this] at e5)
          clear hi
          go_enter Try.func3, Try.ntmps3
          go_wp2_with (first | (go_at_call 10; refine (Ss.shown_any _).mono ?_; rintro e w' ⟨rfl, rfl⟩) | (go_at_call 11; refine (Sw.addr_any _ _ _).mono ?_; rintro e w' ⟨rfl, rfl⟩))
          (go_ret; exact ⟨rfl, (by repeat (first | exact Sw.Ext.refl _ | assumption | refine Sw.Ext.alloc ?_ _ | refine Sw.Ext.drewN ?_ _ | refine Sw.Ext.drew ?_ | refine Sw.Ext.trans ?_ (by assumption)))⟩)
        | true =>
          have e4 : (Sz.addr s a == Sz.addr t b) = true := beq_iff_eq.2 (hi.2 ⟨beq_iff_eq.1 e3, beq_iff_eq.1 e5⟩)
          clear hi
          go_enter Try.func3, Try.ntmps3
          go_wp2_with (first | (go_at_call 10; refine (Ss.shown_any _).mono ?_; rintro e w' ⟨rfl, rfl⟩) | (go_at_call 11; refine (Sw.addr_any _ _ _).mono ?_; rintro e w' ⟨rfl, rfl⟩))
          (go_ret; exact ⟨rfl, (by repeat (first | exact Sw.Ext.refl _ | assumption | refine Sw.Ext.alloc ?_ _ | refine Sw.Ext.drewN ?_ _ | refine Sw.Ext.drew ?_ | refine Sw.Ext.trans ?_ (by assumption)))⟩)

theorem walk (v0 : Value) (W : World) (r0 : Rd.V Try.prog W 23 v0) : Calls Try.prog 3 #[v0] W fun e w' => e = .returned (.bool true) ∧ Below W.heap.size W w' := by
  have k : Try.prog.cellsOf 3 = 1 := by kernel_rfl
  obtain ⟨cs, rfl, hs⟩ := r0.struct Try.underlying23
  obtain ⟨hl, _⟩ := hs.struct Try.underlying23
  rw [show Try.prog.cellsOf 23 = 4 by kernel_rfl] at hl
  match cs, hl with
  | [c0, c1, c2, c3], _ =>
    obtain ⟨s, hs0, _⟩ := (Rd.R.field Try.underlying23 hs 0 rfl 0 1 3 rfl rfl k).int Try.underlying3
    obtain rfl : c0 = .int .i64 s := by simpa using hs0
    obtain ⟨a, hs1, _⟩ := (Rd.R.field Try.underlying23 hs 1 rfl 1 1 3 rfl rfl k).int Try.underlying3
    obtain rfl : c1 = .int .i64 a := by simpa using hs1
    obtain ⟨t, hs2, _⟩ := (Rd.R.field Try.underlying23 hs 2 rfl 2 1 3 rfl rfl k).int Try.underlying3
    obtain rfl : c2 = .int .i64 t := by simpa using hs2
    obtain ⟨b, hs3, _⟩ := (Rd.R.field Try.underlying23 hs 3 rfl 3 1 3 rfl rfl k).int Try.underlying3
    obtain rfl : c3 = .int .i64 b := by simpa using hs3
    exact (go s a t b W).mono fun e w' ⟨he, hw⟩ => ⟨he, hw.below⟩

open Go.ChangeShapes Go.WideShapes Go.ChangeAt Go.RowKit
theorem own : ownKnob Try.prog.godebug = none := by kernel_rfl
theorem laidOut : laidOutB Try.prog = true := by kernel_rfl

set_option maxRecDepth 100000 in
theorem lifted (os : Os) (started : os.Started) (H : Type) (enc : TypeId × Value → H) :
    ReturnsInHanded {} Try.checked os 3 .any (Rows.sizeApartSpec.pre6 enc Try.prog Try.f3 Rows.sizeApartRow.domain false) (Rows.sizeApartSpec.post enc Try.prog Try.f3 false true false false) := by
  refine returnsInHanded_of_change_sized (C := Try.checked) own started (by kernel_rfl) Try.func3
    (ChangeSpec.witness6 (enc := enc) (C := Try.checked) false ⟨#[], #[.agg #[.int .i64 0, .int .i64 0, .int .i64 0, .int .i64 0]], []⟩ 12 (by kernel_rfl) (by kernel_rfl) (by kernel_rfl) (by kernel_rfl)) ?_
  intro W base args ds gs before hval0 hW _ hsz0 _
  have hval : ∀ (j : Nat) t v, Try.f3.params[j]? = some t → args[j]? = some v → Value.okWide Try.prog W .any base t v := hval0
  have hW' := hW
  obtain ⟨p, q, hA0, hV, rfl, _, _⟩ := hW
  have hA : DataW.TrodAll enc Try.prog W 0 (fun _ => true) true Try.f3.params.toList args.toList ds p := hA0
  obtain ⟨rfl, rfl⟩ := trodVars_none hV
  have hsz : (DataW.weightsEach Try.prog (Try.f3.params.toList ++ []) (ds ++ [])).all (· ≤ reachBytes) = true := hsz0
  rw [Try.params3] at hA hval hsz
  have hA2 := hA
  obtain ⟨v0, vs0, d0, ds0, p0, q0, hargs, rfl, rfl, h0, r0⟩ := trodAll_cons hA2
  obtain ⟨rfl, rfl, rfl⟩ := trodAll_nil r0
  obtain rfl : args = #[v0] := by cases args; simp_all
  have hR := Rd.trodAll_V hA (fun n hn => by simpa using List.all_eq_true.1 hsz n (by simpa using hn)) (fun j t v hj hv => hval j t v (by simpa using hj) (by simpa using hv))
  clear hA0 hval0 hA2
  refine (walk v0 W (hR 0 23 v0 rfl rfl)).mono fun e W' ⟨he, bel⟩ => ?_
  subst he
  exact ⟨_, rfl, _, _, _, [], _, [], hW', trodAll_mk1 (shut_bool Try.underlying4 _), Rd.trodAll_below laidOut bel (List.forall_mem_cons.2 ⟨⟨by kernel_rfl, of_decide_eq_true (by kernel_rfl)⟩, fun _ h => by cases h⟩) hA, rfl, bel.frame _, fun h => by cases h⟩

theorem over : Rows.sizeApartRow.holds Try.pinned (OpenSpec.ofChange Rows.sizeApartSpec) :=
  OpenClaim.holds_of_wide 3 Try.f3 rfl rfl rfl rfl rfl rfl rfl ⟨rfl, rfl, rfl, rfl, rfl⟩ rfl rfl rfl rfl rfl (by kernel_rfl) Try.func3 (by kernel_rfl)
    (of_decide_eq_true (by kernel_rfl)) (by unfold Func.isWrapper; first | (rw [if_pos (by decide +kernel)]; kernel_rfl) | (rw [if_neg (by decide +kernel)]; exact ⟨rfl, rfl⟩))
    (fun os started H enc _ => lifted os started H enc)

theorem proved : Rows.SizeApartSaid := over
#print axioms proved
end Go.Proofs.Ytlldfglmoeeocaa.sizeApart
