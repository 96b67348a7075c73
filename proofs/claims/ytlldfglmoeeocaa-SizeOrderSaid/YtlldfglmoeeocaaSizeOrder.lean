/- SizeOrder holds for every input: addresses of one space rise with their places, those of the second space are above, and the other one's other one is the space. No condition. -/
import Derived.Test.YtlldfglmoeeocaaRows
import Derived.Test.YtlldfglmoeeocaaRd
import Derived.Test.YtlldfglmoeeocaaSs
namespace Go.Proofs.Ytlldfglmoeeocaa.sizeOrder
open Go.RowKit Go.Proofs.Ytlldfglmoeeocaa

set_option maxHeartbeats 4000000 in
/-- The walk, the four addresses under names of their own, each test decided. -/
theorem core (s a b x y c d : Int) (G1 : Hid (∀ w, Calls Try.prog 11 #[.int .i64 s, .int .i64 a] w fun e w' => e = .returned (.int .u64 x) ∧ w = w')) (G2 : Hid (∀ w, Calls Try.prog 11 #[.int .i64 s, .int .i64 b] w fun e w' => e = .returned (.int .u64 y) ∧ w = w'))
    (G3 : Hid (∀ w, Calls Try.prog 11 #[.int .i64 1, .int .i64 a] w fun e w' => e = .returned (.int .u64 c) ∧ w = w')) (G4 : Hid (∀ w, Calls Try.prog 11 #[.int .i64 0, .int .i64 b] w fun e w' => e = .returned (.int .u64 d) ∧ w = w'))
    (f1 : (x != 0) = false ∨ ((x != 0) = true ∧ (y != 0) = false) ∨ ((x != 0) = true ∧ (y != 0) = true ∧ x < y ∧ a < b) ∨ ((x != 0) = true ∧ (y != 0) = true ∧ y ≤ x ∧ b ≤ a))
    (f2 : (c != 0) = false ∨ ((c != 0) = true ∧ (d != 0) = false) ∨ ((c != 0) = true ∧ (d != 0) = true ∧ d < c))
    (f3 : ((s != 0) = true ∧ (s != 1) = true) ∨ ((s != 0) = false ∧ (Sz.other (Sz.other s) == s) = true ∧ (Sz.other s != s) = true) ∨ ((s != 0) = true ∧ (s != 1) = false ∧ (Sz.other (Sz.other s) == s) = true ∧ (Sz.other s != s) = true)) (w : World) :
    Calls Try.prog 5 #[.int .i64 s, .int .i64 a, .int .i64 b] w fun e w' => e = .returned (.bool true) ∧ Sw.Ext w w' := by
  rcases f1 with p1 | ⟨p1, p2⟩ | ⟨p1, p2, p3, p4⟩ | ⟨p1, p2, p3, p4⟩ <;> rcases f2 with q1 | ⟨q1, q2⟩ | ⟨q1, q2, q3⟩ <;> rcases f3 with ⟨t1, t2⟩ | ⟨t1, t2, t3⟩ | ⟨t1, t2, t3, t4⟩
  all_goals
    go_enter Try.func5, Try.ntmps5
    go_wp2_with (go_at_call 10; refine (Ss.shown_any _).mono ?_; rintro e w' ⟨rfl, rfl⟩); refine (G1.out _).mono ?_; rintro e w' ⟨rfl, rfl⟩; go_wp2_with fail; refine (G2.out _).mono ?_; rintro e w' ⟨rfl, rfl⟩; go_wp2_with fail; refine (G3.out _).mono ?_; rintro e w' ⟨rfl, rfl⟩; go_wp2_with fail; refine (G4.out _).mono ?_; rintro e w' ⟨rfl, rfl⟩; go_wp2_with (go_at_call 13; refine (Sw.other_any _ _).mono ?_; rintro e w' ⟨rfl, rfl⟩)
    (go_ret; exact ⟨(by first | rfl | (simp; done) | (simp; omega)), (by repeat (first | exact Sw.Ext.refl _ | assumption | refine Sw.Ext.alloc ?_ _ | refine Sw.Ext.drewN ?_ _ | refine Sw.Ext.drew ?_ | refine Sw.Ext.trans ?_ (by assumption)))⟩)

/-- What the last line asks. -/
theorem last (s : Int) : ((s != 0) = true ∧ (s != 1) = true) ∨ ((s != 0) = false ∧ (Sz.other (Sz.other s) == s) = true ∧ (Sz.other s != s) = true) ∨ ((s != 0) = true ∧ (s != 1) = false ∧ (Sz.other (Sz.other s) == s) = true ∧ (Sz.other s != s) = true) := by
  by_cases h0 : s = 0
  · subst h0; right; left; decide
  · by_cases h1 : s = 1
    · subst h1; right; right; decide
    · exact .inl ⟨bne_iff_ne.2 h0, bne_iff_ne.2 h1⟩

theorem nz {x : Int} (h : x = 0) : (x != 0) = false := by rw [h]; rfl

theorem go (s a b : Int) (w : World) : Calls Try.prog 5 #[.int .i64 s, .int .i64 a, .int .i64 b] w fun e w' => e = .returned (.bool true) ∧ Sw.Ext w w' := by
  refine core s a b (Sz.addr s a) (Sz.addr s b) (Sz.addr 1 a) (Sz.addr 0 b) (Sw.addr_any s a) (Sw.addr_any s b) (Sw.addr_any 1 a) (Sw.addr_any 0 b) ?_ ?_ (last s) w
  · cases h1 : Sz.addrOk s a with
    | false => exact .inl (nz (Sz.addr_no h1))
    | true =>
      cases h2 : Sz.addrOk s b with
      | false => exact .inr (.inl ⟨bne_iff_ne.2 (Sz.addr_ne h1), nz (Sz.addr_no h2)⟩)
      | true =>
        by_cases hlt : a < b
        · exact .inr (.inr (.inl ⟨bne_iff_ne.2 (Sz.addr_ne h1), bne_iff_ne.2 (Sz.addr_ne h2), by rw [Sz.addr_ok h1, Sz.addr_ok h2]; omega, hlt⟩))
        · exact .inr (.inr (.inr ⟨bne_iff_ne.2 (Sz.addr_ne h1), bne_iff_ne.2 (Sz.addr_ne h2), by rw [Sz.addr_ok h1, Sz.addr_ok h2]; omega, by omega⟩))
  · cases h1 : Sz.addrOk 1 a with
    | false => exact .inl (nz (Sz.addr_no h1))
    | true =>
      cases h2 : Sz.addrOk 0 b with
      | false => exact .inr (.inl ⟨bne_iff_ne.2 (Sz.addr_ne h1), nz (Sz.addr_no h2)⟩)
      | true =>
        refine .inr (.inr ⟨bne_iff_ne.2 (Sz.addr_ne h1), bne_iff_ne.2 (Sz.addr_ne h2), ?_⟩)
        rw [Sz.addr_ok h1, Sz.addr_ok h2]; have := Sz.addrOk_iff.1 h1; have := Sz.addrOk_iff.1 h2; omega

theorem walk (v0 : Value) (v1 : Value) (v2 : Value) (W : World) (r0 : Rd.V Try.prog W 3 v0) (r1 : Rd.V Try.prog W 3 v1) (r2 : Rd.V Try.prog W 3 v2) : Calls Try.prog 5 #[v0, v1, v2] W fun e w' => e = .returned (.bool true) ∧ Below W.heap.size W w' := by
  obtain ⟨s, rfl, _⟩ := r0.int Try.underlying3
  obtain ⟨a, rfl, _⟩ := r1.int Try.underlying3
  obtain ⟨b, rfl, _⟩ := r2.int Try.underlying3
  exact (go s a b W).mono fun e w' ⟨he, hw⟩ => ⟨he, hw.below⟩

open Go.ChangeShapes Go.WideShapes Go.ChangeAt Go.RowKit
theorem own : ownKnob Try.prog.godebug = none := by kernel_rfl
theorem laidOut : laidOutB Try.prog = true := by kernel_rfl

set_option maxRecDepth 100000 in
theorem lifted (os : Os) (started : os.Started) (H : Type) (enc : TypeId × Value → H) :
    ReturnsInHanded {} Try.checked os 5 .any (Rows.sizeOrderSpec.pre6 enc Try.prog Try.f5 Rows.sizeOrderRow.domain false) (Rows.sizeOrderSpec.post enc Try.prog Try.f5 false true false false) := by
  refine returnsInHanded_of_change_sized (C := Try.checked) own started (by kernel_rfl) Try.func5
    (ChangeSpec.witness6 (enc := enc) (C := Try.checked) false ⟨#[], #[.int .i64 0, .int .i64 0, .int .i64 0], []⟩ 12 (by kernel_rfl) (by kernel_rfl) (by kernel_rfl) (by kernel_rfl)) ?_
  intro W base args ds gs before hval0 hW _ hsz0 _
  have hval : ∀ (j : Nat) t v, Try.f5.params[j]? = some t → args[j]? = some v → Value.okWide Try.prog W .any base t v := hval0
  have hW' := hW
  obtain ⟨p, q, hA0, hV, rfl, _, _⟩ := hW
  have hA : DataW.TrodAll enc Try.prog W 0 (fun _ => true) true Try.f5.params.toList args.toList ds p := hA0
  obtain ⟨rfl, rfl⟩ := trodVars_none hV
  have hsz : (DataW.weightsEach Try.prog (Try.f5.params.toList ++ []) (ds ++ [])).all (· ≤ reachBytes) = true := hsz0
  rw [Try.params5] at hA hval hsz
  have hA2 := hA
  obtain ⟨v0, vs0, d0, ds0, p0, q0, hargs, rfl, rfl, h0, r0⟩ := trodAll_cons hA2
  obtain ⟨v1, vs1, d1, ds1, p1, q1, rfl, rfl, rfl, h1, r1⟩ := trodAll_cons r0
  obtain ⟨v2, vs2, d2, ds2, p2, q2, rfl, rfl, rfl, h2, r2⟩ := trodAll_cons r1
  obtain ⟨rfl, rfl, rfl⟩ := trodAll_nil r2
  obtain rfl : args = #[v0, v1, v2] := by cases args; simp_all
  have hR := Rd.trodAll_V hA (fun n hn => by simpa using List.all_eq_true.1 hsz n (by simpa using hn)) (fun j t v hj hv => hval j t v (by simpa using hj) (by simpa using hv))
  clear hA0 hval0 hA2
  refine (walk v0 v1 v2 W (hR 0 3 v0 rfl rfl) (hR 1 3 v1 rfl rfl) (hR 2 3 v2 rfl rfl)).mono fun e W' ⟨he, bel⟩ => ?_
  subst he
  exact ⟨_, rfl, _, _, _, [], _, [], hW', trodAll_mk1 (shut_bool Try.underlying4 _), Rd.trodAll_below laidOut bel (List.forall_mem_cons.2 ⟨⟨by kernel_rfl, of_decide_eq_true (by kernel_rfl)⟩, List.forall_mem_cons.2 ⟨⟨by kernel_rfl, of_decide_eq_true (by kernel_rfl)⟩, List.forall_mem_cons.2 ⟨⟨by kernel_rfl, of_decide_eq_true (by kernel_rfl)⟩, fun _ h => by cases h⟩⟩⟩) hA, rfl, bel.frame _, fun h => by cases h⟩

theorem over : Rows.sizeOrderRow.holds Try.pinned (OpenSpec.ofChange Rows.sizeOrderSpec) :=
  OpenClaim.holds_of_wide 5 Try.f5 rfl rfl rfl rfl rfl rfl rfl ⟨rfl, rfl, rfl, rfl, rfl⟩ rfl rfl rfl rfl rfl (by kernel_rfl) Try.func5 (by kernel_rfl)
    (of_decide_eq_true (by kernel_rfl)) (by unfold Func.isWrapper; first | (rw [if_pos (by decide +kernel)]; kernel_rfl) | (rw [if_neg (by decide +kernel)]; exact ⟨rfl, rfl⟩))
    (fun os started H enc _ => lifted os started H enc)

theorem proved : Rows.SizeOrderSaid := over
#print axioms proved
end Go.Proofs.Ytlldfglmoeeocaa.sizeOrder
