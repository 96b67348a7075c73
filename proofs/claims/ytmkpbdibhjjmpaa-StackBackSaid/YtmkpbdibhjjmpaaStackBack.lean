/- StackBack holds for every input: what was pushed last is popped first, and what was there is as it was. No condition. -/
import Derived.Test.YtmkpbdibhjjmpaaRows
import Derived.Test.YtmkpbdibhjjmpaaSh9
namespace Go.Proofs.Ytmkpbdibhjjmpaa.stackBack
open Go.RowKit Go.Proofs.Ytmkpbdibhjjmpaa

theorem facts (xs : List Int) (a : Int) (i : Int) (hi : i ≠ xs.length) : Sk.getV (xs ++ [a]) i = Sk.getV xs i ∧ Sk.getE (xs ++ [a]) i = Sk.getE xs i := by
  have e : Sk.inR (xs ++ [a]) i = Sk.inR xs i := by unfold Sk.inR; rw [decide_eq_decide]; simp; omega
  unfold Sk.getV Sk.getE
  rw [e]
  cases hb : Sk.inR xs i with
  | false => exact ⟨rfl, rfl⟩
  | true =>
    have := Sk.inR_iff.1 hb
    have hlt : i.toNat < xs.length := by omega
    exact ⟨by rw [if_pos rfl, if_pos rfl]; simp [List.getElem?_append_left hlt], rfl⟩

theorem last (xs : List Int) (a : Int) : Sk.getV (xs ++ [a]) xs.length = a ∧ Sk.getE (xs ++ [a]) xs.length = 0 := by
  have e : Sk.inR (xs ++ [a]) xs.length = true := Sk.inR_iff.2 (by simp; omega)
  unfold Sk.getV Sk.getE
  rw [e]
  exact ⟨by rw [if_pos rfl]; simp, rfl⟩

theorem go (v : Value) (xs : List Int) (a i : Int) (w : World) (h : Sl .u64 w v xs) : Calls Try.prog 3 #[v, .int .u64 a, .int .i64 i] w fun e w' => e = .returned (.bool true) ∧ Ext w w' := by
  have hlen := h.len Sk.uT
  have hsm := h.small
  have H := Lib.hid h
  clear h
  by_cases hc : 16 ≤ xs.length
  · have e1 : Sk.pushE xs = 4 := by unfold Sk.pushE; rw [if_pos hc]
    go_enter Try.func3, Try.ntmps3
    go_wp2_with (go_at_call 11; refine (Sh.shown_any _).mono ?_; rintro e w0 ⟨rfl, hx0⟩)
    refine (Sk.push_any v xs a _ (H.out.ext hx0)).mono ?_; rintro e w1 ⟨u, rfl, hu, hx1⟩
    go_wp2_with fail
    (go_ret; exact ⟨(by first | rfl | (simp; done) | (simp; omega)), (by repeat (first | exact Ext.refl _ | assumption | refine Ext.alloc ?_ _ | refine Ext.drewN ?_ _ | refine Ext.drew ?_ | refine Ext.trans ?_ (by assumption)))⟩)
  · have e1 : Sk.pushE xs = 0 := by unfold Sk.pushE; rw [if_neg hc]
    have e2 : Sk.pushL xs a = xs ++ [a] := by unfold Sk.pushL; rw [if_neg hc]
    have E2 := Lib.hid e2
    obtain ⟨l1, l2⟩ := last xs a
    have p1 : Sk.popE (xs ++ [a]) = 0 := by unfold Sk.popE; rw [if_neg (by simp)]
    have F := Lib.hid (facts xs a i)
    clear e2
    cases hi : (i == (xs.length : Int)) with
    | true =>
      clear F
      go_enter Try.func3, Try.ntmps3
      go_wp2_with (go_at_call 11; refine (Sh.shown_any _).mono ?_; rintro e w0 ⟨rfl, hx0⟩)
      refine (Sk.push_any v xs a _ (H.out.ext hx0)).mono ?_; rintro e w1 ⟨u, rfl, hu, hx1⟩
      rw [E2.out] at hu
      have HU := Lib.hid hu
      clear hu
      go_wp2_with fail
      refine (Sk.get_any u (xs ++ [a]) xs.length _ HU.out).mono ?_; rintro e w' ⟨rfl, rfl⟩
      go_wp2_with fail
      refine (Sk.pop_any u (xs ++ [a]) _ HU.out).mono ?_; rintro e w' ⟨u2, rfl, hu2, rfl⟩
      rw [List.dropLast_concat] at hu2
      have HU2 := Lib.hid hu2
      clear hu2
      go_wp2_with fail
      refine (Sk.get_any v xs i _ ((H.out.ext hx0).ext hx1)).mono ?_; rintro e w' ⟨rfl, rfl⟩
      go_wp2_with fail
      refine (Sk.get_any u (xs ++ [a]) i _ HU.out).mono ?_; rintro e w' ⟨rfl, rfl⟩
      go_wp2_with fail
      refine (Sk.words_any u2 v xs xs _ HU2.out ((H.out.ext hx0).ext hx1)).mono ?_; rintro e w2 ⟨rfl, hx2⟩
      go_wp2_with fail
      (go_ret; exact ⟨(by first | rfl | (simp; done) | (simp; omega)), (by repeat (first | exact Ext.refl _ | assumption | refine Ext.alloc ?_ _ | refine Ext.drewN ?_ _ | refine Ext.drew ?_ | refine Ext.trans ?_ (by assumption)))⟩)
    | false =>
      obtain ⟨f1, f2⟩ := F.out (by simpa using hi)
      go_enter Try.func3, Try.ntmps3
      go_wp2_with (go_at_call 11; refine (Sh.shown_any _).mono ?_; rintro e w0 ⟨rfl, hx0⟩)
      refine (Sk.push_any v xs a _ (H.out.ext hx0)).mono ?_; rintro e w1 ⟨u, rfl, hu, hx1⟩
      rw [E2.out] at hu
      have HU := Lib.hid hu
      clear hu
      go_wp2_with fail
      refine (Sk.get_any u (xs ++ [a]) xs.length _ HU.out).mono ?_; rintro e w' ⟨rfl, rfl⟩
      go_wp2_with fail
      refine (Sk.pop_any u (xs ++ [a]) _ HU.out).mono ?_; rintro e w' ⟨u2, rfl, hu2, rfl⟩
      rw [List.dropLast_concat] at hu2
      have HU2 := Lib.hid hu2
      clear hu2
      go_wp2_with fail
      refine (Sk.get_any v xs i _ ((H.out.ext hx0).ext hx1)).mono ?_; rintro e w' ⟨rfl, rfl⟩
      go_wp2_with fail
      refine (Sk.get_any u (xs ++ [a]) i _ HU.out).mono ?_; rintro e w' ⟨rfl, rfl⟩
      go_wp2_with fail
      refine (Sk.words_any u2 v xs xs _ HU2.out ((H.out.ext hx0).ext hx1)).mono ?_; rintro e w2 ⟨rfl, hx2⟩
      go_wp2_with fail
      (go_ret; exact ⟨(by first | rfl | (simp; done) | (simp; omega)), (by repeat (first | exact Ext.refl _ | assumption | refine Ext.alloc ?_ _ | refine Ext.drewN ?_ _ | refine Ext.drew ?_ | refine Ext.trans ?_ (by assumption)))⟩)

theorem walk (v0 : Value) (v1 : Value) (v2 : Value) (W : World) (r0 : Rd.V Try.prog W 22 v0) (r1 : Rd.V Try.prog W 23 v1) (r2 : Rd.V Try.prog W 3 v2) : Calls Try.prog 3 #[v0, v1, v2] W fun e w' => e = .returned (.bool true) ∧ Below W.heap.size W w' := by
  obtain ⟨_, n, c, rfl, h⟩ := r0.slice Try.underlying22
  obtain ⟨xs, h, _⟩ := Sl.of_R Try.underlying22 Try.underlying23 (by kernel_rfl) (by kernel_rfl) h
  obtain ⟨a, rfl, _⟩ := r1.int Try.underlying23
  obtain ⟨i, rfl, _⟩ := r2.int Try.underlying3
  exact (go _ xs a i W h).mono fun e w' ⟨he, hw⟩ => ⟨he, hw.below⟩

open Go.ChangeShapes Go.WideShapes Go.ChangeAt Go.RowKit
theorem own : ownKnob Try.prog.godebug = none := by kernel_rfl
theorem laidOut : laidOutB Try.prog = true := by kernel_rfl

set_option maxRecDepth 100000 in
theorem lifted (os : Os) (started : os.Started) (H : Type) (enc : TypeId × Value → H) :
    ReturnsInHanded {} Try.checked os 3 .any (Rows.stackBackSpec.pre6 enc Try.prog Try.f3 Rows.stackBackRow.domain false) (Rows.stackBackSpec.post enc Try.prog Try.f3 false true false false) := by
  refine returnsInHanded_of_change_sized (C := Try.checked) own started (by kernel_rfl) Try.func3
    (ChangeSpec.witness6 (enc := enc) (C := Try.checked) false ⟨#[], #[.slice none 0 0, .int .u64 0, .int .i64 0], []⟩ 12 (by kernel_rfl) (by kernel_rfl) (by kernel_rfl) (by kernel_rfl)) ?_
  intro W base args ds gs before hval0 hW _ hsz0 _
  have hval : ∀ (j : Nat) t v, Try.f3.params[j]? = some t → args[j]? = some v → Value.okWide Try.prog W .any base t v := hval0
  have hW' := hW
  obtain ⟨p, q, hA0, hV, rfl, _, _⟩ := hW
  have hA : DataW.TrodAll enc Try.prog W 0 (fun _ => true) true Try.f3.params.toList args.toList ds p := hA0
  obtain ⟨rfl, rfl⟩ := trodVars_none hV
  have hsz : (DataW.weightsEach Try.prog (Try.f3.params.toList ++ []) (ds ++ [])).all (· ≤ reachBytes) = true := hsz0
  rw [Try.params3] at hA hval hsz
  have hA2 := hA
  obtain ⟨v0, vs0, d0, ds0, p0, q0, hargs, rfl, rfl, h0, r0⟩ := trodAll_cons hA2
  obtain ⟨v1, vs1, d1, ds1, p1, q1, rfl, rfl, rfl, h1, r1⟩ := trodAll_cons r0
  obtain ⟨v2, vs2, d2, ds2, p2, q2, rfl, rfl, rfl, h2, r2⟩ := trodAll_cons r1
  obtain ⟨rfl, rfl, rfl⟩ := trodAll_nil r2
  obtain rfl : args = #[v0, v1, v2] := by cases args; simp_all
  have hR := Rd.trodAll_V hA (fun n hn => by simpa using List.all_eq_true.1 hsz n (by simpa using hn)) (fun j t v hj hv => hval j t v (by simpa using hj) (by simpa using hv))
  clear hA0 hval0 hA2
  refine (walk v0 v1 v2 W (hR 0 22 v0 rfl rfl) (hR 1 23 v1 rfl rfl) (hR 2 3 v2 rfl rfl)).mono fun e W' ⟨he, bel⟩ => ?_
  subst he
  exact ⟨_, rfl, _, _, _, [], _, [], hW', trodAll_mk1 (shut_bool Try.underlying4 _), Rd.trodAll_below laidOut bel (List.forall_mem_cons.2 ⟨⟨by kernel_rfl, of_decide_eq_true (by kernel_rfl)⟩, List.forall_mem_cons.2 ⟨⟨by kernel_rfl, of_decide_eq_true (by kernel_rfl)⟩, List.forall_mem_cons.2 ⟨⟨by kernel_rfl, of_decide_eq_true (by kernel_rfl)⟩, fun _ h => by cases h⟩⟩⟩) hA, rfl, bel.frame _, fun h => by cases h⟩

theorem over : Rows.stackBackRow.holds Try.pinned (OpenSpec.ofChange Rows.stackBackSpec) :=
  OpenClaim.holds_of_wide 3 Try.f3 rfl rfl rfl rfl rfl rfl rfl ⟨rfl, rfl, rfl, rfl, rfl⟩ rfl rfl rfl rfl rfl (by kernel_rfl) Try.func3 (by kernel_rfl)
    (of_decide_eq_true (by kernel_rfl)) (by unfold Func.isWrapper; first | (rw [if_pos (by decide +kernel)]; kernel_rfl) | (rw [if_neg (by decide +kernel)]; exact ⟨rfl, rfl⟩))
    (fun os started H enc _ => lifted os started H enc)

theorem proved : Rows.StackBackSaid := over
#print axioms proved
end Go.Proofs.Ytmkpbdibhjjmpaa.stackBack
