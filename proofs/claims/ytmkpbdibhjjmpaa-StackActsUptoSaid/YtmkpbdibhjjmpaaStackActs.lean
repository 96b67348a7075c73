/- StackActs, where what comes in is of bounded bulk: what is pushed, popped, got, and all addresses, is as the document says. -/
import Derived.Test.YtmkpbdibhjjmpaaRows
import Derived.Test.YtmkpbdibhjjmpaaSh9
import Derived.Test.YtmkpbdibhjjmpaaRb
import Derived.Test.YtmkpbdibhjjmpaaRf
namespace Go.Proofs.Ytmkpbdibhjjmpaa.stackActs
open Go.RowKit Go.Proofs.Ytmkpbdibhjjmpaa

theorem go (v0 v3 : Value) (xs : List Int) (a i : Int) (rows : List (List It.U)) (w : World) (h : Sl .u64 w v0 xs) (hm : Ma .u64 w v3 (It.mat rows)) (hb : rows.flatten.length ≤ 1048576) :
    Calls Try.prog 10 #[.agg #[v0, .int .u64 a, .int .i64 i, v3]] w fun e w' => e = .returned (.bool true) ∧ Ext w w' := by
  obtain ⟨a0, c0, rfl⟩ := Row.form h
  obtain ⟨a3, c3, n3, rfl⟩ : ∃ a3 c3 n3, v3 = .slice a3 n3 c3 := by
    obtain ⟨vs, hl, hr, _⟩ := hm
    obtain ⟨a, cap, rfl⟩ := hr.form
    exact ⟨a, cap, _, rfl⟩
  have H := Lib.hid h
  have HM := Lib.hid hm
  have HB := Lib.hid hb
  clear h hm hb
  have HS : Hid (∀ (u v : Value) (ys : List Int) (W : World), Sl .u64 W u ys → Sl .u64 W v ys → Calls Try.prog 15 #[u, v] W fun e w' => e = .returned (.bool true) ∧ Ext W w') := fun u v ys W hu hv => (Sk.words_any u v ys ys W hu hv).mono fun e w' h => by
    obtain ⟨h1, m, rfl⟩ := h
    exact ⟨by rw [h1, decide_eq_true rfl], (Ext.refl W).drewN m⟩
  go_enter Try.func10, Try.ntmps10
  go_wp2_with (go_at_call 11; refine (Sh.shown_any _).mono ?_; rintro e w0 ⟨rfl, hx0⟩)
  have HX0 := Lib.hid (((Ext.refl w).alloc _).trans hx0)
  clear hx0
  refine (Sk.push_any _ xs a _ (H.out.ext HX0.out)).mono ?_; rintro e w1 ⟨p, rfl, hp, hx⟩
  have HX1 := Lib.hid (HX0.out.trans hx)
  have HP := Lib.hid hp
  clear hx hp
  go_wp2_with fail
  refine (Rf.push_any _ xs a _ (H.out.ext HX1.out)).mono ?_; rintro e w2 ⟨q, rfl, hq, hx⟩
  have HX2 := Lib.hid (HX1.out.trans hx)
  have HP2 := Lib.hid (HP.out.ext hx)
  have HQ := Lib.hid hq
  clear hx hq
  go_wp2_with fail
  refine (Sk.pop_any _ xs _ (H.out.ext HX2.out)).mono ?_; rintro e w' ⟨x, rfl, hx, rfl⟩
  have HXX := Lib.hid hx
  clear hx
  go_wp2_with fail
  refine (Rf.pop_any _ xs _ (H.out.ext HX2.out)).mono ?_; rintro e w3 ⟨y, rfl, hy, hx⟩
  have HX3 := Lib.hid (HX2.out.trans hx)
  have HP3 := Lib.hid (HP2.out.ext hx)
  have HQ3 := Lib.hid (HQ.out.ext hx)
  have HX4 := Lib.hid (HXX.out.ext hx)
  have HY := Lib.hid hy
  clear hx hy
  go_wp2_with fail
  refine (Sk.get_any _ xs i _ (H.out.ext HX3.out)).mono ?_; rintro e w' ⟨rfl, rfl⟩
  go_wp2_with fail
  refine (Rf.get_any _ xs i _ (H.out.ext HX3.out)).mono ?_; rintro e w' ⟨rfl, rfl⟩
  go_wp2_with fail
  refine (Sk.real_any _ xs i _ (H.out.ext HX3.out)).mono ?_; rintro e w' ⟨rfl, rfl⟩
  go_wp2_with fail
  refine (Rf.real_any _ xs i _ (H.out.ext HX3.out)).mono ?_; rintro e w' ⟨rfl, rfl⟩
  go_wp2_with fail
  refine (HS.out _ _ _ _ HP3.out HQ3.out).mono ?_; rintro e w4 ⟨rfl, hx⟩
  have HX5 := Lib.hid (HX3.out.trans hx)
  have HX6 := Lib.hid (HX4.out.ext hx)
  have HY2 := Lib.hid (HY.out.ext hx)
  clear hx
  go_wp2_with fail
  refine (HS.out _ _ _ _ HX6.out HY2.out).mono ?_; rintro e w5 ⟨rfl, hx⟩
  have HX7 := Lib.hid (HX5.out.trans hx)
  clear hx
  go_wp2_with fail
  refine (Rf.pall_any _ rows _ (HM.out.ext HX7.out) HB.out).mono ?_; rintro e w6 ⟨o1, rfl, ho, hx⟩
  have HX8 := Lib.hid (HX7.out.trans hx)
  have HO := Lib.hid ho
  clear hx ho
  go_wp2_with fail
  refine (Rf.all_any _ (It.mat rows) _ (HM.out.ext HX8.out) (by rw [Rb.mat_flat, It.vals_length]; exact HB.out)).mono ?_; rintro e w7 ⟨o2, rfl, ho, hx⟩
  rw [Rb.mat_flat] at ho
  have HX9 := Lib.hid (HX8.out.trans hx)
  have HO1 := Lib.hid (HO.out.ext hx)
  have HO2 := Lib.hid ho
  clear hx ho
  go_wp2_with fail
  refine (HS.out _ _ _ _ HO1.out HO2.out).mono ?_; rintro e w8 ⟨rfl, hx⟩
  have HX10 := Lib.hid (HX9.out.trans hx)
  clear hx
  go_wp2_with fail
  go_ret
  exact ⟨by first | rfl | (simp; done), HX10.out⟩

theorem walk (v0 : Value) (W : World) (r0 : Rb.V Try.prog W 42 v0 1048576) : Calls Try.prog 10 #[v0] W fun e w' => e = .returned (.bool true) ∧ Below W.heap.size W w' := by
  obtain ⟨cs, rfl, hs⟩ := r0.struct Try.underlying42
  obtain ⟨hl, _⟩ := hs.rd.struct Try.underlying42
  rw [show Try.prog.cellsOf 42 = 4 by kernel_rfl] at hl
  match cs, hl with
  | [c0, c1, c2, c3], _ =>
    have f0 := Rb.R.field Try.underlying42 hs 0 rfl 0 1 22 rfl rfl (by kernel_rfl)
    have f1 := Rb.R.field Try.underlying42 hs 1 rfl 1 1 23 rfl rfl (by kernel_rfl)
    have f2 := Rb.R.field Try.underlying42 hs 2 rfl 2 1 3 rfl rfl (by kernel_rfl)
    have f3 := Rb.R.field Try.underlying42 hs 3 rfl 3 1 34 rfl rfl (by kernel_rfl)
    obtain ⟨xs, h0, _⟩ := Sl.of_R Try.underlying22 Try.underlying23 (by kernel_rfl) (by kernel_rfl) (show Rd.R _ W _ [c0] from f0.rd)
    obtain ⟨a, ha, _⟩ := f1.rd.int Try.underlying23
    obtain rfl : c1 = .int .u64 a := by simpa using ha
    obtain ⟨i, hi, _⟩ := f2.rd.int Try.underlying3
    obtain rfl : c2 = .int .i64 i := by simpa using hi
    obtain ⟨rows, h3, wf⟩ := Ma.of_R Try.underlying34 Try.underlying22 Try.underlying23 (by kernel_rfl) (by kernel_rfl) (by kernel_rfl) (by kernel_rfl) (show Rd.R _ W _ [c3] from f3.rd)
    have hle := Rb.ma_le Try.underlying34 Try.underlying22 (by kernel_rfl) (show Rb.R _ W _ [c3] _ from f3) h3
    obtain ⟨rows, rfl⟩ := Rb.lift2 rows wf
    rw [Rb.mat_flat, It.vals_length] at hle
    exact (go c0 c3 xs a i rows W h0 h3 hle).mono fun e w' ⟨he, hw⟩ => ⟨he, hw.below⟩

open Go.ChangeShapes Go.WideShapes Go.ChangeAt Go.RowKit
theorem own : ownKnob Try.prog.godebug = none := by kernel_rfl
theorem laidOut : laidOutB Try.prog = true := by kernel_rfl

theorem contract (H : Type) (enc : TypeId × Value → H) (W : World) (base : Nat) (args : Array Value) (ds gs : List (DataW H)) (before : List MemPlace)
    (hval0 : ∀ (j : Nat) t v, Try.f10.params[j]? = some t → args[j]? = some v → Value.okWide Try.prog W .any base t v)
    (hW : DataW.Whole enc Try.prog Try.f10.params.toList Rows.stackActsSpec.vars false W args.toList ds gs before) (hk : Rows.uptoSmall H (ds ++ gs) = true)
    (hsz0 : (DataW.weightsEach Try.prog (Try.f10.params.toList ++ []) (ds ++ gs)).all (· ≤ reachBytes) = true) :
    Calls Try.prog 10 args W fun e W' => ∃ v, e = .returned v ∧ Rows.stackActsSpec.post enc Try.prog Try.f10 false true false false W args v W' := by
  have hval : ∀ (j : Nat) t v, Try.f10.params[j]? = some t → args[j]? = some v → Value.okWide Try.prog W .any base t v := hval0
  have hW' := hW
  obtain ⟨p, q, hA0, hV, rfl, _, _⟩ := hW
  have hA : DataW.TrodAll enc Try.prog W 0 (fun _ => true) true Try.f10.params.toList args.toList ds p := hA0
  obtain ⟨rfl, rfl⟩ := trodVars_none hV
  have hsz : (DataW.weightsEach Try.prog (Try.f10.params.toList ++ []) (ds ++ [])).all (· ≤ reachBytes) = true := hsz0
  have hkk := Rb.small hk
  rw [List.append_nil] at hkk
  rw [Try.params10] at hA hval hsz
  have hA2 := hA
  obtain ⟨v0, vs0, d0, ds0, p0, q0, hargs, rfl, rfl, h0, r0⟩ := trodAll_cons hA2
  obtain ⟨rfl, rfl, rfl⟩ := trodAll_nil r0
  obtain rfl : args = #[v0] := by cases args; simp_all
  have hR := Rb.trodAll_V hA (fun n hn => by simpa using List.all_eq_true.1 hsz n (by simpa using hn)) hkk (fun j t v hj hv => hval j t v (by simpa using hj) (by simpa using hv))
  clear hA0 hval0 hA2
  refine (walk v0 W (hR 0 42 v0 rfl rfl)).mono fun e W' ⟨he, bel⟩ => ?_
  subst he
  exact ⟨_, rfl, _, _, _, [], _, [], hW', trodAll_mk1 (shut_bool Try.underlying4 _), Rd.trodAll_below laidOut bel (List.forall_mem_cons.2 ⟨⟨by kernel_rfl, of_decide_eq_true (by kernel_rfl)⟩, fun _ h => by cases h⟩) hA, rfl, bel.frame _, fun h => by cases h⟩

set_option maxRecDepth 100000 in
theorem lifted (os : Os) (started : os.Started) (H : Type) (enc : TypeId × Value → H) (F : Stop.Interp) :
    ReturnsInHanded {} Try.checked os 10 .any ((Rows.OpenSpec.upto Rows.stackActsSpec).pre6 enc Try.prog Try.f10 Rows.stackActsUptoRow.domain false) (((Rows.OpenSpec.upto Rows.stackActsSpec).at F).post enc Try.prog Try.f10 false true false false) := by
  refine returnsInHanded_of_cond_sized (C := Try.checked) (s := Rows.OpenSpec.upto Rows.stackActsSpec) (k := Rows.uptoSmall) rfl own started (by kernel_rfl) Try.func10
    (OpenSpec.witness (enc := enc) (C := Try.checked) (s := Rows.OpenSpec.upto Rows.stackActsSpec) (k := Rows.uptoSmall) rfl false ⟨#[], #[.agg #[.slice none 0 0, .int .u64 0, .int .i64 0, .slice none 0 0]], []⟩ 12 (by kernel_rfl) (by kernel_rfl) (by kernel_rfl)
      (x := ([.agg [.nil, .lit (.int .u64 0), .lit (.int .i64 0), .nil]], [], [])) (by kernel_rfl) rfl (by kernel_rfl)) ?_
  intro W base args ds gs before hval hW _ hk hsz _
  exact contract H enc W base args ds gs before hval hW hk hsz

theorem proved : Rows.StackActsUptoSaid :=
  OpenClaim.holds_of_cond 10 Try.f10 rfl rfl rfl rfl rfl rfl rfl ⟨rfl, rfl, rfl, rfl, rfl⟩ rfl rfl rfl rfl rfl (by kernel_rfl) Try.func10 (by kernel_rfl)
    (of_decide_eq_true (by kernel_rfl)) (by unfold Func.isWrapper; first | (rw [if_pos (by decide +kernel)]; kernel_rfl) | (rw [if_neg (by decide +kernel)]; exact ⟨rfl, rfl⟩))
    (fun os started H enc _ F => lifted os started H enc F)
#print axioms proved
end Go.Proofs.Ytmkpbdibhjjmpaa.stackActs
