/- HeadBack holds for every input: a head's word is taken as it was; what is taken has that word. No condition. -/
import Derived.Test.YtlmgggnnlljfnaaRows
import Derived.Test.YtlmgggnnlljfnaaHt
namespace Go.Proofs.Ytlmgggnnlljfnaa.headBack
open Go.RowKit Go.Proofs.Ytlmgggnnlljfnaa Go.Proofs.Ytlmgggnnlljfnaa.Hd Go.Proofs.Ytlmgggnnlljfnaa.Hw Go.Proofs.Ytlmgggnnlljfnaa.Ht
set_option linter.unusedVariables false
attribute [local go_sem] Hw.eqHead

theorem back {t l m : Int} (h : rightE t l m = 0) (m0 : 0 ≤ m) : 0 ≤ wordV t l m ∧ wordV t l m ≤ 18446744073709551615 ∧ tkE (wordV t l m) = 0 ∧ tkT (wordV t l m) = t ∧ tkL (wordV t l m) = l ∧ tkM (wordV t l m) = m := by
  obtain ⟨t0, t1, l0, l1, m1, _⟩ := right_zero h m0
  have e : wordV t l m = t * 72057594037927936 + l * 4294967296 + m := by unfold wordV; rw [if_pos h]
  rw [e]
  have e1 : wT (t * 72057594037927936 + l * 4294967296 + m) = t := by unfold wT; omega
  have e2 : wL (t * 72057594037927936 + l * 4294967296 + m) = l := by unfold wL; omega
  have e3 : wM (t * 72057594037927936 + l * 4294967296 + m) = m := by unfold wM; omega
  have ok : tkOk (t * 72057594037927936 + l * 4294967296 + m) = true := by unfold tkOk; rw [e1, e2, e3, h]; rfl
  refine ⟨by omega, by omega, by unfold tkE; rw [if_pos ok], by unfold tkT; rw [if_pos ok, e1], by unfold tkL; rw [if_pos ok, e2], by unfold tkM; rw [if_pos ok, e3]⟩
theorem there {x : Int} (x0 : 0 ≤ x) (h : tkOk x = true) : rightE (tkT x) (tkL x) (tkM x) = 0 ∧ wordV (tkT x) (tkL x) (tkM x) = x ∧ 0 ≤ tkM x := by
  have e1 : tkT x = wT x := by unfold tkT; rw [if_pos h]
  have e2 : tkL x = wL x := by unfold tkL; rw [if_pos h]
  have e3 : tkM x = wM x := by unfold tkM; rw [if_pos h]
  rw [e1, e2, e3]
  have hz : rightE (wT x) (wL x) (wM x) = 0 := beq_iff_eq.1 h
  refine ⟨hz, ?_, by unfold wM; omega⟩
  unfold wordV
  rw [if_pos hz]
  unfold wT wL wM
  omega
theorem tkM_bd (x : Int) : 0 ≤ tkM x := by unfold tkM wM; split <;> omega

set_option maxHeartbeats 8000000 in
theorem go (t l m x : Int) (m0 : 0 ≤ m) (x0 : 0 ≤ x) (x1 : x ≤ 18446744073709551615) (w : World) : Calls Try.prog 6 #[.agg #[.int .i64 t, .int .i64 l, .int .u64 m], .int .u64 x] w fun e w' => e = .returned (.bool true) ∧ Ext w w' := by
  have HA : Hid (∀ w, Calls Try.prog 9 #[.agg #[.int .i64 t, .int .i64 l, .int .u64 m]] w fun e w' => e = .returned (.tuple #[.int .u64 (wordV t l m), .int .i64 (rightE t l m)]) ∧ Ext w w') := fun w => word_any t l m m0 w
  have HK := Lib.hid (fun w => take_any x x0 x1 w)
  have HV := Lib.hid (fun w => word_any (tkT x) (tkL x) (tkM x) (tkM_bd x) w)
  have HRR := Lib.hid (fun w => right_any (tkT x) (tkL x) (tkM x) w)
  have hend : ((tkE x != 0) = true ∧ True) ∨ ((tkE x != 0) = false ∧ rightE (tkT x) (tkL x) (tkM x) = 0 ∧ wordV (tkT x) (tkL x) (tkM x) = x ∧ True) := by
    cases h : tkOk x with
    | false => left; exact ⟨by unfold tkE; rw [h]; rfl, trivial⟩
    | true =>
      right
      have := there x0 h
      exact ⟨by unfold tkE; rw [h]; rfl, this.1, this.2.1, trivial⟩
  generalize rightE (tkT x) (tkL x) (tkM x) = rr at HV HRR hend
  generalize wordV (tkT x) (tkL x) (tkM x) = vv at HV hend
  generalize tkE x = te at HK hend
  generalize tkT x = tt at HK HV HRR
  generalize tkL x = tl at HK HV HRR
  generalize tkM x = tm at HK HV HRR
  cases hz : (rightE t l m == 0) with
  | false =>
    generalize rightE t l m = r at HA hz
    generalize wordV t l m = v at HA
    rcases hend with ⟨d1, d2⟩ | ⟨d1, rfl, rfl, d4⟩
    ·
      go_enter Try.func6, Try.ntmps6
      go_wp2_with fail
      refine (Hw.shown_any _).mono ?_; rintro e0 w0 ⟨rfl, hx⟩
      have HE0 := Lib.hid (Ext.trans ((Ext.refl w).alloc _) hx)
      have HB0 := Lib.hid ((Blk.new w #[.int .i64 t, .int .i64 l, .int .u64 m] 24).ext hx)
      obtain ⟨p0, p1, p2, _, _, _⟩ := HB0.out.three
      clear hx
      go_wp2_with fail
      refine (HA.out _).mono ?_; rintro e1 w1 ⟨rfl, hx⟩
      have HE1 := Lib.hid (HE0.out.trans hx)
      have HB1 := Lib.hid (HB0.out.ext hx)
      clear hx
      go_wp2_with fail
      have HE2 := HE1
      refine (HK.out _).mono ?_; rintro e3 w3 ⟨rfl, hx⟩
      have HE3 := Lib.hid (HE2.out.trans hx)
      clear hx
      go_wp2_with fail
      have HB3 := Lib.hid (Blk.new w3 #[.int .i64 tt, .int .i64 tl, .int .u64 tm] 24)
      refine (HV.out _).mono ?_; rintro e4 w4 ⟨rfl, hx⟩
      have HE4 := Lib.hid ((HE3.out.alloc _).trans hx)
      obtain ⟨p0, p1, p2, _, _, _⟩ := (HB3.out.ext hx).three
      clear hx
      go_wp2_with fail
      go_ret
      exact ⟨by first | rfl | (simp; done), HE4.out⟩
    ·
      go_enter Try.func6, Try.ntmps6
      go_wp2_with fail
      refine (Hw.shown_any _).mono ?_; rintro e0 w0 ⟨rfl, hx⟩
      have HE0 := Lib.hid (Ext.trans ((Ext.refl w).alloc _) hx)
      have HB0 := Lib.hid ((Blk.new w #[.int .i64 t, .int .i64 l, .int .u64 m] 24).ext hx)
      obtain ⟨p0, p1, p2, _, _, _⟩ := HB0.out.three
      clear hx
      go_wp2_with fail
      refine (HA.out _).mono ?_; rintro e1 w1 ⟨rfl, hx⟩
      have HE1 := Lib.hid (HE0.out.trans hx)
      have HB1 := Lib.hid (HB0.out.ext hx)
      clear hx
      go_wp2_with fail
      have HE2 := HE1
      refine (HK.out _).mono ?_; rintro e3 w3 ⟨rfl, hx⟩
      have HE3 := Lib.hid (HE2.out.trans hx)
      clear hx
      go_wp2_with fail
      have HB3 := Lib.hid (Blk.new w3 #[.int .i64 tt, .int .i64 tl, .int .u64 tm] 24)
      refine (HV.out _).mono ?_; rintro e4 w4 ⟨rfl, hx⟩
      have HE4 := Lib.hid ((HE3.out.alloc _).trans hx)
      obtain ⟨p0, p1, p2, _, _, _⟩ := (HB3.out.ext hx).three
      clear hx
      go_wp2_with fail
      refine (HRR.out _).mono ?_; rintro e5 w5 ⟨rfl, hx⟩
      have HE5 := Lib.hid (HE4.out.trans hx)
      clear hx
      go_wp2_with fail
      go_ret
      exact ⟨by first | rfl | (simp; done), HE5.out⟩
  | true =>
    have hz' : rightE t l m = 0 := beq_iff_eq.1 hz
    obtain ⟨v0, v1, g1, g2, g3, g4⟩ := back hz' m0
    rw [hz'] at HA
    have HT := Lib.hid (fun w => take_any (wordV t l m) v0 v1 w)
    rw [g1, g2, g3, g4] at HT
    clear hz hz' v0 v1 g1 g2 g3 g4
    generalize wordV t l m = v at HA HT
    rcases hend with ⟨d1, d2⟩ | ⟨d1, rfl, rfl, d4⟩
    ·
      go_enter Try.func6, Try.ntmps6
      go_wp2_with fail
      refine (Hw.shown_any _).mono ?_; rintro e0 w0 ⟨rfl, hx⟩
      have HE0 := Lib.hid (Ext.trans ((Ext.refl w).alloc _) hx)
      have HB0 := Lib.hid ((Blk.new w #[.int .i64 t, .int .i64 l, .int .u64 m] 24).ext hx)
      obtain ⟨p0, p1, p2, _, _, _⟩ := HB0.out.three
      clear hx
      go_wp2_with fail
      refine (HA.out _).mono ?_; rintro e1 w1 ⟨rfl, hx⟩
      have HE1 := Lib.hid (HE0.out.trans hx)
      have HB1 := Lib.hid (HB0.out.ext hx)
      clear hx
      go_wp2_with fail
      refine (HT.out _).mono ?_; rintro e2 w2 ⟨rfl, hx⟩
      have HE2' := Lib.hid (HE1.out.trans hx)
      obtain ⟨p0, p1, p2, _, _, _⟩ := ((HB1.out.ext hx).alloc (.cells #[.int .i64 t, .int .i64 l, .int .u64 m] 24)).three
      clear hx
      go_wp2_with fail
      have HE2 := Lib.hid (HE2'.out.alloc (.cells #[.int .i64 t, .int .i64 l, .int .u64 m] 24))
      refine (HK.out _).mono ?_; rintro e3 w3 ⟨rfl, hx⟩
      have HE3 := Lib.hid (HE2.out.trans hx)
      clear hx
      go_wp2_with fail
      have HB3 := Lib.hid (Blk.new w3 #[.int .i64 tt, .int .i64 tl, .int .u64 tm] 24)
      refine (HV.out _).mono ?_; rintro e4 w4 ⟨rfl, hx⟩
      have HE4 := Lib.hid ((HE3.out.alloc _).trans hx)
      obtain ⟨p0, p1, p2, _, _, _⟩ := (HB3.out.ext hx).three
      clear hx
      go_wp2_with fail
      go_ret
      exact ⟨by first | rfl | (simp; done), HE4.out⟩
    ·
      go_enter Try.func6, Try.ntmps6
      go_wp2_with fail
      refine (Hw.shown_any _).mono ?_; rintro e0 w0 ⟨rfl, hx⟩
      have HE0 := Lib.hid (Ext.trans ((Ext.refl w).alloc _) hx)
      have HB0 := Lib.hid ((Blk.new w #[.int .i64 t, .int .i64 l, .int .u64 m] 24).ext hx)
      obtain ⟨p0, p1, p2, _, _, _⟩ := HB0.out.three
      clear hx
      go_wp2_with fail
      refine (HA.out _).mono ?_; rintro e1 w1 ⟨rfl, hx⟩
      have HE1 := Lib.hid (HE0.out.trans hx)
      have HB1 := Lib.hid (HB0.out.ext hx)
      clear hx
      go_wp2_with fail
      refine (HT.out _).mono ?_; rintro e2 w2 ⟨rfl, hx⟩
      have HE2' := Lib.hid (HE1.out.trans hx)
      obtain ⟨p0, p1, p2, _, _, _⟩ := ((HB1.out.ext hx).alloc (.cells #[.int .i64 t, .int .i64 l, .int .u64 m] 24)).three
      clear hx
      go_wp2_with fail
      have HE2 := Lib.hid (HE2'.out.alloc (.cells #[.int .i64 t, .int .i64 l, .int .u64 m] 24))
      refine (HK.out _).mono ?_; rintro e3 w3 ⟨rfl, hx⟩
      have HE3 := Lib.hid (HE2.out.trans hx)
      clear hx
      go_wp2_with fail
      have HB3 := Lib.hid (Blk.new w3 #[.int .i64 tt, .int .i64 tl, .int .u64 tm] 24)
      refine (HV.out _).mono ?_; rintro e4 w4 ⟨rfl, hx⟩
      have HE4 := Lib.hid ((HE3.out.alloc _).trans hx)
      obtain ⟨p0, p1, p2, _, _, _⟩ := (HB3.out.ext hx).three
      clear hx
      go_wp2_with fail
      refine (HRR.out _).mono ?_; rintro e5 w5 ⟨rfl, hx⟩
      have HE5 := Lib.hid (HE4.out.trans hx)
      clear hx
      go_wp2_with fail
      go_ret
      exact ⟨by first | rfl | (simp; done), HE5.out⟩

theorem head_of {w : World} {v : Value} (h : Rd.V Try.prog w 24 v) : ∃ a b c : Int, v = .agg #[.int .i64 a, .int .i64 b, .int .u64 c] ∧ 0 ≤ c := by
  have k : Try.prog.cellsOf 3 = 1 := by kernel_rfl
  have k2 : Try.prog.cellsOf 22 = 1 := by kernel_rfl
  obtain ⟨cs, rfl, hs⟩ := h.struct Try.underlying24
  obtain ⟨hl, _⟩ := hs.struct Try.underlying24
  rw [show Try.prog.cellsOf 24 = 3 by kernel_rfl] at hl
  match cs, hl with
  | [c0, c1, c2], _ =>
    obtain ⟨a, hs0, wa⟩ := (Rd.R.field Try.underlying24 hs 0 rfl 0 1 3 rfl rfl k).int Try.underlying3
    obtain rfl : c0 = .int .i64 a := by simpa using hs0
    obtain ⟨b, hs1, wb⟩ := (Rd.R.field Try.underlying24 hs 1 rfl 1 1 3 rfl rfl k).int Try.underlying3
    obtain rfl : c1 = .int .i64 b := by simpa using hs1
    obtain ⟨m, hs2, wm⟩ := (Rd.R.field Try.underlying24 hs 2 rfl 2 1 22 rfl rfl k2).int Try.underlying22
    obtain rfl : c2 = .int .u64 m := by simpa using hs2
    exact ⟨a, b, m, rfl, (Rd.u64_bd wm).1⟩

theorem walk (v0 : Value) (v1 : Value) (W : World) (r0 : Rd.V Try.prog W 24 v0) (r1 : Rd.V Try.prog W 22 v1) : Calls Try.prog 6 #[v0, v1] W fun e w' => e = .returned (.bool true) ∧ Below W.heap.size W w' := by
  obtain ⟨a, b, c, rfl, c0⟩ := head_of r0
  obtain ⟨x, rfl, wx⟩ := r1.int Try.underlying22
  have bx := Rd.u64_bd wx
  exact (go a b c x c0 bx.1 bx.2 W).mono fun e w' ⟨he, hw⟩ => ⟨he, hw.below⟩

open Go.ChangeShapes Go.WideShapes Go.ChangeAt Go.RowKit
theorem own : ownKnob Try.prog.godebug = none := by kernel_rfl
theorem laidOut : laidOutB Try.prog = true := by kernel_rfl

set_option maxRecDepth 100000 in
theorem lifted (os : Os) (started : os.Started) (H : Type) (enc : TypeId × Value → H) :
    ReturnsInHanded {} Try.checked os 6 .any (Rows.headBackSpec.pre6 enc Try.prog Try.f6 Rows.headBackRow.domain false) (Rows.headBackSpec.post enc Try.prog Try.f6 false true false false) := by
  refine returnsInHanded_of_change_sized (C := Try.checked) own started (by kernel_rfl) Try.func6
    (ChangeSpec.witness6 (enc := enc) (C := Try.checked) false ⟨#[], #[.agg #[.int .i64 0, .int .i64 0, .int .u64 0], .int .u64 0], []⟩ 12 (by kernel_rfl) (by kernel_rfl) (by kernel_rfl) (by kernel_rfl)) ?_
  intro W base args ds gs before hval0 hW _ hsz0 _
  have hval : ∀ (j : Nat) t v, Try.f6.params[j]? = some t → args[j]? = some v → Value.okWide Try.prog W .any base t v := hval0
  have hW' := hW
  obtain ⟨p, q, hA0, hV, rfl, _, _⟩ := hW
  have hA : DataW.TrodAll enc Try.prog W 0 (fun _ => true) true Try.f6.params.toList args.toList ds p := hA0
  obtain ⟨rfl, rfl⟩ := trodVars_none hV
  have hsz : (DataW.weightsEach Try.prog (Try.f6.params.toList ++ []) (ds ++ [])).all (· ≤ reachBytes) = true := hsz0
  rw [Try.params6] at hA hval hsz
  have hA2 := hA
  obtain ⟨v0, vs0, d0, ds0, p0, q0, hargs, rfl, rfl, h0, r0⟩ := trodAll_cons hA2
  obtain ⟨v1, vs1, d1, ds1, p1, q1, rfl, rfl, rfl, h1, r1⟩ := trodAll_cons r0
  obtain ⟨rfl, rfl, rfl⟩ := trodAll_nil r1
  obtain rfl : args = #[v0, v1] := by cases args; simp_all
  have hR := Rd.trodAll_V hA (fun n hn => by simpa using List.all_eq_true.1 hsz n (by simpa using hn)) (fun j t v hj hv => hval j t v (by simpa using hj) (by simpa using hv))
  clear hA0 hval0 hA2
  refine (walk v0 v1 W (hR 0 24 v0 rfl rfl) (hR 1 22 v1 rfl rfl)).mono fun e W' ⟨he, bel⟩ => ?_
  subst he
  exact ⟨_, rfl, _, _, _, [], _, [], hW', trodAll_mk1 (shut_bool Try.underlying4 _), Rd.trodAll_below laidOut bel (List.forall_mem_cons.2 ⟨⟨by kernel_rfl, of_decide_eq_true (by kernel_rfl)⟩, List.forall_mem_cons.2 ⟨⟨by kernel_rfl, of_decide_eq_true (by kernel_rfl)⟩, fun _ h => by cases h⟩⟩) hA, rfl, bel.frame _, fun h => by cases h⟩

theorem over : Rows.headBackRow.holds Try.pinned (OpenSpec.ofChange Rows.headBackSpec) :=
  OpenClaim.holds_of_wide 6 Try.f6 rfl rfl rfl rfl rfl rfl rfl ⟨rfl, rfl, rfl, rfl, rfl⟩ rfl rfl rfl rfl rfl (by kernel_rfl) Try.func6 (by kernel_rfl)
    (of_decide_eq_true (by kernel_rfl)) (by unfold Func.isWrapper; first | (rw [if_pos (by decide +kernel)]; kernel_rfl) | (rw [if_neg (by decide +kernel)]; exact ⟨rfl, rfl⟩))
    (fun os started H enc _ => lifted os started H enc)

theorem proved : Rows.HeadBackSaid := over
#print axioms proved
end Go.Proofs.Ytlmgggnnlljfnaa.headBack
