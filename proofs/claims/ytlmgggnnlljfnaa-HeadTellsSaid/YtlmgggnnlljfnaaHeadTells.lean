/- HeadTells holds for every input: which heads are right, their words, words' heads, are as the document says. No condition. -/
import Derived.Test.YtlmgggnnlljfnaaRows
import Derived.Test.YtlmgggnnlljfnaaHr
import Derived.Deep.RegionHeld3
namespace Go.Proofs.Ytlmgggnnlljfnaa.headTells
open Go.RowKit Go.Proofs.Ytlmgggnnlljfnaa Go.Proofs.Ytlmgggnnlljfnaa.Hd Go.Proofs.Ytlmgggnnlljfnaa.Hw Go.Proofs.Ytlmgggnnlljfnaa.Ht Go.Proofs.Ytlmgggnnlljfnaa.Hr
set_option linter.unusedVariables false
attribute [local go_sem] Hw.eqHead

set_option maxHeartbeats 8000000 in
theorem go (t l m x : Int) (m0 : 0 ≤ m) (x0 : 0 ≤ x) (x1 : x ≤ 18446744073709551615) (w : World) : Calls Try.prog 5 #[.agg #[.int .i64 t, .int .i64 l, .int .u64 m], .int .u64 x] w fun e w' => e = .returned (.bool true) ∧ Ext w w' := by
  have HA := Lib.hid (fun w => word_any t l m m0 w)
  have HB := Lib.hid (fun w => rword_any t l m m0 w)
  have HK := Lib.hid (fun w => take_any x x0 x1 w)
  have HL := Lib.hid (fun w => rtake_any x x0 x1 w)
  have HR := Lib.hid (fun w => right_any t l m w)
  have HS := Lib.hid (fun w => rright_any t l m m0 w)
  generalize rightE t l m = r at HA HB HR HS
  generalize wordV t l m = v at HA HB
  generalize tkE x = te at HK HL
  generalize tkT x = tt at HK HL
  generalize tkL x = tl at HK HL
  generalize tkM x = tm at HK HL
  go_enter Try.func5, Try.ntmps5
  go_wp2_with fail
  refine (Hw.shown_any _).mono ?_; rintro e0 w0 ⟨rfl, hx⟩
  have HE0 := Lib.hid (Ext.trans ((Ext.refl w).alloc _) hx)
  have HB0 := Lib.hid ((Blk.new w #[.int .i64 t, .int .i64 l, .int .u64 m] 24).ext hx)
  obtain ⟨p0, p1, p2, _, _, _⟩ := HB0.out.three
  clear hx
  go_wp2_with fail
  refine (HA.out _).mono ?_; rintro e1 w1 ⟨rfl, hx⟩
  have HE1 := Lib.hid (HE0.out.trans hx)
  have HB1 := Lib.hid (HB0.out.ext hx)
  obtain ⟨p0, p1, p2, _, _, _⟩ := HB1.out.three
  clear hx
  go_wp2_with fail
  refine (HB.out _).mono ?_; rintro e2 w2 ⟨rfl, hx⟩
  have HE2 := Lib.hid (HE1.out.trans hx)
  have HB2 := Lib.hid (HB1.out.ext hx)
  clear hx
  go_wp2_with fail
  refine (HK.out _).mono ?_; rintro e3 w3 ⟨rfl, hx⟩
  have HE3 := Lib.hid (HE2.out.trans hx)
  have HB3 := Lib.hid (HB2.out.ext hx)
  clear hx
  go_wp2_with fail
  have HC3 := Lib.hid (Blk.new w3 #[.int .i64 tt, .int .i64 tl, .int .u64 tm] 24)
  refine (HL.out _).mono ?_; rintro e4 w4 ⟨rfl, hx⟩
  have HE4 := Lib.hid ((HE3.out.alloc _).trans hx)
  have HB4 := Lib.hid ((HB3.out.alloc _).ext hx)
  have HC4 := Lib.hid (HC3.out.ext hx)
  clear hx
  go_wp2_with fail
  have HD4 := Lib.hid (Blk.new w4 #[.int .i64 tt, .int .i64 tl, .int .u64 tm] 24)
  generalize hWA : w4.alloc (.cells #[.int .i64 tt, .int .i64 tl, .int .u64 tm] 24) = WA at HD4 ⊢
  have HEA := Lib.hid (show Ext w WA from hWA ▸ HE4.out.alloc _)
  have HBA := Lib.hid (show Blk WA w.heap.size #[.int .i64 t, .int .i64 l, .int .u64 m] 24 from hWA ▸ HB4.out.alloc _)
  have HCA := Lib.hid (show Blk WA w3.heap.size #[.int .i64 tt, .int .i64 tl, .int .u64 tm] 24 from hWA ▸ HC4.out.alloc _)
  clear hWA
  have eB0 : ∀ W : World, Ext WA W → W.cell? ⟨w.heap.size, 0, none⟩ = some (.int .i64 t) := fun W h => (HBA.out.ext h).three.1
  have eB1 : ∀ W : World, Ext WA W → W.cell? ⟨w.heap.size, 1, none⟩ = some (.int .i64 l) := fun W h => (HBA.out.ext h).three.2.1
  have eB2 : ∀ W : World, Ext WA W → W.cell? ⟨w.heap.size, 2, none⟩ = some (.int .u64 m) := fun W h => (HBA.out.ext h).three.2.2.1
  have eC0 : ∀ W : World, Ext WA W → W.cell? ⟨w3.heap.size, 0, none⟩ = some (.int .i64 tt) := fun W h => (HCA.out.ext h).three.1
  have eC1 : ∀ W : World, Ext WA W → W.cell? ⟨w3.heap.size, 1, none⟩ = some (.int .i64 tl) := fun W h => (HCA.out.ext h).three.2.1
  have eC2 : ∀ W : World, Ext WA W → W.cell? ⟨w3.heap.size, 2, none⟩ = some (.int .u64 tm) := fun W h => (HCA.out.ext h).three.2.2.1
  have eD0 : ∀ W : World, Ext WA W → W.cell? ⟨w4.heap.size, 0, none⟩ = some (.int .i64 tt) := fun W h => (HD4.out.ext h).three.1
  have eD1 : ∀ W : World, Ext WA W → W.cell? ⟨w4.heap.size, 1, none⟩ = some (.int .i64 tl) := fun W h => (HD4.out.ext h).three.2.1
  have eD2 : ∀ W : World, Ext WA W → W.cell? ⟨w4.heap.size, 2, none⟩ = some (.int .u64 tm) := fun W h => (HD4.out.ext h).three.2.2.1
  go_region_held3 (fun W : World => Ext WA W) (first | exact (Ext.refl WA).drew | exact Ext.trans (by assumption) hxq) (first
    | (go_at_call 10; (with_reducible refine (HR.out _).mono ?_); rintro e wq ⟨rfl, hxq⟩)
    | (go_at_call 15; (with_reducible refine (HS.out _).mono ?_); rintro e wq ⟨rfl, hxq⟩))
  all_goals
    go_wp2_with fail
    go_ret
    exact ⟨by first | rfl | (simp; done), HEA.out.trans (by assumption)⟩

theorem head_of {w : World} {v : Value} (h : Rd.V Try.prog w 24 v) : ∃ a b c : Int, v = .agg #[.int .i64 a, .int .i64 b, .int .u64 c] ∧ 0 ≤ c := by
  have k : Try.prog.cellsOf 3 = 1 := by kernel_rfl
  have k2 : Try.prog.cellsOf 22 = 1 := by kernel_rfl
  obtain ⟨cs, rfl, hs⟩ := h.struct Try.underlying24
  obtain ⟨hl, _⟩ := hs.struct Try.underlying24
  rw [show Try.prog.cellsOf 24 = 3 by kernel_rfl] at hl
  match cs, hl with
  | [c0, c1, c2], _ =>
    obtain ⟨a, hs0, wa⟩ := (Rd.R.field Try.underlying24 hs 0 rfl 0 1 3 rfl rfl k).int Try.underlying3
    obtain rfl : c0 = .int .i64 a := by simpa using hs0
    obtain ⟨b, hs1, wb⟩ := (Rd.R.field Try.underlying24 hs 1 rfl 1 1 3 rfl rfl k).int Try.underlying3
    obtain rfl : c1 = .int .i64 b := by simpa using hs1
    obtain ⟨m, hs2, wm⟩ := (Rd.R.field Try.underlying24 hs 2 rfl 2 1 22 rfl rfl k2).int Try.underlying22
    obtain rfl : c2 = .int .u64 m := by simpa using hs2
    exact ⟨a, b, m, rfl, (Rd.u64_bd wm).1⟩

theorem walk (v0 : Value) (v1 : Value) (W : World) (r0 : Rd.V Try.prog W 24 v0) (r1 : Rd.V Try.prog W 22 v1) : Calls Try.prog 5 #[v0, v1] W fun e w' => e = .returned (.bool true) ∧ Below W.heap.size W w' := by
  obtain ⟨a, b, c, rfl, c0⟩ := head_of r0
  obtain ⟨x, rfl, wx⟩ := r1.int Try.underlying22
  have bx := Rd.u64_bd wx
  exact (go a b c x c0 bx.1 bx.2 W).mono fun e w' ⟨he, hw⟩ => ⟨he, hw.below⟩

open Go.ChangeShapes Go.WideShapes Go.ChangeAt Go.RowKit
theorem own : ownKnob Try.prog.godebug = none := by kernel_rfl
theorem laidOut : laidOutB Try.prog = true := by kernel_rfl

set_option maxRecDepth 100000 in
theorem lifted (os : Os) (started : os.Started) (H : Type) (enc : TypeId × Value → H) :
    ReturnsInHanded {} Try.checked os 5 .any (Rows.headTellsSpec.pre6 enc Try.prog Try.f5 Rows.headTellsRow.domain false) (Rows.headTellsSpec.post enc Try.prog Try.f5 false true false false) := by
  refine returnsInHanded_of_change_sized (C := Try.checked) own started (by kernel_rfl) Try.func5
    (ChangeSpec.witness6 (enc := enc) (C := Try.checked) false ⟨#[], #[.agg #[.int .i64 0, .int .i64 0, .int .u64 0], .int .u64 0], []⟩ 12 (by kernel_rfl) (by kernel_rfl) (by kernel_rfl) (by kernel_rfl)) ?_
  intro W base args ds gs before hval0 hW _ hsz0 _
  have hval : ∀ (j : Nat) t v, Try.f5.params[j]? = some t → args[j]? = some v → Value.okWide Try.prog W .any base t v := hval0
  have hW' := hW
  obtain ⟨p, q, hA0, hV, rfl, _, _⟩ := hW
  have hA : DataW.TrodAll enc Try.prog W 0 (fun _ => true) true Try.f5.params.toList args.toList ds p := hA0
  obtain ⟨rfl, rfl⟩ := trodVars_none hV
  have hsz : (DataW.weightsEach Try.prog (Try.f5.params.toList ++ []) (ds ++ [])).all (· ≤ reachBytes) = true := hsz0
  rw [Try.params5] at hA hval hsz
  have hA2 := hA
  obtain ⟨v0, vs0, d0, ds0, p0, q0, hargs, rfl, rfl, h0, r0⟩ := trodAll_cons hA2
  obtain ⟨v1, vs1, d1, ds1, p1, q1, rfl, rfl, rfl, h1, r1⟩ := trodAll_cons r0
  obtain ⟨rfl, rfl, rfl⟩ := trodAll_nil r1
  obtain rfl : args = #[v0, v1] := by cases args; simp_all
  have hR := Rd.trodAll_V hA (fun n hn => by simpa using List.all_eq_true.1 hsz n (by simpa using hn)) (fun j t v hj hv => hval j t v (by simpa using hj) (by simpa using hv))
  clear hA0 hval0 hA2
  refine (walk v0 v1 W (hR 0 24 v0 rfl rfl) (hR 1 22 v1 rfl rfl)).mono fun e W' ⟨he, bel⟩ => ?_
  subst he
  exact ⟨_, rfl, _, _, _, [], _, [], hW', trodAll_mk1 (shut_bool Try.underlying4 _), Rd.trodAll_below laidOut bel (List.forall_mem_cons.2 ⟨⟨by kernel_rfl, of_decide_eq_true (by kernel_rfl)⟩, List.forall_mem_cons.2 ⟨⟨by kernel_rfl, of_decide_eq_true (by kernel_rfl)⟩, fun _ h => by cases h⟩⟩) hA, rfl, bel.frame _, fun h => by cases h⟩

theorem over : Rows.headTellsRow.holds Try.pinned (OpenSpec.ofChange Rows.headTellsSpec) :=
  OpenClaim.holds_of_wide 5 Try.f5 rfl rfl rfl rfl rfl rfl rfl ⟨rfl, rfl, rfl, rfl, rfl⟩ rfl rfl rfl rfl rfl (by kernel_rfl) Try.func5 (by kernel_rfl)
    (of_decide_eq_true (by kernel_rfl)) (by unfold Func.isWrapper; first | (rw [if_pos (by decide +kernel)]; kernel_rfl) | (rw [if_neg (by decide +kernel)]; exact ⟨rfl, rfl⟩))
    (fun os started H enc _ => lifted os started H enc)

theorem proved : Rows.HeadTellsSaid := over
#print axioms proved
end Go.Proofs.Ytlmgggnnlljfnaa.headTells
