/- LogMost holds for every input: a log never has more entries than it may; what is refused changes nothing. No condition. -/
import Derived.Test.YtgfehdjahjpfhaaRows
import Derived.Test.YtgfehdjahjpfhaaSh10
import Derived.Test.YtgfehdjahjpfhaaAd
import Derived.Deep.RegionHeld3
namespace Go.Proofs.Ytgfehdjahjpfhaa.logMost
open Go.RowKit Go.Proofs.Ytgfehdjahjpfhaa Go.Proofs.Ytgfehdjahjpfhaa.En

theorem slice_of {w : World} {v : Value} {xs : List E} (h : Es w v xs) {i : Nat} (hi : i ≤ xs.length) :
    ∃ u, (∀ w', (Instr.sliceAt 22 v none (some (.int .i64 i)) none).run Try.prog w' = .ok u w') ∧ Es w u (xs.take i) := by
  obtain ⟨u, hu, hr⟩ := Row.slice_to uT sz h (k := i) hi
  exact ⟨u, hu, Es.of_row hr (by rw [cs_take])⟩

set_option maxRecDepth 100000 in
set_option maxHeartbeats 4000000 in
theorem go (v : Value) (es : List E) (x : E) (most : Int) (w : World) (h : Es w v es) : Calls Try.prog 5 #[v, .agg #[.int .u64 x.1, .int .i64 x.2], .int .i64 most] w fun e w' => e = .returned (.bool true) ∧ Ext w w' := by
  have hlen := h.len
  have hsm := h.small
  have H := Lib.hid h
  clear h
  have hb := Blk.new w #[.int .u64 x.1, .int .i64 x.2] 28
  cases hc : Ad.full es most with
  | true =>
    have HA := Lib.hid (fun w h => Ad.add_any v es x most w h)
    have e1 : Ad.addE es most = 4 := by unfold Ad.addE; rw [if_pos hc]
    have e2 : Ad.addL es most x = es := by unfold Ad.addL; rw [if_pos hc]
    rw [e1, e2] at HA; clear e1 e2
    have hc2 : decide (most ≤ (es.length : Int)) = true ∨ (decide (most ≤ (es.length : Int)) = false ∧ decide (64 ≤ (es.length : Int)) = true) := by
      unfold Ad.full at hc
      simp only [Bool.or_eq_true, decide_eq_true_eq] at hc
      by_cases hm : most ≤ (es.length : Int)
      · exact .inl (decide_eq_true hm)
      · exact .inr ⟨decide_eq_false hm, decide_eq_true (by omega)⟩
    clear hc
    rcases hc2 with hm | ⟨hm, hm2⟩
    all_goals
      go_enter Try.func5, Try.ntmps5
      go_wp2_with fail
      refine (Sh.shown_any _).mono ?_; rintro e w0 ⟨rfl, hx0⟩
      have HX0 : Hid (Ext w w0) := ((Ext.refl w).alloc _).trans hx0
      have c0 := (hb.ext hx0).cell (i := 0) rfl
      have c1 := (hb.ext hx0).cell (i := 1) rfl
      clear hx0 hb
      go_wp2_with fail
      refine (HA.out _ (H.out.ext HX0.out)).mono ?_; rintro e w1 ⟨u, rfl, hu, hx1⟩
      have HX1 := Lib.hid (HX0.out.trans hx1)
      have HU := Lib.hid hu
      clear hx1 hu
      go_wp2_with fail
      refine (same_any u v es es _ HU.out (H.out.ext HX1.out)).mono ?_; rintro e w2 ⟨he, hx2⟩
      rw [decide_eq_true rfl] at he
      subst he
      have HX2 := Lib.hid (HX1.out.trans hx2)
      clear hx2
      go_wp2_with fail
      go_ret
      exact ⟨by first | rfl | (simp; done), HX2.out⟩
  | false =>
    have HA := Lib.hid (fun w h => Ad.add_any v es x most w h)
    have e1 : Ad.addE es most = 0 := by unfold Ad.addE; rw [hc]; rfl
    have e2 : Ad.addL es most x = es ++ [x] := by unfold Ad.addL; rw [hc]; rfl
    rw [e1, e2] at HA; clear e1 e2
    have hc2 : (es.length : Int) < most ∧ es.length < 64 := by
      unfold Ad.full at hc
      simp only [Bool.or_eq_false_iff, decide_eq_false_iff_not] at hc
      omega
    clear hc
    go_enter Try.func5, Try.ntmps5
    go_wp2_with fail
    refine (Sh.shown_any _).mono ?_; rintro e w0 ⟨rfl, hx0⟩
    have HX0 : Hid (Ext w w0) := ((Ext.refl w).alloc _).trans hx0
    have c0 := (hb.ext hx0).cell (i := 0) rfl
    have c1 := (hb.ext hx0).cell (i := 1) rfl
    clear hx0 hb
    go_wp2_with fail
    refine (HA.out _ (H.out.ext HX0.out)).mono ?_; rintro e w1 ⟨u, rfl, hu, hx1⟩
    have HX1 := Lib.hid (HX0.out.trans hx1)
    have k0 : ∀ W, Ext w1 W → W.cell? ⟨w.heap.size, 0, none⟩ = some (.int .u64 x.1) := fun W h => h.cell (hx1.cell c0)
    have k1 : ∀ W, Ext w1 W → W.cell? ⟨w.heap.size, 1, none⟩ = some (.int .i64 x.2) := fun W h => h.cell (hx1.cell c1)
    have hulen := hu.len
    obtain ⟨u3, hs3, hu3⟩ := slice_of hu (i := es.length) (by simp)
    obtain ⟨b1, o1, s1, hix, g0, g1⟩ := hu.at_ es.length (by simp)
    have hg : (es ++ [x]).getD es.length (0, 0) = x := by simp [List.getD_eq_getElem?_getD]
    rw [hg] at g0 g1
    have l0 : ∀ W, Ext w1 W → W.cell? ⟨b1, o1, s1⟩ = some (.int .u64 x.1) := fun W h => h.cell g0
    have l1 : ∀ W, Ext w1 W → W.cell? ⟨b1, o1 + 1, none⟩ = some (.int .i64 x.2) := fun W h => h.cell g1
    have htk : (es ++ [x]).take es.length = es := by simp
    rw [htk] at hu3
    have HS : Hid (∀ W, Ext w1 W → Calls Try.prog 12 #[u3, v] W fun e w' => e = .returned (.bool true) ∧ Ext W w') := fun W hW => (same_any u3 v es es _ (hu3.ext hW) (H.out.ext (HX1.out.trans hW))).mono fun e w' h => ⟨by rw [h.1, decide_eq_true rfl], h.2⟩
    have heq : ∀ W : World, (Op.equalIn 10000 28 (.agg #[.int .u64 x.1, .int .i64 x.2]) (.agg #[.int .u64 x.1, .int .i64 x.2])).run Try.prog W = .ok true W := fun W => by rw [eqEntry]; simp
    obtain ⟨n, hn⟩ : ∃ n, es.length = n := ⟨_, rfl⟩
    have hul2 : (es ++ [x]).length = n + 1 := by simp [hn]
    rw [hul2] at hulen
    rw [hn] at hs3 hix hlen hsm hc2
    obtain ⟨q, hq⟩ : ∃ q : Int, (n : Int) + 1 = q := ⟨_, rfl⟩
    replace hulen : ∀ ty w', (Builtin.len_ #[22] ty #[u]).run Try.prog w' = .ok (.int .i64 q) w' := fun ty w' => by rw [hulen ty w', ← hq]; rfl
    have d1 : IntKind.i64.wrap ((n : Int) + 1) = q := by rw [hq, IntKind.wrap_i64]; omega
    have d2 : decide (q ≤ most) = true := decide_eq_true (by omega)
    have d3 : decide (q ≤ 64) = true := decide_eq_true (by omega)
    have d4 : IntKind.i64.wrap (q - 1) = (n : Int) := by rw [← hq, IntKind.wrap_i64]; omega
    clear hc2 hq hul2 hu hu3 g0 g1 hx1 c0 c1 hg htk hn
    go_wp2_with fail
    go_region_held3 (fun W : World => Ext w1 W) (first | exact (Ext.refl w1).drew | assumption | exact Ext.trans (by assumption) hx3) ((go_at_call 12; (with_reducible refine (HS.out _ (by assumption)).mono ?_); rintro e3 w3 ⟨rfl, hx3⟩))
    all_goals
      go_wp2_with fail
      go_ret
      exact ⟨by first | rfl | (simp; done), HX1.out.trans (by assumption)⟩

theorem walk (v0 : Value) (v1 : Value) (v2 : Value) (W : World) (r0 : Rd.V Try.prog W 22 v0) (r1 : Rd.V Try.prog W 28 v1) (r2 : Rd.V Try.prog W 3 v2) : Calls Try.prog 5 #[v0, v1, v2] W fun e w' => e = .returned (.bool true) ∧ Below W.heap.size W w' := by
  obtain ⟨_, _, _, rfl, h⟩ := r0.slice Try.underlying22
  obtain ⟨es, h, hw⟩ := Es.of_R h
  obtain ⟨x, rfl⟩ := Ad.entry_of r1
  obtain ⟨most, rfl, _⟩ := r2.int Try.underlying3
  exact (go _ es x most W h).mono fun e w' ⟨he, hw⟩ => ⟨he, hw.below⟩

open Go.ChangeShapes Go.WideShapes Go.ChangeAt Go.RowKit
theorem own : ownKnob Try.prog.godebug = none := by kernel_rfl
theorem laidOut : laidOutB Try.prog = true := by kernel_rfl

set_option maxRecDepth 100000 in
theorem lifted (os : Os) (started : os.Started) (H : Type) (enc : TypeId × Value → H) :
    ReturnsInHanded {} Try.checked os 5 .any (Rows.logMostSpec.pre6 enc Try.prog Try.f5 Rows.logMostRow.domain false) (Rows.logMostSpec.post enc Try.prog Try.f5 false true false false) := by
  refine returnsInHanded_of_change_sized (C := Try.checked) own started (by kernel_rfl) Try.func5
    (ChangeSpec.witness6 (enc := enc) (C := Try.checked) false ⟨#[], #[.slice none 0 0, .agg #[.int .u64 0, .int .i64 0], .int .i64 0], []⟩ 12 (by kernel_rfl) (by kernel_rfl) (by kernel_rfl) (by kernel_rfl)) ?_
  intro W base args ds gs before hval0 hW _ hsz0 _
  have hval : ∀ (j : Nat) t v, Try.f5.params[j]? = some t → args[j]? = some v → Value.okWide Try.prog W .any base t v := hval0
  have hW' := hW
  obtain ⟨p, q, hA0, hV, rfl, _, _⟩ := hW
  have hA : DataW.TrodAll enc Try.prog W 0 (fun _ => true) true Try.f5.params.toList args.toList ds p := hA0
  obtain ⟨rfl, rfl⟩ := trodVars_none hV
  have hsz : (DataW.weightsEach Try.prog (Try.f5.params.toList ++ []) (ds ++ [])).all (· ≤ reachBytes) = true := hsz0
  rw [Try.params5] at hA hval hsz
  have hA2 := hA
  obtain ⟨v0, vs0, d0, ds0, p0, q0, hargs, rfl, rfl, h0, r0⟩ := trodAll_cons hA2
  obtain ⟨v1, vs1, d1, ds1, p1, q1, rfl, rfl, rfl, h1, r1⟩ := trodAll_cons r0
  obtain ⟨v2, vs2, d2, ds2, p2, q2, rfl, rfl, rfl, h2, r2⟩ := trodAll_cons r1
  obtain ⟨rfl, rfl, rfl⟩ := trodAll_nil r2
  obtain rfl : args = #[v0, v1, v2] := by cases args; simp_all
  have hR := Rd.trodAll_V hA (fun n hn => by simpa using List.all_eq_true.1 hsz n (by simpa using hn)) (fun j t v hj hv => hval j t v (by simpa using hj) (by simpa using hv))
  clear hA0 hval0 hA2
  refine (walk v0 v1 v2 W (hR 0 22 v0 rfl rfl) (hR 1 28 v1 rfl rfl) (hR 2 3 v2 rfl rfl)).mono fun e W' ⟨he, bel⟩ => ?_
  subst he
  exact ⟨_, rfl, _, _, _, [], _, [], hW', trodAll_mk1 (shut_bool Try.underlying4 _), Rd.trodAll_below laidOut bel (List.forall_mem_cons.2 ⟨⟨by kernel_rfl, of_decide_eq_true (by kernel_rfl)⟩, List.forall_mem_cons.2 ⟨⟨by kernel_rfl, of_decide_eq_true (by kernel_rfl)⟩, List.forall_mem_cons.2 ⟨⟨by kernel_rfl, of_decide_eq_true (by kernel_rfl)⟩, fun _ h => by cases h⟩⟩⟩) hA, rfl, bel.frame _, fun h => by cases h⟩

theorem over : Rows.logMostRow.holds Try.pinned (OpenSpec.ofChange Rows.logMostSpec) :=
  OpenClaim.holds_of_wide 5 Try.f5 rfl rfl rfl rfl rfl rfl rfl ⟨rfl, rfl, rfl, rfl, rfl⟩ rfl rfl rfl rfl rfl (by kernel_rfl) Try.func5 (by kernel_rfl)
    (of_decide_eq_true (by kernel_rfl)) (by unfold Func.isWrapper; first | (rw [if_pos (by decide +kernel)]; kernel_rfl) | (rw [if_neg (by decide +kernel)]; exact ⟨rfl, rfl⟩))
    (fun os started H enc _ => lifted os started H enc)

theorem proved : Rows.LogMostSaid := over
#print axioms proved
end Go.Proofs.Ytgfehdjahjpfhaa.logMost
