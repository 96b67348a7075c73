/- LogBack holds for every input: what was added first is taken first, one by one, in order. No condition. -/
import Derived.Test.YtgfehdjahjpfhaaRows
import Derived.Test.YtgfehdjahjpfhaaSh10
import Derived.Test.YtgfehdjahjpfhaaFt
namespace Go.Proofs.Ytgfehdjahjpfhaa.logBack
open Go.RowKit Go.Proofs.Ytgfehdjahjpfhaa Go.Proofs.Ytgfehdjahjpfhaa.En

theorem take_next (es : List E) {j : Nat} (h : j < es.length) : es.take (j + 1) = es.take j ++ [es.getD j (0, 0)] := by
  rw [List.take_succ_eq_append_getElem h]
  simp [List.getD_eq_getElem?_getD, h]
theorem drop_next (es : List E) {N j : Nat} (hN : N ≤ es.length) (h : j < N) : (es.take N).drop j = es.getD j (0, 0) :: (es.take N).drop (j + 1) := by
  have hl : j < (es.take N).length := by simp; omega
  rw [List.drop_eq_getElem_cons hl]
  have : (es.take N)[j] = es.getD j (0, 0) := by simp [List.getD_eq_getElem?_getD, show j < es.length by omega]
  rw [this]

set_option maxRecDepth 100000 in
set_option maxHeartbeats 8000000 in
theorem go (v : Value) (es : List E) (w : World) (h : Es w v es) : Calls Try.prog 7 #[v] w fun e w' => e = .returned (.bool true) ∧ Ext w w' := by
  have hlen := h.len
  have hsm := h.small
  have H := Lib.hid h
  clear h
  go_enter Try.func7, Try.ntmps7
  go_wp2_with (go_at_call 10; refine (Sh.shown_any _).mono ?_; rintro e w0 ⟨rfl, hx0⟩)
  go_loopw [4, 5, 6] (fun a n i wr => ∃ (j : Nat), n = .int .i64 j ∧ i = .int .i64 j ∧ j ≤ es.length ∧ j ≤ 64 ∧ Es wr a (es.take j) ∧ Ext w wr) (fun _ _ i _ => es.length - (intOf i).toNat)
  case atStart => exact ⟨0, rfl, rfl, Nat.zero_le _, by omega, by simpa using Es.nil _, hx0⟩
  case round =>
    obtain ⟨N, rfl, rfl, hj, hj64, hL, hXr⟩ := hrel
    have hNl : N ≤ es.length := hj
    by_cases hlt : N < es.length
    · obtain ⟨b0, o0, s0, hp0, ha0, hb0⟩ := (H.out.ext hXr).at_ N hlt
      by_cases h64 : N = 64
      · have hfull : Ad.full (es.take N) 64 = true := by unfold Ad.full; simp; omega
        have HA := Lib.hid (Ad.add_any _ (es.take N) (es.getD N (0, 0)) 64 _ hL)
        have e1 : Ad.addE (es.take N) 64 = 4 := by unfold Ad.addE; rw [if_pos hfull]
        rw [e1] at HA
        obtain ⟨x, hx⟩ : ∃ x, es.getD N (0, 0) = x := ⟨_, rfl⟩
        rw [hx] at HA ha0 hb0
        have hne : ((N : Int) != 64) = false := by simp [h64]
        clear e1 hfull hx h64
        obtain ⟨x1, x2⟩ := x
        dsimp only at ha0 hb0 HA
        have HL0 := Lib.hid hL
        have HX0 := Lib.hid hXr
        clear hL hXr
        go_wp2_with fail
        refine HA.out.mono ?_; rintro e w1 ⟨u0, rfl, _, hx1⟩
        have hL := HL0.out.ext hx1
        have hXr := HX0.out.trans hx1
        clear hx1 ha0 hb0 hp0
        have HXn := Lib.hid hXr
        have HL := Lib.hid hL
        have hll := hL.len
        have hl3 : (es.take N).length = N := by simp; omega
        rw [hl3] at hll
        clear hXr hL hl3
        go_wp2_with fail
        go_loopw [4, 9] (fun a i wr => ∃ (k : Nat), i = .int .i64 k ∧ k ≤ N ∧ Es wr a ((es.take N).drop k) ∧ Ext w wr) (fun _ i _ => N - (intOf i).toNat)
        case atStart => exact ⟨0, rfl, Nat.zero_le _, by rw [List.drop_zero]; exact HL.out, HXn.out⟩
        case round =>
          obtain ⟨k, rfl, hk, hLk, hXk⟩ := hrel
          have HXk := Lib.hid hXk
          have hlk := hLk.len
          by_cases hklt : k < N
          · rw [drop_next es (by omega) hklt] at hLk hlk
            have HF := Lib.hid (Ft.first_any _ _ _ _ hLk)
            obtain ⟨b1, o1, s1, hp1, ha1, hb1⟩ := (H.out.ext HXk.out).at_ k (by omega)
            obtain ⟨x, hx⟩ : ∃ x, es.getD k (0, 0) = x := ⟨_, rfl⟩
            rw [hx] at HF ha1 hb1 hlk
            obtain ⟨x1, x2⟩ := x
            dsimp only at HF ha1 hb1
            obtain ⟨p, hp⟩ : ∃ p, ((es.take N).drop (k + 1)).length = p := ⟨_, rfl⟩
            have hps : p ≤ 64 := by rw [← hp]; simp; omega
            obtain ⟨q, hq⟩ : ∃ q : Int, (p : Int) + 1 = q := ⟨_, rfl⟩
            have HP := Lib.hid hp
            have hl4 : ((x1, x2) :: (es.take N).drop (k + 1)).length = p + 1 := by rw [List.length_cons, hp]
            rw [hl4] at hlk
            replace hlk : ∀ ty w', (Builtin.len_ #[22] ty #[_]).run Try.prog w' = .ok (.int .i64 q) w' := fun ty w' => by rw [hlk ty w', ← hq]; rfl
            have d4 : IntKind.i64.wrap (q - 1) = (p : Int) := by rw [← hq, IntKind.wrap_i64]; omega
            have d5 : ((p : Int) != q - 1) = false := by rw [← hq]; simp
            have heq : ∀ W : World, (Op.equalIn 10000 28 (.agg #[.int .u64 x1, .int .i64 x2]) (.agg #[.int .u64 x1, .int .i64 x2])).run Try.prog W = .ok true W := fun W => by rw [eqEntry]; simp
            clear hLk hXk hx hp hl4 hq
            go_wp2_with fail
            refine HF.out.mono ?_; rintro e w1 ⟨u, rfl, hu, hx1⟩
            obtain ⟨wB, hwB⟩ : ∃ wB, wB = w1.alloc (.cells #[.int .u64 x1, .int .i64 x2] 28) := ⟨_, rfl⟩
            have hxB : Ext w1 wB := hwB ▸ (Ext.refl w1).alloc _
            have hbB : Blk wB w1.heap.size #[.int .u64 x1, .int .i64 x2] 28 := hwB ▸ Blk.new w1 _ _
            have hul := hu.len
            rw [HP.out] at hul
            have HU := Lib.hid (hu.ext hxB)
            have HXB := Lib.hid ((HXk.out.trans hx1).trans hxB)
            replace ha1 := hxB.cell (hx1.cell ha1)
            replace hb1 := hxB.cell (hx1.cell hb1)
            have e0 := hbB.cell (i := 0) rfl
            have e1 := hbB.cell (i := 1) rfl
            clear hx1 hu hxB hbB
            go_wp2_with fail
            rw [← hwB]
            clear hwB
            go_quiet (fail)
            go_wp2_with fail
            go_roundw
            case rel => exact ⟨k + 1, by go_num, hklt, HU.out.ext ((Ext.refl _).drewN _), HXB.out.drewN _⟩
            case measure => simp [intOf]; omega
          · obtain rfl : k = N := by omega
            have hz : ((es.take k).drop k).length = 0 := by simp
            rw [hz] at hlk
            replace hlk : ∀ ty w', (Builtin.len_ #[22] ty #[_]).run Try.prog w' = .ok (.int .i64 0) w' := fun ty w' => hlk ty w'
            clear hLk hXk hz
            go_wp2_with fail
            go_ret
            exact ⟨by first | rfl | (simp; done), HXk.out⟩
      · have hfull : Ad.full (es.take N) 64 = false := by unfold Ad.full; simp; omega
        have HA := Lib.hid (Ad.add_any _ (es.take N) (es.getD N (0, 0)) 64 _ hL)
        have e1 : Ad.addE (es.take N) 64 = 0 := by unfold Ad.addE; rw [hfull]; rfl
        have e2 : Ad.addL (es.take N) 64 (es.getD N (0, 0)) = es.take (N + 1) := by unfold Ad.addL; rw [hfull, take_next es hlt]; rfl
        rw [e1, e2] at HA
        obtain ⟨x, hx⟩ : ∃ x, es.getD N (0, 0) = x := ⟨_, rfl⟩
        rw [hx] at HA ha0 hb0
        clear e1 e2 hfull hx hL
        obtain ⟨x1, x2⟩ := x
        dsimp only at ha0 hb0 HA
        have HX0 := Lib.hid hXr
        clear hXr
        go_wp2_with fail
        refine HA.out.mono ?_; rintro e w1 ⟨u0, rfl, hu0, hx1⟩
        have HU0 := Lib.hid hu0
        have HX1 := Lib.hid (HX0.out.trans hx1)
        clear hu0 hx1
        go_wp2_with fail
        go_roundw
        case rel => exact ⟨N + 1, by go_num, by go_num, hlt, by omega, HU0.out, HX1.out⟩
        case measure => simp [intOf]; omega
    · have hnl : ¬ (N : Int) < es.length := by omega
      clear hlt
      have HXn := Lib.hid hXr
      have HL := Lib.hid hL
      have hll := hL.len
      have hl3 : (es.take N).length = N := by simp; omega
      rw [hl3] at hll
      clear hXr hL hl3
      go_wp2_with fail
      go_loopw [4, 9] (fun a i wr => ∃ (k : Nat), i = .int .i64 k ∧ k ≤ N ∧ Es wr a ((es.take N).drop k) ∧ Ext w wr) (fun _ i _ => N - (intOf i).toNat)
      case atStart => exact ⟨0, rfl, Nat.zero_le _, by rw [List.drop_zero]; exact HL.out, HXn.out⟩
      case round =>
        obtain ⟨k, rfl, hk, hLk, hXk⟩ := hrel
        have HXk := Lib.hid hXk
        have hlk := hLk.len
        by_cases hklt : k < N
        · rw [drop_next es (by omega) hklt] at hLk hlk
          have HF := Lib.hid (Ft.first_any _ _ _ _ hLk)
          obtain ⟨b1, o1, s1, hp1, ha1, hb1⟩ := (H.out.ext HXk.out).at_ k (by omega)
          obtain ⟨x, hx⟩ : ∃ x, es.getD k (0, 0) = x := ⟨_, rfl⟩
          rw [hx] at HF ha1 hb1 hlk
          obtain ⟨x1, x2⟩ := x
          dsimp only at HF ha1 hb1
          obtain ⟨p, hp⟩ : ∃ p, ((es.take N).drop (k + 1)).length = p := ⟨_, rfl⟩
          have hps : p ≤ 64 := by rw [← hp]; simp; omega
          obtain ⟨q, hq⟩ : ∃ q : Int, (p : Int) + 1 = q := ⟨_, rfl⟩
          have HP := Lib.hid hp
          have hl4 : ((x1, x2) :: (es.take N).drop (k + 1)).length = p + 1 := by rw [List.length_cons, hp]
          rw [hl4] at hlk
          replace hlk : ∀ ty w', (Builtin.len_ #[22] ty #[_]).run Try.prog w' = .ok (.int .i64 q) w' := fun ty w' => by rw [hlk ty w', ← hq]; rfl
          have d4 : IntKind.i64.wrap (q - 1) = (p : Int) := by rw [← hq, IntKind.wrap_i64]; omega
          have d5 : ((p : Int) != q - 1) = false := by rw [← hq]; simp
          have heq : ∀ W : World, (Op.equalIn 10000 28 (.agg #[.int .u64 x1, .int .i64 x2]) (.agg #[.int .u64 x1, .int .i64 x2])).run Try.prog W = .ok true W := fun W => by rw [eqEntry]; simp
          clear hLk hXk hx hp hl4 hq
          go_wp2_with fail
          refine HF.out.mono ?_; rintro e w1 ⟨u, rfl, hu, hx1⟩
          obtain ⟨wB, hwB⟩ : ∃ wB, wB = w1.alloc (.cells #[.int .u64 x1, .int .i64 x2] 28) := ⟨_, rfl⟩
          have hxB : Ext w1 wB := hwB ▸ (Ext.refl w1).alloc _
          have hbB : Blk wB w1.heap.size #[.int .u64 x1, .int .i64 x2] 28 := hwB ▸ Blk.new w1 _ _
          have hul := hu.len
          rw [HP.out] at hul
          have HU := Lib.hid (hu.ext hxB)
          have HXB := Lib.hid ((HXk.out.trans hx1).trans hxB)
          replace ha1 := hxB.cell (hx1.cell ha1)
          replace hb1 := hxB.cell (hx1.cell hb1)
          have e0 := hbB.cell (i := 0) rfl
          have e1 := hbB.cell (i := 1) rfl
          clear hx1 hu hxB hbB
          go_wp2_with fail
          rw [← hwB]
          clear hwB
          go_quiet (fail)
          go_wp2_with fail
          go_roundw
          case rel => exact ⟨k + 1, by go_num, hklt, HU.out.ext ((Ext.refl _).drewN _), HXB.out.drewN _⟩
          case measure => simp [intOf]; omega
        · obtain rfl : k = N := by omega
          have hz : ((es.take k).drop k).length = 0 := by simp
          rw [hz] at hlk
          replace hlk : ∀ ty w', (Builtin.len_ #[22] ty #[_]).run Try.prog w' = .ok (.int .i64 0) w' := fun ty w' => hlk ty w'
          clear hLk hXk hz
          go_wp2_with fail
          go_ret
          exact ⟨by first | rfl | (simp; done), HXk.out⟩

theorem walk (v0 : Value) (W : World) (r0 : Rd.V Try.prog W 22 v0) : Calls Try.prog 7 #[v0] W fun e w' => e = .returned (.bool true) ∧ Below W.heap.size W w' := by
  obtain ⟨_, _, _, rfl, h⟩ := r0.slice Try.underlying22
  obtain ⟨es, h, hw⟩ := Es.of_R h
  exact (go _ es W h).mono fun e w' ⟨he, hw⟩ => ⟨he, hw.below⟩

open Go.ChangeShapes Go.WideShapes Go.ChangeAt Go.RowKit
theorem own : ownKnob Try.prog.godebug = none := by kernel_rfl
theorem laidOut : laidOutB Try.prog = true := by kernel_rfl

set_option maxRecDepth 100000 in
theorem lifted (os : Os) (started : os.Started) (H : Type) (enc : TypeId × Value → H) :
    ReturnsInHanded {} Try.checked os 7 .any (Rows.logBackSpec.pre6 enc Try.prog Try.f7 Rows.logBackRow.domain false) (Rows.logBackSpec.post enc Try.prog Try.f7 false true false false) := by
  refine returnsInHanded_of_change_sized (C := Try.checked) own started (by kernel_rfl) Try.func7
    (ChangeSpec.witness6 (enc := enc) (C := Try.checked) false ⟨#[], #[.slice none 0 0], []⟩ 12 (by kernel_rfl) (by kernel_rfl) (by kernel_rfl) (by kernel_rfl)) ?_
  intro W base args ds gs before hval0 hW _ hsz0 _
  have hval : ∀ (j : Nat) t v, Try.f7.params[j]? = some t → args[j]? = some v → Value.okWide Try.prog W .any base t v := hval0
  have hW' := hW
  obtain ⟨p, q, hA0, hV, rfl, _, _⟩ := hW
  have hA : DataW.TrodAll enc Try.prog W 0 (fun _ => true) true Try.f7.params.toList args.toList ds p := hA0
  obtain ⟨rfl, rfl⟩ := trodVars_none hV
  have hsz : (DataW.weightsEach Try.prog (Try.f7.params.toList ++ []) (ds ++ [])).all (· ≤ reachBytes) = true := hsz0
  rw [Try.params7] at hA hval hsz
  have hA2 := hA
  obtain ⟨v0, vs0, d0, ds0, p0, q0, hargs, rfl, rfl, h0, r0⟩ := trodAll_cons hA2
  obtain ⟨rfl, rfl, rfl⟩ := trodAll_nil r0
  obtain rfl : args = #[v0] := by cases args; simp_all
  have hR := Rd.trodAll_V hA (fun n hn => by simpa using List.all_eq_true.1 hsz n (by simpa using hn)) (fun j t v hj hv => hval j t v (by simpa using hj) (by simpa using hv))
  clear hA0 hval0 hA2
  refine (walk v0 W (hR 0 22 v0 rfl rfl)).mono fun e W' ⟨he, bel⟩ => ?_
  subst he
  exact ⟨_, rfl, _, _, _, [], _, [], hW', trodAll_mk1 (shut_bool Try.underlying4 _), Rd.trodAll_below laidOut bel (List.forall_mem_cons.2 ⟨⟨by kernel_rfl, of_decide_eq_true (by kernel_rfl)⟩, fun _ h => by cases h⟩) hA, rfl, bel.frame _, fun h => by cases h⟩

theorem over : Rows.logBackRow.holds Try.pinned (OpenSpec.ofChange Rows.logBackSpec) :=
  OpenClaim.holds_of_wide 7 Try.f7 rfl rfl rfl rfl rfl rfl rfl ⟨rfl, rfl, rfl, rfl, rfl⟩ rfl rfl rfl rfl rfl (by kernel_rfl) Try.func7 (by kernel_rfl)
    (of_decide_eq_true (by kernel_rfl)) (by unfold Func.isWrapper; first | (rw [if_pos (by decide +kernel)]; kernel_rfl) | (rw [if_neg (by decide +kernel)]; exact ⟨rfl, rfl⟩))
    (fun os started H enc _ => lifted os started H enc)

theorem proved : Rows.LogBackSaid := over
#print axioms proved
end Go.Proofs.Ytgfehdjahjpfhaa.logBack
