/- StackAll, where what comes in is of bounded bulk: all addresses that are told are in a row, none is 0, none is told twice; each that is in a row is told. -/
import Derived.Test.YtmkpbdibhjjmpaaRows
import Derived.Test.YtmkpbdibhjjmpaaSh9
import Derived.Test.YtmkpbdibhjjmpaaRb
import Derived.Test.YtmkpbdibhjjmpaaRf
import Derived.Deep.RegionHeld3
namespace Go.Proofs.Ytmkpbdibhjjmpaa.stackAll
open Go.RowKit Go.Proofs.Ytmkpbdibhjjmpaa

theorem slice_of {w : World} {v : Value} {xs : List Int} (h : Sl .u64 w v xs) {i : Nat} (hi : i < xs.length) :
    ∃ u, (∀ w', (Instr.sliceAt 22 v none (some (.int .i64 i)) none).run Try.prog w' = .ok u w') ∧ Sl .u64 w u (xs.take i) := by
  obtain ⟨u, hu, hr⟩ := Row.slice_to Sk.uT Sk.sz h (k := i) (by omega)
  exact ⟨u, hu, Sl.of_row hr (by rw [Nat.mul_one, List.map_take])⟩

theorem notin {xs : List Int} (h : xs.Nodup) {i : Nat} (hi : i < xs.length) : xs.getD i 0 ∉ xs.take i := by
  intro hm
  obtain ⟨j, hj, e⟩ := List.getElem_of_mem hm
  have hj' : j < i := by simp at hj; omega
  have e1 : xs.getD i 0 = xs[i] := by simp [List.getD_eq_getElem?_getD, hi]
  rw [e1, List.getElem_take] at e
  exact List.pairwise_iff_getElem.1 h j i (by omega) hi hj' e

theorem in_step (rows : List (List Int)) (x : Int) {m : Nat} (h : m < rows.length) : decide (x ∈ (rows.take (m + 1)).flatten) = (decide (x ∈ (rows.take m).flatten) || decide (x ∈ rows.getD m [])) := by
  rw [Rf.flat_take rows h]
  simp [List.mem_append]

theorem getD_mem {xs : List Int} {i : Nat} (h : i < xs.length) : xs.getD i 0 ∈ xs := by
  simp [List.getD_eq_getElem?_getD, h]
theorem row_mem {rows : List (List Int)} {i k : Nat} (h : i < rows.length) (hk : k < (rows.getD i []).length) : (rows.getD i []).getD k 0 ∈ rows.flatten := by
  refine List.mem_flatten.2 ⟨rows.getD i [], ?_, getD_mem hk⟩
  simp [List.getD_eq_getElem?_getD, h]

set_option maxHeartbeats 8000000 in
theorem go (v : Value) (i k : Int) (urows : List (List It.U)) (rows : List (List Int)) (hu : It.mat urows = rows) (w : World) (h : Ma .u64 w v rows) (hb : urows.flatten.length ≤ 1048576) :
    Calls Try.prog 6 #[v, .int .i64 i, .int .i64 k] w fun e w' => e = .returned (.bool true) ∧ Ext w w' := by
  have hlen := h.len St.uT2
  have hsm := h.small
  obtain ⟨M, hM⟩ : ∃ M, rows.length = M := ⟨_, rfl⟩
  rw [hM] at hlen hsm
  have HM := Lib.hid hM
  have H := Lib.hid h
  have HU := Lib.hid hu
  have HB := Lib.hid hb
  clear h hM hu hb
  go_enter Try.func6, Try.ntmps6
  go_wp2_with (go_at_call 11; refine (Sh.shown_any _).mono ?_; rintro e w0 ⟨rfl, hx0⟩)
  refine (Rf.pall_any v urows _ (by rw [HU.out]; exact H.out.ext hx0) HB.out).mono ?_; rintro e w1 ⟨o, rfl, ho, hx⟩
  have HX1 := Lib.hid (hx0.trans hx)
  rw [← Rb.mat_flat, HU.out] at ho
  clear hx0 hx
  obtain ⟨L, hL⟩ : ∃ L, Al.all rows.flatten = L := ⟨_, rfl⟩
  have HL1 : Hid (L.Nodup ∧ ∀ a, a ∈ L ↔ a ≠ 0 ∧ a ∈ rows.flatten) := ⟨hL ▸ Al.all_nodup _, fun a => hL ▸ Al.all_mem _ a⟩
  rw [hL] at ho
  clear hL
  have holen := ho.len Sk.uT
  have hosm := ho.small
  have HO := Lib.hid ho
  clear ho
  go_wp2_with fail
  go_loopw [9] (fun n wr => ∃ j : Nat, n = .int .i64 j ∧ j ≤ L.length ∧ Ext w1 wr) (fun n _ => L.length - (intOf n).toNat)
  case atStart => exact ⟨0, rfl, Nat.zero_le _, Ext.refl _⟩
  case round =>
    obtain ⟨j, rfl, hj, hXr⟩ := hrel
    obtain ⟨wn, hwn⟩ : ∃ wn, wn = wr := ⟨_, rfl⟩
    subst hwn
    have HXn := Lib.hid hXr
    clear hXr
    by_cases hlt : j < L.length
    · obtain ⟨u2, hs2, hu2⟩ := slice_of (HO.out.ext HXn.out) (i := j) hlt
      obtain ⟨p1, hp1, hc1⟩ := St.elems (HO.out.ext HXn.out) j hlt
      have hnot := notin HL1.out.1 hlt
      have hmm := (HL1.out.2 _).1 (getD_mem hlt)
      obtain ⟨x, hx⟩ : ∃ x, L.getD j 0 = x := ⟨_, rfl⟩
      rw [hx] at hnot hmm hc1
      clear hx
      have HC2 : Hid (∀ W, Ext wn W → Calls Try.prog 18 #[u2, .int .u64 x] W fun e w' => e = .returned (.bool false) ∧ W = w') := fun W hW => (St.has_any _ _ _ _ (hu2.ext hW)).mono fun e w' h => ⟨by rw [h.1, decide_eq_false hnot], h.2.symm⟩
      have hx0 : (x == 0) = false := by simpa using hmm.1
      have HMM := Lib.hid hmm.2
      have hd1 : ∀ W, Ext wn W → W.cell? p1 = some (.int .u64 x) := fun W h => h.cell hc1
      clear hu2 hnot hmm
      go_wp2_with fail
      go_loopw [10, 11] (fun a i wr => ∃ (k : Nat) (A : Bool), i = .int .i64 k ∧ a = .bool A ∧ k ≤ M ∧ Ext wn wr ∧ Hid (A = decide (x ∈ (rows.take k).flatten))) (fun _ i _ => M - (intOf i).toNat)
      case atStart => exact ⟨0, false, rfl, rfl, Nat.zero_le _, Ext.refl _, by show _ = _; simp⟩
      case round =>
        obtain ⟨k, A, rfl, rfl, hk, hXk, HA⟩ := hrel
        obtain ⟨wk, hwk⟩ : ∃ wk, wk = wr := ⟨_, rfl⟩
        subst hwk
        have HXk := Lib.hid hXk
        clear hXk
        by_cases hklt : k < M
        · obtain ⟨p3, u3, hp3, hc3, hu3⟩ := St.rowsAt (H.out.ext ((HX1.out.trans HXn.out).trans HXk.out)) k (by have := HM.out; omega)
          have HC3 : Hid (∀ W, Ext wk W → Calls Try.prog 18 #[u3, .int .u64 x] W fun e w' => e = .returned (.bool (decide (x ∈ rows.getD k []))) ∧ W = w') := fun W hW => (St.has_any _ _ _ _ (hu3.ext hW)).mono fun e w' h => ⟨h.1, h.2.symm⟩
          have hst := in_step rows x (m := k) (by have := HM.out; omega)
          rw [← HA.out] at hst
          have HST := Lib.hid hst
          clear hst
          obtain ⟨c, hc⟩ : ∃ c, decide (x ∈ rows.getD k []) = c := ⟨_, rfl⟩
          rw [hc] at HC3 HST
          have hd3 : ∀ W, Ext wk W → W.cell? p3 = some u3 := fun W h => h.cell hc3
          have hd4 : ∀ W, Ext wk W → W.cell? p1 = some (.int .u64 x) := fun W h => hd1 W (HXk.out.trans h)
          clear hc hu3 hc3
          cases A
          all_goals cases c
          all_goals
            go_wp2_with fail
            go_region_held3 (fun W : World => Ext wk W) (first | exact (Ext.refl wk).drew | assumption) ((go_at_call 18; (with_reducible refine (HC3.out _ (by assumption)).mono ?_); rintro e wq ⟨rfl, rfl⟩))
            go_wp2_with fail
            go_roundw
            case rel => first
              | exact ⟨k + 1, true, by go_num, rfl, hklt, HXk.out.trans (by assumption), by first | exact HST.out.symm | (have := HST.out; simpa using this.symm)⟩
              | exact ⟨k + 1, false, by go_num, rfl, hklt, HXk.out.trans (by assumption), by first | exact HST.out.symm | (have := HST.out; simpa using this.symm)⟩
            case measure => simp [intOf]; omega
        · have hA : A = true := by
            rw [HA.out, List.take_of_length_le (by have := HM.out; omega)]
            exact decide_eq_true HMM.out
          subst hA
          have hd5 : ∀ W, Ext wk W → W.cell? p1 = some (.int .u64 x) := fun W h => hd1 W (HXk.out.trans h)
          have HC5 : Hid (∀ W, Ext wk W → Calls Try.prog 18 #[u2, .int .u64 x] W fun e w' => e = .returned (.bool false) ∧ W = w') := fun W h => HC2.out W (HXk.out.trans h)
          go_wp2_with fail
          go_region_held3 (fun W : World => Ext wk W) (first | exact (Ext.refl wk).drew | assumption) ((go_at_call 18; (with_reducible refine (HC5.out _ (by assumption)).mono ?_); rintro e wq ⟨rfl, rfl⟩))
          go_wp2_with fail
          go_roundw
          case rel => exact ⟨j + 1, by go_num, hlt, (HXn.out.trans HXk.out).trans (by assumption)⟩
          case measure => simp [intOf]; omega
    · have hXw : Ext w wn := HX1.out.trans HXn.out
      have HXw := Lib.hid hXw
      clear hXw
      by_cases hi0 : i < 0
      · go_wp2_with fail
        go_ret
        exact ⟨by first | rfl | (simp; done), HXw.out⟩
      · obtain ⟨i', rfl⟩ := Int.eq_ofNat_of_zero_le (Int.not_lt.1 hi0)
        by_cases hi1 : i' < M
        · obtain ⟨p, u, hp, hcp, hu⟩ := St.rowsAt (H.out.ext HXw.out) i' (by have := HM.out; omega)
          have hulen := hu.len Sk.uT
          have hinm : ∀ q, q < (rows.getD i' []).length → (rows.getD i' []).getD q 0 ∈ rows.flatten := fun q hq => row_mem (by have := HM.out; omega) hq
          obtain ⟨r, hr⟩ : ∃ r, rows.getD i' [] = r := ⟨_, rfl⟩
          rw [hr] at hu hulen hinm
          have hrsm := hu.small
          have HR := Lib.hid hu
          have HIN := Lib.hid hinm
          clear hr hu hinm
          by_cases hk0 : k < 0
          · go_wp2_with fail
            go_ret
            exact ⟨by first | rfl | (simp; done), HXw.out⟩
          · obtain ⟨k', rfl⟩ := Int.eq_ofNat_of_zero_le (Int.not_lt.1 hk0)
            by_cases hk1 : k' < r.length
            · obtain ⟨p2, hp2, hc2⟩ := St.elems HR.out k' hk1
              have hin := HIN.out k' hk1
              obtain ⟨x, hx⟩ : ∃ x, r.getD k' 0 = x := ⟨_, rfl⟩
              rw [hx] at hc2 hin
              clear hx
              cases hx0 : (x == 0) with
              | true =>
                clear hin
                go_wp2_with fail
                go_ret
                exact ⟨by first | rfl | (simp; done), HXw.out⟩
              | false =>
                have hyes : x ∈ L := (HL1.out.2 _).2 ⟨by simpa using hx0, hin⟩
                have HC : Hid (Calls Try.prog 18 #[o, .int .u64 x] wn fun e w' => e = .returned (.bool true) ∧ wn = w') := (St.has_any _ _ _ _ (HO.out.ext HXn.out)).mono fun e w' h => ⟨by rw [h.1, decide_eq_true hyes], h.2.symm⟩
                clear hyes hin
                go_wp2_with fail
                refine HC.out.mono ?_; rintro e w2 ⟨rfl, rfl⟩
                go_wp2_with fail
                go_ret
                exact ⟨by first | rfl | (simp; done), HXw.out⟩
            · go_wp2_with fail
              go_ret
              exact ⟨by first | rfl | (simp; done), HXw.out⟩
        · go_wp2_with fail
          go_ret
          exact ⟨by first | rfl | (simp; done), HXw.out⟩

theorem walk (v0 : Value) (v1 : Value) (v2 : Value) (W : World) (r0 : Rb.V Try.prog W 34 v0 1048576) (r1 : Rb.V Try.prog W 3 v1 1048576) (r2 : Rb.V Try.prog W 3 v2 1048576) : Calls Try.prog 6 #[v0, v1, v2] W fun e w' => e = .returned (.bool true) ∧ Below W.heap.size W w' := by
  obtain ⟨a0, n0, c0, rfl, h⟩ := r0.slice Try.underlying34
  obtain ⟨rows, hm, wf⟩ := Ma.of_R Try.underlying34 Try.underlying22 Try.underlying23 (by kernel_rfl) (by kernel_rfl) (by kernel_rfl) (by kernel_rfl) h.rd
  have hle := Rb.ma_le Try.underlying34 Try.underlying22 (by kernel_rfl) h hm
  obtain ⟨urows, rfl⟩ := Rb.lift2 rows wf
  rw [Rb.mat_flat, It.vals_length] at hle
  obtain ⟨i, rfl, _⟩ := r1.rd.int Try.underlying3
  obtain ⟨k, rfl, _⟩ := r2.rd.int Try.underlying3
  exact (go _ i k urows _ rfl W hm hle).mono fun e w' ⟨he, hw⟩ => ⟨he, hw.below⟩

open Go.ChangeShapes Go.WideShapes Go.ChangeAt Go.RowKit
theorem own : ownKnob Try.prog.godebug = none := by kernel_rfl
theorem laidOut : laidOutB Try.prog = true := by kernel_rfl

theorem contract (H : Type) (enc : TypeId × Value → H) (W : World) (base : Nat) (args : Array Value) (ds gs : List (DataW H)) (before : List MemPlace)
    (hval0 : ∀ (j : Nat) t v, Try.f6.params[j]? = some t → args[j]? = some v → Value.okWide Try.prog W .any base t v)
    (hW : DataW.Whole enc Try.prog Try.f6.params.toList Rows.stackAllSpec.vars false W args.toList ds gs before) (hk : Rows.uptoSmall H (ds ++ gs) = true)
    (hsz0 : (DataW.weightsEach Try.prog (Try.f6.params.toList ++ []) (ds ++ gs)).all (· ≤ reachBytes) = true) :
    Calls Try.prog 6 args W fun e W' => ∃ v, e = .returned v ∧ Rows.stackAllSpec.post enc Try.prog Try.f6 false true false false W args v W' := by
  have hval : ∀ (j : Nat) t v, Try.f6.params[j]? = some t → args[j]? = some v → Value.okWide Try.prog W .any base t v := hval0
  have hW' := hW
  obtain ⟨p, q, hA0, hV, rfl, _, _⟩ := hW
  have hA : DataW.TrodAll enc Try.prog W 0 (fun _ => true) true Try.f6.params.toList args.toList ds p := hA0
  obtain ⟨rfl, rfl⟩ := trodVars_none hV
  have hsz : (DataW.weightsEach Try.prog (Try.f6.params.toList ++ []) (ds ++ [])).all (· ≤ reachBytes) = true := hsz0
  have hkk := Rb.small hk
  rw [List.append_nil] at hkk
  rw [Try.params6] at hA hval hsz
  have hA2 := hA
  obtain ⟨v0, vs0, d0, ds0, p0, q0, hargs, rfl, rfl, h0, r0⟩ := trodAll_cons hA2
  obtain ⟨v1, vs1, d1, ds1, p1, q1, rfl, rfl, rfl, h1, r1⟩ := trodAll_cons r0
  obtain ⟨v2, vs2, d2, ds2, p2, q2, rfl, rfl, rfl, h2, r2⟩ := trodAll_cons r1
  obtain ⟨rfl, rfl, rfl⟩ := trodAll_nil r2
  obtain rfl : args = #[v0, v1, v2] := by cases args; simp_all
  have hR := Rb.trodAll_V hA (fun n hn => by simpa using List.all_eq_true.1 hsz n (by simpa using hn)) hkk (fun j t v hj hv => hval j t v (by simpa using hj) (by simpa using hv))
  clear hA0 hval0 hA2
  refine (walk v0 v1 v2 W (hR 0 34 v0 rfl rfl) (hR 1 3 v1 rfl rfl) (hR 2 3 v2 rfl rfl)).mono fun e W' ⟨he, bel⟩ => ?_
  subst he
  exact ⟨_, rfl, _, _, _, [], _, [], hW', trodAll_mk1 (shut_bool Try.underlying4 _), Rd.trodAll_below laidOut bel (List.forall_mem_cons.2 ⟨⟨by kernel_rfl, of_decide_eq_true (by kernel_rfl)⟩, List.forall_mem_cons.2 ⟨⟨by kernel_rfl, of_decide_eq_true (by kernel_rfl)⟩, List.forall_mem_cons.2 ⟨⟨by kernel_rfl, of_decide_eq_true (by kernel_rfl)⟩, fun _ h => by cases h⟩⟩⟩) hA, rfl, bel.frame _, fun h => by cases h⟩

set_option maxRecDepth 100000 in
theorem lifted (os : Os) (started : os.Started) (H : Type) (enc : TypeId × Value → H) (F : Stop.Interp) :
    ReturnsInHanded {} Try.checked os 6 .any ((Rows.OpenSpec.upto Rows.stackAllSpec).pre6 enc Try.prog Try.f6 Rows.stackAllUptoRow.domain false) (((Rows.OpenSpec.upto Rows.stackAllSpec).at F).post enc Try.prog Try.f6 false true false false) := by
  refine returnsInHanded_of_cond_sized (C := Try.checked) (s := Rows.OpenSpec.upto Rows.stackAllSpec) (k := Rows.uptoSmall) rfl own started (by kernel_rfl) Try.func6
    (OpenSpec.witness (enc := enc) (C := Try.checked) (s := Rows.OpenSpec.upto Rows.stackAllSpec) (k := Rows.uptoSmall) rfl false ⟨#[], #[.slice none 0 0, .int .i64 0, .int .i64 0], []⟩ 12 (by kernel_rfl) (by kernel_rfl) (by kernel_rfl)
      (x := ([.nil, .lit (.int .i64 0), .lit (.int .i64 0)], [], [])) (by kernel_rfl) rfl (by kernel_rfl)) ?_
  intro W base args ds gs before hval hW _ hk hsz _
  exact contract H enc W base args ds gs before hval hW hk hsz

theorem proved : Rows.StackAllUptoSaid :=
  OpenClaim.holds_of_cond 6 Try.f6 rfl rfl rfl rfl rfl rfl rfl ⟨rfl, rfl, rfl, rfl, rfl⟩ rfl rfl rfl rfl rfl (by kernel_rfl) Try.func6 (by kernel_rfl)
    (of_decide_eq_true (by kernel_rfl)) (by unfold Func.isWrapper; first | (rw [if_pos (by decide +kernel)]; kernel_rfl) | (rw [if_neg (by decide +kernel)]; exact ⟨rfl, rfl⟩))
    (fun os started H enc _ F => lifted os started H enc F)
#print axioms proved
end Go.Proofs.Ytmkpbdibhjjmpaa.stackAll
