/- StackNone holds for every input: turned with no addresses rows are as they were; each row keeps its length. No condition. -/
import Derived.Test.YtmkpbdibhjjmpaaRows
import Derived.Test.YtmkpbdibhjjmpaaSh9
import Derived.Test.YtmkpbdibhjjmpaaTu
namespace Go.Proofs.Ytmkpbdibhjjmpaa.stackNone
open Go.RowKit Go.Proofs.Ytmkpbdibhjjmpaa

set_option maxHeartbeats 4000000 in
theorem go (v fv tv : Value) (rows : List (List Int)) (fr to : List Int) (w : World) (h : Ma .u64 w v rows) (hf : Sl .u64 w fv fr) (ht : Sl .u64 w tv to) : Calls Try.prog 9 #[v, fv, tv] w fun e w' => e = .returned (.bool true) ∧ Ext w w' := by
  have hlen := h.len St.uT2
  have hsm := h.small
  have H := Lib.hid h
  have HF := Lib.hid hf
  have HT := Lib.hid ht
  clear h hf ht
  go_enter Try.func9, Try.ntmps9
  go_wp2_with (go_at_call 11; refine (Sh.shown_any _).mono ?_; rintro e w0 ⟨rfl, hx0⟩)
  refine (Tu.turn_any _ _ _ rows [] to _ (H.out.ext hx0) (Sl.nil _ _) (HT.out.ext hx0)).mono ?_; rintro e w1 ⟨o1, rfl, ho1, hx1⟩
  rw [Tp.turn_nil] at ho1
  have HO1 := Lib.hid ho1
  have HX1 := Lib.hid (hx0.trans hx1)
  have h1len := ho1.len St.uT2
  clear ho1 hx1
  go_wp2_with fail
  refine (Tu.turn_any _ _ _ rows fr to _ (H.out.ext HX1.out) (HF.out.ext HX1.out) (HT.out.ext HX1.out)).mono ?_; rintro e w2 ⟨o2, rfl, ho2, hx2⟩
  have HO2 := Lib.hid ho2
  have h2len : ∀ ty w', (Builtin.len_ #[34] ty #[o2]).run Try.prog w' = .ok (.int .i64 rows.length) w' := fun ty w' => by
    have := ho2.len St.uT2 ty w'
    simpa [Tp.turn] using this
  have HO1' := Lib.hid (HO1.out.ext hx2)
  have HX2 := Lib.hid (HX1.out.trans hx2)
  have H2 := Lib.hid (H.out.ext HX2.out)
  clear ho2 hx2
  obtain ⟨N, hN⟩ : ∃ N, rows.length = N := ⟨_, rfl⟩
  have HN := Lib.hid hN
  rw [hN] at hlen hsm h1len h2len
  clear hN
  go_wp2_with fail
  go_loopw [10] (fun i wr => ∃ j t : Nat, i = .int .i64 j ∧ j ≤ N ∧ wr = w2.drewN t) (fun i _ => N - (intOf i).toNat)
  case atStart => exact ⟨0, 0, rfl, Nat.zero_le _, rfl⟩
  case round =>
    obtain ⟨j, t, rfl, hj, rfl⟩ := hrel
    by_cases hlt : j < N
    · obtain ⟨p0, u0, hp0, hc0, hu0⟩ := St.rowsAt H2.out j (by have := HN.out; omega)
      obtain ⟨p1, u1, hp1, hc1, hu1⟩ := St.rowsAt HO1'.out j (by have := HN.out; omega)
      obtain ⟨p2, u2, hp2, hc2, hu2⟩ := St.rowsAt HO2.out j (by have := HN.out; simp [Tp.turn]; omega)
      have hl2 : ((Tp.turn fr to rows).getD j []).length = (rows.getD j []).length := by
        have hjr : j < rows.length := by have := HN.out; omega
        simp [Tp.turn, Tp.turnRow, List.getD_eq_getElem?_getD, hjr]
      obtain ⟨r, hr⟩ : ∃ r, rows.getD j [] = r := ⟨_, rfl⟩
      rw [hr] at hu0 hu1 hl2
      have hl0 := hu0.len Sk.uT
      have hl1 := hu1.len Sk.uT
      have hl2' := hu2.len Sk.uT
      rw [hl2] at hl2'
      have hrsm := hu0.small
      have HU0 := Lib.hid hu0
      have HU1 := Lib.hid hu1
      replace hc0 := (show w2.cell? p0 = some u0 from hc0)
      replace hc1 := (show w2.cell? p1 = some u1 from hc1)
      replace hc2 := (show w2.cell? p2 = some u2 from hc2)
      clear hu0 hu1 hu2 hr hl2
      go_wp2_with fail
      go_quiet (fail)
      go_wp2_with fail
      go_loopw [11] (fun i wr => ∃ q t : Nat, i = .int .i64 q ∧ q ≤ r.length ∧ wr = w2.drewN t) (fun i _ => r.length - (intOf i).toNat)
      case atStart => exact ⟨0, _, rfl, Nat.zero_le _, (by first | rfl | rw [World.drewN_drewN])⟩
      case round =>
        obtain ⟨q, t, rfl, hq, rfl⟩ := hrel
        by_cases hqlt : q < r.length
        · obtain ⟨p3, hp3, hc3⟩ := St.elems HU0.out q hqlt
          obtain ⟨p4, hp4, hc4⟩ := St.elems HU1.out q hqlt
          generalize r.getD q 0 = x at hc3 hc4
          go_wp2_with fail
          go_quiet (fail)
          go_wp2_with fail
          go_roundw
          case rel => exact ⟨q + 1, _, by go_num, hqlt, (by first | rfl | rw [World.drewN_drewN])⟩
          case measure => simp [intOf]; omega
        · have hqd : decide (q < r.length) = false := decide_eq_false hqlt
          go_wp2_with fail
          go_roundw
          case rel => exact ⟨j + 1, _, by go_num, hlt, (by first | rfl | rw [World.drewN_drewN])⟩
          case measure => simp [intOf]; omega
    · obtain rfl : j = N := by omega
      go_wp2_with fail
      go_ret
      exact ⟨by first | rfl | (simp; done), HX2.out.drewN t⟩

theorem walk (v0 : Value) (v1 : Value) (v2 : Value) (W : World) (r0 : Rd.V Try.prog W 34 v0) (r1 : Rd.V Try.prog W 22 v1) (r2 : Rd.V Try.prog W 22 v2) : Calls Try.prog 9 #[v0, v1, v2] W fun e w' => e = .returned (.bool true) ∧ Below W.heap.size W w' := by
  obtain ⟨_, n0, c0, rfl, h⟩ := r0.slice Try.underlying34
  obtain ⟨rows, h, _⟩ := Ma.of_R Try.underlying34 Try.underlying22 Try.underlying23 (by kernel_rfl) (by kernel_rfl) (by kernel_rfl) (by kernel_rfl) h
  obtain ⟨_, n1, c1, rfl, hf⟩ := r1.slice Try.underlying22
  obtain ⟨fr, hf, _⟩ := Sl.of_R Try.underlying22 Try.underlying23 (by kernel_rfl) (by kernel_rfl) hf
  obtain ⟨_, n2, c2, rfl, ht⟩ := r2.slice Try.underlying22
  obtain ⟨to, ht, _⟩ := Sl.of_R Try.underlying22 Try.underlying23 (by kernel_rfl) (by kernel_rfl) ht
  exact (go _ _ _ rows fr to W h hf ht).mono fun e w' ⟨he, hw⟩ => ⟨he, hw.below⟩

open Go.ChangeShapes Go.WideShapes Go.ChangeAt Go.RowKit
theorem own : ownKnob Try.prog.godebug = none := by kernel_rfl
theorem laidOut : laidOutB Try.prog = true := by kernel_rfl

set_option maxRecDepth 100000 in
theorem lifted (os : Os) (started : os.Started) (H : Type) (enc : TypeId × Value → H) :
    ReturnsInHanded {} Try.checked os 9 .any (Rows.stackNoneSpec.pre6 enc Try.prog Try.f9 Rows.stackNoneRow.domain false) (Rows.stackNoneSpec.post enc Try.prog Try.f9 false true false false) := by
  refine returnsInHanded_of_change_sized (C := Try.checked) own started (by kernel_rfl) Try.func9
    (ChangeSpec.witness6 (enc := enc) (C := Try.checked) false ⟨#[], #[.slice none 0 0, .slice none 0 0, .slice none 0 0], []⟩ 12 (by kernel_rfl) (by kernel_rfl) (by kernel_rfl) (by kernel_rfl)) ?_
  intro W base args ds gs before hval0 hW _ hsz0 _
  have hval : ∀ (j : Nat) t v, Try.f9.params[j]? = some t → args[j]? = some v → Value.okWide Try.prog W .any base t v := hval0
  have hW' := hW
  obtain ⟨p, q, hA0, hV, rfl, _, _⟩ := hW
  have hA : DataW.TrodAll enc Try.prog W 0 (fun _ => true) true Try.f9.params.toList args.toList ds p := hA0
  obtain ⟨rfl, rfl⟩ := trodVars_none hV
  have hsz : (DataW.weightsEach Try.prog (Try.f9.params.toList ++ []) (ds ++ [])).all (· ≤ reachBytes) = true := hsz0
  rw [Try.params9] at hA hval hsz
  have hA2 := hA
  obtain ⟨v0, vs0, d0, ds0, p0, q0, hargs, rfl, rfl, h0, r0⟩ := trodAll_cons hA2
  obtain ⟨v1, vs1, d1, ds1, p1, q1, rfl, rfl, rfl, h1, r1⟩ := trodAll_cons r0
  obtain ⟨v2, vs2, d2, ds2, p2, q2, rfl, rfl, rfl, h2, r2⟩ := trodAll_cons r1
  obtain ⟨rfl, rfl, rfl⟩ := trodAll_nil r2
  obtain rfl : args = #[v0, v1, v2] := by cases args; simp_all
  have hR := Rd.trodAll_V hA (fun n hn => by simpa using List.all_eq_true.1 hsz n (by simpa using hn)) (fun j t v hj hv => hval j t v (by simpa using hj) (by simpa using hv))
  clear hA0 hval0 hA2
  refine (walk v0 v1 v2 W (hR 0 34 v0 rfl rfl) (hR 1 22 v1 rfl rfl) (hR 2 22 v2 rfl rfl)).mono fun e W' ⟨he, bel⟩ => ?_
  subst he
  exact ⟨_, rfl, _, _, _, [], _, [], hW', trodAll_mk1 (shut_bool Try.underlying4 _), Rd.trodAll_below laidOut bel (List.forall_mem_cons.2 ⟨⟨by kernel_rfl, of_decide_eq_true (by kernel_rfl)⟩, List.forall_mem_cons.2 ⟨⟨by kernel_rfl, of_decide_eq_true (by kernel_rfl)⟩, List.forall_mem_cons.2 ⟨⟨by kernel_rfl, of_decide_eq_true (by kernel_rfl)⟩, fun _ h => by cases h⟩⟩⟩) hA, rfl, bel.frame _, fun h => by cases h⟩

theorem over : Rows.stackNoneRow.holds Try.pinned (OpenSpec.ofChange Rows.stackNoneSpec) :=
  OpenClaim.holds_of_wide 9 Try.f9 rfl rfl rfl rfl rfl rfl rfl ⟨rfl, rfl, rfl, rfl, rfl⟩ rfl rfl rfl rfl rfl (by kernel_rfl) Try.func9 (by kernel_rfl)
    (of_decide_eq_true (by kernel_rfl)) (by unfold Func.isWrapper; first | (rw [if_pos (by decide +kernel)]; kernel_rfl) | (rw [if_neg (by decide +kernel)]; exact ⟨rfl, rfl⟩))
    (fun os started H enc _ => lifted os started H enc)

theorem proved : Rows.StackNoneSaid := over
#print axioms proved
end Go.Proofs.Ytmkpbdibhjjmpaa.stackNone
