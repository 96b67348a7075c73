/- NumBack holds for every input: small parts that were packed come out, and other bits of a word don't count. No condition. -/
import Derived.Test.YtijjaekjphenaaaRows
import Derived.Test.YtijjaekjphenaaaRd
import Derived.Test.YtijjaekjphenaaaSh
namespace Go.Proofs.Ytijjaekjphenaaa.numBack
open Go.RowKit Go.Proofs.Ytijjaekjphenaaa

theorem go (x y a : Int) (a0 : 0 ≤ a) (a1 : a ≤ 18446744073709551615) (w : World) : Calls Try.prog 5 #[.int .i64 x, .int .i64 y, .int .u64 a] w fun e w' => e = .returned (.bool true) ∧ w = w' := by
  have e1 : (Nm.packW (Nm.reW a) (Nm.imW a) == Nm.normW a) = true := beq_iff_eq.2 (Nm.pack_parts a)
  have e2 : (Nm.addW a 0 == Nm.normW a) = true := beq_iff_eq.2 (Nm.add_zero a)
  have n1 : Nm.normW a ≤ 4294967295 := by unfold Nm.normW; omega
  obtain ⟨b1, b2⟩ := Nm.re_bd (Nm.packW x y)
  obtain ⟨b3, b4⟩ := Nm.im_bd (Nm.packW x y)
  by_cases hin : (-32768 ≤ x ∧ x ≤ 32767) ∧ -32768 ≤ y ∧ y ≤ 32767
  · obtain ⟨⟨x0, x1⟩, y0, y1⟩ := hin
    have f1 : (Nm.reW (Nm.packW x y) != x) = false := by rw [Nm.re_pack, Nm.s16_id x0 x1]; simp
    have f2 : (Nm.imW (Nm.packW x y) != y) = false := by rw [Nm.im_pack, Nm.s16_id y0 y1]; simp
    go_enter Try.func5, Try.ntmps5
    go_wp2_with (first | (go_at_call 11; refine (Sh.shown_any _).mono ?_; rintro e w' ⟨rfl, rfl⟩) | (go_at_call 16; refine (Nw.pack_any _ _ _).mono ?_; rintro e w' ⟨rfl, rfl⟩) | (go_at_call 14; refine (Nw.parts_any _ _).mono ?_; rintro e w' ⟨rfl, rfl⟩) | (go_at_call 17; refine (Nw.norm_any _ (by omega) (by omega) _).mono ?_; rintro e w' ⟨rfl, rfl⟩) | (go_at_call 12; refine (Nw.add_any _ _ _).mono ?_; rintro e w' ⟨rfl, rfl⟩))
    go_ret
    exact ⟨rfl, rfl⟩
  · have hc : x < -32768 ∨ 32767 < x ∨ y < -32768 ∨ 32767 < y := by omega
    clear hin
    by_cases h1 : -32768 ≤ x
    · by_cases h2 : x ≤ 32767
      · by_cases h3 : -32768 ≤ y
        · have h4 : 32767 < y := by omega
          clear hc
          go_enter Try.func5, Try.ntmps5
          go_wp2_with (first | (go_at_call 11; refine (Sh.shown_any _).mono ?_; rintro e w' ⟨rfl, rfl⟩) | (go_at_call 16; refine (Nw.pack_any _ _ _).mono ?_; rintro e w' ⟨rfl, rfl⟩) | (go_at_call 14; refine (Nw.parts_any _ _).mono ?_; rintro e w' ⟨rfl, rfl⟩) | (go_at_call 17; refine (Nw.norm_any _ (by omega) (by omega) _).mono ?_; rintro e w' ⟨rfl, rfl⟩) | (go_at_call 12; refine (Nw.add_any _ _ _).mono ?_; rintro e w' ⟨rfl, rfl⟩))
          go_ret
          exact ⟨rfl, rfl⟩
        · have h3' : y < -32768 := by omega
          clear hc h3
          go_enter Try.func5, Try.ntmps5
          go_wp2_with (first | (go_at_call 11; refine (Sh.shown_any _).mono ?_; rintro e w' ⟨rfl, rfl⟩) | (go_at_call 16; refine (Nw.pack_any _ _ _).mono ?_; rintro e w' ⟨rfl, rfl⟩) | (go_at_call 14; refine (Nw.parts_any _ _).mono ?_; rintro e w' ⟨rfl, rfl⟩) | (go_at_call 17; refine (Nw.norm_any _ (by omega) (by omega) _).mono ?_; rintro e w' ⟨rfl, rfl⟩) | (go_at_call 12; refine (Nw.add_any _ _ _).mono ?_; rintro e w' ⟨rfl, rfl⟩))
          go_ret
          exact ⟨rfl, rfl⟩
      · have h2' : 32767 < x := by omega
        clear hc h2
        go_enter Try.func5, Try.ntmps5
        go_wp2_with (first | (go_at_call 11; refine (Sh.shown_any _).mono ?_; rintro e w' ⟨rfl, rfl⟩) | (go_at_call 16; refine (Nw.pack_any _ _ _).mono ?_; rintro e w' ⟨rfl, rfl⟩) | (go_at_call 14; refine (Nw.parts_any _ _).mono ?_; rintro e w' ⟨rfl, rfl⟩) | (go_at_call 17; refine (Nw.norm_any _ (by omega) (by omega) _).mono ?_; rintro e w' ⟨rfl, rfl⟩) | (go_at_call 12; refine (Nw.add_any _ _ _).mono ?_; rintro e w' ⟨rfl, rfl⟩))
        go_ret
        exact ⟨rfl, rfl⟩
    · have h1' : x < -32768 := by omega
      clear hc h1
      go_enter Try.func5, Try.ntmps5
      go_wp2_with (first | (go_at_call 11; refine (Sh.shown_any _).mono ?_; rintro e w' ⟨rfl, rfl⟩) | (go_at_call 16; refine (Nw.pack_any _ _ _).mono ?_; rintro e w' ⟨rfl, rfl⟩) | (go_at_call 14; refine (Nw.parts_any _ _).mono ?_; rintro e w' ⟨rfl, rfl⟩) | (go_at_call 17; refine (Nw.norm_any _ (by omega) (by omega) _).mono ?_; rintro e w' ⟨rfl, rfl⟩) | (go_at_call 12; refine (Nw.add_any _ _ _).mono ?_; rintro e w' ⟨rfl, rfl⟩))
      go_ret
      exact ⟨rfl, rfl⟩

theorem walk (v0 : Value) (v1 : Value) (v2 : Value) (W : World) (r0 : Rd.V Try.prog W 3 v0) (r1 : Rd.V Try.prog W 3 v1) (r2 : Rd.V Try.prog W 22 v2) : Calls Try.prog 5 #[v0, v1, v2] W fun e w' => e = .returned (.bool true) ∧ Below W.heap.size W w' := by
  obtain ⟨x, rfl, _⟩ := r0.int Try.underlying3
  obtain ⟨y, rfl, _⟩ := r1.int Try.underlying3
  obtain ⟨a, rfl, ha⟩ := r2.int Try.underlying22
  have hb := Rd.u64_bd ha
  exact (go x y a hb.1 hb.2 W).mono fun e w' ⟨he, hw⟩ => ⟨he, hw ▸ Below.refl _ _⟩

open Go.ChangeShapes Go.WideShapes Go.ChangeAt Go.RowKit
theorem own : ownKnob Try.prog.godebug = none := by kernel_rfl
theorem laidOut : laidOutB Try.prog = true := by kernel_rfl

set_option maxRecDepth 100000 in
theorem lifted (os : Os) (started : os.Started) (H : Type) (enc : TypeId × Value → H) :
    ReturnsInHanded {} Try.checked os 5 .any (Rows.numBackSpec.pre6 enc Try.prog Try.f5 Rows.numBackRow.domain false) (Rows.numBackSpec.post enc Try.prog Try.f5 false true false false) := by
  refine returnsInHanded_of_change_sized (C := Try.checked) own started (by kernel_rfl) Try.func5
    (ChangeSpec.witness6 (enc := enc) (C := Try.checked) false ⟨#[], #[.int .i64 0, .int .i64 0, .int .u64 0], []⟩ 12 (by kernel_rfl) (by kernel_rfl) (by kernel_rfl) (by kernel_rfl)) ?_
  intro W base args ds gs before hval0 hW _ hsz0 _
  have hval : ∀ (j : Nat) t v, Try.f5.params[j]? = some t → args[j]? = some v → Value.okWide Try.prog W .any base t v := hval0
  have hW' := hW
  obtain ⟨p, q, hA0, hV, rfl, _, _⟩ := hW
  have hA : DataW.TrodAll enc Try.prog W 0 (fun _ => true) true Try.f5.params.toList args.toList ds p := hA0
  obtain ⟨rfl, rfl⟩ := trodVars_none hV
  have hsz : (DataW.weightsEach Try.prog (Try.f5.params.toList ++ []) (ds ++ [])).all (· ≤ reachBytes) = true := hsz0
  rw [Try.params5] at hA hval hsz
  have hA2 := hA
  obtain ⟨v0, vs0, d0, ds0, p0, q0, hargs, rfl, rfl, h0, r0⟩ := trodAll_cons hA2
  obtain ⟨v1, vs1, d1, ds1, p1, q1, rfl, rfl, rfl, h1, r1⟩ := trodAll_cons r0
  obtain ⟨v2, vs2, d2, ds2, p2, q2, rfl, rfl, rfl, h2, r2⟩ := trodAll_cons r1
  obtain ⟨rfl, rfl, rfl⟩ := trodAll_nil r2
  obtain rfl : args = #[v0, v1, v2] := by cases args; simp_all
  have hR := Rd.trodAll_V hA (fun n hn => by simpa using List.all_eq_true.1 hsz n (by simpa using hn)) (fun j t v hj hv => hval j t v (by simpa using hj) (by simpa using hv))
  clear hA0 hval0 hA2
  refine (walk v0 v1 v2 W (hR 0 3 v0 rfl rfl) (hR 1 3 v1 rfl rfl) (hR 2 22 v2 rfl rfl)).mono fun e W' ⟨he, bel⟩ => ?_
  subst he
  exact ⟨_, rfl, _, _, _, [], _, [], hW', trodAll_mk1 (shut_bool Try.underlying4 _), Rd.trodAll_below laidOut bel (List.forall_mem_cons.2 ⟨⟨by kernel_rfl, of_decide_eq_true (by kernel_rfl)⟩, List.forall_mem_cons.2 ⟨⟨by kernel_rfl, of_decide_eq_true (by kernel_rfl)⟩, List.forall_mem_cons.2 ⟨⟨by kernel_rfl, of_decide_eq_true (by kernel_rfl)⟩, fun _ h => by cases h⟩⟩⟩) hA, rfl, bel.frame _, fun h => by cases h⟩

theorem over : Rows.numBackRow.holds Try.pinned (OpenSpec.ofChange Rows.numBackSpec) :=
  OpenClaim.holds_of_wide 5 Try.f5 rfl rfl rfl rfl rfl rfl rfl ⟨rfl, rfl, rfl, rfl, rfl⟩ rfl rfl rfl rfl rfl (by kernel_rfl) Try.func5 (by kernel_rfl)
    (of_decide_eq_true (by kernel_rfl)) (by unfold Func.isWrapper; first | (rw [if_pos (by decide +kernel)]; kernel_rfl) | (rw [if_neg (by decide +kernel)]; exact ⟨rfl, rfl⟩))
    (fun os started H enc _ => lifted os started H enc)

theorem proved : Rows.NumBackSaid := over
#print axioms proved
end Go.Proofs.Ytijjaekjphenaaa.numBack
