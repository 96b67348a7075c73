/- NumReckons holds for every input: words of parts, parts of words, norms, sums, products, conjugates and powers are as the document says. No condition. -/
import Derived.Test.YtijjaekjphenaaaRows
import Derived.Test.YtijjaekjphenaaaRd
import Derived.Test.YtijjaekjphenaaaNr
import Derived.Test.YtijjaekjphenaaaSh
namespace Go.Proofs.Ytijjaekjphenaaa.numReckons
open Go.RowKit Go.Proofs.Ytijjaekjphenaaa

theorem go (a b x y n : Int) (a0 : 0 ≤ a) (a1 : a ≤ 18446744073709551615) (b0 : 0 ≤ b) (b1 : b ≤ 18446744073709551615) (w : World) :
    Calls Try.prog 10 #[.agg #[.int .u64 a, .int .u64 b, .int .i64 x, .int .i64 y, .int .i64 n]] w fun e w' => e = .returned (.bool true) ∧ Below w.heap.size w w' := by
  go_enter Try.func10, Try.ntmps10
  go_wp2_with (first | (go_at_call 11; refine (Sh.shown_any _).mono ?_; rintro e w' ⟨rfl, rfl⟩) | (go_at_call 12; refine (Nw.add_any _ _ _).mono ?_; rintro e w' ⟨rfl, rfl⟩) | (go_at_call 13; refine (Nw.mul_any _ _ _).mono ?_; rintro e w' ⟨rfl, rfl⟩) | (go_at_call 14; refine (Nw.parts_any _ _).mono ?_; rintro e w' ⟨rfl, rfl⟩) | (go_at_call 16; refine (Nw.pack_any _ _ _).mono ?_; rintro e w' ⟨rfl, rfl⟩) | (go_at_call 18; refine (Nw.conj_any _ _).mono ?_; rintro e w' ⟨rfl, rfl⟩) | (go_at_call 17; refine (Nw.norm_any _ (by omega) (by omega) _).mono ?_; rintro e w' ⟨rfl, rfl⟩) | (go_at_call 19; refine (Nw.pow_any _ _ _).mono ?_; rintro e w' ⟨rfl, rfl⟩) | (go_at_call 22; refine (Nr.add_any _ _ (by omega) (by omega) (by omega) (by omega) _).mono ?_; rintro e w' ⟨rfl, rfl⟩) | (go_at_call 23; refine (Nr.mul_any _ _ (by omega) (by omega) (by omega) (by omega) _).mono ?_; rintro e w' ⟨rfl, rfl⟩) | (go_at_call 20; refine (Nr.parts_any _ (by omega) (by omega) _).mono ?_; rintro e w' ⟨rfl, rfl⟩) | (go_at_call 15; refine (Nr.pack_any _ _ _).mono ?_; rintro e w' ⟨rfl, rfl⟩) | (go_at_call 24; refine (Nr.conj_any _ (by omega) (by omega) _).mono ?_; rintro e w' ⟨rfl, rfl⟩) | (go_at_call 21; refine (Nr.norm_any _ (by omega) (by omega) _).mono ?_; rintro e w' ⟨rfl, rfl⟩) | (go_at_call 25; refine (Nr.pow_any _ _ (by omega) (by omega) _).mono ?_; rintro e w' ⟨rfl, rfl⟩))
  go_ret
  exact ⟨rfl, (Below.refl _ _).alloc (Nat.le_refl _) _⟩

theorem walk (v0 : Value) (W : World) (r0 : Rd.V Try.prog W 40 v0) : Calls Try.prog 10 #[v0] W fun e w' => e = .returned (.bool true) ∧ Below W.heap.size W w' := by
  obtain ⟨cs, rfl, hs⟩ := r0.struct Try.underlying40
  obtain ⟨hl, _⟩ := hs.struct Try.underlying40
  rw [show Try.prog.cellsOf 40 = 5 by kernel_rfl] at hl
  match cs, hl with
  | [c0, c1, c2, c3, c4], _ =>
    have k : Try.prog.cellsOf 22 = 1 := by kernel_rfl
    have k2 : Try.prog.cellsOf 3 = 1 := by kernel_rfl
    obtain ⟨a, ha, wa⟩ := (Rd.R.field Try.underlying40 hs 0 rfl 0 1 22 rfl rfl k).int Try.underlying22
    obtain rfl : c0 = .int .u64 a := by simpa using ha
    obtain ⟨b, hb, wb⟩ := (Rd.R.field Try.underlying40 hs 1 rfl 1 1 22 rfl rfl k).int Try.underlying22
    obtain rfl : c1 = .int .u64 b := by simpa using hb
    obtain ⟨x, hx, _⟩ := (Rd.R.field Try.underlying40 hs 2 rfl 2 1 3 rfl rfl k2).int Try.underlying3
    obtain rfl : c2 = .int .i64 x := by simpa using hx
    obtain ⟨y, hy, _⟩ := (Rd.R.field Try.underlying40 hs 3 rfl 3 1 3 rfl rfl k2).int Try.underlying3
    obtain rfl : c3 = .int .i64 y := by simpa using hy
    obtain ⟨n, hn, _⟩ := (Rd.R.field Try.underlying40 hs 4 rfl 4 1 3 rfl rfl k2).int Try.underlying3
    obtain rfl : c4 = .int .i64 n := by simpa using hn
    have h1 := Rd.u64_bd wa
    have h2 := Rd.u64_bd wb
    exact go a b x y n h1.1 h1.2 h2.1 h2.2 W

open Go.ChangeShapes Go.WideShapes Go.ChangeAt Go.RowKit
theorem own : ownKnob Try.prog.godebug = none := by kernel_rfl
theorem laidOut : laidOutB Try.prog = true := by kernel_rfl

set_option maxRecDepth 100000 in
theorem lifted (os : Os) (started : os.Started) (H : Type) (enc : TypeId × Value → H) :
    ReturnsInHanded {} Try.checked os 10 .any (Rows.numReckonsSpec.pre6 enc Try.prog Try.f10 Rows.numReckonsRow.domain false) (Rows.numReckonsSpec.post enc Try.prog Try.f10 false true false false) := by
  refine returnsInHanded_of_change_sized (C := Try.checked) own started (by kernel_rfl) Try.func10
    (ChangeSpec.witness6 (enc := enc) (C := Try.checked) false ⟨#[], #[.agg #[.int .u64 0, .int .u64 0, .int .i64 0, .int .i64 0, .int .i64 0]], []⟩ 12 (by kernel_rfl) (by kernel_rfl) (by kernel_rfl) (by kernel_rfl)) ?_
  intro W base args ds gs before hval0 hW _ hsz0 _
  have hval : ∀ (j : Nat) t v, Try.f10.params[j]? = some t → args[j]? = some v → Value.okWide Try.prog W .any base t v := hval0
  have hW' := hW
  obtain ⟨p, q, hA0, hV, rfl, _, _⟩ := hW
  have hA : DataW.TrodAll enc Try.prog W 0 (fun _ => true) true Try.f10.params.toList args.toList ds p := hA0
  obtain ⟨rfl, rfl⟩ := trodVars_none hV
  have hsz : (DataW.weightsEach Try.prog (Try.f10.params.toList ++ []) (ds ++ [])).all (· ≤ reachBytes) = true := hsz0
  rw [Try.params10] at hA hval hsz
  have hA2 := hA
  obtain ⟨v0, vs0, d0, ds0, p0, q0, hargs, rfl, rfl, h0, r0⟩ := trodAll_cons hA2
  obtain ⟨rfl, rfl, rfl⟩ := trodAll_nil r0
  obtain rfl : args = #[v0] := by cases args; simp_all
  have hR := Rd.trodAll_V hA (fun n hn => by simpa using List.all_eq_true.1 hsz n (by simpa using hn)) (fun j t v hj hv => hval j t v (by simpa using hj) (by simpa using hv))
  clear hA0 hval0 hA2
  refine (walk v0 W (hR 0 40 v0 rfl rfl)).mono fun e W' ⟨he, bel⟩ => ?_
  subst he
  exact ⟨_, rfl, _, _, _, [], _, [], hW', trodAll_mk1 (shut_bool Try.underlying4 _), Rd.trodAll_below laidOut bel (List.forall_mem_cons.2 ⟨⟨by kernel_rfl, of_decide_eq_true (by kernel_rfl)⟩, fun _ h => by cases h⟩) hA, rfl, bel.frame _, fun h => by cases h⟩

theorem over : Rows.numReckonsRow.holds Try.pinned (OpenSpec.ofChange Rows.numReckonsSpec) :=
  OpenClaim.holds_of_wide 10 Try.f10 rfl rfl rfl rfl rfl rfl rfl ⟨rfl, rfl, rfl, rfl, rfl⟩ rfl rfl rfl rfl rfl (by kernel_rfl) Try.func10 (by kernel_rfl)
    (of_decide_eq_true (by kernel_rfl)) (by unfold Func.isWrapper; first | (rw [if_pos (by decide +kernel)]; kernel_rfl) | (rw [if_neg (by decide +kernel)]; exact ⟨rfl, rfl⟩))
    (fun os started H enc _ => lifted os started H enc)

theorem proved : Rows.NumReckonsSaid := over
#print axioms proved
end Go.Proofs.Ytijjaekjphenaaa.numReckons
