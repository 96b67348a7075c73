/- The reference's Once of chapter 10. -/
import Derived.Test.YtgfehdjahjpfhaaRh
namespace Go.Proofs.Ytgfehdjahjpfhaa.Ri
open Go.RowKit
open Go.Proofs.Ytgfehdjahjpfhaa Go.Proofs.Ytgfehdjahjpfhaa.En Go.Proofs.Ytgfehdjahjpfhaa.Ok Go.Proofs.Ytgfehdjahjpfhaa.Gw
set_option linter.unusedVariables false

theorem once_nil : once [] = [] := rfl
theorem once_cons (x : E) (r : List E) : once (x :: r) = if x ∈ r then once r else x :: once r := by
  unfold once
  rw [List.reverse_cons, firsts_snoc]
  unfold Ok.step
  by_cases h : x ∈ r
  · rw [if_pos h, if_pos ((firsts_mem _ _).2 (List.mem_reverse.2 h))]
  · rw [if_neg h, if_neg (fun h2 => h (List.mem_reverse.1 ((firsts_mem _ _).1 h2)))]
    simp
theorem drop_cons (es : List E) {k : Nat} (h : k < es.length) : es.drop k = es.getD k (0, 0) :: es.drop (k + 1) := by
  rw [List.drop_eq_getElem_cons h]
  simp [List.getD_eq_getElem?_getD, h]
theorem once_len (es : List E) : (once es).length ≤ es.length := by
  have := firsts_len es.reverse
  rw [List.length_reverse] at this
  simpa [once] using this

set_option maxRecDepth 100000 in
set_option maxHeartbeats 4000000 in
theorem once_any (v : Value) (es : List E) (w : World) (h : Es w v es) :
    Calls Try.prog 20 #[v] w fun e w' => ∃ o, e = .returned o ∧ Es w' o (once es) ∧ Ext w w' := by
  have hlen := h.len
  have hsm := h.small
  have hbb := h.2.1
  have hol := once_len es
  have H := Lib.hid h
  clear h
  obtain ⟨i0, hi, hz0, hz1, hz2⟩ := info_e
  go_enter Try.func20, Try.ntmps20
  go_wp2_with fail
  go_loopw [3, 4] (fun a i wr => ∃ (k : Nat) (out : List E), i = .int .i64 k ∧ k ≤ es.length ∧ out ++ once (es.drop k) = once es ∧ wr.ownsRow w.heap.size 28 2 a out.length (cs out) ∧ Ext w wr) (fun _ i _ => es.length - (intOf i).toNat)
  case atStart => exact ⟨0, [], rfl, Nat.zero_le _, rfl, World.ownsRow_nil _ _ _ _, Ext.refl _⟩
  case round =>
    obtain ⟨k, out, rfl, hk, hout, hown, hXk⟩ := hrel
    obtain ⟨wk, hwk⟩ : ∃ wk, wk = wr := ⟨_, rfl⟩
    subst hwk
    have HXk := Lib.hid hXk
    have HOUT := Lib.hid hout
    have HOWN := Lib.hid hown
    clear hXk hout hown
    by_cases hklt : k < es.length
    · obtain ⟨b1, o1, s1, hp1, ha1, hb1⟩ := (H.out.ext HXk.out).at_ k hklt
      have hdr := drop_cons es hklt
      obtain ⟨x, hx⟩ : ∃ x, es.getD k (0, 0) = x := ⟨_, rfl⟩
      rw [hx] at ha1 hb1 hdr
      have HDR := Lib.hid hdr
      clear hx hdr
      obtain ⟨x1, x2⟩ := x
      dsimp only at ha1 hb1
      obtain ⟨l, hl⟩ : ∃ l, decide ((x1, x2) ∈ es.drop (k + 1)) = l := ⟨_, rfl⟩
      have HL := Lib.hid hl
      clear hl
      go_wp2_with fail
      go_loopw [5, 6] (fun a i wr => ∃ (j : Nat) (b : Bool), i = .int .i64 j ∧ a = .bool b ∧ k < j ∧ j ≤ es.length ∧ (b || decide ((x1, x2) ∈ es.drop j)) = l ∧ Ext wk wr) (fun _ i _ => es.length - (intOf i).toNat)
      case atStart => exact ⟨k + 1, false, by go_num, rfl, Nat.lt_succ_self _, hklt, by rw [Bool.false_or]; exact HL.out, Ext.refl _⟩
      case round =>
        obtain ⟨j, b, rfl, rfl, hkj, hj, hbl, hXj⟩ := hrel
        obtain ⟨wj, hwj⟩ : ∃ wj, wj = wr := ⟨_, rfl⟩
        subst hwj
        have HXj := Lib.hid hXj
        have HBL := Lib.hid hbl
        clear hXj hbl
        by_cases hjlt : j < es.length
        · have hjs : (j : Int) ≤ 140737488355328 := by omega
          have hdr := drop_cons es hjlt
          obtain ⟨b2, o2, s2, hp2, ha2, hb2⟩ := (H.out.ext (HXk.out.trans HXj.out)).at_ j hjlt
          replace ha1 := HXj.out.cell ha1
          replace hb1 := HXj.out.cell hb1
          obtain ⟨y, hy⟩ : ∃ y, es.getD j (0, 0) = y := ⟨_, rfl⟩
          rw [hy] at ha2 hb2 hdr
          obtain ⟨y1, y2⟩ := y
          dsimp only at ha2 hb2
          cases b with
          | true =>
            have HF : Hid ((true || decide ((x1, x2) ∈ es.drop (j + 1))) = l) := by show _ = _; have := HBL.out; simpa using this
            clear hdr hy
            go_wp2_with fail
            go_quiet (fail)
            go_wp2_with fail
            go_roundw
            case rel => exact ⟨j + 1, true, by go_num, rfl, by omega, hjlt, HF.out, HXj.out.drewN _⟩
            case measure => simp [intOf]; omega
          | false =>
            obtain ⟨c, hc⟩ : ∃ c, decide ((y1, y2) = (x1, x2)) = c := ⟨_, rfl⟩
            have heq := eqEntry y1 y2 x1 x2
            rw [show (y1 == x1 && y2 == x2) = decide ((y1, y2) = (x1, x2)) from eq_iff (y1, y2) (x1, x2), hc] at heq
            have HF : Hid ((c || decide ((x1, x2) ∈ es.drop (j + 1))) = l) := by
              have e := HBL.out
              rw [hdr, Bool.false_or] at e
              show _ = _
              rw [← e, ← hc]
              by_cases hyx : (y1, y2) = (x1, x2)
              · rw [hyx]; simp
              · have hxy : ¬ (x1, x2) = (y1, y2) := fun e => hyx e.symm
                rw [decide_eq_false hyx, Bool.false_or]
                simp only [List.mem_cons, hxy, false_or]
            clear hdr hy hc
            go_wp2_with fail
            go_quiet (fail)
            go_wp2_with fail
            go_roundw
            case rel => exact ⟨j + 1, c, by go_num, rfl, by omega, hjlt, HF.out, HXj.out.drewN _⟩
            case measure => simp [intOf]; omega
        · obtain rfl : j = es.length := by omega
          have hbl : b = l := by have := HBL.out; simpa using this
          subst hbl
          have HXJ := Lib.hid (HXk.out.trans HXj.out)
          replace ha1 := HXj.out.cell ha1
          replace hb1 := HXj.out.cell hb1
          cases b with
          | true =>
            have HO : Hid (out ++ once (es.drop (k + 1)) = once es) := by
              have e := HOUT.out
              rw [HDR.out, once_cons, if_pos (of_decide_eq_true HL.out)] at e
              exact e
            go_wp2_with fail
            go_roundw
            case rel => exact ⟨k + 1, out, by go_num, hklt, HO.out, own_ext HOWN.out HXj.out, HXJ.out⟩
            case measure => simp [intOf]; omega
          | false =>
            have HO : Hid ((out ++ [(x1, x2)]) ++ once (es.drop (k + 1)) = once es) := by
              have e := HOUT.out
              rw [HDR.out, once_cons, if_neg (of_decide_eq_false HL.out)] at e
              show _ = _
              rw [← e]; simp
            have hlen3 : out.length + 1 ≤ es.length := by
              have e := congrArg List.length HO.out
              simp only [List.length_append, List.length_singleton] at e
              omega
            obtain ⟨v', w3, hrun, hown3, hg3, hx3⟩ := app_own (HXJ.out.alloc (cell (x1, x2))) rfl (own_ext HOWN.out (HXj.out.alloc (cell (x1, x2)))) (one_at (Blk.new wj #[.int .u64 x1, .int .i64 x2] 28) : Es _ _ [(x1, x2)]) (by simp only [List.length_singleton]; omega)
            have HF3 := Lib.hid (And.intro hown3 hx3)
            have HR := Lib.hid hrun
            clear hown3 hx3 hg3 hrun
            go_wp2_with (at_builtin; refine Lib.wpList_append_run _ rfl _ _ _ _ rfl _ _ rfl rfl v' w3 HR.out ?_)
            go_roundw
            case rel => exact ⟨k + 1, out ++ [(x1, x2)], by go_num, hklt, HO.out, HF3.out.1, HF3.out.2⟩
            case measure => simp [intOf]; omega
    · obtain rfl : k = es.length := by omega
      have HO : Hid (out = once es) := by
        have e := HOUT.out
        rw [List.drop_length, once_nil, List.append_nil] at e
        exact e
      go_wp2_with fail
      have e := HO.out
      subst e
      go_ret
      exact ⟨_, rfl, es_of HOWN.out (by omega), HXk.out⟩
end Go.Proofs.Ytgfehdjahjpfhaa.Ri
