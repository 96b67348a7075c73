/- Turning addresses: what the program's Turn computes, said of lists. -/
import Derived.Test.YtmkpbdibhjjmpaaSt
namespace Go.Proofs.Ytmkpbdibhjjmpaa.Tu
open Go.RowKit
open Go.Proofs.Ytmkpbdibhjjmpaa
set_option linter.unusedVariables false

theorem bytes_ma {w : World} {v : Value} {rows : List (List Int)} (h : Ma .u64 w v rows) : rows.length * 24 ≤ 140737488355328 := by
  obtain ⟨vs, hl, hr, _⟩ := h
  rw [← hl]; exact hr.2.1
theorem bytes_sl {w : World} {v : Value} {xs : List Int} (h : Sl .u64 w v xs) : xs.length * 8 ≤ 140737488355328 := h.2.1
theorem own_len {w : World} {base n : Nat} {v : Value} {cs : List Value} (h : w.ownsRow base 23 1 v n cs) (hb : n * 8 ≤ 140737488355328) (ty : TypeId) (w' : World) : (Builtin.len_ #[22] ty #[v]).run Try.prog w' = .ok (.int .i64 n) w' :=
  Row.len Sk.uT (Row.of_own (b := 8) h hb (by omega)) ty w'

set_option maxHeartbeats 4000000 in
theorem turn_any (v fv tv : Value) (rows : List (List Int)) (fr to : List Int) (w : World) (h : Ma .u64 w v rows) (hf : Sl .u64 w fv fr) (ht : Sl .u64 w tv to) :
    Calls Try.prog 20 #[v, fv, tv] w fun e w' => ∃ o, e = .returned o ∧ Ma .u64 w' o (Tp.turn fr to rows) ∧ Ext w w' := by
  have hlen := h.len St.uT2
  have hsm := h.small
  obtain ⟨a1, c1, rfl⟩ := Row.form hf
  obtain ⟨a2, c2, rfl⟩ := Row.form ht
  obtain ⟨N, hN⟩ : ∃ N, rows.length = N := ⟨_, rfl⟩
  have HN := Lib.hid hN
  rw [hN] at hlen hsm
  have HM := Lib.hid h
  have HF := Lib.hid hf
  have HT := Lib.hid ht
  clear h hf ht hN
  go_enter Try.func20, Try.ntmps20
  go_wp2
  have hX1 : Hid (Ext w ((w.alloc (.cells #[.slice a1 fr.length c1] 22)).alloc (.cells #[.slice a2 to.length c2] 22))) := ((Ext.refl w).alloc _).alloc _
  have hC1 : Hid (((w.alloc (.cells #[.slice a1 fr.length c1] 22)).alloc (.cells #[.slice a2 to.length c2] 22)).cell? ⟨w.heap.size, 0, none⟩ = some (.slice a1 fr.length c1)) := by
    show _ = _
    go_cell
  have hC2 : Hid (((w.alloc (.cells #[.slice a1 fr.length c1] 22)).alloc (.cells #[.slice a2 to.length c2] 22)).cell? ⟨w.heap.size + 1, 0, none⟩ = some (.slice a2 to.length c2)) := by
    show _ = _
    go_cell
  generalize (w.alloc (.cells #[.slice a1 fr.length c1] 22)).alloc (.cells #[.slice a2 to.length c2] 22) = W1 at hX1 hC1 hC2 ⊢
  go_loopw [8, 17] (fun o i wr => ∃ j : Nat, i = .int .i64 j ∧ j ≤ N ∧ Rows .u64 22 23 wr W1.heap.size o (Tp.turn fr to (rows.take j)) ∧ Ext W1 wr) (fun _ i _ => N - (intOf i).toNat)
  case atStart => exact ⟨0, rfl, Nat.zero_le _, by simpa [Tp.turn] using Rows.nil .u64 22 23 W1 W1.heap.size, Ext.refl _⟩
  case round =>
    obtain ⟨j, rfl, hj, hR, hXr⟩ := hrel
    obtain ⟨wo, hwo⟩ : ∃ wo, wo = wr := ⟨_, rfl⟩
    subst hwo
    have HR := Lib.hid hR
    have HXr := Lib.hid hXr
    clear hR hXr
    by_cases hlt : j < N
    · obtain ⟨p, u0, hp, hcp, hu0⟩ := St.rowsAt (HM.out.ext (hX1.out.trans HXr.out)) j (by have := HN.out; omega)
      obtain ⟨r, hr⟩ : ∃ r, rows.getD j [] = r := ⟨_, rfl⟩
      rw [hr] at hu0
      replace hcp := (show wo.cell? p = some u0 from hcp)
      have HU0 := Lib.hid hu0
      have HRR := Lib.hid hr
      clear hu0 hr
      go_wp2_with fail
      refine (St.clone_any _ r _ HU0.out).mono ?_; rintro e w2 ⟨u, rfl, hu, hx2⟩
      have hulen := own_len hu (bytes_sl HU0.out)
      have HU := Lib.hid hu
      have HX2 := Lib.hid hx2
      have hrsm : (r.length : Int) ≤ 140737488355328 := by have := bytes_sl HU0.out; omega
      clear hu hx2
      go_wp2_with fail
      go_loopw [25] (fun i wq => ∃ q : Nat, i = .int .i64 q ∧ q ≤ r.length ∧ wq.ownsRow wo.heap.size 23 1 u r.length ((Tp.part fr to r q).map (Value.int .u64)) ∧ Ext wo wq) (fun i _ => r.length - (intOf i).toNat)
      case atStart => exact ⟨0, rfl, Nat.zero_le _, by rw [Tp.part_zero]; exact HU.out, HX2.out⟩
      case round =>
        obtain ⟨q, rfl, hq, hO, hXq⟩ := hrel
        obtain ⟨wq, hwq⟩ : ∃ wq, wq = wr := ⟨_, rfl⟩
        subst hwq
        have HO := Lib.hid hO
        have HXq := Lib.hid hXq
        clear hO hXq
        by_cases hqlt : q < r.length
        · obtain ⟨g, hgo, hgb, hgs, hix, hcell, hfz, hset⟩ := own_at Sk.uT Sk.sz HO.out hqlt
          have hcell := hcell (.int .u64 (r.getD q 0)) (by rw [List.getElem?_map, Tp.part_get fr to r hqlt]; rfl)
          have hset := hset (.int .u64 (Tp.turn1 fr to (r.getD q 0)))
          rw [← List.map_set, Tp.part_set fr to r hqlt] at hset
          have HSET := Lib.hid hset
          have HGB := Lib.hid hgb
          clear hset hgb hgs hgo
          obtain ⟨x, hx⟩ : ∃ x, r.getD q 0 = x := ⟨_, rfl⟩
          rw [hx] at hcell HSET
          clear hx
          have HA : Hid (Calls Try.prog 28 #[.int .u64 x, .pointer (some ⟨w.heap.size, 0, none⟩), .pointer (some ⟨w.heap.size + 1, 0, none⟩)] wq fun e w' => e = .returned (.int .u64 (Tp.turn1 fr to x)) ∧ w' = wq) :=
            St.as_any _ _ fr to x ⟨w.heap.size, 0, none⟩ ⟨w.heap.size + 1, 0, none⟩ wq (HF.out.ext (hX1.out.trans (HXr.out.trans HXq.out))) (HT.out.ext (hX1.out.trans (HXr.out.trans HXq.out))) ((HXr.out.trans HXq.out).cell hC1.out) ((HXr.out.trans HXq.out).cell hC2.out)
          go_wp2_with fail
          refine HA.out.mono ?_; rintro e w' ⟨rfl, rfl⟩
          go_wp2_with fail
          go_roundw
          case rel => exact ⟨q + 1, by go_num, hqlt, HSET.out, HXq.out.setCell HGB.out _⟩
          case measure => simp [intOf]; omega
        · obtain rfl : q = r.length := by omega
          have hO2 := HO.out
          rw [Tp.part_all] at hO2
          obtain ⟨ua, uc, rfl⟩ := Row.form (Row.of_own (b := 8) hO2 (bytes_sl HU0.out) (by omega))
          obtain ⟨i0, hi, hz0, hz1, hz2⟩ := St.info_row
          have htl : (Tp.turn fr to (rows.take j)).length = j := by simp [Tp.turn]; have := HN.out; omega
          have hrl : (Tp.turnRow fr to r).length = r.length := by simp [Tp.turnRow]
          have hne : (Value.slice ua r.length uc).ownBlock = none ∨ (Value.slice ua r.length uc).ownBlock ≠ u8.ownBlock := by
            cases hub : (Value.slice ua r.length uc).ownBlock with
            | none => exact .inl rfl
            | some g => right; intro e; have h1 := (hO2.lt g hub).1; have h2 := (HR.out.lt g e.symm).2; omega
          obtain ⟨o', w3, hrun, hR3, hg3⟩ := Rows.append (ty := 34) St.uT2 hi hz0 hz1 hz2 rfl (HR.out.ext HXq.out) (u := .slice ua r.length uc) (r := Tp.turnRow fr to r) (own_le (by rw [hrl]; exact hO2) HXr.out.size) (by rw [hrl]; exact bytes_sl HU0.out) hne (Nat.le_trans HXr.out.size HXq.out.size) (by rw [htl]; have := bytes_ma HM.out; have := HN.out; omega)
          have HR3 : Hid (Rows .u64 22 23 w3 W1.heap.size o' (Tp.turn fr to (rows.take (j + 1)))) := by
            show Rows _ _ _ _ _ _ _
            rw [Tp.turn_take fr to rows (by have := HN.out; omega), HRR.out]; exact hR3
          have HX3 : Hid (Ext W1 w3) := ((HXr.out.trans HXq.out).alloc _).grown hg3 (fun k hk => (HR.out.lt k hk).1)
          have hrun' := Lib.hid hrun
          clear hrun hR3 hg3 hne hrl htl hi hz0 hz1 hz2 hO2
          go_wp2_with (at_builtin; refine Lib.wpList_append_run _ rfl _ _ _ _ rfl _ _ rfl rfl o' w3 hrun'.out ?_)
          go_roundw
          case rel => exact ⟨j + 1, by go_num, hlt, HR3.out, HX3.out⟩
          case measure => simp [intOf]; omega
    · obtain rfl : j = N := by omega
      go_wp2_with fail
      go_ret
      refine ⟨_, rfl, ?_, hX1.out.trans HXr.out⟩
      have h1 := HR.out
      rw [List.take_of_length_le (by have := HN.out; omega)] at h1
      exact h1.ma (by simp only [Tp.turn, List.length_map]; exact bytes_ma HM.out)
end Go.Proofs.Ytmkpbdibhjjmpaa.Tu
