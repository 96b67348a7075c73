/- The reference's turning of addresses, three loops, said of lists; and comparing rows of rows. -/
import Derived.Test.YtmkpbdibhjjmpaaTu
namespace Go.Proofs.Ytmkpbdibhjjmpaa.Tr
open Go.RowKit
open Go.Proofs.Ytmkpbdibhjjmpaa
set_option linter.unusedVariables false

set_option maxHeartbeats 4000000 in
theorem rturn_any (v fv tv : Value) (rows : List (List Int)) (fr to : List Int) (w : World) (h : Ma .u64 w v rows) (hf : Sl .u64 w fv fr) (ht : Sl .u64 w tv to) :
    Calls Try.prog 21 #[v, fv, tv] w fun e w' => ∃ o, e = .returned o ∧ Ma .u64 w' o (Tp.turn fr to rows) ∧ Ext w w' := by
  have hlen := h.len St.uT2
  have hsm := h.small
  have hflen := hf.len Sk.uT
  have hfsm := hf.small
  have htlen := ht.len Sk.uT
  have htsm := ht.small
  obtain ⟨N, hN⟩ : ∃ N, rows.length = N := ⟨_, rfl⟩
  have HN := Lib.hid hN
  rw [hN] at hlen hsm
  have HM := Lib.hid h
  have HF := Lib.hid hf
  have HT := Lib.hid ht
  clear h hf ht hN
  go_enter Try.func21, Try.ntmps21
  go_wp2
  go_loopw [7, 8] (fun o i wr => ∃ j : Nat, i = .int .i64 j ∧ j ≤ N ∧ Rows .u64 22 23 wr w.heap.size o (Tp.turn fr to (rows.take j)) ∧ Ext w wr) (fun _ i _ => N - (intOf i).toNat)
  case atStart => exact ⟨0, rfl, Nat.zero_le _, by simpa [Tp.turn] using Rows.nil .u64 22 23 w w.heap.size, Ext.refl _⟩
  case round =>
    obtain ⟨j, rfl, hj, hR, hXr⟩ := hrel
    obtain ⟨wo, hwo⟩ : ∃ wo, wo = wr := ⟨_, rfl⟩
    subst hwo
    have HR := Lib.hid hR
    have HXr := Lib.hid hXr
    clear hR hXr
    by_cases hlt : j < N
    · obtain ⟨p, u0, hp, hcp, hu0⟩ := St.rowsAt (HM.out.ext HXr.out) j (by have := HN.out; omega)
      obtain ⟨r, hr⟩ : ∃ r, rows.getD j [] = r := ⟨_, rfl⟩
      rw [hr] at hu0
      replace hcp := (show wo.cell? p = some u0 from hcp)
      have hulen := hu0.len Sk.uT
      have hrsm := hu0.small
      have HU0 := Lib.hid hu0
      have HRR := Lib.hid hr
      have HCP := Lib.hid hcp
      clear hu0 hr
      go_wp2_with fail
      go_loopw [9, 10] (fun o i wq => ∃ q : Nat, i = .int .i64 q ∧ q ≤ r.length ∧ wq.ownsRow wo.heap.size 23 1 o q ((Tp.turnRow fr to (r.take q)).map (Value.int .u64)) ∧ Ext wo wq) (fun _ i _ => r.length - (intOf i).toNat)
      case atStart => exact ⟨0, rfl, Nat.zero_le _, World.ownsRow_nil _ _ _ _, Ext.refl _⟩
      case round =>
        obtain ⟨q, rfl, hq, hO, hXq⟩ := hrel
        obtain ⟨wq, hwq⟩ : ∃ wq, wq = wr := ⟨_, rfl⟩
        subst hwq
        have HO := Lib.hid hO
        have HXq := Lib.hid hXq
        have hcpq := HXq.out.cell HCP.out
        clear hO hXq
        by_cases hqlt : q < r.length
        · obtain ⟨p2, hp2, hcp2⟩ := St.elems (HU0.out.ext HXq.out) q hqlt
          obtain ⟨x, hx⟩ : ∃ x, r.getD q 0 = x := ⟨_, rfl⟩
          rw [hx] at hcp2
          replace hcp2 := (show wq.cell? p2 = some (.int .u64 x) from hcp2)
          have HXX := Lib.hid hx
          clear hx
          go_wp2_with fail
          go_loopw [11, 12] (fun a n wr => ∃ m t : Nat, n = .int .i64 ((m : Int) - 1) ∧ m ≤ fr.length ∧ a = .int .u64 (Tp.tv fr to x m) ∧ wr = wq.drewN t) (fun _ n _ => (intOf n + 1).toNat)
          case atStart => exact ⟨fr.length, 0, by go_num, Nat.le_refl _, by rw [Tp.tv_end], rfl⟩
          case round =>
            obtain ⟨m, t, rfl, hm, rfl, rfl⟩ := hrel
            cases m with
            | zero =>
              obtain ⟨y, hy⟩ : ∃ y, Tp.tv fr to x 0 = y := ⟨_, rfl⟩
              have HY : Hid (Tp.turn1 fr to x = y) := by show _ = _; rw [← Tp.tv_zero]; exact hy
              rw [hy]
              clear hy
              obtain ⟨i0, hi, hz0, hz1, hz2⟩ := Sk.info_u64
              have hDa : Ext wq ((wq.drewN t).alloc (.cells #[.int .u64 y] 23)) := ((Ext.refl wq).drewN t).alloc _
              obtain ⟨v', w', hrun, hown, hg, hat⟩ := append_own (ty := 22) Sk.uT hi hz0 hz1 hz2 rfl (by decide) (own_ext HO.out hDa) (Nat.le_trans HXq.out.size hDa.size) (Sk.Sl.one (wq.drewN t) y) (oneCells _ _) (by have := Tu.bytes_sl HU0.out; simp; omega) (by decide)
              have HOWN : Hid (w'.ownsRow wo.heap.size 23 1 v' (q + 1) ((Tp.turnRow fr to (r.take (q + 1))).map (Value.int .u64))) := by
                show World.ownsRow _ _ _ _ _ _ _
                rw [Tp.turnRow_take fr to r hqlt, HXX.out, HY.out]
                simpa using hown
              have HX3 : Hid (Ext wo w') := ((HXq.out.drewN t).alloc _).grown hg (fun k hk => (HO.out.lt k hk).1)
              have hrun' := Lib.hid hrun
              clear hrun hown hg hat hDa hi hz0 hz1 hz2
              go_wp2_with (at_builtin; refine Lib.wpList_append_run _ rfl _ _ _ _ rfl _ _ rfl rfl v' w' hrun'.out ?_)
              go_roundw
              case rel => exact ⟨q + 1, by go_num, hqlt, HOWN.out, HX3.out⟩
              case measure => simp [intOf]; omega
            | succ m =>
              have hmlt : m < fr.length := hm
              have hmsm : (m : Int) ≤ 140737488355328 := by omega
              have e0 : (((m + 1 : Nat) : Int) - 1) = (m : Int) := by omega
              rw [e0]
              obtain ⟨p3, hp3, hcp3⟩ := St.elems (HF.out.ext (HXr.out.trans HXq.out)) m hmlt
              replace hcp3 := (show wq.cell? p3 = some (.int .u64 (fr.getD m 0)) from hcp3)
              by_cases he : fr.getD m 0 = x
              · have hE := Tp.tv_hit fr to x hmlt he
                rw [he] at hcp3
                by_cases hmt : m < to.length
                · rw [if_pos hmt] at hE
                  obtain ⟨p4, hp4, hcp4⟩ := St.elems (HT.out.ext (HXr.out.trans HXq.out)) m hmt
                  replace hcp4 := (show wq.cell? p4 = some (.int .u64 (to.getD m 0)) from hcp4)
                  have HE := Lib.hid hE
                  generalize to.getD m 0 = z at hcp4 HE
                  clear he hE e0
                  go_wp2_with fail
                  go_quiet (fail)
                  go_wp2_with fail
                  go_roundw
                  case rel => exact ⟨m, _, by go_num, Nat.le_of_lt hmlt, by rw [HE.out], by first | rfl | rw [World.drewN_drewN]⟩
                  case measure => simp [intOf]
                · rw [if_neg hmt] at hE
                  have hmt' : to.length ≤ m := by omega
                  have HE := Lib.hid hE
                  clear he hE e0 hmt
                  go_wp2_with fail
                  go_quiet (fail)
                  go_wp2_with fail
                  go_roundw
                  case rel => exact ⟨m, _, by go_num, Nat.le_of_lt hmlt, by rw [HE.out], by first | rfl | rw [World.drewN_drewN]⟩
                  case measure => simp [intOf]
              · have hE := Tp.tv_miss fr to x hmlt he
                have hne : (fr.getD m 0 == x) = false := beq_eq_false_iff_ne.2 he
                have HE := Lib.hid hE
                generalize fr.getD m 0 = z at hcp3 hne
                clear he hE e0
                go_wp2_with fail
                go_quiet (fail)
                go_wp2_with fail
                go_roundw
                case rel => exact ⟨m, _, by go_num, Nat.le_of_lt hmlt, by rw [HE.out], by first | rfl | rw [World.drewN_drewN]⟩
                case measure => simp [intOf]
        · obtain rfl : q = r.length := by omega
          have hO2 := HO.out
          rw [List.take_length] at hO2
          obtain ⟨ua, uc, rfl⟩ := Row.form (Row.of_own (b := 8) hO2 (Tu.bytes_sl HU0.out) (by omega))
          obtain ⟨i0, hi, hz0, hz1, hz2⟩ := St.info_row
          have htl : (Tp.turn fr to (rows.take j)).length = j := by simp [Tp.turn]; have := HN.out; omega
          have hrl : (Tp.turnRow fr to r).length = r.length := by simp [Tp.turnRow]
          have hne : (Value.slice ua r.length uc).ownBlock = none ∨ (Value.slice ua r.length uc).ownBlock ≠ u7.ownBlock := by
            cases hub : (Value.slice ua r.length uc).ownBlock with
            | none => exact .inl rfl
            | some g => right; intro e; have h1 := (hO2.lt g hub).1; have h2 := (HR.out.lt g e.symm).2; omega
          obtain ⟨o', w3, hrun, hR3, hg3⟩ := Rows.append (ty := 34) St.uT2 hi hz0 hz1 hz2 rfl (HR.out.ext HXq.out) (u := .slice ua r.length uc) (r := Tp.turnRow fr to r) (own_le (by rw [hrl]; exact hO2) HXr.out.size) (by rw [hrl]; exact Tu.bytes_sl HU0.out) hne (Nat.le_trans HXr.out.size HXq.out.size) (by rw [htl]; have := Tu.bytes_ma HM.out; have := HN.out; omega)
          have HR3 : Hid (Rows .u64 22 23 w3 w.heap.size o' (Tp.turn fr to (rows.take (j + 1)))) := by
            show Rows _ _ _ _ _ _ _
            rw [Tp.turn_take fr to rows (by have := HN.out; omega), HRR.out]; exact hR3
          have HX3 : Hid (Ext w w3) := ((HXr.out.trans HXq.out).alloc _).grown hg3 (fun k hk => (HR.out.lt k hk).1)
          have hrun' := Lib.hid hrun
          clear hrun hR3 hg3 hne hrl htl hi hz0 hz1 hz2 hO2
          go_wp2_with (at_builtin; refine Lib.wpList_append_run _ rfl _ _ _ _ rfl _ _ rfl rfl o' w3 hrun'.out ?_)
          go_roundw
          case rel => exact ⟨j + 1, by go_num, hlt, HR3.out, HX3.out⟩
          case measure => simp [intOf]; omega
    · obtain rfl : j = N := by omega
      go_wp2_with fail
      go_ret
      refine ⟨_, rfl, ?_, HXr.out⟩
      have h1 := HR.out
      rw [List.take_of_length_le (by have := HN.out; omega)] at h1
      exact h1.ma (by simp only [Tp.turn, List.length_map]; exact Tu.bytes_ma HM.out)

/-- Two rows of rows, row by row. -/
theorem rows_any (v u : Value) (xs ys : List (List Int)) (w : World) (h : Ma .u64 w v xs) (k : Ma .u64 w u ys) :
    Calls Try.prog 19 #[v, u] w fun e w' => e = .returned (.bool (decide (xs = ys))) ∧ ∃ m, w' = w.drewN m := by
  have hlen := h.len St.uT2
  have klen := k.len St.uT2
  have hsm := h.small
  have ksm := k.small
  by_cases hl : xs.length = ys.length
  · rw [← hl] at klen
    obtain ⟨n, hn⟩ : ∃ n, xs.length = n := ⟨_, rfl⟩
    have HX := Lib.hid (St.rowsAt h)
    have HY := Lib.hid (St.rowsAt k)
    have HN := Lib.hid hn
    have HL := Lib.hid hl
    rw [hn] at hlen klen hsm
    clear h k hn hl ksm
    go_enter Try.func19, Try.ntmps19
    go_wp2
    go_loopw [5] (fun i wr => ∃ j : Nat, i = .int .i64 j ∧ j ≤ n ∧ (∀ t : Nat, t < j → xs.getD t [] = ys.getD t []) ∧ ∃ nq, wr = w.drewN nq) (fun i _ => n - (intOf i).toNat)
    case atStart => exact ⟨0, rfl, Nat.zero_le _, fun t ht => by omega, 0, rfl⟩
    case round =>
      obtain ⟨j, rfl, hj, hall, nq, rfl⟩ := hrel
      have HA := Lib.hid hall
      clear hall
      by_cases hlt : j < n
      · obtain ⟨p, u1, hp, hcp, hu1⟩ := HX.out j (by have := HN.out; omega)
        obtain ⟨q, u2, hq, hcq, hu2⟩ := HY.out j (by have := HN.out; have := HL.out; omega)
        obtain ⟨x, hx⟩ : ∃ x, xs.getD j [] = x := ⟨_, rfl⟩
        obtain ⟨y, hy⟩ : ∃ y, ys.getD j [] = y := ⟨_, rfl⟩
        rw [hx] at hu1
        rw [hy] at hu2
        have HXY := Lib.hid (And.intro hx hy)
        have HU1 := Lib.hid hu1
        have HU2 := Lib.hid hu2
        clear hx hy hu1 hu2
        have hcp : (w.drewN nq).cell? p = some u1 := hcp
        have hcq : (w.drewN nq).cell? q = some u2 := hcq
        obtain ⟨b, hb⟩ : ∃ b, decide (x = y) = b := ⟨_, rfl⟩
        have HC : Hid (∀ t, Calls Try.prog 15 #[u1, u2] ((w.drewN nq).drewN t) fun e w' => e = .returned (.bool b) ∧ ∃ m, w' = ((w.drewN nq).drewN t).drewN m) := fun t => by
          have := Sk.words_any u1 u2 x y ((w.drewN nq).drewN t) (HU1.out.ext (((Ext.refl _).drewN nq).drewN t)) (HU2.out.ext (((Ext.refl _).drewN nq).drewN t))
          rw [hb] at this
          exact this
        have HB := Lib.hid hb
        clear hb
        have HW : Hid (∀ m, ∃ k, (w.drewN nq).drewN m = w.drewN k) := fun m => ⟨_, World.drewN_drewN ..⟩
        generalize w.drewN nq = wn at hcp hcq HC HW ⊢
        cases b with
        | false =>
          go_wp2
          go_quiet ((go_at_call 15; exact Calls.quiet_of (HC.out _)))
          go_wp2
          go_ret
          refine ⟨?_, HW.out _⟩
          have : xs ≠ ys := fun e => by have h2 := HXY.out; rw [e, h2.2] at h2; exact absurd h2.1.symm (of_decide_eq_false HB.out)
          simp [this]
        | true =>
          go_wp2
          go_quiet ((go_at_call 15; exact Calls.quiet_of (HC.out _)))
          go_wp2
          go_roundw
          case rel => exact ⟨j + 1, by go_num, hlt, fun t ht => by
            by_cases e : t = j
            · subst e; have h2 := HXY.out; rw [h2.1, h2.2]; exact of_decide_eq_true HB.out
            · exact HA.out t (by omega), HW.out _⟩
          case measure => simp [intOf]; omega
      · have hjn : j = n := by omega
        subst hjn
        go_wp2
        go_ret
        refine ⟨?_, _, rfl⟩
        have : xs = ys := List.ext_getElem HL.out fun i h1 h2 => by
          have := HA.out i (by have := HN.out; omega)
          simpa [h1, h2] using this
        simp [this]
  · have hne : ((xs.length : Int) != ys.length) = true := by rw [bne_iff_ne]; omega
    have hd : decide (xs = ys) = false := decide_eq_false (fun e => hl (by rw [e]))
    rw [hd]
    clear h k hl hd
    go_enter Try.func19, Try.ntmps19
    go_wp2
    go_ret
    exact ⟨rfl, 0, rfl⟩
end Go.Proofs.Ytmkpbdibhjjmpaa.Tr
