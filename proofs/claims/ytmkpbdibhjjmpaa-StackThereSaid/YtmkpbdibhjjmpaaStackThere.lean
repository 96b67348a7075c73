/- StackThere holds for every input: turned there and back all is as it was. No condition. -/
import Derived.Test.YtmkpbdibhjjmpaaRows
import Derived.Test.YtmkpbdibhjjmpaaSh9
import Derived.Test.YtmkpbdibhjjmpaaTr
import Derived.Deep.RegionHeld3
namespace Go.Proofs.Ytmkpbdibhjjmpaa.stackThere
open Go.RowKit Go.Proofs.Ytmkpbdibhjjmpaa

theorem nodup_of {xs : List Int} (h : ∀ i, i < xs.length → xs.getD i 0 ∉ xs.take i) : xs.Nodup := by
  refine List.pairwise_iff_getElem.2 fun i j hi hj hij e => h j hj ?_
  have e1 : xs.getD j 0 = xs[j] := by simp [List.getD_eq_getElem?_getD, hj]
  rw [e1, ← e]
  have h2 : i < (xs.take j).length := by simp; omega
  have : (xs.take j)[i] = xs[i] := by simp
  rw [← this]
  exact List.getElem_mem h2

/-- The i-th addresses were seen nowhere ahead, the new one is in no row. -/
def Ok (rows : List (List Int)) (fr to : List Int) (i : Nat) : Prop := fr.getD i 0 ∉ fr.take i ∧ to.getD i 0 ∉ to.take i ∧ ∀ k, k < rows.length → to.getD i 0 ∉ rows.getD k []

theorem all_ok {rows : List (List Int)} {fr to : List Int} (hl : fr.length = to.length) (h : ∀ i, i < fr.length → Ok rows fr to i) : Tp.turn to fr (Tp.turn fr to rows) = rows := by
  refine Tp.there_back hl (nodup_of fun i hi => (h i hi).1) (nodup_of fun i hi => (h i (by omega)).2.1) fun row hrow x hx hto => ?_
  obtain ⟨k, hk, rfl⟩ := List.getElem_of_mem hrow
  obtain ⟨i, hi, rfl⟩ := List.getElem_of_mem hto
  have := (h i (by omega)).2.2 k hk
  simp [List.getD_eq_getElem?_getD, hi, hk] at this
  exact this hx

theorem slice_of {w : World} {v : Value} {xs : List Int} (h : Sl .u64 w v xs) {i : Nat} (hi : i < xs.length) :
    ∃ u, (∀ w', (Instr.sliceAt 22 v none (some (.int .i64 i)) none).run Try.prog w' = .ok u w') ∧ Sl .u64 w u (xs.take i) := by
  obtain ⟨u, hu, hr⟩ := Row.slice_to Sk.uT Sk.sz h (k := i) (by omega)
  exact ⟨u, hu, Sl.of_row hr (by rw [Nat.mul_one, List.map_take])⟩

set_option maxHeartbeats 8000000 in
theorem go (v fv tv : Value) (rows : List (List Int)) (fr to : List Int) (w : World) (h : Ma .u64 w v rows) (hf : Sl .u64 w fv fr) (ht : Sl .u64 w tv to) : Calls Try.prog 8 #[v, fv, tv] w fun e w' => e = .returned (.bool true) ∧ Ext w w' := by
  have hlen := h.len St.uT2
  have hsm := h.small
  have hflen := hf.len Sk.uT
  have hfsm := hf.small
  have htlen := ht.len Sk.uT
  have htsm := ht.small
  have H := Lib.hid h
  have HF := Lib.hid hf
  have HT := Lib.hid ht
  clear h hf ht
  by_cases hl : fr.length = to.length
  · obtain ⟨n, hn⟩ : ∃ n, fr.length = n := ⟨_, rfl⟩
    obtain ⟨M, hM⟩ : ∃ M, rows.length = M := ⟨_, rfl⟩
    rw [← hl] at htlen htsm
    rw [hn] at htlen htsm hflen hfsm
    rw [hM] at hlen hsm
    have HN := Lib.hid hn
    have HL := Lib.hid hl
    have HM := Lib.hid hM
    clear hn hl hM
    go_enter Try.func8, Try.ntmps8
    go_wp2_with (go_at_call 11; refine (Sh.shown_any _).mono ?_; rintro e w0 ⟨rfl, hx0⟩)
    go_loopw [8] (fun i wr => ∃ j : Nat, i = .int .i64 j ∧ j ≤ n ∧ Ext w wr ∧ Hid (∀ i, i < j → Ok rows fr to i)) (fun i _ => n - (intOf i).toNat)
    case atStart => exact ⟨0, rfl, Nat.zero_le _, hx0, fun i hi => by omega⟩
    case round =>
      obtain ⟨j, rfl, hj, hXr, HOK⟩ := hrel
      obtain ⟨wn, hwn⟩ : ∃ wn, wn = wr := ⟨_, rfl⟩
      subst hwn
      have HXn := Lib.hid hXr
      clear hXr
      by_cases hlt : j < n
      · obtain ⟨u1, hs1, hu1⟩ := slice_of (HF.out.ext HXn.out) (i := j) (by have := HN.out; omega)
        obtain ⟨u2, hs2, hu2⟩ := slice_of (HT.out.ext HXn.out) (i := j) (by have := HN.out; have := HL.out; omega)
        obtain ⟨p1, hp1, hc1⟩ := St.elems (HF.out.ext HXn.out) j (by have := HN.out; omega)
        obtain ⟨p2, hp2, hc2⟩ := St.elems (HT.out.ext HXn.out) j (by have := HN.out; have := HL.out; omega)
        have HC1 : Hid (∀ W, Ext wn W → Calls Try.prog 18 #[u1, .int .u64 (fr.getD j 0)] W fun e w' => e = .returned (.bool (decide (fr.getD j 0 ∈ fr.take j))) ∧ W = w') := fun W hW => (St.has_any _ _ _ _ (hu1.ext hW)).mono fun e w' h => ⟨h.1, h.2.symm⟩
        have HC2 : Hid (∀ W, Ext wn W → Calls Try.prog 18 #[u2, .int .u64 (to.getD j 0)] W fun e w' => e = .returned (.bool (decide (to.getD j 0 ∈ to.take j))) ∧ W = w') := fun W hW => (St.has_any _ _ _ _ (hu2.ext hW)).mono fun e w' h => ⟨h.1, h.2.symm⟩
        obtain ⟨ok0, hok⟩ : ∃ p : Prop, p = (fr.getD j 0 ∉ fr.take j ∧ to.getD j 0 ∉ to.take j) := ⟨_, rfl⟩
        have HB : Hid (decide (fr.getD j 0 ∈ fr.take j) = false → decide (to.getD j 0 ∈ to.take j) = false → ok0) := fun a b => hok ▸ ⟨of_decide_eq_false a, of_decide_eq_false b⟩
        have HOK0 : Hid (ok0 → fr.getD j 0 ∉ fr.take j ∧ to.getD j 0 ∉ to.take j) := fun h => hok ▸ h
        obtain ⟨y, hy⟩ : ∃ y, to.getD j 0 = y := ⟨_, rfl⟩
        have HY := Lib.hid hy
        generalize decide (fr.getD j 0 ∈ fr.take j) = b1 at HC1 HB
        generalize decide (to.getD j 0 ∈ to.take j) = b2 at HC2 HB
        rw [hy] at hc2 HC2
        generalize fr.getD j 0 = x at hc1 HC1
        have hd1 : ∀ W, Ext wn W → W.cell? p1 = some (.int .u64 x) := fun W h => h.cell hc1
        have hd2 : ∀ W, Ext wn W → W.cell? p2 = some (.int .u64 y) := fun W h => h.cell hc2
        clear hu1 hu2 hok hy hc2
        have hb : b1 = true ∨ (b1 = false ∧ b2 = true) ∨ (b1 = false ∧ b2 = false) := by cases b1 <;> cases b2 <;> simp
        rcases hb with rfl | ⟨rfl, rfl⟩ | ⟨rfl, rfl⟩
        ·
          go_wp2_with fail
          go_quiet ((go_at_call 18; exact Calls.quiet_of_same ((HC1.out _ ((Ext.refl _).drewN _)).mono fun e w1 h => ⟨h.1, h.2.symm⟩)))
          go_wp2_with fail
          go_loopw [9, 10] (fun a i wr => ∃ (k : Nat) (A : Bool), i = .int .i64 k ∧ a = .bool A ∧ k ≤ M ∧ Ext wn wr ∧ Hid (A = false → ok0 ∧ ∀ k', k' < k → y ∉ rows.getD k' [])) (fun _ i _ => M - (intOf i).toNat)
          case atStart => exact ⟨0, true, rfl, rfl, Nat.zero_le _, by first | assumption | exact (Ext.refl _).drewN _, fun h => absurd h (by decide)⟩
          case round =>
            obtain ⟨k, A, rfl, rfl, hk, hXk, HA⟩ := hrel
            obtain ⟨wk, hwk⟩ : ∃ wk, wk = wr := ⟨_, rfl⟩
            subst hwk
            have HXk := Lib.hid hXk
            clear hXk
            by_cases hklt : k < M
            · obtain ⟨p3, u3, hp3, hc3, hu3⟩ := St.rowsAt (H.out.ext (HXn.out.trans HXk.out)) k (by have := HM.out; omega)
              have HC3 : Hid (∀ W, Ext wk W → Calls Try.prog 18 #[u3, .int .u64 y] W fun e w' => e = .returned (.bool (decide (y ∈ rows.getD k []))) ∧ W = w') := fun W hW => (St.has_any _ _ _ _ (hu3.ext hW)).mono fun e w' h => ⟨h.1, h.2.symm⟩
              obtain ⟨c, hc⟩ : ∃ c, decide (y ∈ rows.getD k []) = c := ⟨_, rfl⟩
              rw [hc] at HC3
              have HCC := Lib.hid hc
              have hd3 : ∀ W, Ext wk W → W.cell? p3 = some u3 := fun W h => h.cell hc3
              have hd4 : ∀ W, Ext wk W → W.cell? p2 = some (.int .u64 y) := fun W h => hd2 W (HXk.out.trans h)
              clear hc hu3 hc3
              cases A
              all_goals cases c
              all_goals
                go_wp2_with fail
                go_region_held3 (fun W : World => Ext wk W) (first | exact (Ext.refl wk).drew | assumption) ((go_at_call 18; (with_reducible refine (HC3.out _ (by assumption)).mono ?_); rintro e wq ⟨rfl, rfl⟩))
                go_wp2_with fail
                go_roundw
                case rel => first
                  | exact ⟨k + 1, true, by go_num, rfl, hklt, HXk.out.trans (by assumption), fun h => absurd h (by decide)⟩
                  | exact ⟨k + 1, false, by go_num, rfl, hklt, HXk.out.trans (by assumption), fun h => ⟨(HA.out (by first | rfl | trivial)).1, fun k2 hk2 => by
                      by_cases e : k2 = k
                      · subst e; exact of_decide_eq_false HCC.out
                      · exact (HA.out (by first | rfl | trivial)).2 k2 (by omega)⟩⟩
                case measure => simp [intOf]; omega
            · have hkd : decide (k < M) = false := decide_eq_false hklt
              cases A with
              | true =>
                go_wp2_with fail
                go_ret
                exact ⟨by first | rfl | (simp; done), HXn.out.trans HXk.out⟩
              | false =>
                go_wp2_with fail
                go_roundw
                case rel => exact ⟨j + 1, by go_num, hlt, HXn.out.trans HXk.out, fun i hi => by
                  by_cases e : i = j
                  · subst e
                    have h1 := HA.out rfl
                    exact ⟨(HOK0.out h1.1).1, (HOK0.out h1.1).2, fun k2 hk2 => by rw [HY.out]; exact h1.2 k2 (by have := HM.out; omega)⟩
                  · exact HOK.out i (by omega)⟩
                case measure => simp [intOf]; omega
        ·
          go_wp2_with fail
          go_region_held3 (fun W : World => Ext wn W) (first | exact (Ext.refl wn).drew | assumption) (first | (go_at_call 18; (with_reducible refine (HC1.out _ (by assumption)).mono ?_); rintro e wq ⟨rfl, rfl⟩) | (go_at_call 18; (with_reducible refine (HC2.out _ (by assumption)).mono ?_); rintro e wq ⟨rfl, rfl⟩))
          go_wp2_with fail
          go_loopw [9, 10] (fun a i wr => ∃ (k : Nat) (A : Bool), i = .int .i64 k ∧ a = .bool A ∧ k ≤ M ∧ Ext wn wr ∧ Hid (A = false → ok0 ∧ ∀ k', k' < k → y ∉ rows.getD k' [])) (fun _ i _ => M - (intOf i).toNat)
          case atStart => exact ⟨0, true, rfl, rfl, Nat.zero_le _, by first | assumption | exact (Ext.refl _).drewN _, fun h => absurd h (by decide)⟩
          case round =>
            obtain ⟨k, A, rfl, rfl, hk, hXk, HA⟩ := hrel
            obtain ⟨wk, hwk⟩ : ∃ wk, wk = wr := ⟨_, rfl⟩
            subst hwk
            have HXk := Lib.hid hXk
            clear hXk
            by_cases hklt : k < M
            · obtain ⟨p3, u3, hp3, hc3, hu3⟩ := St.rowsAt (H.out.ext (HXn.out.trans HXk.out)) k (by have := HM.out; omega)
              have HC3 : Hid (∀ W, Ext wk W → Calls Try.prog 18 #[u3, .int .u64 y] W fun e w' => e = .returned (.bool (decide (y ∈ rows.getD k []))) ∧ W = w') := fun W hW => (St.has_any _ _ _ _ (hu3.ext hW)).mono fun e w' h => ⟨h.1, h.2.symm⟩
              obtain ⟨c, hc⟩ : ∃ c, decide (y ∈ rows.getD k []) = c := ⟨_, rfl⟩
              rw [hc] at HC3
              have HCC := Lib.hid hc
              have hd3 : ∀ W, Ext wk W → W.cell? p3 = some u3 := fun W h => h.cell hc3
              have hd4 : ∀ W, Ext wk W → W.cell? p2 = some (.int .u64 y) := fun W h => hd2 W (HXk.out.trans h)
              clear hc hu3 hc3
              cases A
              all_goals cases c
              all_goals
                go_wp2_with fail
                go_region_held3 (fun W : World => Ext wk W) (first | exact (Ext.refl wk).drew | assumption) ((go_at_call 18; (with_reducible refine (HC3.out _ (by assumption)).mono ?_); rintro e wq ⟨rfl, rfl⟩))
                go_wp2_with fail
                go_roundw
                case rel => first
                  | exact ⟨k + 1, true, by go_num, rfl, hklt, HXk.out.trans (by assumption), fun h => absurd h (by decide)⟩
                  | exact ⟨k + 1, false, by go_num, rfl, hklt, HXk.out.trans (by assumption), fun h => ⟨(HA.out (by first | rfl | trivial)).1, fun k2 hk2 => by
                      by_cases e : k2 = k
                      · subst e; exact of_decide_eq_false HCC.out
                      · exact (HA.out (by first | rfl | trivial)).2 k2 (by omega)⟩⟩
                case measure => simp [intOf]; omega
            · have hkd : decide (k < M) = false := decide_eq_false hklt
              cases A with
              | true =>
                go_wp2_with fail
                go_ret
                exact ⟨by first | rfl | (simp; done), HXn.out.trans HXk.out⟩
              | false =>
                go_wp2_with fail
                go_roundw
                case rel => exact ⟨j + 1, by go_num, hlt, HXn.out.trans HXk.out, fun i hi => by
                  by_cases e : i = j
                  · subst e
                    have h1 := HA.out rfl
                    exact ⟨(HOK0.out h1.1).1, (HOK0.out h1.1).2, fun k2 hk2 => by rw [HY.out]; exact h1.2 k2 (by have := HM.out; omega)⟩
                  · exact HOK.out i (by omega)⟩
                case measure => simp [intOf]; omega
        ·
          go_wp2_with fail
          go_region_held3 (fun W : World => Ext wn W) (first | exact (Ext.refl wn).drew | assumption) (first | (go_at_call 18; (with_reducible refine (HC1.out _ (by assumption)).mono ?_); rintro e wq ⟨rfl, rfl⟩) | (go_at_call 18; (with_reducible refine (HC2.out _ (by assumption)).mono ?_); rintro e wq ⟨rfl, rfl⟩))
          go_wp2_with fail
          go_loopw [9, 10] (fun a i wr => ∃ (k : Nat) (A : Bool), i = .int .i64 k ∧ a = .bool A ∧ k ≤ M ∧ Ext wn wr ∧ Hid (A = false → ok0 ∧ ∀ k', k' < k → y ∉ rows.getD k' [])) (fun _ i _ => M - (intOf i).toNat)
          case atStart => exact ⟨0, false, rfl, rfl, Nat.zero_le _, by first | assumption | exact (Ext.refl _).drewN _, fun h => ⟨HB.out (by first | rfl | trivial) (by first | rfl | trivial), fun k' hk' => by omega⟩⟩
          case round =>
            obtain ⟨k, A, rfl, rfl, hk, hXk, HA⟩ := hrel
            obtain ⟨wk, hwk⟩ : ∃ wk, wk = wr := ⟨_, rfl⟩
            subst hwk
            have HXk := Lib.hid hXk
            clear hXk
            by_cases hklt : k < M
            · obtain ⟨p3, u3, hp3, hc3, hu3⟩ := St.rowsAt (H.out.ext (HXn.out.trans HXk.out)) k (by have := HM.out; omega)
              have HC3 : Hid (∀ W, Ext wk W → Calls Try.prog 18 #[u3, .int .u64 y] W fun e w' => e = .returned (.bool (decide (y ∈ rows.getD k []))) ∧ W = w') := fun W hW => (St.has_any _ _ _ _ (hu3.ext hW)).mono fun e w' h => ⟨h.1, h.2.symm⟩
              obtain ⟨c, hc⟩ : ∃ c, decide (y ∈ rows.getD k []) = c := ⟨_, rfl⟩
              rw [hc] at HC3
              have HCC := Lib.hid hc
              have hd3 : ∀ W, Ext wk W → W.cell? p3 = some u3 := fun W h => h.cell hc3
              have hd4 : ∀ W, Ext wk W → W.cell? p2 = some (.int .u64 y) := fun W h => hd2 W (HXk.out.trans h)
              clear hc hu3 hc3
              cases A
              all_goals cases c
              all_goals
                go_wp2_with fail
                go_region_held3 (fun W : World => Ext wk W) (first | exact (Ext.refl wk).drew | assumption) ((go_at_call 18; (with_reducible refine (HC3.out _ (by assumption)).mono ?_); rintro e wq ⟨rfl, rfl⟩))
                go_wp2_with fail
                go_roundw
                case rel => first
                  | exact ⟨k + 1, true, by go_num, rfl, hklt, HXk.out.trans (by assumption), fun h => absurd h (by decide)⟩
                  | exact ⟨k + 1, false, by go_num, rfl, hklt, HXk.out.trans (by assumption), fun h => ⟨(HA.out (by first | rfl | trivial)).1, fun k2 hk2 => by
                      by_cases e : k2 = k
                      · subst e; exact of_decide_eq_false HCC.out
                      · exact (HA.out (by first | rfl | trivial)).2 k2 (by omega)⟩⟩
                case measure => simp [intOf]; omega
            · have hkd : decide (k < M) = false := decide_eq_false hklt
              cases A with
              | true =>
                go_wp2_with fail
                go_ret
                exact ⟨by first | rfl | (simp; done), HXn.out.trans HXk.out⟩
              | false =>
                go_wp2_with fail
                go_roundw
                case rel => exact ⟨j + 1, by go_num, hlt, HXn.out.trans HXk.out, fun i hi => by
                  by_cases e : i = j
                  · subst e
                    have h1 := HA.out rfl
                    exact ⟨(HOK0.out h1.1).1, (HOK0.out h1.1).2, fun k2 hk2 => by rw [HY.out]; exact h1.2 k2 (by have := HM.out; omega)⟩
                  · exact HOK.out i (by omega)⟩
                case measure => simp [intOf]; omega
      · obtain rfl : j = n := by omega
        have HE : Hid (Tp.turn to fr (Tp.turn fr to rows) = rows) := all_ok HL.out fun i hi => HOK.out i (by have := HN.out; omega)
        go_wp2_with fail
        refine (Tu.turn_any _ _ _ rows fr to _ (H.out.ext HXn.out) (HF.out.ext HXn.out) (HT.out.ext HXn.out)).mono ?_; rintro e w1 ⟨o1, rfl, ho1, hx1⟩
        have HO1 := Lib.hid ho1
        have HX1 := Lib.hid (HXn.out.trans hx1)
        clear ho1 hx1
        go_wp2_with fail
        refine (Tu.turn_any _ _ _ _ to fr _ HO1.out (HT.out.ext HX1.out) (HF.out.ext HX1.out)).mono ?_; rintro e w2 ⟨o2, rfl, ho2, hx2⟩
        rw [HE.out] at ho2
        have HO2 := Lib.hid ho2
        have HX2 := Lib.hid (HX1.out.trans hx2)
        clear ho2 hx2
        go_wp2_with fail
        refine (Tr.rows_any _ _ _ _ _ HO2.out (H.out.ext HX2.out)).mono ?_; rintro e w3 ⟨rfl, m, rfl⟩
        go_wp2_with fail
        go_ret
        exact ⟨by first | rfl | (simp; done), HX2.out.drewN m⟩
  · have hne : ((fr.length : Int) != to.length) = true := by rw [bne_iff_ne]; omega
    clear hl
    go_enter Try.func8, Try.ntmps8
    go_wp2_with (go_at_call 11; refine (Sh.shown_any _).mono ?_; rintro e w0 ⟨rfl, hx0⟩)
    go_ret
    exact ⟨by first | rfl | (simp; done), hx0⟩

theorem walk (v0 : Value) (v1 : Value) (v2 : Value) (W : World) (r0 : Rd.V Try.prog W 34 v0) (r1 : Rd.V Try.prog W 22 v1) (r2 : Rd.V Try.prog W 22 v2) : Calls Try.prog 8 #[v0, v1, v2] W fun e w' => e = .returned (.bool true) ∧ Below W.heap.size W w' := by
  obtain ⟨_, n0, c0, rfl, h⟩ := r0.slice Try.underlying34
  obtain ⟨rows, h, _⟩ := Ma.of_R Try.underlying34 Try.underlying22 Try.underlying23 (by kernel_rfl) (by kernel_rfl) (by kernel_rfl) (by kernel_rfl) h
  obtain ⟨_, n1, c1, rfl, hf⟩ := r1.slice Try.underlying22
  obtain ⟨fr, hf, _⟩ := Sl.of_R Try.underlying22 Try.underlying23 (by kernel_rfl) (by kernel_rfl) hf
  obtain ⟨_, n2, c2, rfl, ht⟩ := r2.slice Try.underlying22
  obtain ⟨to, ht, _⟩ := Sl.of_R Try.underlying22 Try.underlying23 (by kernel_rfl) (by kernel_rfl) ht
  exact (go _ _ _ rows fr to W h hf ht).mono fun e w' ⟨he, hw⟩ => ⟨he, hw.below⟩

open Go.ChangeShapes Go.WideShapes Go.ChangeAt Go.RowKit
theorem own : ownKnob Try.prog.godebug = none := by kernel_rfl
theorem laidOut : laidOutB Try.prog = true := by kernel_rfl

set_option maxRecDepth 100000 in
theorem lifted (os : Os) (started : os.Started) (H : Type) (enc : TypeId × Value → H) :
    ReturnsInHanded {} Try.checked os 8 .any (Rows.stackThereSpec.pre6 enc Try.prog Try.f8 Rows.stackThereRow.domain false) (Rows.stackThereSpec.post enc Try.prog Try.f8 false true false false) := by
  refine returnsInHanded_of_change_sized (C := Try.checked) own started (by kernel_rfl) Try.func8
    (ChangeSpec.witness6 (enc := enc) (C := Try.checked) false ⟨#[], #[.slice none 0 0, .slice none 0 0, .slice none 0 0], []⟩ 12 (by kernel_rfl) (by kernel_rfl) (by kernel_rfl) (by kernel_rfl)) ?_
  intro W base args ds gs before hval0 hW _ hsz0 _
  have hval : ∀ (j : Nat) t v, Try.f8.params[j]? = some t → args[j]? = some v → Value.okWide Try.prog W .any base t v := hval0
  have hW' := hW
  obtain ⟨p, q, hA0, hV, rfl, _, _⟩ := hW
  have hA : DataW.TrodAll enc Try.prog W 0 (fun _ => true) true Try.f8.params.toList args.toList ds p := hA0
  obtain ⟨rfl, rfl⟩ := trodVars_none hV
  have hsz : (DataW.weightsEach Try.prog (Try.f8.params.toList ++ []) (ds ++ [])).all (· ≤ reachBytes) = true := hsz0
  rw [Try.params8] at hA hval hsz
  have hA2 := hA
  obtain ⟨v0, vs0, d0, ds0, p0, q0, hargs, rfl, rfl, h0, r0⟩ := trodAll_cons hA2
  obtain ⟨v1, vs1, d1, ds1, p1, q1, rfl, rfl, rfl, h1, r1⟩ := trodAll_cons r0
  obtain ⟨v2, vs2, d2, ds2, p2, q2, rfl, rfl, rfl, h2, r2⟩ := trodAll_cons r1
  obtain ⟨rfl, rfl, rfl⟩ := trodAll_nil r2
  obtain rfl : args = #[v0, v1, v2] := by cases args; simp_all
  have hR := Rd.trodAll_V hA (fun n hn => by simpa using List.all_eq_true.1 hsz n (by simpa using hn)) (fun j t v hj hv => hval j t v (by simpa using hj) (by simpa using hv))
  clear hA0 hval0 hA2
  refine (walk v0 v1 v2 W (hR 0 34 v0 rfl rfl) (hR 1 22 v1 rfl rfl) (hR 2 22 v2 rfl rfl)).mono fun e W' ⟨he, bel⟩ => ?_
  subst he
  exact ⟨_, rfl, _, _, _, [], _, [], hW', trodAll_mk1 (shut_bool Try.underlying4 _), Rd.trodAll_below laidOut bel (List.forall_mem_cons.2 ⟨⟨by kernel_rfl, of_decide_eq_true (by kernel_rfl)⟩, List.forall_mem_cons.2 ⟨⟨by kernel_rfl, of_decide_eq_true (by kernel_rfl)⟩, List.forall_mem_cons.2 ⟨⟨by kernel_rfl, of_decide_eq_true (by kernel_rfl)⟩, fun _ h => by cases h⟩⟩⟩) hA, rfl, bel.frame _, fun h => by cases h⟩

theorem over : Rows.stackThereRow.holds Try.pinned (OpenSpec.ofChange Rows.stackThereSpec) :=
  OpenClaim.holds_of_wide 8 Try.f8 rfl rfl rfl rfl rfl rfl rfl ⟨rfl, rfl, rfl, rfl, rfl⟩ rfl rfl rfl rfl rfl (by kernel_rfl) Try.func8 (by kernel_rfl)
    (of_decide_eq_true (by kernel_rfl)) (by unfold Func.isWrapper; first | (rw [if_pos (by decide +kernel)]; kernel_rfl) | (rw [if_neg (by decide +kernel)]; exact ⟨rfl, rfl⟩))
    (fun os started H enc _ => lifted os started H enc)

theorem proved : Rows.StackThereSaid := over
#print axioms proved
end Go.Proofs.Ytmkpbdibhjjmpaa.stackThere
