/- What asking for a word, finding its place, copying a row and turning addresses compute, said of lists; and the reference's turning and comparing. -/
import Derived.Test.YtmkpbdibhjjmpaaSk
import Derived.Test.YtmkpbdibhjjmpaaOw
import Derived.Test.YtmkpbdibhjjmpaaTp
namespace Go.Proofs.Ytmkpbdibhjjmpaa.St
open Go.RowKit
open Go.Proofs.Ytmkpbdibhjjmpaa
set_option linter.unusedVariables false

theorem uT2 : Try.prog.underlying 34 = some (.slice 22) := Try.underlying34
theorem sz2 : ∀ w, (sizeOf 22).run Try.prog w = .ok 1 w := Try.sizeOf22
theorem info_row : ∃ i, Try.prog.info? 22 = some i ∧ i.zero = some (.slice none 0 0) ∧ i.size = 1 ∧ i.bytes = 24 := by
  have h : (Try.prog.info? 22).map (fun i => (i.zero, i.size, i.bytes)) = some (some (.slice none 0 0), 1, 24) := by kernel_rfl
  obtain ⟨i, hi, h0, h1, h2⟩ := info_parts h
  exact ⟨i, hi, h0, h1, h2⟩

/-- Each element of a row, for the walk. -/
theorem elems {w : World} {v : Value} {xs : List Int} (h : Sl .u64 w v xs) : ∀ i : Nat, i < xs.length → ∃ p : Addr, (∀ w', (Instr.indexAt 22 v (.int .i64 i)).run Try.prog w' = .ok (.pointer (some p)) w') ∧ w.cell? p = some (.int .u64 (xs.getD i 0)) :=
  fun i hi => h.at_ Sk.uT Sk.sz (i := i) (by omega) (by omega)
theorem rowsAt {w : World} {v : Value} {rows : List (List Int)} (h : Ma .u64 w v rows) : ∀ i : Nat, i < rows.length → ∃ (p : Addr) (u : Value), (∀ w', (Instr.indexAt 34 v (.int .i64 i)).run Try.prog w' = .ok (.pointer (some p)) w') ∧ w.cell? p = some u ∧ Sl .u64 w u (rows.getD i []) :=
  fun i hi => h.at_ uT2 sz2 (i := i) (by omega) (by omega)

theorem has_any (v : Value) (xs : List Int) (a : Int) (w : World) (h : Sl .u64 w v xs) :
    Calls Try.prog 18 #[v, .int .u64 a] w fun e w' => e = .returned (.bool (decide (a ∈ xs))) ∧ w' = w := by
  have hlen := h.len Sk.uT
  have hsm := h.small
  have HX := Lib.hid (elems h)
  clear h
  go_enter Try.func18, Try.ntmps18
  go_wp2
  go_loop [5] (fun i => ∃ j : Nat, i = .int .i64 j ∧ j ≤ xs.length ∧ Hid (∀ t : Nat, t < j → xs.getD t 0 ≠ a)) (fun i => xs.length - (intOf i).toNat)
  case atStart => exact ⟨0, rfl, Nat.zero_le _, fun t ht => by omega⟩
  case round =>
    obtain ⟨j, rfl, hj, HA⟩ := hrel
    by_cases hlt : j < xs.length
    · obtain ⟨p, hp, hcp⟩ := HX.out j hlt
      obtain ⟨x, hx⟩ : ∃ x, xs.getD j 0 = x := ⟨_, rfl⟩
      rw [hx] at hcp
      have HXX := Lib.hid hx
      clear hx
      cases hxa : (x == a) with
      | true =>
        go_wp2
        go_ret
        refine ⟨?_, rfl⟩
        have : a ∈ xs := by have h1 := HXX.out; rw [← beq_iff_eq.1 hxa, ← h1]; simp [List.getD_eq_getElem?_getD, hlt]
        simp [this]
      | false =>
        go_wp2
        go_round
        case rel => exact ⟨j + 1, by go_num, hlt, fun t ht => by
          by_cases e : t = j
          · subst e; rw [HXX.out]; exact beq_eq_false_iff_ne.1 hxa
          · exact HA.out t (by omega)⟩
        case measure => simp [intOf]; omega
    · go_wp2
      go_ret
      refine ⟨?_, rfl⟩
      have : a ∉ xs := fun hm => by
        obtain ⟨t, ht, hta⟩ := List.getElem_of_mem hm
        exact HA.out t (by omega) (by simp [List.getD_eq_getElem?_getD, ht, hta])
      simp [this]

theorem index_any (v : Value) (xs : List Int) (a : Int) (w : World) (h : Sl .u64 w v xs) :
    Calls Try.prog 29 #[v, .int .u64 a] w fun e w' => e = .returned (.int .i64 (Tp.idx xs a)) ∧ w' = w := by
  have hlen := h.len Sk.uT
  have hsm := h.small
  have HX := Lib.hid (elems h)
  clear h
  go_enter Try.func29, Try.ntmps29
  go_wp2
  go_loop [8] (fun i => ∃ j : Nat, i = .int .i64 j ∧ j ≤ xs.length ∧ Hid (∀ t : Nat, t < j → xs.getD t 0 ≠ a)) (fun i => xs.length - (intOf i).toNat)
  case atStart => exact ⟨0, rfl, Nat.zero_le _, fun t ht => by omega⟩
  case round =>
    obtain ⟨j, rfl, hj, HA⟩ := hrel
    by_cases hlt : j < xs.length
    · obtain ⟨p, hp, hcp⟩ := HX.out j hlt
      obtain ⟨x, hx⟩ : ∃ x, xs.getD j 0 = x := ⟨_, rfl⟩
      rw [hx] at hcp
      have HXX := Lib.hid hx
      clear hx
      cases hxa : (a == x) with
      | true =>
        go_wp2
        go_ret
        refine ⟨ret_int ?_, rfl⟩
        have h1 : Tp.fnd xs a = j := Tp.fnd_eq hlt (by rw [HXX.out]; exact (beq_iff_eq.1 hxa).symm) HA.out
        unfold Tp.idx
        rw [h1, if_pos hlt]
      | false =>
        go_wp2
        go_round
        case rel => exact ⟨j + 1, by go_num, hlt, fun t ht => by
          by_cases e : t = j
          · subst e; rw [HXX.out]; exact (beq_eq_false_iff_ne.1 hxa).symm
          · exact HA.out t (by omega)⟩
        case measure => simp [intOf]; omega
    · go_wp2
      go_ret
      refine ⟨ret_int ?_, rfl⟩
      have h1 : Tp.fnd xs a = xs.length := Tp.fnd_none fun t ht => HA.out t (by omega)
      unfold Tp.idx
      rw [h1, if_neg (by omega)]

/-- Comparing a slice with nil: nothing that the model leaves out. -/
theorem guard_at {w : World} {s b : Nat} {v : Value} {n : Nat} {cs : List Value} (h : Row w s b v n cs) (op : BinOp) (t : TypeId) (x y : Operand) (u : Value) : eqGuard op t x y v u = pure () := by
  obtain ⟨a, cap, rfl⟩ := h.form
  cases op <;> rfl

/-- A copy: a row of the call's own. -/
theorem clone_any (v : Value) (xs : List Int) (w : World) (h : Sl .u64 w v xs) :
    Calls Try.prog 30 #[v] w fun e w' => ∃ u, e = .returned u ∧ w'.ownsRow w.heap.size 23 1 u xs.length (xs.map (Value.int .u64)) ∧ Ext w w' := by
  have hnil := Row.eql_nil Sk.uT h
  have hgd := guard_at h .eql 22
  cases hn : isNil v with
  | true =>
    obtain ⟨_, hc, rfl⟩ := Row.of_nil h hn
    have hxs : xs = [] := by simpa using hc
    subst hxs
    clear h hc
    go_enter Try.func30, Try.ntmps30
    go_wp2
    go_ret
    exact ⟨_, rfl, World.ownsRow_nil _ _ _ _, Ext.refl _⟩
  | false =>
    have hx : Ext w (w.alloc (.cells #[] 23)) := (Ext.refl w).alloc _
    obtain ⟨i0, hi, hz0, hz1, hz2⟩ := Sk.info_u64
    obtain ⟨v', w', hrun, hown, hg, hat⟩ := append_own (ty := 22) Sk.uT hi hz0 hz1 hz2 rfl (by decide) (own_empty w 23 1) (by simp) (Row.ext h hx) (oneCells _ _) (by have := h.2.1; omega) (by decide)
    have HF : Hid (w'.ownsRow w.heap.size 23 1 v' xs.length (xs.map (Value.int .u64)) ∧ Ext w w') :=
      ⟨by simpa using hown, hx.grown hg (fun k hk => by simp [Value.ownBlock] at hk; omega)⟩
    clear hown hg hat hx hi hz0 hz1 hz2 h
    have hrun' := Lib.hid hrun
    clear hrun
    go_enter Try.func30, Try.ntmps30
    go_wp2_with (at_builtin; refine Lib.wpList_append_run _ rfl _ _ _ _ rfl _ _ rfl rfl v' w' hrun'.out ?_)
    go_ret
    exact ⟨v', rfl, HF.out⟩

/-- One address is turned: the closure, its two captured rows in boxes. -/
theorem as_any (fv tv : Value) (fr to : List Int) (a : Int) (p q : Addr) (w : World) (h : Sl .u64 w fv fr) (k : Sl .u64 w tv to) (hp : w.cell? p = some fv) (hq : w.cell? q = some tv) :
    Calls Try.prog 28 #[.int .u64 a, .pointer (some p), .pointer (some q)] w fun e w' => e = .returned (.int .u64 (Tp.turn1 fr to a)) ∧ w' = w := by
  have klen := k.len Sk.uT
  have ksm := k.small
  have HI := Lib.hid (index_any fv fr a w h)
  have hfl := h.small
  have HX := Lib.hid (elems k)
  clear h k
  by_cases hc : Tp.fnd fr a < fr.length ∧ Tp.fnd fr a < to.length
  · obtain ⟨j, hj⟩ : ∃ j, Tp.fnd fr a = j := ⟨_, rfl⟩
    have e1 : Tp.idx fr a = (j : Int) := by unfold Tp.idx; rw [if_pos hc.1, hj]
    have e2 : Tp.turn1 fr to a = to.getD j 0 := by unfold Tp.turn1; rw [if_pos hc, hj]
    rw [e1] at HI
    rw [e2]
    have hjt : j < to.length := by omega
    obtain ⟨p1, hp1, hcp1⟩ := HX.out j hjt
    generalize to.getD j 0 = x at hcp1
    clear hc hj e1 e2
    go_enter Try.func28, Try.ntmps28
    go_wp2_with fail
    refine HI.out.mono ?_; rintro e w' ⟨rfl, rfl⟩
    go_wp2_with fail
    go_ret
    exact ⟨rfl, rfl⟩
  · have e2 : Tp.turn1 fr to a = a := by unfold Tp.turn1; rw [if_neg hc]
    have e1 : Tp.idx fr a = -1 ∨ (0 ≤ Tp.idx fr a ∧ (to.length : Int) ≤ Tp.idx fr a) := by
      unfold Tp.idx
      split
      · right; omega
      · left; rfl
    rw [e2]
    clear hc e2
    generalize Tp.idx fr a = r at HI e1
    rcases e1 with rfl | ⟨r0, r1⟩
    all_goals
      go_enter Try.func28, Try.ntmps28
      go_wp2_with fail
      refine HI.out.mono ?_; rintro e w' ⟨rfl, rfl⟩
      go_wp2_with fail
      go_ret
      exact ⟨rfl, rfl⟩

end Go.Proofs.Ytmkpbdibhjjmpaa.St
