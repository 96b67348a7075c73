/- Rows of words: an element's place, a copy, comparing two rows; for any seat that has slices of words. -/
import Derived.Test.YtjobhdcjjegpfaaProg
import Derived.Test.YtjobhdcjjegpfaaBk
namespace Go.Proofs.Ytjobhdcjjegpfaa.Aw
open Go.RowKit
open Go.Proofs.Ytjobhdcjjegpfaa
set_option linter.unusedVariables false

theorem uT : Try.prog.underlying 22 = some (.slice 26) := Try.underlying22
theorem info_u64 : ∃ i, Try.prog.info? 26 = some i ∧ i.zero = some (.int .u64 0) ∧ i.size = 1 ∧ i.bytes = 8 := by
  have h : (Try.prog.info? 26).map (fun i => (i.zero, i.size, i.bytes)) = some (some (.int .u64 0), 1, 8) := by kernel_rfl
  obtain ⟨i, hi, h0, h1, h2⟩ := info_parts h
  exact ⟨i, hi, h0, h1, h2⟩
theorem sz : ∀ w, (sizeOf 26).run Try.prog w = .ok 1 w := Try.sizeOf26

/-- One element of the call's own, in a block of its own: what '[]uint64{a}' lays. -/
theorem Sl.one (w : World) (a : Int) : Sl .u64 (w.alloc (.cells #[.int .u64 a] 26)) (.slice (some ⟨w.heap.size, 0, none⟩) 1 1) [a] :=
  ⟨rfl, by simp, by simp, .inr ⟨_, 1, rfl, Nat.le_refl _, by unfold maxLen; omega, cell_one_new _ _ _⟩⟩

/-- Each element of a row, for the walk. -/
theorem elems {w : World} {v : Value} {xs : List Int} (h : Sl .u64 w v xs) : ∀ i : Nat, i < xs.length → ∃ p : Addr, (∀ w', (Instr.indexAt 22 v (.int .i64 i)).run Try.prog w' = .ok (.pointer (some p)) w') ∧ w.cell? p = some (.int .u64 (xs.getD i 0)) :=
  fun i hi => h.at_ uT sz (i := i) (by omega) (by omega)
/-- Comparing a slice with nil: nothing that the model leaves out. -/
theorem guard_at {w : World} {s b : Nat} {v : Value} {n : Nat} {cs : List Value} (h : Row w s b v n cs) (op : BinOp) (t : TypeId) (x y : Operand) (u : Value) : eqGuard op t x y v u = pure () := by
  obtain ⟨a, cap, rfl⟩ := h.form
  cases op <;> rfl

/-- A copy: a row of the call's own. -/
theorem clone_any (v : Value) (xs : List Int) (w : World) (h : Sl .u64 w v xs) :
    Calls Try.prog 37 #[v] w fun e w' => ∃ u, e = .returned u ∧ w'.ownsRow w.heap.size 26 1 u xs.length (xs.map (Value.int .u64)) ∧ Ext w w' := by
  have hnil := Row.eql_nil uT h
  have hgd := guard_at h .eql 22
  cases hn : isNil v with
  | true =>
    obtain ⟨_, hc, rfl⟩ := Row.of_nil h hn
    have hxs : xs = [] := by simpa using hc
    subst hxs
    clear h hc
    go_enter Try.func37, Try.ntmps37
    go_wp2
    go_ret
    exact ⟨_, rfl, World.ownsRow_nil _ _ _ _, Ext.refl _⟩
  | false =>
    have hx : Ext w (w.alloc (.cells #[] 26)) := (Ext.refl w).alloc _
    obtain ⟨i0, hi, hz0, hz1, hz2⟩ := info_u64
    obtain ⟨v', w', hrun, hown, hg, hat⟩ := append_own (ty := 22) uT hi hz0 hz1 hz2 rfl (by decide) (own_empty w 26 1) (by simp) (Row.ext h hx) (oneCells _ _) (by have := h.2.1; omega) (by decide)
    have HF : Hid (w'.ownsRow w.heap.size 26 1 v' xs.length (xs.map (Value.int .u64)) ∧ Ext w w') :=
      ⟨by simpa using hown, hx.grown hg (fun k hk => by simp [Value.ownBlock] at hk; omega)⟩
    clear hown hg hat hx hi hz0 hz1 hz2 h
    have hrun' := Lib.hid hrun
    clear hrun
    go_enter Try.func37, Try.ntmps37
    go_wp2_with (at_builtin; refine Lib.wpList_append_run _ rfl _ _ _ _ rfl _ _ rfl rfl v' w' hrun'.out ?_)
    go_ret
    exact ⟨v', rfl, HF.out⟩

/-- Two rows, word by word. -/
theorem words_any (v u : Value) (xs ys : List Int) (w : World) (h : Sl .u64 w v xs) (k : Sl .u64 w u ys) :
    Calls Try.prog 33 #[v, u] w fun e w' => e = .returned (.bool (decide (xs = ys))) ∧ ∃ m, w' = w.drewN m := by
  have hlen := h.len uT
  have klen := k.len uT
  have hsm := h.small
  have ksm := k.small
  by_cases hl : xs.length = ys.length
  · rw [← hl] at klen
    obtain ⟨n, hn⟩ : ∃ n, xs.length = n := ⟨_, rfl⟩
    have HX : Hid (∀ i : Nat, i < n → ∃ p : Addr, (∀ w', (Instr.indexAt 22 v (.int .i64 i)).run Try.prog w' = .ok (.pointer (some p)) w') ∧ w.cell? p = some (.int .u64 (xs.getD i 0))) := fun i hi => h.at_ uT sz (i := i) (by omega) (by omega)
    have HY : Hid (∀ i : Nat, i < n → ∃ p : Addr, (∀ w', (Instr.indexAt 22 u (.int .i64 i)).run Try.prog w' = .ok (.pointer (some p)) w') ∧ w.cell? p = some (.int .u64 (ys.getD i 0))) := fun i hi => k.at_ uT sz (i := i) (by omega) (by omega)
    have HN := Lib.hid hn
    have HL := Lib.hid hl
    rw [hn] at hlen klen hsm
    clear h k hn hl ksm
    go_enter Try.func33, Try.ntmps33
    go_wp2
    go_loopw [5] (fun i wr => ∃ j : Nat, i = .int .i64 j ∧ j ≤ n ∧ (∀ t : Nat, t < j → xs.getD t 0 = ys.getD t 0) ∧ ∃ nq, wr = w.drewN nq) (fun i _ => n - (intOf i).toNat)
    case atStart => exact ⟨0, rfl, Nat.zero_le _, fun t ht => by omega, 0, rfl⟩
    case round =>
      obtain ⟨j, rfl, hj, hall, nq, rfl⟩ := hrel
      have HA := Lib.hid hall
      clear hall
      by_cases hlt : j < n
      · obtain ⟨p, hp, hcp⟩ := HX.out j hlt
        obtain ⟨q, hq, hcq⟩ := HY.out j hlt
        obtain ⟨x, hx⟩ : ∃ x, xs.getD j 0 = x := ⟨_, rfl⟩
        obtain ⟨y, hy⟩ : ∃ y, ys.getD j 0 = y := ⟨_, rfl⟩
        rw [hx] at hcp
        rw [hy] at hcq
        have HXY := Lib.hid (And.intro hx hy)
        clear hx hy
        cases hxy : (x != y) with
        | true =>
          go_wp2
          go_quiet (fail)
          go_wp2
          go_ret
          refine ⟨?_, (by first | exact ⟨_, rfl⟩ | (rw [World.drewN_drewN]; exact ⟨_, rfl⟩))⟩
          have : xs ≠ ys := fun e => by have h2 := HXY.out; rw [e, h2.2] at h2; exact absurd h2.1 (fun h3 => by rw [h3] at hxy; simp at hxy)
          simp [this]
        | false =>
          go_wp2
          go_quiet (fail)
          go_wp2
          go_roundw
          case rel => exact ⟨j + 1, by go_num, hlt, fun t ht => by
            by_cases e : t = j
            · subst e; have h2 := HXY.out; rw [h2.1, h2.2]; simpa using hxy
            · exact HA.out t (by omega), (by first | exact ⟨_, rfl⟩ | (rw [World.drewN_drewN]; exact ⟨_, rfl⟩))⟩
          case measure => simp [intOf]; omega
      · have hjn : j = n := by omega
        subst hjn
        go_wp2
        go_ret
        refine ⟨?_, (by first | exact ⟨_, rfl⟩ | (rw [World.drewN_drewN]; exact ⟨_, rfl⟩))⟩
        have : xs = ys := List.ext_getElem HL.out fun i h1 h2 => by
          have := HA.out i (by have := HN.out; omega)
          simpa [h1, h2] using this
        simp [this]
  · have hne : ((xs.length : Int) != ys.length) = true := by rw [bne_iff_ne]; omega
    have hd : decide (xs = ys) = false := decide_eq_false (fun e => hl (by rw [e]))
    rw [hd]
    clear h k hl hd
    go_enter Try.func33, Try.ntmps33
    go_wp2
    go_ret
    exact ⟨rfl, 0, rfl⟩

/-- Two rows, by the library. -/
theorem equal_any (v u : Value) (xs ys : List Int) (w : World) (h : Sl .u64 w v xs) (k : Sl .u64 w u ys) :
    Calls Try.prog 34 #[v, u] w fun e w' => e = .returned (.bool (decide (xs = ys))) ∧ ∃ m, w' = w.drewN m := by
  have hlen := h.len uT
  have klen := k.len uT
  have hsm := h.small
  have ksm := k.small
  by_cases hl : xs.length = ys.length
  · rw [← hl] at klen
    obtain ⟨n, hn⟩ : ∃ n, xs.length = n := ⟨_, rfl⟩
    have HX : Hid (∀ i : Nat, i < n → ∃ p : Addr, (∀ w', (Instr.indexAt 22 v (.int .i64 i)).run Try.prog w' = .ok (.pointer (some p)) w') ∧ w.cell? p = some (.int .u64 (xs.getD i 0))) := fun i hi => h.at_ uT sz (i := i) (by omega) (by omega)
    have HY : Hid (∀ i : Nat, i < n → ∃ p : Addr, (∀ w', (Instr.indexAt 22 u (.int .i64 i)).run Try.prog w' = .ok (.pointer (some p)) w') ∧ w.cell? p = some (.int .u64 (ys.getD i 0))) := fun i hi => k.at_ uT sz (i := i) (by omega) (by omega)
    have HN := Lib.hid hn
    have HL := Lib.hid hl
    rw [hn] at hlen klen hsm
    clear h k hn hl ksm
    go_enter Try.func34, Try.ntmps34
    go_wp2
    go_loopw [13] (fun i wr => ∃ j : Nat, i = .int .i64 j ∧ j ≤ n ∧ (∀ t : Nat, t < j → xs.getD t 0 = ys.getD t 0) ∧ ∃ nq, wr = w.drewN nq) (fun i _ => n - (intOf i).toNat)
    case atStart => exact ⟨0, rfl, Nat.zero_le _, fun t ht => by omega, 0, rfl⟩
    case round =>
      obtain ⟨j, rfl, hj, hall, nq, rfl⟩ := hrel
      have HA := Lib.hid hall
      clear hall
      by_cases hlt : j < n
      · obtain ⟨p, hp, hcp⟩ := HX.out j hlt
        obtain ⟨q, hq, hcq⟩ := HY.out j hlt
        obtain ⟨x, hx⟩ : ∃ x, xs.getD j 0 = x := ⟨_, rfl⟩
        obtain ⟨y, hy⟩ : ∃ y, ys.getD j 0 = y := ⟨_, rfl⟩
        rw [hx] at hcp
        rw [hy] at hcq
        have HXY := Lib.hid (And.intro hx hy)
        clear hx hy
        cases hxy : (x != y) with
        | true =>
          go_wp2
          go_quiet (fail)
          go_wp2
          go_ret
          refine ⟨?_, (by first | exact ⟨_, rfl⟩ | (rw [World.drewN_drewN]; exact ⟨_, rfl⟩))⟩
          have : xs ≠ ys := fun e => by have h2 := HXY.out; rw [e, h2.2] at h2; exact absurd h2.1 (fun h3 => by rw [h3] at hxy; simp at hxy)
          simp [this]
        | false =>
          go_wp2
          go_quiet (fail)
          go_wp2
          go_roundw
          case rel => exact ⟨j + 1, by go_num, hlt, fun t ht => by
            by_cases e : t = j
            · subst e; have h2 := HXY.out; rw [h2.1, h2.2]; simpa using hxy
            · exact HA.out t (by omega), (by first | exact ⟨_, rfl⟩ | (rw [World.drewN_drewN]; exact ⟨_, rfl⟩))⟩
          case measure => simp [intOf]; omega
      · have hjn : j = n := by omega
        subst hjn
        go_wp2
        go_ret
        refine ⟨?_, (by first | exact ⟨_, rfl⟩ | (rw [World.drewN_drewN]; exact ⟨_, rfl⟩))⟩
        have : xs = ys := List.ext_getElem HL.out fun i h1 h2 => by
          have := HA.out i (by have := HN.out; omega)
          simpa [h1, h2] using this
        simp [this]
  · have hne : ((xs.length : Int) != ys.length) = true := by rw [bne_iff_ne]; omega
    have hd : decide (xs = ys) = false := decide_eq_false (fun e => hl (by rw [e]))
    rw [hd]
    clear h k hl hd
    go_enter Try.func34, Try.ntmps34
    go_wp2
    go_ret
    exact ⟨rfl, 0, rfl⟩

end Go.Proofs.Ytjobhdcjjegpfaa.Aw
