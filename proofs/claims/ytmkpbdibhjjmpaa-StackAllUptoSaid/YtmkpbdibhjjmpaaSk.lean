/- What Push, Pop, Get and Real compute, said of lists; and the references' answers, and comparing two rows, and asking for a word. -/
import Derived.Test.YtmkpbdibhjjmpaaProg
import Derived.Test.YtmkpbdibhjjmpaaSl
namespace Go.Proofs.Ytmkpbdibhjjmpaa.Sk
open Go.RowKit
open Go.Proofs.Ytmkpbdibhjjmpaa
set_option linter.unusedVariables false

def pushL (xs : List Int) (a : Int) : List Int := if 16 ≤ xs.length then xs else xs ++ [a]
def pushE (xs : List Int) : Int := if 16 ≤ xs.length then 4 else 0
def popE (xs : List Int) : Int := if xs.length = 0 then 9 else 0
def inR (xs : List Int) (i : Int) : Bool := decide (0 ≤ i ∧ i < xs.length)
def getV (xs : List Int) (i : Int) : Int := if inR xs i = true then xs.getD i.toNat 0 else 0
def getE (xs : List Int) (i : Int) : Int := if inR xs i = true then 0 else 5
def realE (xs : List Int) (i : Int) : Int := if inR xs i = true then (if xs.getD i.toNat 0 = 0 then 6 else 0) else 5
theorem inR_iff {xs : List Int} {i : Int} : inR xs i = true ↔ 0 ≤ i ∧ i < xs.length := by unfold inR; exact decide_eq_true_iff

theorem uT : Try.prog.underlying 22 = some (.slice 23) := Try.underlying22
theorem info_u64 : ∃ i, Try.prog.info? 23 = some i ∧ i.zero = some (.int .u64 0) ∧ i.size = 1 ∧ i.bytes = 8 := by
  have h : (Try.prog.info? 23).map (fun i => (i.zero, i.size, i.bytes)) = some (some (.int .u64 0), 1, 8) := by kernel_rfl
  obtain ⟨i, hi, h0, h1, h2⟩ := info_parts h
  exact ⟨i, hi, h0, h1, h2⟩
theorem sz : ∀ w, (sizeOf 23).run Try.prog w = .ok 1 w := Try.sizeOf23

/-- One element of the call's own, in a block of its own: what '[]uint64{a}' lays. -/
theorem Sl.one (w : World) (a : Int) : Sl .u64 (w.alloc (.cells #[.int .u64 a] 23)) (.slice (some ⟨w.heap.size, 0, none⟩) 1 1) [a] :=
  ⟨rfl, by simp, by simp, .inr ⟨_, 1, rfl, Nat.le_refl _, by unfold maxLen; omega, cell_one_new _ _ _⟩⟩

theorem push_any (v : Value) (xs : List Int) (a : Int) (w : World) (h : Sl .u64 w v xs) :
    Calls Try.prog 12 #[v, .int .u64 a] w fun e w' => ∃ u, e = .returned (.tuple #[u, .int .i64 (pushE xs)]) ∧ Sl .u64 w' u (pushL xs a) ∧ Ext w w' := by
  have hlen := h.len uT
  have hsm := h.small
  by_cases hc : 16 ≤ xs.length
  · have e1 : pushE xs = 4 := by unfold pushE; rw [if_pos hc]
    have e2 : pushL xs a = xs := by unfold pushL; rw [if_pos hc]
    rw [e1, e2]; clear e1 e2
    have H := Lib.hid h; clear h
    go_enter Try.func12, Try.ntmps12
    go_wp2
    go_ret2
    exact ⟨v, rfl, H.out, Ext.refl _⟩
  · have e1 : pushE xs = 0 := by unfold pushE; rw [if_neg hc]
    have e2 : pushL xs a = xs ++ [a] := by unfold pushL; rw [if_neg hc]
    rw [e1, e2]; clear e1 e2
    have hc' : xs.length < 16 := by omega
    clear hc
    obtain ⟨u1, hsl, hr1, hf1⟩ := Row.slice3 uT sz h (k := xs.length) (Nat.le_refl _)
    have hx : Ext w (w.alloc (.cells #[.int .u64 a] 23)) := (Ext.refl w).alloc _
    obtain ⟨i0, hi, hz0, hz1, hz2⟩ := info_u64
    obtain ⟨v', w', hrun, hrow, hext, _⟩ := append_full (ty := 22) uT hi hz0 hz1 hz2 rfl (by decide) (hr1.ext hx) hf1 (Sl.one w a) (oneCells _ _) (by simp; omega) (by decide)
    have HF : Hid (Sl .u64 w' v' (xs ++ [a]) ∧ Ext w w') := ⟨Sl.of_row hrow (by rw [List.take_of_length_le (by simp)]; simp), hx.trans hext⟩
    clear hrow hext hr1 hf1 h hx hi hz0 hz1 hz2
    have hrun' := Lib.hid hrun
    clear hrun
    go_enter Try.func12, Try.ntmps12
    go_wp2_with (at_builtin; refine Lib.wpList_append_run _ rfl _ _ _ _ rfl _ _ rfl rfl v' w' hrun'.out ?_)
    go_ret2
    exact ⟨v', rfl, HF.out⟩

theorem pop_any (v : Value) (xs : List Int) (w : World) (h : Sl .u64 w v xs) :
    Calls Try.prog 14 #[v] w fun e w' => ∃ u, e = .returned (.tuple #[u, .int .i64 (popE xs)]) ∧ Sl .u64 w' u xs.dropLast ∧ w = w' := by
  have hlen := h.len uT
  have hsm := h.small
  by_cases hc : xs.length = 0
  · have e1 : popE xs = 9 := by unfold popE; rw [if_pos hc]
    obtain rfl : xs = [] := List.eq_nil_of_length_eq_zero hc
    rw [e1]; clear e1 hc
    have H := Lib.hid h; clear h
    simp only [List.length_nil] at hlen hsm
    go_enter Try.func14, Try.ntmps14
    go_wp2
    go_ret2
    exact ⟨v, rfl, H.out, rfl⟩
  · have e1 : popE xs = 0 := by unfold popE; rw [if_neg hc]
    rw [e1]; clear e1
    obtain ⟨m, hm⟩ : ∃ m, xs.length = m + 1 := ⟨xs.length - 1, by omega⟩
    obtain ⟨u1, hsl, hr1, _⟩ := Row.slice3 uT sz h (k := m) (by omega)
    have HF : Hid (Sl .u64 w u1 xs.dropLast) := Sl.of_row hr1 (by rw [Nat.mul_one, ← List.map_take, List.dropLast_eq_take, hm]; rfl)
    have hm' : (m : Int) ≤ 140737488355328 := by omega
    have hlen' : ∀ ty w', (Builtin.len_ #[22] ty #[v]).run Try.prog w' = .ok (.int .i64 (m + 1)) w' := fun ty w' => by rw [hlen ty w', hm]; rfl
    clear hr1 h hc hm hlen hsm
    go_enter Try.func14, Try.ntmps14
    go_wp2
    go_ret2
    exact ⟨u1, rfl, HF.out, rfl⟩

theorem get_any (v : Value) (xs : List Int) (i : Int) (w : World) (h : Sl .u64 w v xs) :
    Calls Try.prog 13 #[v, .int .i64 i] w fun e w' => e = .returned (.tuple #[.int .u64 (getV xs i), .int .i64 (getE xs i)]) ∧ w = w' := by
  have hlen := h.len uT
  have hsm := h.small
  by_cases h0 : 0 ≤ i
  · by_cases h1 : i < xs.length
    · have hin : inR xs i = true := inR_iff.2 ⟨h0, h1⟩
      have e1 : getV xs i = xs.getD i.toNat 0 := by unfold getV; rw [if_pos hin]
      have e2 : getE xs i = 0 := by unfold getE; rw [if_pos hin]
      obtain ⟨p, hp, hcell⟩ := h.at_ uT sz h0 h1
      rw [e1, e2]
      generalize xs.getD i.toNat 0 = x at hcell
      clear e1 e2 hin h
      go_enter Try.func13, Try.ntmps13
      go_wp2
      go_ret2
      exact ⟨rfl, rfl⟩
    · have hin : inR xs i = false := by cases hb : inR xs i; rfl; exact absurd (inR_iff.1 hb).2 h1
      have e1 : getV xs i = 0 := by unfold getV; rw [hin]; rfl
      have e2 : getE xs i = 5 := by unfold getE; rw [hin]; rfl
      rw [e1, e2]
      have h1' : (xs.length : Int) ≤ i := by omega
      clear e1 e2 hin h h1
      go_enter Try.func13, Try.ntmps13
      go_wp2
      go_ret2
      exact ⟨rfl, rfl⟩
  · have hin : inR xs i = false := by cases hb : inR xs i; rfl; exact absurd (inR_iff.1 hb).1 h0
    have e1 : getV xs i = 0 := by unfold getV; rw [hin]; rfl
    have e2 : getE xs i = 5 := by unfold getE; rw [hin]; rfl
    rw [e1, e2]
    have h0' : i < 0 := by omega
    clear e1 e2 hin h h0
    go_enter Try.func13, Try.ntmps13
    go_wp2
    go_ret2
    exact ⟨rfl, rfl⟩

theorem real_cases (xs : List Int) (i : Int) : ((getE xs i == 0) = false ∧ getE xs i = realE xs i) ∨ ((getE xs i == 0) = true ∧ (getV xs i == 0) = true ∧ realE xs i = 6) ∨ ((getE xs i == 0) = true ∧ (getV xs i == 0) = false ∧ realE xs i = getE xs i) := by
  unfold getE getV realE
  cases hb : inR xs i with
  | false => exact .inl ⟨rfl, rfl⟩
  | true =>
    by_cases hz : xs.getD i.toNat 0 = 0
    · exact .inr (.inl ⟨rfl, by rw [if_pos rfl, hz]; rfl, by rw [if_pos rfl, if_pos hz]⟩)
    · exact .inr (.inr ⟨rfl, by rw [if_pos rfl]; exact beq_eq_false_iff_ne.2 hz, by rw [if_pos rfl, if_neg hz]; rfl⟩)

theorem real_any (v : Value) (xs : List Int) (i : Int) (w : World) (h : Sl .u64 w v xs) :
    Calls Try.prog 16 #[v, .int .i64 i] w fun e w' => e = .returned (.tuple #[.int .u64 (getV xs i), .int .i64 (realE xs i)]) ∧ w = w' := by
  have hc := Lib.hid (get_any v xs i w h)
  have hr := real_cases xs i
  generalize getV xs i = x at hc hr
  generalize getE xs i = y at hc hr
  generalize realE xs i = z at hr
  clear h
  rcases hr with ⟨p1, rfl⟩ | ⟨p1, p2, rfl⟩ | ⟨p1, p2, rfl⟩
  all_goals
    go_enter Try.func16, Try.ntmps16
    go_wp2_with fail
    refine hc.out.mono ?_; rintro e w' ⟨rfl, rfl⟩
    go_wp2_with fail
    go_ret2
    exact ⟨rfl, rfl⟩

/-- Two rows, word by word. -/
theorem words_any (v u : Value) (xs ys : List Int) (w : World) (h : Sl .u64 w v xs) (k : Sl .u64 w u ys) :
    Calls Try.prog 15 #[v, u] w fun e w' => e = .returned (.bool (decide (xs = ys))) ∧ ∃ m, w' = w.drewN m := by
  have hlen := h.len uT
  have klen := k.len uT
  have hsm := h.small
  have ksm := k.small
  by_cases hl : xs.length = ys.length
  · rw [← hl] at klen
    obtain ⟨n, hn⟩ : ∃ n, xs.length = n := ⟨_, rfl⟩
    have HX : Hid (∀ i : Nat, i < n → ∃ p : Addr, (∀ w', (Instr.indexAt 22 v (.int .i64 i)).run Try.prog w' = .ok (.pointer (some p)) w') ∧ w.cell? p = some (.int .u64 (xs.getD i 0))) := fun i hi => h.at_ uT sz (i := i) (by omega) (by omega)
    have HY : Hid (∀ i : Nat, i < n → ∃ p : Addr, (∀ w', (Instr.indexAt 22 u (.int .i64 i)).run Try.prog w' = .ok (.pointer (some p)) w') ∧ w.cell? p = some (.int .u64 (ys.getD i 0))) := fun i hi => k.at_ uT sz (i := i) (by omega) (by omega)
    have HN := Lib.hid hn
    have HL := Lib.hid hl
    rw [hn] at hlen klen hsm
    clear h k hn hl ksm
    go_enter Try.func15, Try.ntmps15
    go_wp2
    go_loopw [5] (fun i wr => ∃ j : Nat, i = .int .i64 j ∧ j ≤ n ∧ (∀ t : Nat, t < j → xs.getD t 0 = ys.getD t 0) ∧ ∃ nq, wr = w.drewN nq) (fun i _ => n - (intOf i).toNat)
    case atStart => exact ⟨0, rfl, Nat.zero_le _, fun t ht => by omega, 0, rfl⟩
    case round =>
      obtain ⟨j, rfl, hj, hall, nq, rfl⟩ := hrel
      have HA := Lib.hid hall
      clear hall
      by_cases hlt : j < n
      · obtain ⟨p, hp, hcp⟩ := HX.out j hlt
        obtain ⟨q, hq, hcq⟩ := HY.out j hlt
        obtain ⟨x, hx⟩ : ∃ x, xs.getD j 0 = x := ⟨_, rfl⟩
        obtain ⟨y, hy⟩ : ∃ y, ys.getD j 0 = y := ⟨_, rfl⟩
        rw [hx] at hcp
        rw [hy] at hcq
        have HXY := Lib.hid (And.intro hx hy)
        clear hx hy
        cases hxy : (x != y) with
        | true =>
          go_wp2
          go_quiet (fail)
          go_wp2
          go_ret
          refine ⟨?_, (by first | exact ⟨_, rfl⟩ | (rw [World.drewN_drewN]; exact ⟨_, rfl⟩))⟩
          have : xs ≠ ys := fun e => by have h2 := HXY.out; rw [e, h2.2] at h2; exact absurd h2.1 (fun h3 => by rw [h3] at hxy; simp at hxy)
          simp [this]
        | false =>
          go_wp2
          go_quiet (fail)
          go_wp2
          go_roundw
          case rel => exact ⟨j + 1, by go_num, hlt, fun t ht => by
            by_cases e : t = j
            · subst e; have h2 := HXY.out; rw [h2.1, h2.2]; simpa using hxy
            · exact HA.out t (by omega), (by first | exact ⟨_, rfl⟩ | (rw [World.drewN_drewN]; exact ⟨_, rfl⟩))⟩
          case measure => simp [intOf]; omega
      · have hjn : j = n := by omega
        subst hjn
        go_wp2
        go_ret
        refine ⟨?_, (by first | exact ⟨_, rfl⟩ | (rw [World.drewN_drewN]; exact ⟨_, rfl⟩))⟩
        have : xs = ys := List.ext_getElem HL.out fun i h1 h2 => by
          have := HA.out i (by have := HN.out; omega)
          simpa [h1, h2] using this
        simp [this]
  · have hne : ((xs.length : Int) != ys.length) = true := by rw [bne_iff_ne]; omega
    have hd : decide (xs = ys) = false := decide_eq_false (fun e => hl (by rw [e]))
    rw [hd]
    clear h k hl hd
    go_enter Try.func15, Try.ntmps15
    go_wp2
    go_ret
    exact ⟨rfl, 0, rfl⟩

end Go.Proofs.Ytmkpbdibhjjmpaa.Sk
