/- Slices of entries (a word and a number each), as lists of pairs; how they come in; and comparing two. -/
import Derived.Test.YtgfehdjahjpfhaaProg
import Derived.Test.YtgfehdjahjpfhaaSl
namespace Go.Proofs.Ytgfehdjahjpfhaa.En
open Go.RowKit
open Go.Proofs.Ytgfehdjahjpfhaa
set_option linter.unusedVariables false

abbrev E := Int × Int
def ev (e : E) : Value := .agg #[.int .u64 e.1, .int .i64 e.2]
def ec (e : E) : List Value := [.int .u64 e.1, .int .i64 e.2]
def cs (es : List E) : List Value := es.flatMap ec
theorem cs_len (es : List E) : (cs es).length = es.length * 2 := by
  induction es with
  | nil => rfl
  | cons e r ih => show (ec e ++ cs r).length = _; rw [List.length_append, ih]; simp [ec]; omega
theorem cs_get : ∀ (es : List E) (i : Nat), i < es.length → (cs es)[i * 2]? = some (.int .u64 (es.getD i (0, 0)).1) ∧ (cs es)[i * 2 + 1]? = some (.int .i64 (es.getD i (0, 0)).2)
  | [], i, h => by simp at h
  | e :: r, 0, _ => ⟨rfl, rfl⟩
  | e :: r, i + 1, h => by
    have := cs_get r i (by simpa using h)
    have e1 : (i + 1) * 2 = i * 2 + 2 := by omega
    have e2 : i * 2 + 2 + 1 = i * 2 + 1 + 2 := by omega
    have e3 : cs (e :: r) = .int .u64 e.1 :: .int .i64 e.2 :: cs r := rfl
    rw [e1, e2, e3]
    simpa using this
theorem cs_append (a b : List E) : cs (a ++ b) = cs a ++ cs b := by simp [cs]
theorem cs_one (es : List E) : ∀ x ∈ cs es, x.oneCell' = true := fun x hx => by
  simp only [cs, List.mem_flatMap, ec] at hx
  obtain ⟨e, _, hx⟩ := hx
  simp at hx
  rcases hx with rfl | rfl <;> rfl
theorem cs_take (es : List E) : ∀ k, cs (es.take k) = (cs es).take (k * 2) := by
  induction es with
  | nil => intro k; simp [cs]
  | cons e r ih =>
    intro k
    cases k with
    | zero => simp [cs]
    | succ k =>
      have e1 : (k + 1) * 2 = k * 2 + 2 := by omega
      have e3 : cs (e :: r) = .int .u64 e.1 :: .int .i64 e.2 :: cs r := rfl
      rw [e1, e3, List.take_succ_cons, List.take_succ_cons, List.take_succ_cons, ← ih]
      rfl

/-- v is a slice of entries that reads as es. -/
def Es (w : World) (v : Value) (es : List E) : Prop := Row w 2 16 v es.length (cs es)
theorem Es.ext {w w' : World} {v : Value} {es : List E} (h : Es w v es) (he : Ext w w') : Es w' v es := Row.ext h he
theorem Es.nil (w : World) : Es w (.slice none 0 0) [] := Row.nil w 2 16
theorem Es.of_row {w : World} {v : Value} {n : Nat} {c : List Value} {es : List E} (h : Row w 2 16 v n c) (hc : c = cs es) : Es w v es := by
  subst hc
  obtain rfl : n = es.length := by have := h.1; rw [cs_len] at this; omega
  exact h

theorem uT : Try.prog.underlying 22 = some (.slice 28) := Try.underlying22
theorem info_e : ∃ i, Try.prog.info? 28 = some i ∧ i.zero = some (.agg #[.int .u64 0, .int .i64 0]) ∧ i.size = 2 ∧ i.bytes = 16 := by
  have h : (Try.prog.info? 28).map (fun i => (i.zero, i.size, i.bytes)) = some (some (.agg #[.int .u64 0, .int .i64 0]), 2, 16) := by kernel_rfl
  obtain ⟨i, hi, h0, h1, h2⟩ := info_parts h
  exact ⟨i, hi, h0, h1, h2⟩
theorem sz : ∀ w, (sizeOf 28).run Try.prog w = .ok 2 w := Try.sizeOf28

section
variable {w : World} {v : Value} {es : List E}
theorem Es.len (h : Es w v es) (ty : TypeId) (w' : World) : (Builtin.len_ #[22] ty #[v]).run Try.prog w' = .ok (.int .i64 es.length) w' := Row.len uT h ty w'
theorem Es.small (h : Es w v es) : (es.length : Int) ≤ 140737488355328 := Row.small h
theorem Es.at_ (h : Es w v es) (i : Nat) (hi : i < es.length) :
    ∃ (b o : Nat) (s : Option Nat), (∀ w', (Instr.indexAt 22 v (.int .i64 i)).run Try.prog w' = .ok (.pointer (some ⟨b, o, s⟩)) w') ∧ w.cell? ⟨b, o, s⟩ = some (.int .u64 (es.getD i (0, 0)).1) ∧ w.cell? ⟨b, o + 1, none⟩ = some (.int .i64 (es.getD i (0, 0)).2) := by
  obtain ⟨p, hp, hc⟩ := Row.at_ uT sz h (i := i) (by omega) (by omega)
  have hg := cs_get es i hi
  have h0 := hc 0 _ (by simpa using hg.1)
  have h1 := hc 1 _ (by simpa using hg.2)
  rw [add_zero] at h0
  obtain ⟨b, o, s⟩ := p
  exact ⟨b, o, s, hp, h0, by simpa [Addr.add] using h1⟩
end

/-- An argument that is a slice of entries. -/
theorem Es.of_R {w : World} {v : Value} (h : Rd.R Try.prog w 22 [v]) : ∃ es : List E, Es w v es ∧ ∀ e ∈ es, (Lit.int .u64 e.1).wf = true ∧ (Lit.int .i64 e.2).wf = true := by
  have hc : Try.prog.cellsOf 28 = 2 := by kernel_rfl
  have hb : Try.prog.bytesOf 28 = 16 := by kernel_rfl
  have hr : reachBytes = 140737488351232 := by decide
  rcases h.slice uT with h | ⟨a, len, cap, hv, hl, hm, hz, hel⟩
  · obtain rfl : v = .slice none 0 0 := by simpa using h
    exact ⟨[], Es.nil w, by simp⟩
  · obtain rfl : v = .slice (some a) len cap := by simpa using hv
    have each : ∀ i, i < cap → ∃ y : E, w.cell? (a.add (i * 2)) = some (.int .u64 y.1) ∧ w.cell? (a.add (i * 2 + 1)) = some (.int .i64 y.2) ∧ (Lit.int .u64 y.1).wf = true ∧ (Lit.int .i64 y.2).wf = true := by
      intro i hi
      obtain ⟨el, h1, h2⟩ := hel i hi
      rw [hc] at h1
      obtain ⟨hll, _⟩ := h2.struct Try.underlying28
      rw [hc] at hll
      match el, hll with
      | [c0, c1], _ =>
        obtain ⟨x, hx, wx⟩ := (Rd.R.field Try.underlying28 h2 0 rfl 0 1 26 rfl rfl (by kernel_rfl)).int Try.underlying26
        obtain rfl : c0 = .int .u64 x := by simpa using hx
        obtain ⟨y, hy, wy⟩ := (Rd.R.field Try.underlying28 h2 1 rfl 1 1 3 rfl rfl (by kernel_rfl)).int Try.underlying3
        obtain rfl : c1 = .int .i64 y := by simpa using hy
        obtain ⟨_, _, hat⟩ := World.cells?_some h1
        have h3 := hat 0 (by omega)
        have h4 := hat 1 (by omega)
        rw [add_add] at h3 h4
        exact ⟨(x, y), by simpa using h3, by simpa using h4, wx, wy⟩
    have : ∃ f : Nat → E, ∀ i, i < cap → w.cell? (a.add (i * 2)) = some (.int .u64 (f i).1) ∧ w.cell? (a.add (i * 2 + 1)) = some (.int .i64 (f i).2) ∧ (Lit.int .u64 (f i).1).wf = true ∧ (Lit.int .i64 (f i).2).wf = true :=
      ⟨fun i => if hi : i < cap then (each i hi).choose else (0, 0), fun i hi => by simp only [hi, dif_pos]; exact (each i hi).choose_spec⟩
    obtain ⟨f, hf⟩ := this
    refine ⟨(List.range len).map f, ⟨by rw [cs_len], ?_, ?_, .inr ⟨a, cap, by simp, by simpa using hl, hm, ?_⟩⟩, ?_⟩
    · rw [hb] at hz; simp; omega
    · rw [hb] at hz; simp; omega
    · intro j c hj
      have hjl : j < ((List.range len).map f).length * 2 := by
        have := (List.getElem?_eq_some_iff.1 hj).1; rw [cs_len] at this; exact this
      have hq : j / 2 < len := by simp at hjl; omega
      have hg := cs_get ((List.range len).map f) (j / 2) (by simpa using hq)
      have hgd : ((List.range len).map f).getD (j / 2) (0, 0) = f (j / 2) := by simp [List.getD_eq_getElem?_getD, hq]
      rw [hgd] at hg
      have hfj := hf (j / 2) (by omega)
      rcases Nat.mod_two_eq_zero_or_one j with h0 | h1
      · have e : j / 2 * 2 = j := by omega
        rw [e] at hg hfj
        rw [hj] at hg
        rw [hfj.1, ← hg.1]
      · have e : j / 2 * 2 + 1 = j := by omega
        rw [e] at hg hfj
        rw [hj] at hg
        rw [hfj.2.1, ← hg.2]
    · intro e he
      simp at he
      obtain ⟨j, hj, rfl⟩ := he
      exact ⟨(hf j (by omega)).2.2.1, (hf j (by omega)).2.2.2⟩

theorem eqEntry (a b c d : Int) (w : World) : (Op.equalIn 10000 28 (.agg #[.int .u64 a, .int .i64 b]) (.agg #[.int .u64 c, .int .i64 d])).run Try.prog w = .ok (a == c && b == d) w := by
  have u3 := Try.underlying3
  have a3 := Try.isAgg3
  have z3 := Try.sizeOf3
  have u4 := Try.underlying26
  have a4 := Try.isAgg26
  have z4 := Try.sizeOf26
  have hS : Try.prog.underlying 28 = some (.struct (Try.prog.fieldsOf 28)) := by kernel_rfl
  have hp : Try.prog.stoodInHeld 28 = false := by kernel_rfl
  rw [show (10000 : Nat) = 9999 + 1 from rfl, run_equalIn_agg w 9999 28 _ _ hS hp]
  simp only [Program.fieldsOf, Try.underlying28]
  go_simp
  by_cases h1 : a = c <;> by_cases h2 : b = d <;> simp [h1, h2]
theorem eq_iff (x y : E) : (x.1 == y.1 && x.2 == y.2) = decide (x = y) := by
  obtain ⟨a, b⟩ := x
  obtain ⟨c, d⟩ := y
  by_cases h1 : a = c <;> by_cases h2 : b = d <;> simp [h1, h2]
attribute [local go_sem] eqEntry

/-- Two rows of entries. -/
theorem same_any (v u : Value) (xs ys : List E) (w : World) (h : Es w v xs) (k : Es w u ys) :
    Calls Try.prog 12 #[v, u] w fun e w' => e = .returned (.bool (decide (xs = ys))) ∧ Ext w w' := by
  have hlen := h.len
  have klen := k.len
  have hsm := h.small
  have ksm := k.small
  by_cases hl : xs.length = ys.length
  · rw [← hl] at klen
    obtain ⟨n, hn⟩ : ∃ n, xs.length = n := ⟨_, rfl⟩
    have HX := Lib.hid h
    have HY := Lib.hid k
    have HN := Lib.hid hn
    have HL := Lib.hid hl
    rw [hn] at hlen klen hsm
    clear h k hn hl ksm
    go_enter Try.func12, Try.ntmps12
    go_wp2
    go_loopw [5] (fun i wr => ∃ j : Nat, i = .int .i64 j ∧ j ≤ n ∧ (∀ t : Nat, t < j → xs.getD t (0, 0) = ys.getD t (0, 0)) ∧ Ext w wr) (fun i _ => n - (intOf i).toNat)
    case atStart => exact ⟨0, rfl, Nat.zero_le _, fun t ht => by omega, Ext.refl _⟩
    case round =>
      obtain ⟨j, rfl, hj, hall, hXr⟩ := hrel
      have HA := Lib.hid hall
      have HXR := Lib.hid hXr
      clear hall hXr
      by_cases hlt : j < n
      · obtain ⟨b1, o1, s1, hp, hcp, hcp1⟩ := (HX.out.ext HXR.out).at_ j (by have := HN.out; omega)
        obtain ⟨b2, o2, s2, hq, hcq, hcq1⟩ := (HY.out.ext HXR.out).at_ j (by have := HN.out; have := HL.out; omega)
        obtain ⟨b, hb⟩ : ∃ b, decide (xs.getD j (0, 0) = ys.getD j (0, 0)) = b := ⟨_, rfl⟩
        have heq := eqEntry (xs.getD j (0, 0)).1 (xs.getD j (0, 0)).2 (ys.getD j (0, 0)).1 (ys.getD j (0, 0)).2
        rw [eq_iff, hb] at heq
        have HB := Lib.hid hb
        generalize (xs.getD j (0, 0)).1 = x1 at hcp heq
        generalize (xs.getD j (0, 0)).2 = x2 at hcp1 heq
        generalize (ys.getD j (0, 0)).1 = y1 at hcq heq
        generalize (ys.getD j (0, 0)).2 = y2 at hcq1 heq
        clear hb
        cases b with
        | false =>
          go_wp2
          go_quiet (fail)
          go_wp2
          go_ret
          refine ⟨?_, HXR.out.drewN _⟩
          have : xs ≠ ys := fun e => by have h2 := of_decide_eq_false HB.out; rw [e] at h2; exact h2 rfl
          simp [this]
        | true =>
          go_wp2
          go_quiet (fail)
          go_wp2
          go_roundw
          case rel => exact ⟨j + 1, by go_num, hlt, fun t ht => by
            by_cases e : t = j
            · subst e; exact of_decide_eq_true HB.out
            · exact HA.out t (by omega), HXR.out.drewN _⟩
          case measure => simp [intOf]; omega
      · have hjn : j = n := by omega
        subst hjn
        go_wp2
        go_ret
        refine ⟨?_, HXR.out⟩
        have : xs = ys := List.ext_getElem HL.out fun i h1 h2 => by
          have := HA.out i (by have := HN.out; omega)
          simpa [h1, h2] using this
        simp [this]
  · have hne : ((xs.length : Int) != ys.length) = true := by rw [bne_iff_ne]; omega
    have hd : decide (xs = ys) = false := decide_eq_false (fun e => hl (by rw [e]))
    rw [hd]
    clear h k hl hd
    go_enter Try.func12, Try.ntmps12
    go_wp2
    go_ret
    exact ⟨rfl, Ext.refl _⟩
end Go.Proofs.Ytgfehdjahjpfhaa.En
