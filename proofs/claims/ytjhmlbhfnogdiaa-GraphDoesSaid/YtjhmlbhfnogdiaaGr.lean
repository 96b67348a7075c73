/- Graphs: nodes (a head of three numbers, and a row of words each), and rows of handles; how they read in memory; what stays where one block alone is written; comparing heads. -/
import Derived.Test.YtjhmlbhfnogdiaaProg
import Derived.Test.YtjhmlbhfnogdiaaSl
import Derived.Test.YtjhmlbhfnogdiaaBk
namespace Go.Proofs.Ytjhmlbhfnogdiaa.Gr
open Go.RowKit
open Go.Proofs.Ytjhmlbhfnogdiaa
set_option linter.unusedVariables false

abbrev Hd := Int × Int × Int
abbrev Nd := Hd × List Int
abbrev Gph := List Nd × List (List Int)
def hv (h : Hd) : Value := .agg #[.int .i64 h.1, .int .i64 h.2.1, .int .u64 h.2.2]
def nc (p : Hd × Value) : List Value := [.int .i64 p.1.1, .int .i64 p.1.2.1, .int .u64 p.1.2.2, p.2]
def ncs (ps : List (Hd × Value)) : List Value := ps.flatMap nc
theorem ncs_len (ps : List (Hd × Value)) : (ncs ps).length = ps.length * 4 := by
  induction ps with
  | nil => rfl
  | cons e r ih => show (nc e ++ ncs r).length = _; rw [List.length_append, ih]; simp [nc]; omega
theorem ncs_cons (p : Hd × Value) (r : List (Hd × Value)) : ncs (p :: r) = .int .i64 p.1.1 :: .int .i64 p.1.2.1 :: .int .u64 p.1.2.2 :: p.2 :: ncs r := rfl
theorem ncs_append (a b : List (Hd × Value)) : ncs (a ++ b) = ncs a ++ ncs b := by simp [ncs]
theorem ncs_get : ∀ (ps : List (Hd × Value)) (i : Nat) (p : Hd × Value), ps[i]? = some p → (ncs ps)[i * 4]? = some (.int .i64 p.1.1) ∧ (ncs ps)[i * 4 + 1]? = some (.int .i64 p.1.2.1) ∧ (ncs ps)[i * 4 + 2]? = some (.int .u64 p.1.2.2) ∧ (ncs ps)[i * 4 + 3]? = some p.2
  | [], i, p, h => by simp at h
  | e :: r, 0, p, h => by
    obtain rfl : e = p := by simpa using h
    exact ⟨rfl, rfl, rfl, rfl⟩
  | e :: r, i + 1, p, h => by
    have := ncs_get r i p (by simpa using h)
    have e1 : (i + 1) * 4 = i * 4 + 4 := by omega
    have e2 : i * 4 + 4 + 1 = i * 4 + 1 + 4 := by omega
    have e3 : i * 4 + 4 + 2 = i * 4 + 2 + 4 := by omega
    have e4 : i * 4 + 4 + 3 = i * 4 + 3 + 4 := by omega
    rw [e1, e2, e3, e4, ncs_cons]
    simpa using this

/-- v is a slice of nodes that reads as ns. -/
def No (w : World) (v : Value) (ns : List Nd) : Prop :=
  ∃ ps : List (Hd × Value), ps.length = ns.length ∧ Row w 4 48 v ps.length (ncs ps) ∧ ∀ (i : Nat) (p : Hd × Value) (n : Nd), ps[i]? = some p → ns[i]? = some n → p.1 = n.1 ∧ Sl .u64 w p.2 n.2
theorem sl_one {k : IntKind} {w : World} {v : Value} {xs : List Int} (h : Sl k w v xs) : v.oneCell' = true := by
  obtain ⟨a, c, rfl⟩ := Row.form h; rfl
theorem No.ext {w w' : World} {v : Value} {ns : List Nd} (h : No w v ns) (he : Ext w w') : No w' v ns := by
  obtain ⟨ps, hl, hr, hs⟩ := h
  exact ⟨ps, hl, hr.ext he, fun i p n hp hn => ⟨(hs i p n hp hn).1, (hs i p n hp hn).2.ext he⟩⟩
theorem No.nil (w : World) : No w (.slice none 0 0) [] := ⟨[], rfl, Row.nil w 4 48, by simp⟩

theorem uN : Try.prog.underlying 22 = some (.slice 67) := Try.underlying22
theorem uS : Try.prog.underlying 23 = some (.slice 42) := Try.underlying23
theorem uI : Try.prog.underlying 42 = some (.slice 3) := Try.underlying42
theorem uU : Try.prog.underlying 65 = some (.slice 26) := Try.underlying65
theorem szN : ∀ w, (sizeOf 67).run Try.prog w = .ok 4 w := Try.sizeOf67
theorem szS : ∀ w, (sizeOf 42).run Try.prog w = .ok 1 w := Try.sizeOf42
theorem szI : ∀ w, (sizeOf 3).run Try.prog w = .ok 1 w := Try.sizeOf3
theorem szU : ∀ w, (sizeOf 26).run Try.prog w = .ok 1 w := Try.sizeOf26
theorem info_n : ∃ i, Try.prog.info? 67 = some i ∧ i.zero = some (.agg #[.int .i64 0, .int .i64 0, .int .u64 0, .slice none 0 0]) ∧ i.size = 4 ∧ i.bytes = 48 := by
  have h : (Try.prog.info? 67).map (fun i => (i.zero, i.size, i.bytes)) = some (some (.agg #[.int .i64 0, .int .i64 0, .int .u64 0, .slice none 0 0]), 4, 48) := by kernel_rfl
  obtain ⟨i, hi, h0, h1, h2⟩ := info_parts h
  exact ⟨i, hi, h0, h1, h2⟩
theorem info_s : ∃ i, Try.prog.info? 42 = some i ∧ i.zero = some (.slice none 0 0) ∧ i.size = 1 ∧ i.bytes = 24 := by
  have h : (Try.prog.info? 42).map (fun i => (i.zero, i.size, i.bytes)) = some (some (.slice none 0 0), 1, 24) := by kernel_rfl
  obtain ⟨i, hi, h0, h1, h2⟩ := info_parts h
  exact ⟨i, hi, h0, h1, h2⟩
theorem info_i : ∃ i, Try.prog.info? 3 = some i ∧ i.zero = some (.int .i64 0) ∧ i.size = 1 ∧ i.bytes = 8 := by
  have h : (Try.prog.info? 3).map (fun i => (i.zero, i.size, i.bytes)) = some (some (.int .i64 0), 1, 8) := by kernel_rfl
  obtain ⟨i, hi, h0, h1, h2⟩ := info_parts h
  exact ⟨i, hi, h0, h1, h2⟩
theorem info_u : ∃ i, Try.prog.info? 26 = some i ∧ i.zero = some (.int .u64 0) ∧ i.size = 1 ∧ i.bytes = 8 := by
  have h : (Try.prog.info? 26).map (fun i => (i.zero, i.size, i.bytes)) = some (some (.int .u64 0), 1, 8) := by kernel_rfl
  obtain ⟨i, hi, h0, h1, h2⟩ := info_parts h
  exact ⟨i, hi, h0, h1, h2⟩

def nd0 : Nd := ((0, 0, 0), [])
section
variable {w : World} {v : Value} {ns : List Nd}
theorem No.len (h : No w v ns) (ty : TypeId) (w' : World) : (Builtin.len_ #[22] ty #[v]).run Try.prog w' = .ok (.int .i64 ns.length) w' := by
  obtain ⟨ps, hl, hr, _⟩ := h
  rw [← hl]; exact hr.len uN ty w'
theorem No.small (h : No w v ns) : (ns.length : Int) ≤ 140737488355328 := by
  obtain ⟨ps, hl, hr, _⟩ := h
  rw [← hl]; exact hr.small
theorem No.form (h : No w v ns) : ∃ a c, v = .slice a ns.length c := by
  obtain ⟨ps, hl, hr, _⟩ := h
  obtain ⟨a, c, rfl⟩ := hr.form
  exact ⟨a, c, by rw [hl]⟩
theorem No.at_ (h : No w v ns) (i : Nat) (hi : i < ns.length) :
    ∃ (b o : Nat) (s : Option Nat) (u : Value), (∀ w', (Instr.indexAt 22 v (.int .i64 i)).run Try.prog w' = .ok (.pointer (some ⟨b, o, s⟩)) w') ∧
      w.cell? ⟨b, o, s⟩ = some (.int .i64 (ns.getD i nd0).1.1) ∧ w.cell? ⟨b, o + 1, none⟩ = some (.int .i64 (ns.getD i nd0).1.2.1) ∧ w.cell? ⟨b, o + 2, none⟩ = some (.int .u64 (ns.getD i nd0).1.2.2) ∧ w.cell? ⟨b, o + 3, none⟩ = some u ∧ Sl .u64 w u (ns.getD i nd0).2 := by
  obtain ⟨ps, hl, hr, hs⟩ := h
  obtain ⟨p, hp, hc⟩ := hr.at_ uN szN (i := i) (by omega) (by omega)
  have hi1 : i < ps.length := by omega
  obtain ⟨g0, g1, g2, g3⟩ := ncs_get ps i ps[i] (by simp [hi1])
  obtain ⟨e, hsl⟩ := hs i ps[i] (ns.getD i nd0) (by simp [hi1]) (by simp [List.getD_eq_getElem?_getD, hi])
  have h0 := hc 0 _ (by simpa using g0)
  have h1 := hc 1 _ (by simpa using g1)
  have h2 := hc 2 _ (by simpa using g2)
  have h3 := hc 3 _ (by simpa using g3)
  rw [e] at h0 h1 h2
  rw [add_zero] at h0
  obtain ⟨b, o, s⟩ := p
  exact ⟨b, o, s, ps[i].2, hp, h0, by simpa [Addr.add] using h1, by simpa [Addr.add] using h2, by simpa [Addr.add] using h3, hsl⟩
end

theorem two_of {α : Type} {l : List α} (h : l.length = 2) : ∃ a b, l = [a, b] := by
  match l, h with
  | [a, b], _ => exact ⟨a, b, rfl⟩
theorem four_of {α : Type} {l : List α} (h : l.length = 4) : ∃ a b c d, l = [a, b, c, d] := by
  match l, h with
  | [a, b, c, d], _ => exact ⟨a, b, c, d, rfl⟩

/-- The words of all heads and fields are such as come in. -/
def wfN (n : Nd) : Prop := (Lit.int .i64 n.1.1).wf = true ∧ (Lit.int .i64 n.1.2.1).wf = true ∧ (Lit.int .u64 n.1.2.2).wf = true ∧ ∀ x ∈ n.2, (Lit.int .u64 x).wf = true
def wfG (g : Gph) : Prop := (∀ n ∈ g.1, wfN n) ∧ ∀ r ∈ g.2, ∀ x ∈ r, (Lit.int .i64 x).wf = true

/-- Maps and words aren't below 0. -/
def posG (g : Gph) : Prop := ∀ n ∈ g.1, 0 ≤ n.1.2.2 ∧ ∀ x ∈ n.2, 0 ≤ x
theorem posG_of {g : Gph} (h : wfG g) : posG g := fun n hn => ⟨(Rd.u64_bd (h.1 n hn).2.2.1).1, fun x hx => (Rd.u64_bd ((h.1 n hn).2.2.2 x hx)).1⟩

theorem cellsOf_n : Try.prog.cellsOf 67 = 4 := by kernel_rfl
theorem bytesOf_n : Try.prog.bytesOf 67 = 48 := by kernel_rfl

/-- An argument that is a slice of nodes. -/
theorem No.of_R {w : World} {v : Value} (h : Rd.R Try.prog w 22 [v]) : ∃ ns : List Nd, No w v ns ∧ ∀ n ∈ ns, wfN n := by
  have hc1 := cellsOf_n
  have hb1 := bytesOf_n
  rcases h.slice uN with h | ⟨a, len, cap, hv, hl, hm, hz, hel⟩
  · obtain rfl : v = .slice none 0 0 := by simpa using h
    exact ⟨[], No.nil w, by simp⟩
  · obtain rfl : v = .slice (some a) len cap := by simpa using hv
    have each : ∀ i, i < cap → ∃ y : (Hd × Value) × List Int, w.cell? (a.add (i * 4)) = some (.int .i64 y.1.1.1) ∧ w.cell? (a.add (i * 4 + 1)) = some (.int .i64 y.1.1.2.1) ∧ w.cell? (a.add (i * 4 + 2)) = some (.int .u64 y.1.1.2.2) ∧ w.cell? (a.add (i * 4 + 3)) = some y.1.2 ∧ Sl .u64 w y.1.2 y.2 ∧ wfN (y.1.1, y.2) := by
      intro i hi
      obtain ⟨el, h1, h2⟩ := hel i hi
      rw [hc1] at h1
      obtain ⟨hlen, _⟩ := h2.struct Try.underlying67
      rw [hc1] at hlen
      obtain ⟨k0, k1, k2, k3, rfl⟩ := four_of hlen
      have f0 := Rd.R.field Try.underlying67 h2 0 rfl 0 3 28 rfl rfl (by kernel_rfl)
      have f1 := Rd.R.field Try.underlying67 h2 1 rfl 3 1 65 rfl rfl (by kernel_rfl)
      obtain ⟨x0, hx0, hw0⟩ := (Rd.R.field Try.underlying28 f0 0 rfl 0 1 3 rfl rfl (by kernel_rfl)).int Try.underlying3
      obtain rfl : k0 = .int .i64 x0 := by simpa using hx0
      obtain ⟨x1, hx1, hw1⟩ := (Rd.R.field Try.underlying28 f0 1 rfl 1 1 3 rfl rfl (by kernel_rfl)).int Try.underlying3
      obtain rfl : k1 = .int .i64 x1 := by simpa using hx1
      obtain ⟨x2, hx2, hw2⟩ := (Rd.R.field Try.underlying28 f0 2 rfl 2 1 26 rfl rfl (by kernel_rfl)).int Try.underlying26
      obtain rfl : k2 = .int .u64 x2 := by simpa using hx2
      obtain ⟨xs, hxs, hwx⟩ := Sl.of_R uU Try.underlying26 (by kernel_rfl) (by kernel_rfl) (show Rd.R _ w _ [k3] from f1)
      obtain ⟨_, _, hat⟩ := World.cells?_some h1
      have hcs : ∀ j c, j < 4 → [Value.int .i64 x0, .int .i64 x1, .int .u64 x2, k3][j]? = some c → w.cell? (a.add (i * 4 + j)) = some c := fun j c hj4 hj => by
        have := hat j hj4
        rw [add_add] at this
        exact this.trans hj
      exact ⟨(((x0, x1, x2), k3), xs), hcs 0 _ (by omega) rfl, hcs 1 _ (by omega) rfl, hcs 2 _ (by omega) rfl, hcs 3 _ (by omega) rfl, hxs, hw0, hw1, hw2, hwx⟩
    have : ∃ f : Nat → (Hd × Value) × List Int, ∀ i, i < cap → w.cell? (a.add (i * 4)) = some (.int .i64 (f i).1.1.1) ∧ w.cell? (a.add (i * 4 + 1)) = some (.int .i64 (f i).1.1.2.1) ∧ w.cell? (a.add (i * 4 + 2)) = some (.int .u64 (f i).1.1.2.2) ∧ w.cell? (a.add (i * 4 + 3)) = some (f i).1.2 ∧ Sl .u64 w (f i).1.2 (f i).2 ∧ wfN ((f i).1.1, (f i).2) :=
      ⟨fun i => if hi : i < cap then (each i hi).choose else (((0, 0, 0), .slice none 0 0), []), fun i hi => by simp only [hi, dif_pos]; exact (each i hi).choose_spec⟩
    obtain ⟨f, hf⟩ := this
    have hr : reachBytes = 140737488351232 := by decide
    refine ⟨(List.range len).map fun i => ((f i).1.1, (f i).2), ⟨(List.range len).map fun i => (f i).1, by simp, ⟨ncs_len _, ?_, ?_, .inr ⟨a, cap, by simp, by simpa using hl, hm, ?_⟩⟩, ?_⟩, ?_⟩
    · rw [hb1] at hz; simp; omega
    · rw [hb1] at hz; simp; omega
    · intro j c hj
      have hjl := (List.getElem?_eq_some_iff.1 hj).1
      rw [ncs_len] at hjl
      simp only [List.length_map, List.length_range] at hjl
      obtain ⟨i, r, hr4, rfl⟩ : ∃ i r, r < 4 ∧ j = i * 4 + r := ⟨j / 4, j % 4, Nat.mod_lt _ (by omega), by omega⟩
      have hi : i < len := by omega
      obtain ⟨g0, g1, g2, g3⟩ := ncs_get ((List.range len).map fun i => (f i).1) i (f i).1 (by simp [hi])
      obtain ⟨p0, p1, p2, p3, _⟩ := hf i (by omega)
      match r, hr4 with
      | 0, _ => rw [show i * 4 + 0 = i * 4 from rfl, g0] at hj; cases hj; exact p0
      | 1, _ => rw [g1] at hj; cases hj; exact p1
      | 2, _ => rw [g2] at hj; cases hj; exact p2
      | 3, _ => rw [g3] at hj; cases hj; exact p3
    · intro i p n hp hn
      obtain ⟨h1, rfl⟩ := get_map1 hp
      obtain ⟨h2, rfl⟩ := get_map1 hn
      exact ⟨rfl, (hf i (by omega)).2.2.2.2.1⟩
    · intro n hn
      simp at hn
      obtain ⟨j, hj, rfl⟩ := hn
      exact (hf j (by omega)).2.2.2.2.2

/-- Two values that read as a graph. -/
def Gr (w : World) (a b : Value) (g : Gph) : Prop := No w a g.1 ∧ Ma .i64 w b g.2
theorem Gr.ext {w w' : World} {a b : Value} {g : Gph} (h : Gr w a b g) (he : Ext w w') : Gr w' a b g := ⟨h.1.ext he, h.2.ext he⟩
theorem Ma.form {k : IntKind} {w : World} {v : Value} {rows : List (List Int)} (h : Ma k w v rows) : ∃ a c, v = .slice a rows.length c := by
  obtain ⟨vs, hl, hr, _⟩ := h
  obtain ⟨a, c, rfl⟩ := hr.form
  exact ⟨a, c, by rw [hl]⟩

/-- An argument that is a graph. -/
theorem Gr.of_R {w : World} {cs : List Value} (h : Rd.R Try.prog w 25 cs) : ∃ a b g, cs = [a, b] ∧ Gr w a b g ∧ wfG g := by
  obtain ⟨hl, _⟩ := h.struct Try.underlying25
  rw [show Try.prog.cellsOf 25 = 2 by kernel_rfl] at hl
  obtain ⟨a, b, rfl⟩ := two_of hl
  obtain ⟨ns, hn, wn⟩ := No.of_R (show Rd.R _ w _ [a] from Rd.R.field Try.underlying25 h 0 rfl 0 1 22 rfl rfl (by kernel_rfl))
  obtain ⟨rows, hm, wm⟩ := Ma.of_R uS uI Try.underlying3 (by kernel_rfl) (by kernel_rfl) (by kernel_rfl) (by kernel_rfl) (show Rd.R _ w _ [b] from Rd.R.field Try.underlying25 h 1 rfl 1 1 23 rfl rfl (by kernel_rfl))
  exact ⟨a, b, (ns, rows), rfl, ⟨hn, hm⟩, wn, wm⟩

/-- From w to w' the blocks from B - 4 to B alone, and new memory, were written. -/
def Iv (B : Nat) (w w' : World) : Prop := w.os = w'.os ∧ w.tape = w'.tape ∧ w.output = w'.output ∧ w.heap.size ≤ w'.heap.size ∧ ∀ k, k < w.heap.size → (k + 4 < B ∨ B < k) → w'.heap[k]? = w.heap[k]?
/-- What stays wherever the blocks from B - 4 to B alone, and new memory, are written. -/
def St (B : Nat) (w : World) (p : World → Prop) : Prop := ∀ w', Iv B w w' → p w'
section
variable {B : Nat} {w w' : World} {p q : World → Prop}
theorem grown_refl (w : World) (row : Option Nat) : w.grownBy w row := ⟨rfl, rfl, rfl, Nat.le_refl _, fun _ _ _ => rfl⟩
theorem grown_of_ext (h : Ext w w') (row : Option Nat) : w.grownBy w' row := ⟨h.os, h.tape, h.output, Below.size h, fun k hk _ => Below.block h k hk⟩
theorem Iv.refl (B : Nat) (w : World) : Iv B w w := ⟨rfl, rfl, rfl, Nat.le_refl _, fun _ _ _ => rfl⟩
theorem Iv.trans {a b c : World} (h : Iv B a b) (k : Iv B b c) : Iv B a c :=
  ⟨h.1.trans k.1, h.2.1.trans k.2.1, h.2.2.1.trans k.2.2.1, Nat.le_trans h.2.2.2.1 k.2.2.2.1, fun i hi hb => (k.2.2.2.2 i (Nat.lt_of_lt_of_le hi h.2.2.2.1) hb).trans (h.2.2.2.2 i hi hb)⟩
theorem Iv.of_grown (h : w.grownBy w' (some B)) : Iv B w w' := ⟨h.os.symm, h.tape.symm, h.output.symm, h.size, fun k hk hb => h.block k hk (fun e => by cases e; omega)⟩
theorem Iv.of_set {b : Nat} (W : World) (o : Nat) (x : Value) (h1 : B ≤ b + 4) (h2 : b ≤ B) : Iv B W (W.setCell ⟨b, o, none⟩ x) := ⟨rfl, rfl, rfl, by simp [World.setCell], fun k hk hb => Below.heap_setCell _ _ _ _ (fun e => by subst e; omega)⟩
theorem St.here (h : St B w p) : p w := h w (Iv.refl B w)
theorem St.iv (h : St B w p) (hi : Iv B w w') : St B w' p := fun w2 h2 => h w2 (hi.trans h2)
theorem St.step (h : St B w p) (hg : w.grownBy w' (some B)) : St B w' p := h.iv (Iv.of_grown hg)
theorem St.ext (h : St B w p) (he : Ext w w') : St B w' p := h.step (grown_of_ext he _)
theorem St.imp (h : St B w p) (hi : ∀ w', p w' → q w') : St B w q := fun w' hw => hi w' (h w' hw)
theorem St.and (h : St B w p) (k : St B w q) : St B w (fun W => p W ∧ q W) := fun w' hw => ⟨h w' hw, k w' hw⟩
/-- What was there before the blocks were. -/
theorem St.of_old {w0 : World} (he : Ext w0 w) (hB : w0.heap.size + 4 ≤ B) (hp : ∀ w', Ext w0 w' → p w') : St B w p := fun w' hw => hp w'
  ⟨hw.1.symm.trans he.os, hw.2.1.symm.trans he.tape, hw.2.2.1.symm.trans he.output, Nat.le_trans he.size hw.2.2.2.1, fun k hk => (hw.2.2.2.2 k (Nat.lt_of_lt_of_le hk he.size) (.inl (by omega))).trans (Below.block he k hk)⟩
/-- A row of the call's own, made behind the block. -/
theorem St.of_own {base s n b : Nat} {e : TypeId} {v : Value} {cs : List Value} (h : w.ownsRow base e s v n cs) (hB : B < base) (hb : n * b ≤ 140737488355328) (hn : n ≤ 140737488355328) : St B w (fun W => Row W s b v n cs) := fun w' hw => by
  refine Row.of_own (base := base) (e := e) ?_ hb hn
  obtain ⟨hl, h2⟩ := h
  refine ⟨hl, ?_⟩
  rcases h2 with h2 | ⟨g, cap, cur, e1, e2, e3, r⟩
  · exact .inl h2
  · exact .inr ⟨g, cap, cur, e1, e2, (hw.2.2.2.2 g (Array.getElem?_eq_some_iff.1 e3).1 (.inr (by omega))).trans e3, r⟩
end
theorem grown_set (W : World) (b o : Nat) (x : Value) : W.grownBy (W.setCell ⟨b, o, none⟩ x) (some b) := ⟨rfl, rfl, rfl, by simp [World.setCell], fun j hj hne => Below.heap_setCell _ _ _ _ (fun e => hne (by rw [e]))⟩

/-- Nodes, rows of handles, that stay so. -/
def NoS (B : Nat) (w : World) (v : Value) (ns : List Nd) : Prop :=
  ∃ ps : List (Hd × Value), ps.length = ns.length ∧ St B w (fun W => Row W 4 48 v ps.length (ncs ps)) ∧ ∀ (i : Nat) (p : Hd × Value) (n : Nd), ps[i]? = some p → ns[i]? = some n → p.1 = n.1 ∧ St B w (fun W => Sl .u64 W p.2 n.2)
def MaS (B : Nat) (w : World) (v : Value) (rows : List (List Int)) : Prop :=
  ∃ vs : List Value, vs.length = rows.length ∧ St B w (fun W => Row W 1 24 v vs.length vs) ∧ (∀ u ∈ vs, u.oneCell' = true) ∧ ∀ (i : Nat) (u : Value) (r : List Int), vs[i]? = some u → rows[i]? = some r → St B w (fun W => Sl .i64 W u r)
def GrS (B : Nat) (w : World) (a b : Value) (g : Gph) : Prop := NoS B w a g.1 ∧ MaS B w b g.2
section
variable {B : Nat} {w w' : World} {a b v : Value} {g : Gph} {ns : List Nd} {rows : List (List Int)}
theorem NoS.here (h : NoS B w v ns) : No w v ns := by
  obtain ⟨ps, hl, hr, hs⟩ := h
  exact ⟨ps, hl, hr.here, fun i p n hp hn => ⟨(hs i p n hp hn).1, (hs i p n hp hn).2.here⟩⟩
theorem MaS.here (h : MaS B w v rows) : Ma .i64 w v rows := by
  obtain ⟨vs, hl, hr, h1, hs⟩ := h
  exact ⟨vs, hl, hr.here, h1, fun i u r hu hr' => (hs i u r hu hr').here⟩
theorem GrS.here (h : GrS B w a b g) : Gr w a b g := ⟨h.1.here, h.2.here⟩
theorem NoS.step (h : NoS B w v ns) (hg : w.grownBy w' (some B)) : NoS B w' v ns := by
  obtain ⟨ps, hl, hr, hs⟩ := h
  exact ⟨ps, hl, hr.step hg, fun i p n hp hn => ⟨(hs i p n hp hn).1, (hs i p n hp hn).2.step hg⟩⟩
theorem MaS.step (h : MaS B w v rows) (hg : w.grownBy w' (some B)) : MaS B w' v rows := by
  obtain ⟨vs, hl, hr, h1, hs⟩ := h
  exact ⟨vs, hl, hr.step hg, h1, fun i u r hu hr' => (hs i u r hu hr').step hg⟩
theorem GrS.step (h : GrS B w a b g) (hg : w.grownBy w' (some B)) : GrS B w' a b g := ⟨h.1.step hg, h.2.step hg⟩
theorem GrS.iv (h : GrS B w a b g) (hi : Iv B w w') : GrS B w' a b g := by
  obtain ⟨⟨ps, hl, hr, hs⟩, ⟨vs, hl2, hr2, h1, hs2⟩⟩ := h
  exact ⟨⟨ps, hl, hr.iv hi, fun i p n hp hn => ⟨(hs i p n hp hn).1, (hs i p n hp hn).2.iv hi⟩⟩, ⟨vs, hl2, hr2.iv hi, h1, fun i u r hu hr' => (hs2 i u r hu hr').iv hi⟩⟩
theorem GrS.ext (h : GrS B w a b g) (he : Ext w w') : GrS B w' a b g := h.step (grown_of_ext he _)
theorem GrS.of_old {w0 : World} (h : Gr w0 a b g) (he : Ext w0 w) (hB : w0.heap.size + 4 ≤ B) : GrS B w a b g := by
  obtain ⟨⟨ps, hl, hr, hs⟩, ⟨vs, hl2, hr2, h1, hs2⟩⟩ := h
  exact ⟨⟨ps, hl, St.of_old he hB fun w' hw => hr.ext hw, fun i p n hp hn => ⟨(hs i p n hp hn).1, St.of_old he hB fun w' hw => (hs i p n hp hn).2.ext hw⟩⟩,
    ⟨vs, hl2, St.of_old he hB fun w' hw => hr2.ext hw, h1, fun i u r hu hr' => St.of_old he hB fun w' hw => (hs2 i u r hu hr').ext hw⟩⟩
theorem MaS.at_ (h : MaS B w v rows) (i : Nat) (hi : i < rows.length) :
    ∃ (p : Addr) (ua : Option Addr) (uc : Nat), (∀ w', (Instr.indexAt 23 v (.int .i64 i)).run Try.prog w' = .ok (.pointer (some p)) w') ∧ w.cell? p = some (.slice ua (rows.getD i []).length uc) ∧ St B w (fun W => Sl .i64 W (.slice ua (rows.getD i []).length uc) (rows.getD i [])) := by
  obtain ⟨vs, hl, hr, _, hs⟩ := h
  obtain ⟨p, hp, hc⟩ := hr.here.at1 uS szS (i := i) (by omega) (by omega)
  have hi1 : i < vs.length := by omega
  have hS := hs i vs[i] (rows.getD i []) (by simp [hi1]) (by simp [List.getD_eq_getElem?_getD, hi])
  obtain ⟨a, c, hf⟩ := Row.form hS.here
  have hcell := hc vs[i] (by simp [hi1])
  rw [hf] at hS hcell
  exact ⟨p, a, c, hp, hcell, hS⟩
theorem NoS.at_ (h : NoS B w v ns) (i : Nat) (hi : i < ns.length) :
    ∃ (b o : Nat) (s : Option Nat) (ua : Option Addr) (uc : Nat), (∀ w', (Instr.indexAt 22 v (.int .i64 i)).run Try.prog w' = .ok (.pointer (some ⟨b, o, s⟩)) w') ∧
      w.cell? ⟨b, o, s⟩ = some (.int .i64 (ns.getD i nd0).1.1) ∧ w.cell? ⟨b, o + 1, none⟩ = some (.int .i64 (ns.getD i nd0).1.2.1) ∧ w.cell? ⟨b, o + 2, none⟩ = some (.int .u64 (ns.getD i nd0).1.2.2) ∧ w.cell? ⟨b, o + 3, none⟩ = some (.slice ua (ns.getD i nd0).2.length uc) ∧ St B w (fun W => Sl .u64 W (.slice ua (ns.getD i nd0).2.length uc) (ns.getD i nd0).2) := by
  obtain ⟨ps, hl, hr, hs⟩ := h
  obtain ⟨p, hp, hc⟩ := hr.here.at_ uN szN (i := i) (by omega) (by omega)
  have hi1 : i < ps.length := by omega
  obtain ⟨g0, g1, g2, g3⟩ := ncs_get ps i ps[i] (by simp [hi1])
  obtain ⟨e, hsl⟩ := hs i ps[i] (ns.getD i nd0) (by simp [hi1]) (by simp [List.getD_eq_getElem?_getD, hi])
  have h0 := hc 0 _ (by simpa using g0)
  have h1 := hc 1 _ (by simpa using g1)
  have h2 := hc 2 _ (by simpa using g2)
  have h3 := hc 3 _ (by simpa using g3)
  rw [e] at h0 h1 h2
  rw [add_zero] at h0
  obtain ⟨a, c, hf⟩ := Row.form hsl.here
  rw [hf] at hsl h3
  obtain ⟨b, o, s⟩ := p
  exact ⟨b, o, s, a, c, hp, h0, by simpa [Addr.add] using h1, by simpa [Addr.add] using h2, by simpa [Addr.add] using h3, hsl⟩
/-- One row of handles is another. -/
theorem MaS.set {vs : List Value} {u v' : Value} {r : List Int} {i : Nat} (hl : vs.length = rows.length) (h1 : ∀ u ∈ vs, u.oneCell' = true) (hs : ∀ (i : Nat) (u : Value) (r : List Int), vs[i]? = some u → rows[i]? = some r → St B w (fun W => Sl .i64 W u r))
    (hu1 : u.oneCell' = true) (hu : St B w (fun W => Sl .i64 W u r)) (hv : St B w (fun W => Row W 1 24 v' (vs.set i u).length (vs.set i u))) : MaS B w v' (rows.set i r) := by
  refine ⟨vs.set i u, by simp [hl], hv, fun x hx => ?_, fun j x y hx hy => ?_⟩
  · rcases List.mem_or_eq_of_mem_set hx with h | rfl
    · exact h1 x h
    · exact hu1
  · by_cases hj : i = j
    · subst hj
      rw [List.getElem?_set] at hx hy
      simp only [if_true] at hx hy
      split at hx
      · split at hy
        · cases hx; cases hy; exact hu
        · cases hy
      · cases hx
    · rw [List.getElem?_set, if_neg hj] at hx hy
      exact hs j x y hx hy
/-- One node is another. -/
theorem NoS.set {ps : List (Hd × Value)} {x : Hd} {u v' : Value} {r : List Int} {i : Nat} (hl : ps.length = ns.length) (hs : ∀ (i : Nat) (p : Hd × Value) (n : Nd), ps[i]? = some p → ns[i]? = some n → p.1 = n.1 ∧ St B w (fun W => Sl .u64 W p.2 n.2))
    (hu : St B w (fun W => Sl .u64 W u r)) (hv : St B w (fun W => Row W 4 48 v' (ps.set i (x, u)).length (ncs (ps.set i (x, u))))) : NoS B w v' (ns.set i (x, r)) := by
  refine ⟨ps.set i (x, u), by simp [hl], hv, fun j p n hp hn => ?_⟩
  by_cases hj : i = j
  · subst hj
    rw [List.getElem?_set] at hp hn
    simp only [if_true] at hp hn
    split at hp
    · split at hn
      · cases hp; cases hn; exact ⟨rfl, hu⟩
      · cases hn
    · cases hp
  · rw [List.getElem?_set, if_neg hj] at hp hn
    exact hs j p n hp hn
/-- A node more. -/
theorem NoS.snoc {ps : List (Hd × Value)} {x : Hd} {u v' : Value} {r : List Int} (hl : ps.length = ns.length) (hs : ∀ (i : Nat) (p : Hd × Value) (n : Nd), ps[i]? = some p → ns[i]? = some n → p.1 = n.1 ∧ St B w (fun W => Sl .u64 W p.2 n.2))
    (hu : St B w (fun W => Sl .u64 W u r)) (hv : St B w (fun W => Row W 4 48 v' (ps ++ [(x, u)]).length (ncs (ps ++ [(x, u)])))) : NoS B w v' (ns ++ [(x, r)]) := by
  refine ⟨ps ++ [(x, u)], by simp [hl], hv, fun j p n hp hn => ?_⟩
  by_cases hj : j < ps.length
  · rw [List.getElem?_append_left hj] at hp
    rw [List.getElem?_append_left (by omega)] at hn
    exact hs j p n hp hn
  · rw [List.getElem?_append_right (by omega)] at hp
    rw [List.getElem?_append_right (by omega), ← hl] at hn
    have : j - ps.length = 0 := by
      rcases Nat.eq_zero_or_pos (j - ps.length) with h | h
      · exact h
      · rw [List.getElem?_eq_none (by simp; omega)] at hp; cases hp
    rw [this] at hp hn
    simp at hp hn
    cases hp; cases hn
    exact ⟨rfl, hu⟩
end

/-- Comparing two heads. -/
theorem eqHead (a b c d e f : Int) (w : World) : (Op.equalIn 10000 28 (.agg #[.int .i64 a, .int .i64 b, .int .u64 c]) (.agg #[.int .i64 d, .int .i64 e, .int .u64 f])).run Try.prog w = .ok (a == d && (b == e && c == f)) w := by
  have u3 := Try.underlying3
  have a3 := Try.isAgg3
  have z3 := Try.sizeOf3
  have u4 := Try.underlying26
  have a4 := Try.isAgg26
  have z4 := Try.sizeOf26
  have hS : Try.prog.underlying 28 = some (.struct (Try.prog.fieldsOf 28)) := by kernel_rfl
  have hp : Try.prog.stoodInHeld 28 = false := by kernel_rfl
  rw [show (10000 : Nat) = 9999 + 1 from rfl, run_equalIn_agg w 9999 28 _ _ hS hp]
  simp only [Program.fieldsOf, Try.underlying28]
  go_simp
  by_cases h1 : a = d <;> by_cases h2 : b = e <;> by_cases h3 : c = f <;> simp [h1, h2, h3]

end Go.Proofs.Ytjhmlbhfnogdiaa.Gr
