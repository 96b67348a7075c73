/- Worlds that only grew; and rows: a slice that reads as a list of cells, nil and empty ones too, and what len, an index, a slice expression and append do with it. No function of the program in sight. -/
import Derived.WalkKit
import Derived.WalkLawsBesides
import Derived.KernelRfl
import Derived.Lib.Hide
import Derived.Deep.QuietTactic
import Derived.BigQuiet
import Derived.Maps.AppendAt
import Derived.Lib.AppendZeros
namespace Go.Proofs.Ytjhmlbhfnogdiaa
open Go.RowKit
set_option linter.unusedVariables false

/-- What was there when the call began is as it was. -/
def Ext (w w' : World) : Prop := Below w.heap.size w w'
theorem Ext.refl (w : World) : Ext w w := Below.refl _ _
theorem Ext.trans {a b c : World} (h : Ext a b) (k : Ext b c) : Ext a c := Below.trans h (Below.mono k h.size)
theorem Ext.alloc {a b : World} (h : Ext a b) (o : Obj) : Ext a (b.alloc o) := Below.alloc h h.size o
theorem Ext.drew {a b : World} (h : Ext a b) : Ext a b.drew := Below.drew h
theorem Ext.drewN {a b : World} (h : Ext a b) (n : Nat) : Ext a (b.drewN n) := Below.trans h ⟨rfl, rfl, rfl, Nat.le_refl _, fun _ _ => rfl⟩
theorem Ext.of_eq {a b : World} (h : a = b) : Ext a b := h ▸ Ext.refl a
theorem Ext.below {a b : World} (h : Ext a b) : Below a.heap.size a b := h
theorem Ext.grown {a b c : World} {row : Option Nat} (h : Ext a b) (hg : b.grownBy c row) (hr : ∀ k, row = some k → a.heap.size ≤ k) : Ext a c := Below.grown h hg h.size hr
theorem Ext.setCell {a b : World} (h : Ext a b) {p : Addr} (hp : a.heap.size ≤ p.block) (u : Value) : Ext a (b.setCell p u) := Below.setCell h hp u
theorem Ext.size {a b : World} (h : Ext a b) : a.heap.size ≤ b.heap.size := Below.size h
theorem Ext.cell {w w' : World} (h : Ext w w') {p : Addr} {v : Value} (hc : w.cell? p = some v) : w'.cell? p = some v :=
  (Below.cell h (World.block_lt_of_cell? w p hc)).trans hc

theorem ret_int {k : IntKind} {a b : Int} (h : a = b) : Ending.returned (.int k a) = .returned (.int k b) := by rw [h]

theorem add_add (a : Addr) (x y : Nat) : (a.add x).add y = a.add (x + y) := by
  unfold Addr.add
  by_cases hx : x = 0
  · subst hx; simp
  · by_cases hy : y = 0
    · subst hy; simp [hx]
    · have h : ¬ (x + y = 0) := by omega
      simp only [hx, hy, h, if_false]
      congr 1
      omega
theorem add_zero (a : Addr) : a.add 0 = a := by unfold Addr.add; simp

/-- v is a slice of n elements, of s cells and b bytes each, whose cells read as cs. -/
def Row (w : World) (s b : Nat) (v : Value) (n : Nat) (cs : List Value) : Prop :=
  cs.length = n * s ∧ n * b ≤ 140737488355328 ∧ n ≤ 140737488355328 ∧
  ((v = .slice none 0 0 ∧ n = 0) ∨ ∃ (a : Addr) (cap : Nat), v = .slice (some a) n cap ∧ n ≤ cap ∧ cap ≤ maxLen ∧ ∀ j c, cs[j]? = some c → w.cell? (a.add j) = some c)

/-- There is no room behind it. -/
def Full (v : Value) (n : Nat) : Prop := ∃ a, v = .slice a n n

theorem Row.ext {w w' : World} {s b : Nat} {v : Value} {n : Nat} {cs : List Value} (h : Row w s b v n cs) (he : Ext w w') : Row w' s b v n cs := by
  obtain ⟨h1, h2, h3, h4⟩ := h
  refine ⟨h1, h2, h3, ?_⟩
  rcases h4 with h4 | ⟨a, cap, hv, hn, hc, hcell⟩
  · exact .inl h4
  · exact .inr ⟨a, cap, hv, hn, hc, fun j c hj => he.cell (hcell j c hj)⟩

theorem Row.nil (w : World) (s b : Nat) : Row w s b (.slice none 0 0) 0 [] := ⟨by simp, by simp, by omega, .inl ⟨rfl, rfl⟩⟩

theorem Row.form {w : World} {s b : Nat} {v : Value} {n : Nat} {cs : List Value} (h : Row w s b v n cs) : ∃ a cap, v = .slice a n cap := by
  obtain ⟨_, _, _, ⟨rfl, rfl⟩ | ⟨a, cap, rfl, _⟩⟩ := h
  · exact ⟨none, 0, rfl⟩
  · exact ⟨some a, cap, rfl⟩

section
variable {P : Program} {T E : TypeId} {w : World} {s b : Nat} {v : Value} {n : Nat} {cs : List Value}

theorem Row.len (ht : P.underlying T = some (.slice E)) (h : Row w s b v n cs) (ty : TypeId) (w' : World) : (Builtin.len_ #[T] ty #[v]).run P w' = .ok (.int .i64 n) w' := by
  obtain ⟨a, cap, rfl⟩ := h.form
  simp [Builtin.len_, run_underlying ht, goInt]

theorem Row.small (h : Row w s b v n cs) : (n : Int) ≤ 140737488355328 := by have := h.2.2.1; omega

/-- An element's place. -/
theorem Row.at_ (ht : P.underlying T = some (.slice E)) (hsz : ∀ w, (sizeOf E).run P w = .ok s w) (h : Row w s b v n cs) {i : Int} (h0 : 0 ≤ i) (h1 : i < n) :
    ∃ p : Addr, (∀ w', (Instr.indexAt T v (.int .i64 i)).run P w' = .ok (.pointer (some p)) w') ∧ ∀ j c, cs[i.toNat * s + j]? = some c → w.cell? (p.add j) = some c := by
  obtain ⟨hl, _, _, ⟨rfl, rfl⟩ | ⟨a, cap, rfl, _, _, hcell⟩⟩ := h
  · omega
  · refine ⟨a.add (i.toNat * s), fun w' => ?_, fun j c hj => by rw [add_add]; exact hcell _ c hj⟩
    simp [Instr.indexAt, run_underlying ht, asIntOf, hsz, h0, h1]

theorem Row.at1 (ht : P.underlying T = some (.slice E)) (hsz : ∀ w, (sizeOf E).run P w = .ok 1 w) (h : Row w 1 b v n cs) {i : Int} (h0 : 0 ≤ i) (h1 : i < n) :
    ∃ p : Addr, (∀ w', (Instr.indexAt T v (.int .i64 i)).run P w' = .ok (.pointer (some p)) w') ∧ ∀ c, cs[i.toNat]? = some c → w.cell? p = some c := by
  obtain ⟨p, hp, hc⟩ := h.at_ ht hsz h0 h1
  exact ⟨p, hp, fun c hj => by have := hc 0 c (by simpa using hj); rwa [add_zero] at this⟩

/-- 'v[:k:k]': the first k, and no room behind them. -/
theorem Row.slice3 (ht : P.underlying T = some (.slice E)) (hsz : ∀ w, (sizeOf E).run P w = .ok s w) (h : Row w s b v n cs) {k : Nat} (hkn : k ≤ n) :
    ∃ u, (∀ w', (Instr.sliceAt T v none (some (.int .i64 k)) (some (.int .i64 k))).run P w' = .ok u w') ∧ Row w s b u k (cs.take (k * s)) ∧ Full u k := by
  obtain ⟨hl, hb, hn, hr⟩ := h
  have hlen : (cs.take (k * s)).length = k * s := by
    rw [List.length_take, hl]; exact Nat.min_eq_left (Nat.mul_le_mul_right _ hkn)
  have hbb : k * b ≤ 140737488355328 := Nat.le_trans (Nat.mul_le_mul_right _ hkn) hb
  rcases hr with ⟨rfl, rfl⟩ | ⟨a, cap, rfl, hnc, hcm, hcell⟩
  · obtain rfl : k = 0 := by omega
    refine ⟨.slice none 0 0, fun w' => ?_, ⟨hlen, hbb, by omega, .inl ⟨rfl, rfl⟩⟩, ⟨none, rfl⟩⟩
    simp [Instr.sliceAt, Instr.slice, Instr.sliceBounds, Instr.sliceBound, run_underlying ht, asIntOf, hsz]
  · have hkc : k ≤ cap := by omega
    refine ⟨.slice (some a) k k, fun w' => ?_, ⟨hlen, hbb, by omega, .inr ⟨a, _, rfl, Nat.le_refl _, by omega, fun j c hj => hcell j c ?_⟩⟩, ⟨some a, rfl⟩⟩
    · simp [Instr.sliceAt, Instr.slice, Instr.sliceBounds, Instr.sliceBound, run_underlying ht, asIntOf, hsz, hkc, Addr.add]
    · rw [List.getElem?_take] at hj
      split at hj
      · exact hj
      · cases hj

/-- 'v[:k]': the first k. -/
theorem Row.slice_to (ht : P.underlying T = some (.slice E)) (hsz : ∀ w, (sizeOf E).run P w = .ok s w) (h : Row w s b v n cs) {k : Nat} (hkn : k ≤ n) :
    ∃ u, (∀ w', (Instr.sliceAt T v none (some (.int .i64 k)) none).run P w' = .ok u w') ∧ Row w s b u k (cs.take (k * s)) := by
  obtain ⟨hl, hb, hn, hr⟩ := h
  have hlen : (cs.take (k * s)).length = k * s := by
    rw [List.length_take, hl]; exact Nat.min_eq_left (Nat.mul_le_mul_right _ hkn)
  have hbb : k * b ≤ 140737488355328 := Nat.le_trans (Nat.mul_le_mul_right _ hkn) hb
  rcases hr with ⟨rfl, rfl⟩ | ⟨a, cap, rfl, hnc, hcm, hcell⟩
  · obtain rfl : k = 0 := by omega
    refine ⟨.slice none 0 0, fun w' => ?_, ⟨hlen, hbb, by omega, .inl ⟨rfl, rfl⟩⟩⟩
    simp [Instr.sliceAt, Instr.slice, Instr.sliceBounds, Instr.sliceBound, run_underlying ht, asIntOf, hsz]
  · have hkc : k ≤ cap := by omega
    refine ⟨.slice (some a) k cap, fun w' => ?_, ⟨hlen, hbb, by omega, .inr ⟨a, _, rfl, hkc, hcm, fun j c hj => hcell j c ?_⟩⟩⟩
    · simp [Instr.sliceAt, Instr.slice, Instr.sliceBounds, Instr.sliceBound, run_underlying ht, asIntOf, hsz, hkc, Addr.add]
    · rw [List.getElem?_take] at hj
      split at hj
      · exact hj
      · cases hj

/-- 'v == nil'. -/
def isNil : Value → Bool
  | .slice none _ _ => true
  | _ => false
theorem Row.eql_nil (ht : P.underlying T = some (.slice E)) (h : Row w s b v n cs) (w' : World) : (binOp .eql T v (.slice none 0 0)).run P w' = .ok (.bool (isNil v)) w' := by
  obtain ⟨a, cap, rfl⟩ := h.form
  simp only [binOp]
  cases a <;> simp [run_equal_slice_nil w' T E _ _ _ ht, isNil]
theorem Row.of_nil (h : Row w s b v n cs) (hn : isNil v = true) : n = 0 ∧ cs = [] ∧ v = .slice none 0 0 := by
  obtain ⟨hl, _, _, ⟨rfl, rfl⟩ | ⟨a, cap, rfl, _⟩⟩ := h
  · exact ⟨rfl, by simpa using hl, rfl⟩
  · simp [isNil] at hn

/-- What the call owns reads as a row. -/
theorem Row.of_own {base : Nat} {e : TypeId} (h : w.ownsRow base e s v n cs) (hb : n * b ≤ 140737488355328) (hn : n ≤ 140737488355328) : Row w s b v n cs := by
  obtain ⟨hl, h⟩ := h
  refine ⟨hl, hb, hn, ?_⟩
  rcases h with h | ⟨g, cap, cur, rfl, _, hg, hnc, hcm, hcur, htake⟩
  · exact .inl h
  · refine .inr ⟨⟨g, 0, none⟩, cap, rfl, hnc, hcm, fun j c hj => ?_⟩
    have hadd : (⟨g, 0, none⟩ : Addr).add j = ⟨g, j, none⟩ := by unfold Addr.add; split <;> simp_all
    rw [hadd, cell_of_row w g j cur e (0, 0) hg]
    rw [← htake, List.getElem?_take] at hj
    split at hj
    · simpa using hj
    · cases hj

/-- append to a row without room behind it: a row of the call's own, or, with nothing to append, the row itself. -/
theorem append_full {ty : TypeId} {i : TypeInfo} {z : Value} (ht : P.underlying T = some (.slice E)) (hi : P.info? E = some i) (hz : i.zero = some z) (hs : i.size = s) (hby : i.bytes = b) (hzs : z.cells.size = s) (hs0 : 0 < s)
    (h : Row w s b v n cs) (hf : Full v n) {u : Value} {m : Nat} {ds : List Value} (k : Row w s b u m ds) (h1 : ∀ x ∈ ds, x.oneCell' = true) (hsz : (n + m) * b ≤ 140737488355328) (hb0 : 0 < b) :
    ∃ v' w', (Builtin.append_ #[T, T] ty #[v, u]).run P w = .ok v' w' ∧ Row w' s b v' (n + m) (cs ++ ds) ∧ Ext w w' ∧ (0 < m → w'.ownsRow w.heap.size E s v' (n + m) (cs ++ ds)) := by
  have hnm : n + m ≤ 140737488355328 := Nat.le_trans (Nat.le_mul_of_pos_right _ hb0) hsz
  obtain ⟨a0, rfl⟩ := hf
  by_cases hm : m = 0
  · subst hm
    obtain rfl : ds = [] := by have := k.1; simpa using this
    obtain ⟨a1, c1, rfl⟩ := k.form
    have hrun : (Builtin.append_ #[T, T] ty #[.slice a0 n n, .slice a1 0 c1]).run P w = .ok (.slice a0 n n) w := by
      have hfc : (Builtin.firstCells i.size 0 (.slice a1 0 c1)).run P w = .ok #[] w := by
        cases a1 with
        | none => simp [Builtin.firstCells]
        | some a => exact run_firstCells_some (P := P) w i.size 0 a 0 c1 [] (by simp) (by simp)
      cases a0 <;> simp [Builtin.append_, run_underlying ht, sizeOf, typeInfo, hi, Builtin.lenOf, hfc, storeCells]
    exact ⟨_, _, hrun, by simpa using h, Ext.refl w, fun h => absurd h (by omega)⟩
  · obtain ⟨hl, hb, hn, hr⟩ := h
    obtain ⟨kl, kb, kn, ⟨_, rfl⟩ | ⟨a1, c1, rfl, _, _, hc1⟩⟩ := k
    · exact absurd rfl hm
    · rcases hr with ⟨hv, rfl⟩ | ⟨a, cap, hv, _, _, hcell⟩
      · simp only [Value.slice.injEq] at hv
        obtain ⟨rfl, _, _⟩ := hv
        have hown : w.ownsRow w.heap.size E s (.slice none 0 0) 0 [] := World.ownsRow_nil _ _ _ _
        obtain rfl : cs = [] := by simpa using hl
        obtain ⟨v', w', hr, h2, h3, _⟩ := run_append_own (P := P) w w.heap.size T ty E i z s b ht hi hz hs hby hzs hs0 _ 0 [] hown a1 m c1 ds kl hc1 h1 (by unfold maxLen; omega) hsz (Nat.le_refl _)
        exact ⟨v', w', hr, Row.of_own h2 hsz hnm, (Ext.refl w).grown h3 (fun k hk => by simp [Value.ownBlock] at hk), fun _ => h2⟩
      · simp only [Value.slice.injEq] at hv
        obtain ⟨rfl, _, rfl⟩ := hv
        obtain ⟨v', w', hr, h2, h3⟩ := run_append_arg_grows (P := P) w T ty E i z s b ht hi hz hs hby hzs hs0 a n n cs hl hcell a1 m c1 ds kl hc1 (by omega) (by unfold maxLen; omega) hsz
        exact ⟨v', w', hr, Row.of_own h2 hsz hnm, (Ext.refl w).grown h3 (fun k hk => by simp at hk), fun _ => h2⟩

/-- append to a row of the call's own. -/
theorem append_own {ty : TypeId} {i : TypeInfo} {z : Value} (ht : P.underlying T = some (.slice E)) (hi : P.info? E = some i) (hz : i.zero = some z) (hs : i.size = s) (hby : i.bytes = b) (hzs : z.cells.size = s) (hs0 : 0 < s)
    {base : Nat} (h : w.ownsRow base E s v n cs) (hbase : base ≤ w.heap.size) {u : Value} {m : Nat} {ds : List Value} (k : Row w s b u m ds) (h1 : ∀ x ∈ ds, x.oneCell' = true) (hsz : (n + m) * b ≤ 140737488355328) (hb0 : 0 < b) :
    ∃ v' w', (Builtin.append_ #[T, T] ty #[v, u]).run P w = .ok v' w' ∧ w'.ownsRow base E s v' (n + m) (cs ++ ds) ∧ w.grownBy w' v.ownBlock ∧ (v'.ownBlock = v.ownBlock ∨ v'.ownBlock = some w.heap.size) := by
  have hnm : n + m ≤ 140737488355328 := Nat.le_trans (Nat.le_mul_of_pos_right _ hb0) hsz
  obtain ⟨kl, kb, kn, ⟨rfl, rfl⟩ | ⟨a1, c1, rfl, _, _, hc1⟩⟩ := k
  · obtain rfl : ds = [] := by simpa using kl
    have hrun : (Builtin.append_ #[T, T] ty #[v, .slice none 0 0]).run P w = .ok v w := by
      rcases h.2 with ⟨rfl, rfl⟩ | ⟨g, cap, cur, rfl, _, _, hnc, _⟩
      · simp [Builtin.append_, run_underlying ht, sizeOf, typeInfo, hi, Builtin.lenOf, Builtin.firstCells]
      · simp [Builtin.append_, run_underlying ht, sizeOf, typeInfo, hi, Builtin.lenOf, Builtin.firstCells, storeCells, hnc]
    exact ⟨v, w, hrun, by simpa using h, ⟨rfl, rfl, rfl, Nat.le_refl _, fun _ _ _ => rfl⟩, .inl rfl⟩
  · obtain ⟨v', w', hr, h2, h3, _, h5⟩ := run_append_own_at (P := P) w base T ty E i z s b ht hi hz hs hby hzs hs0 v n cs h a1 m c1 ds kl hc1 h1 (by unfold maxLen; omega) hsz hbase
    exact ⟨v', w', hr, h2, h3, h5⟩

/-- '[]T{}': a row of no element, of the call's own. -/
theorem own_empty (w : World) (E : TypeId) (s : Nat) : (w.alloc (.cells #[] E)).ownsRow w.heap.size E s (.slice (some ⟨w.heap.size, 0, none⟩) 0 0) 0 [] :=
  World.ownsRow_made w #[] 0 (Nat.le_refl _) (by unfold maxLen; omega) (by simp)

end
end Go.Proofs.Ytjhmlbhfnogdiaa
