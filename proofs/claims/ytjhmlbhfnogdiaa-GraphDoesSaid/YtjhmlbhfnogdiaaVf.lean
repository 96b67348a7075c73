/- What the walk over a graph keeps in memory: the boxes of Canon, the map of new handles, the row in order; and what stays where just some blocks were written. -/
import Derived.Test.YtjhmlbhfnogdiaaVs
import Derived.Test.YtjhmlbhfnogdiaaCp
import Derived.Test.YtjhmlbhfnogdiaaFm
import Derived.Test.YtjhmlbhfnogdiaaHq
namespace Go.Proofs.Ytjhmlbhfnogdiaa.Vf
open Go.RowKit
open Go.Proofs.Ytjhmlbhfnogdiaa Go.Proofs.Ytjhmlbhfnogdiaa.Hd Go.Proofs.Ytjhmlbhfnogdiaa.Gr Go.Proofs.Ytjhmlbhfnogdiaa.Hg Go.Proofs.Ytjhmlbhfnogdiaa.Ps Go.Proofs.Ytjhmlbhfnogdiaa.Rr Go.Proofs.Ytjhmlbhfnogdiaa.Wk Go.Proofs.Ytjhmlbhfnogdiaa.Pl Go.Proofs.Ytjhmlbhfnogdiaa.Vs Go.Proofs.Ytjhmlbhfnogdiaa.Cp
set_option linter.unusedVariables false

/-- What is told of a handle: one more than its place, or 0. -/
def num (out : List Int) (h : Int) : Int := placeL out h + 1
theorem num_no {out : List Int} {h : Int} (hn : h ∉ out) : num out h = 0 := by unfold num placeL; rw [if_neg hn]; rfl
theorem num_zero {N : Nat} {out : List Int} (hi : In N out) : num out 0 = 0 := num_no fun h => by have := hi.2 0 h; omega
theorem num_in {out : List Int} {h : Int} (hn : h ∈ out) : num out h = (out.idxOf h : Int) + 1 := by unfold num placeL; rw [if_pos hn]

/-- The map of new handles: 0 leads to 0. -/
def asV (out : List Int) : List (Int × Value) := (0, Value.int .i64 0) :: out.zipIdx.map fun p => (p.1, Value.int .i64 ((p.2 : Int) + 1))
theorem asV_nil : asV [] = [(0, Value.int .i64 0)] := rfl
theorem asV_snoc (out : List Int) (h : Int) : asV (out ++ [h]) = asV out ++ [(h, Value.int .i64 ((out.length : Int) + 1))] := by
  simp [asV, List.zipIdx_append]
theorem asV_new {out : List Int} {h : Int} (h0 : h ≠ 0) (hn : h ∉ out) : ∀ p ∈ asV out, p.1 ≠ h := by
  intro p hp
  rcases List.mem_cons.1 hp with rfl | hp
  · exact fun e => h0 e.symm
  · obtain ⟨q, hq, rfl⟩ := List.mem_map.1 hp
    have : q.1 ∈ out := by
      obtain ⟨h1, h2⟩ := List.mem_zipIdx_iff_getElem?.1 hq |> fun h => List.getElem?_eq_some_iff.1 h
      exact h2 ▸ List.getElem_mem h1
    exact fun e => hn (e ▸ this)
theorem flook_zip (h : Int) : ∀ (l : List Int) (i n : Nat), h ∈ l → flook h ((l.zipIdx n).map fun p => (p.1, Value.int .i64 ((p.2 : Int) + 1))) i = some (i + l.idxOf h, Value.int .i64 (((n + l.idxOf h : Nat) : Int) + 1))
  | [], _, _, hm => by cases hm
  | x :: r, i, n, hm => by
    simp only [List.zipIdx_cons, List.map_cons, flook]
    by_cases e : h = x
    · subst e; simp
    · have hm' : h ∈ r := by simpa [e] using hm
      have hne : (x == h) = false := by simpa using fun e' => e e'.symm
      rw [if_neg e, flook_zip h r _ _ hm', List.idxOf_cons, hne]
      simp
      omega
theorem flook_asV {N : Nat} {out : List Int} {h : Int} (hi : In N out) (hm : h ∈ out) : flook h (asV out) 0 = some (1 + out.idxOf h, Value.int .i64 (num out h)) := by
  have h1 := hi.2 h hm
  unfold asV flook
  rw [if_neg (by show ¬ h = 0; omega), flook_zip h out 1 0 hm, num_in hm]
  simp
theorem flook_asV0 (out : List Int) : flook 0 (asV out) 0 = some (0, Value.int .i64 0) := by
  unfold asV flook
  rw [if_pos rfl]
theorem flook_none' {out : List Int} {h : Int} (h0 : h ≠ 0) (hn : h ∉ out) : flook h (asV out) 0 = none := flook_none (asV_new h0 hn)
/-- 'as[h]', whatever h. -/
theorem flook_num {N : Nat} {out : List Int} (hi : In N out) (h : Int) : ((flook h (asV out) 0).map (·.2)).getD (Value.int .i64 0) = Value.int .i64 (num out h) := by
  by_cases h0 : h = 0
  · subst h0; rw [flook_asV0, num_zero hi]; rfl
  · by_cases hm : h ∈ out
    · rw [flook_asV hi hm]; rfl
    · rw [flook_none' h0 hm, num_no hm]; rfl

/-- From w to w' the blocks of S alone, and new memory, were written. -/
def Ch (S : Nat → Prop) (w w' : World) : Prop := w.os = w'.os ∧ w.tape = w'.tape ∧ w.output = w'.output ∧ w.heap.size ≤ w'.heap.size ∧ ∀ k, k < w.heap.size → ¬ S k → w'.heap[k]? = w.heap[k]?
section
variable {S T : Nat → Prop} {w w1 w2 : World}
theorem Ch.refl (S : Nat → Prop) (w : World) : Ch S w w := ⟨rfl, rfl, rfl, Nat.le_refl _, fun _ _ _ => rfl⟩
theorem Ch.trans (h : Ch S w w1) (k : Ch T w1 w2) (hT : ∀ i, i < w.heap.size → T i → S i) : Ch S w w2 :=
  ⟨h.1.trans k.1, h.2.1.trans k.2.1, h.2.2.1.trans k.2.2.1, Nat.le_trans h.2.2.2.1 k.2.2.2.1, fun i hi hn => (k.2.2.2.2 i (Nat.lt_of_lt_of_le hi h.2.2.2.1) (fun ht => hn (hT i hi ht))).trans (h.2.2.2.2 i hi hn)⟩
theorem Ch.of_ext (S : Nat → Prop) (h : Ext w w1) : Ch S w w1 := ⟨h.os.symm, h.tape.symm, h.output.symm, Below.size h, fun k hk _ => Below.block h k hk⟩
theorem Ch.of_grown {row : Option Nat} (h : w.grownBy w1 row) (hS : ∀ k, row = some k → S k) : Ch S w w1 := ⟨h.os.symm, h.tape.symm, h.output.symm, h.size, fun k hk hn => h.block k hk (fun e => hn (hS k e.symm))⟩
theorem Ch.set (S : Nat → Prop) (W : World) (p : Addr) (x : Value) (h : S p.block) : Ch S W (W.setCell p x) := ⟨rfl, rfl, rfl, by simp [World.setCell], fun k hk hn => Below.heap_setCell _ _ _ _ (fun e => hn (by subst e; exact h))⟩
theorem Ch.block (h : Ch S w w1) {k : Nat} (hk : k < w.heap.size) (hn : ¬ S k) : w1.heap[k]? = w.heap[k]? := h.2.2.2.2 k hk hn
theorem Ch.size (h : Ch S w w1) : w.heap.size ≤ w1.heap.size := h.2.2.2.1
theorem Ch.mono (h : Ch S w w1) (hT : ∀ i, i < w.heap.size → S i → T i) : Ch T w w1 := (Ch.refl T w).trans h hT
theorem Ch.ext {w0 : World} (h : Ch S w w1) (he : Ext w0 w) (hS : ∀ k, S k → w0.heap.size ≤ k) : Ext w0 w1 :=
  ⟨h.1.symm.trans he.os, h.2.1.symm.trans he.tape, h.2.2.1.symm.trans he.output, Nat.le_trans he.size h.size, fun k hk => (h.block (Nat.lt_of_lt_of_le hk he.size) (fun hs => by have := hS k hs; omega)).trans (Below.block he k hk)⟩
theorem Ch.blk {b : Nat} {cs : Array Value} {T : TypeId} (h : Ch S w w1) (hb : Blk w b cs T) (hn : ¬ S b) : Blk w1 b cs T := (h.block hb.lt hn).trans hb
theorem Ch.fm {b : Nat} {fs : List (Int × Value)} (h : Ch S w w1) (hb : FM w b fs) (hn : ¬ S b) : FM w1 b fs := by
  have hlt := hb.lt
  obtain ⟨es, c, hb, r⟩ := hb
  exact ⟨es, c, (h.block hlt hn).trans hb, r⟩
theorem Ch.own {base s n : Nat} {e : TypeId} {v : Value} {xs : List Value} (h : Ch S w w1) (ho : w.ownsRow base e s v n xs) (hn : ∀ g, v.ownBlock = some g → ¬ S g) : w1.ownsRow base e s v n xs :=
  own_keep ho fun g hg => h.block (ho.lt g hg).2 (hn g hg)
end

/-- The closure visit. -/
def fv (B : Nat) : Value := .func (.func 28) #[] #[.pointer (some ⟨B + 3, 0, none⟩), .pointer (some ⟨B + 4, 0, none⟩), .pointer (some ⟨B, 0, none⟩), .pointer (some ⟨B + 5, 0, none⟩)]

/-- Canon's boxes, of a call that began in w0: the graph, the map, the row in order, the closure. -/
structure Vw (B : Nat) (w0 : World) (a b : Value) (out : List Int) (vo : Value) (w : World) : Prop where
  hB : w0.heap.size = B
  hs : B + 8 ≤ w.heap.size
  ext : Ext w0 w
  bg : Blk w B #[a, b] 25
  fm : FM w (B + 2) (asV out)
  bx : Blk w (B + 3) #[.map (some (B + 2))] 72
  bo : Blk w (B + 4) #[vo] 42
  bv : Blk w (B + 5) #[fv B] 73
  own : w.ownsRow (B + 8) 3 1 vo out.length (out.map (Value.int .i64))

/-- What a visit may write. -/
def Sv (B : Nat) (vo : Value) (k : Nat) : Prop := k = B + 2 ∨ k = B + 4 ∨ vo.ownBlock = some k
def Fr (B : Nat) (vo vo' : Value) (w w' : World) : Prop := Ch (Sv B vo) w w' ∧ ∀ g, vo'.ownBlock = some g → vo.ownBlock = some g ∨ w.heap.size ≤ g
section
variable {B : Nat} {w0 w w1 w2 : World} {a b vo v1 v2 : Value} {out : List Int}
theorem Fr.refl (B : Nat) (vo : Value) (w : World) : Fr B vo vo w w := ⟨Ch.refl _ _, fun g h => .inl h⟩
theorem Fr.of_ext (B : Nat) (vo : Value) (h : Ext w w1) : Fr B vo vo w w1 := ⟨Ch.of_ext _ h, fun g h => .inl h⟩
theorem Fr.trans (h : Fr B vo v1 w w1) (k : Fr B v1 v2 w1 w2) : Fr B vo v2 w w2 := by
  refine ⟨h.1.trans k.1 fun i hi ht => ?_, fun g hg => ?_⟩
  · rcases ht with h1 | h1 | h1
    · exact .inl h1
    · exact .inr (.inl h1)
    · rcases h.2 i h1 with h2 | h2
      · exact .inr (.inr h2)
      · omega
  · rcases k.2 g hg with h1 | h1
    · exact h.2 g h1
    · exact .inr (Nat.le_trans h.1.size h1)
theorem Vw.ext' (h : Vw B w0 a b out vo w) (he : Ext w w1) : Vw B w0 a b out vo w1 :=
  ⟨h.hB, Nat.le_trans h.hs he.size, h.ext.trans ((he : Ext w w1)), h.bg.ext he, h.fm.ext he, h.bx.ext he, h.bo.ext he, h.bv.ext he, own_ext h.own he⟩
theorem Vw.ch (h : Vw B w0 a b out vo w) {S : Nat → Prop} (hc : Ch S w w1) (hS : ∀ k, S k → B + 6 ≤ k ∧ vo.ownBlock ≠ some k) : Vw B w0 a b out vo w1 := by
  have hn : ∀ k, k < B + 6 → ¬ S k := fun k hk hs => by have := (hS k hs).1; omega
  exact ⟨h.hB, Nat.le_trans h.hs hc.size, hc.ext h.ext (fun k hk => by have := (hS k hk).1; have := h.hB; omega), hc.blk h.bg (hn _ (by omega)), hc.fm h.fm (hn _ (by omega)), hc.blk h.bx (hn _ (by omega)), hc.blk h.bo (hn _ (by omega)), hc.blk h.bv (hn _ (by omega)), hc.own h.own fun g hg hs => (hS g hs).2 hg⟩
end

/-- Pointers of package head: a row of the call's own. -/
theorem ptrs_own (t m : Int) (l : Nat) (hl : l ≤ 16) (m0 : 0 ≤ m) (m1 : m ≤ 65535) (w : World) :
    Calls Try.prog 29 #[.agg #[.int .i64 t, .int .i64 l, .int .u64 m]] w fun e w' => ∃ o, e = .returned o ∧ w'.ownsRow w.heap.size 3 1 o (ptrs l m).length ((ptrs l m).map (Value.int .i64)) ∧ Ext w w' := by
  refine ((callsIn_wide (n := 3)).1 (Hq.ptrs_in 3 (by omega) t m l hl m0 m1 w)).mono ?_
  rintro e w' ⟨o, ys, rfl, ho, hy, hx⟩
  refine ⟨o, rfl, ?_, hx⟩
  rw [← hy.2]
  simpa [List.map_map, Function.comp_def] using ho

/-- The row in order, appended to: 'append(order, h)'. -/
theorem ord_append {B : Nat} {w0 w : World} {a b vo : Value} {out : List Int} {h : Int} (hV : Vw B w0 a b out vo w) (hb : out.length ≤ 1000000) :
    ∃ v' w2, (Builtin.append_ #[42, 42] 42 #[vo, .slice (some ⟨w.heap.size, 0, none⟩) 1 1]).run Try.prog (w.alloc (.cells #[.int .i64 h] 3)) = .ok v' w2 ∧
      w2.ownsRow (B + 8) 3 1 v' (out.length + 1) ((out ++ [h]).map (Value.int .i64)) ∧ Ch (fun k => vo.ownBlock = some k) w w2 ∧ (∀ g, v'.ownBlock = some g → vo.ownBlock = some g ∨ w.heap.size ≤ g) ∧ (∃ ga gc, v' = .slice (some ga) (out.length + 1) gc) := by
  obtain ⟨i0, hi, hz0, hz1, hz2⟩ := info_i
  have hE : Ext w (w.alloc (.cells #[.int .i64 h] 3)) := (Ext.refl w).alloc _
  have hrow : Row (w.alloc (.cells #[.int .i64 h] 3)) 1 8 (.slice (some ⟨w.heap.size, 0, none⟩) 1 1) 1 [.int .i64 h] := ⟨rfl, by omega, by omega, .inr ⟨_, 1, rfl, Nat.le_refl _, by unfold maxLen; omega, cell_one_new _ _ _⟩⟩
  obtain ⟨v', w2, hrun, hown, hg, hat⟩ := append_own (ty := 42) uI hi hz0 hz1 hz2 rfl (by decide) (own_ext hV.own hE) (Nat.le_trans hV.hs hE.size) hrow (by simp [Value.oneCell']) (by omega) (by decide)
  refine ⟨v', w2, hrun, by simpa using hown, (Ch.of_ext _ hE).trans (Ch.of_grown (S := fun k => vo.ownBlock = some k) hg fun k hk => hk) (fun _ _ h => h), fun g hg' => ?_, ?_⟩
  · rcases hat with e | e
    · exact .inl (e ▸ hg')
    · right
      rw [e] at hg'
      cases hg'
      exact hE.size
  · obtain ⟨hl, ⟨rfl, hn⟩ | ⟨g, cap, cur, rfl, _⟩⟩ := hown
    · omega
    · exact ⟨_, cap, rfl⟩
end Go.Proofs.Ytjhmlbhfnogdiaa.Vf
