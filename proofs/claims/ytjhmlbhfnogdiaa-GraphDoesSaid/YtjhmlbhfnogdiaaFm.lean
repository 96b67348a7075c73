/- Maps of the call's own, keyed by whole numbers, whose elements are whatever values (functions, numbers): asked, and a new key put in. No function of the program in sight. -/
import Derived.Test.YtjhmlbhfnogdiaaBk
import Derived.Maps.Own
namespace Go.Proofs.Ytjhmlbhfnogdiaa
open Go.RowKit Go.MapKept
set_option linter.unusedVariables false

/-- Block b is a map that holds fs. -/
def FM (w : World) (b : Nat) (fs : List (Int × Value)) : Prop :=
  ∃ es clock, w.heap[b]? = some (.map es clock) ∧ es.toList.map (fun e => (e.key, e.val)) = fs.map (fun p => (Value.int .i64 p.1, p.2))

/-- What is asked: the first one's place and value. -/
def flook (k : Int) : List (Int × Value) → Nat → Option (Nat × Value)
  | [], _ => none
  | p :: r, i => if k = p.1 then some (i, p.2) else flook k r (i + 1)
theorem flook_none {k : Int} : ∀ {fs : List (Int × Value)} {i : Nat}, (∀ p ∈ fs, p.1 ≠ k) → flook k fs i = none
  | [], _, _ => rfl
  | p :: r, i, h => by
    unfold flook
    rw [if_neg (fun e => h p (by simp) e.symm)]
    exact flook_none fun q hq => h q (by simp [hq])
theorem findNow_eq {k : Int} : ∀ {es : List MapEntry} {fs : List (Int × Value)} (i : Nat), es.map (fun e => (e.key, e.val)) = fs.map (fun p => (Value.int .i64 p.1, p.2)) → Instr.findNow (.int .i64) (.int .i64 k) es i = some (flook k fs i)
  | [], [], _, _ => rfl
  | e :: es, p :: fs, i, h => by
    simp only [List.map_cons, List.cons.injEq, Prod.mk.injEq] at h
    obtain ⟨⟨h1, h2⟩, h3⟩ := h
    unfold Instr.findNow
    rw [h1]
    simp only [Instr.sameNow, if_true]
    by_cases hk : k = p.1
    · subst hk
      simp [flook, h2]
    · have hb : (k == p.1) = false := beq_eq_false_iff_ne.2 hk
      simp only [hb, flook, if_neg hk]
      exact findNow_eq (i + 1) h3
  | [], _ :: _, _, h => by simp at h
  | _ :: _, [], _, h => by simp at h

section
variable {P : Program} {k e t : TypeId} {w : World} {b : Nat} {fs : List (Int × Value)}
theorem FM.made (w : World) : FM (w.alloc (.map #[] 0)) w.heap.size [] := ⟨#[], 0, (MapKept.heap_alloc w _).1, rfl⟩
theorem FM.lt (h : FM w b fs) : b < w.heap.size := by
  obtain ⟨es, c, h, _⟩ := h
  exact (Array.getElem?_eq_some_iff.1 h).1
theorem FM.kept {w' : World} {row : Option Nat} (h : FM w b fs) (hg : w.grownBy w' row) (hne : some b ≠ row) : FM w' b fs := by
  have hlt := h.lt
  obtain ⟨es, c, h, r⟩ := h
  exact ⟨es, c, (hg.block b hlt hne).trans h, r⟩
theorem FM.ext {w' : World} (h : FM w b fs) (he : Ext w w') : FM w' b fs := by
  have hlt := h.lt
  obtain ⟨es, c, h, r⟩ := h
  exact ⟨es, c, (Below.block he b hlt).trans h, r⟩

/-- 'x, ok := m[key]', 'm[key]'. -/
theorem FM.look (h : FM w b fs) (ht : P.underlying t = some (.map k e)) (hk : P.underlying k = some (.int .i64)) {z : Value} (hz : (zeroValue e).run P w = .ok z w) (key : Int) (ok : Bool) :
    (Instr.lookup t (.map (some b)) (.int .i64 key) ok).run P w = .ok (if ok then .tuple #[((flook key fs 0).map (·.2)).getD z, .bool (flook key fs 0).isSome] else ((flook key fs 0).map (·.2)).getD z) w := by
  obtain ⟨es, c, hb, hes⟩ := h
  have hf := run_findKey (P := P) (w := w) hk (findNow_eq (k := key) 0 hes)
  have hc : ∀ em, (Instr.checkKey em 10000 k (.int .i64 key)).run P w = .ok () w := fun em => by
    unfold Instr.checkKey
    simp [run_underlying hk, Result.andThen]
  cases hl : flook key fs 0 with
  | none =>
    rw [hl] at hf
    cases ok <;> simp [Instr.lookup, run_underlying ht, MapKept.run_getObj_map hb, hc, hf, hz, Result.andThen]
  | some q =>
    rw [hl] at hf
    cases ok <;> simp [Instr.lookup, run_underlying ht, MapKept.run_getObj_map hb, hc, hf, Result.andThen]

/-- 'm[key] = v', a new key. -/
theorem FM.put (h : FM w b fs) (ht : P.underlying t = some (.map k e)) (hk : P.underlying k = some (.int .i64)) (key : Int) (v : Value) (hn : ∀ p ∈ fs, p.1 ≠ key) :
    ∃ w', (Instr.mapUpdate t (.map (some b)) (.int .i64 key) v).run P w = .ok () w' ∧ FM w' b (fs ++ [(key, v)]) ∧ w.grownBy w' (some b) := by
  obtain ⟨es, c, hb, hes⟩ := h
  have hf := run_findKey (P := P) (w := w) hk (findNow_eq (k := key) 0 hes)
  rw [flook_none hn] at hf
  have hc : (Instr.checkKey false 10000 k (.int .i64 key)).run P w = .ok () w := by
    unfold Instr.checkKey
    simp [run_underlying hk, Result.andThen]
  obtain ⟨h1, h2⟩ := heap_set (o' := .map (es.push { key := .int .i64 key, val := v, born := c }) (c + 1)) hb
  refine ⟨{ w with heap := w.heap.setIfInBounds b (.map (es.push { key := .int .i64 key, val := v, born := c }) (c + 1)) }, ?_, ⟨_, _, h1, ?_⟩, ⟨rfl, rfl, rfl, by simp, fun i _ hi => h2 i (fun e => hi (by rw [e]))⟩⟩
  · simp [Instr.mapUpdate, run_underlying ht, MapKept.run_getObj_map hb, hc, hf, MapKept.run_setObj_map _ hb, Result.andThen]
  · simp [hes]
end
end Go.Proofs.Ytjhmlbhfnogdiaa
