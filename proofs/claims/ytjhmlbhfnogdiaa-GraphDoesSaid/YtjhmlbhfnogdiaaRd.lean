/- How an argument that came in reads: by its type, to the bottom: whole numbers, structs, arrays, slices; and that it reads on as it did where only new memory was written. No function of the program in sight. -/
import Derived.ProofKit
import Derived.OpenShut
import Derived.ChangeOld
import Derived.Below
import Derived.SizedLaws
import Derived.ChangeArms
namespace Go.Proofs.Ytjhmlbhfnogdiaa.Rd
open Go.ChangeShapes Go.WideShapes Go.ChangeAt Go.RowKit

/-- The cells cs read as a value of type t in w, and no slice on the way is greater than may be. -/
def R (P : Program) (w : World) (t : TypeId) (cs : List Value) : Prop :=
  ∃ (H : Type) (enc : TypeId × Value → H) (fuel : Nat) (d : DataW H) (ps : List MemPlace), DataW.trod enc P w 0 (fun _ => true) true fuel t cs = some (d, ps) ∧ ∀ n ∈ d.weights P t, n ≤ reachBytes

/-- The argument v reads as a value of type t. -/
def V (P : Program) (w : World) (t : TypeId) (v : Value) : Prop := (∃ base, Value.okWide P w .any base t v) ∧ R P w t v.cells.toList

theorem weights_all {H : Type} {P : Program} {e : TypeId} : ∀ {l : List (DataW H)} {d : DataW H}, d ∈ l → ∀ n ∈ d.weights P e, n ∈ DataW.weightsAll P e l
  | x :: r, d, hd, n, hn => by
    simp only [DataW.weightsAll, List.mem_append]
    rcases List.mem_cons.1 hd with rfl | h
    · exact .inl hn
    · exact .inr (weights_all h n hn)
  | [], _, hd, _, _ => by simp at hd

theorem R.int {P : Program} {w : World} {t : TypeId} {cs : List Value} {k : IntKind} (ht : P.underlying t = some (.int k)) (h : R P w t cs) : ∃ n, cs = [.int k n] ∧ (Lit.int k n).wf = true := by
  obtain ⟨H, enc, fuel, d, ps, h, _⟩ := h
  obtain ⟨n, h1, _, h3⟩ := DataW.trod_int ht h
  exact ⟨n, h1, h3⟩

theorem R.bool {P : Program} {w : World} {t : TypeId} {cs : List Value} (ht : P.underlying t = some .bool) (h : R P w t cs) : ∃ b, cs = [.bool b] := by
  obtain ⟨H, enc, fuel, d, ps, h, _⟩ := h
  cases fuel with
  | zero => simp [DataW.trod] at h
  | succ n =>
    unfold DataW.trod at h
    rw [ht] at h
    split at h <;> simp_all

theorem R.struct {P : Program} {w : World} {t : TypeId} {cs : List Value} {fs : Array Field} (ht : P.underlying t = some (.struct fs)) (h : R P w t cs) :
    cs.length = P.cellsOf t ∧ ∀ (i : Nat) (f : Field), fs[i]? = some f → R P w f.type ((cs.drop f.offset).take (P.cellsOf f.type)) := by
  obtain ⟨H, enc, fuel, d, ps, h, hw⟩ := h
  obtain ⟨xs, n, rfl, hx, hl, hlen, hel⟩ := DataW.trod_struct ht h
  refine ⟨hl, fun i f hf => ?_⟩
  have hi : i < xs.length := by rw [hlen]; exact (Array.getElem?_eq_some_iff.1 hf).1
  have he := hel i f hf
  rw [List.getElem?_eq_getElem hi] at he
  refine ⟨H, enc, n, xs[i].1, xs[i].2, he, fun m hm => hw m ?_⟩
  simp only [Prod.mk.injEq] at hx
  rw [hx.1]
  simp only [DataW.weights, ht]
  refine DataW.weights_mem_each (j := i) (t := f.type) (d := xs[i].1) ?_ ?_ m hm
  · simp [hf]
  · simp [hi]

/-- One field, its place and its type written out. -/
theorem R.field {P : Program} {w : World} {t : TypeId} {cs : List Value} {fs : Array Field} (ht : P.underlying t = some (.struct fs)) (h : R P w t cs) (i : Nat) {f : Field} (hf : fs[i]? = some f)
    (off n : Nat) (ty : TypeId) (ho : f.offset = off) (hty : f.type = ty) (hn : P.cellsOf ty = n) : R P w ty ((cs.drop off).take n) := by
  subst ho; subst hty; subst hn
  exact (R.struct ht h).2 i f hf

theorem R.array {P : Program} {w : World} {t e : TypeId} {k : Nat} {cs : List Value} (ht : P.underlying t = some (.array k e)) (h : R P w t cs) :
    cs.length = P.cellsOf t ∧ ∀ i, i < k → R P w e ((cs.drop (i * P.cellsOf e)).take (P.cellsOf e)) := by
  obtain ⟨H, enc, fuel, d, ps, h, hw⟩ := h
  obtain ⟨xs, n, rfl, hx, hl, hlen, hel⟩ := DataW.trod_array ht h
  refine ⟨hl, fun i hi => ?_⟩
  have hi' : i < xs.length := by omega
  have he := hel i hi
  rw [List.getElem?_eq_getElem hi'] at he
  refine ⟨H, enc, n, xs[i].1, xs[i].2, he, fun m hm => hw m ?_⟩
  simp only [Prod.mk.injEq] at hx
  rw [hx.1]
  simp only [DataW.weights, ht]
  exact weights_all (d := xs[i].1) (List.mem_map.2 ⟨xs[i], List.getElem_mem _, rfl⟩) m hm

/-- A slice: nil, or an address, with an element at each place up to its capacity. -/
theorem R.slice {P : Program} {w : World} {t e : TypeId} {cs : List Value} (ht : P.underlying t = some (.slice e)) (h : R P w t cs) :
    cs = [.slice none 0 0] ∨ ∃ (a : Addr) (len cap : Nat), cs = [.slice (some a) len cap] ∧ len ≤ cap ∧ cap ≤ maxLen ∧ cap * P.bytesOf e ≤ reachBytes ∧
      ∀ i, i < cap → ∃ el, w.cells? 0 (a.add (i * P.cellsOf e)) (P.cellsOf e) = some el ∧ R P w e el := by
  obtain ⟨H, enc, fuel, d, ps, h, hw⟩ := h
  rcases DataW.trod_slice ht h with ⟨h0, _⟩ | ⟨a, len, cap, elems, rest, n, rfl, hcs, hx, _, hl, hm, hlen, hel, hsp, _⟩
  · exact .inl h0
  · right
    obtain ⟨hrl, hr⟩ := hsp rfl
    simp only [Prod.mk.injEq] at hx
    have hwt : ∀ m, m = (elems.length + rest.length) * P.bytesOf e ∨ (∃ y, (y ∈ elems ∨ y ∈ rest) ∧ m ∈ y.1.weights P e) → m ≤ reachBytes := by
      intro m hm
      refine hw m ?_
      rw [hx.1]
      simp only [DataW.weights, ht, List.mem_cons, List.mem_append]
      rcases hm with rfl | ⟨y, hy | hy, hm⟩
      · exact .inl (by simp)
      · exact .inr (.inl (weights_all (List.mem_map.2 ⟨y, hy, rfl⟩) m hm))
      · exact .inr (.inr (weights_all (List.mem_map.2 ⟨y, hy, rfl⟩) m hm))
    refine ⟨a, len, cap, hcs, hl, hm, ?_, fun i hi => ?_⟩
    · have := hwt _ (.inl rfl)
      rw [hlen, hrl] at this
      have e1 : len + (cap - len) = cap := by omega
      rw [e1] at this; exact this
    · by_cases hlt : i < len
      · have he := hel i hlt
        have hi' : i < elems.length := by omega
        rw [List.getElem?_eq_getElem hi', Option.bind_eq_some_iff] at he
        obtain ⟨el, h1, h2⟩ := he
        exact ⟨el, h1, H, enc, n, elems[i].1, elems[i].2, h2, fun m hm => hwt m (.inr ⟨elems[i], .inl (List.getElem_mem _), hm⟩)⟩
      · have he := hr (i - len) (by omega)
        have hi' : i - len < rest.length := by omega
        rw [List.getElem?_eq_getElem hi', Option.bind_eq_some_iff] at he
        obtain ⟨el, h1, h2⟩ := he
        rw [show len + (i - len) = i by omega] at h1
        exact ⟨el, h1, H, enc, n, rest[i - len].1, rest[i - len].2, h2, fun m hm => hwt m (.inr ⟨rest[i - len], .inr (List.getElem_mem _), hm⟩)⟩

theorem u64_bd {n : Int} (h : (Lit.int .u64 n).wf = true) : 0 ≤ n ∧ n ≤ 18446744073709551615 := by
  have e : ∀ n : Int, (Lit.int .u64 n).wf = (decide ((0 : Int) ≤ n) && decide (n ≤ 18446744073709551615)) := fun _ => rfl
  rw [e] at h; simpa using h
theorem i64_bd {n : Int} (h : (Lit.int .i64 n).wf = true) : -9223372036854775808 ≤ n ∧ n ≤ 9223372036854775807 := by
  have e : ∀ n : Int, (Lit.int .i64 n).wf = (decide ((-9223372036854775808 : Int) ≤ n) && decide (n ≤ 9223372036854775807)) := fun _ => rfl
  rw [e] at h; simpa using h

theorem V.int {P : Program} {w : World} {t : TypeId} {v : Value} {k : IntKind} (ht : P.underlying t = some (.int k)) (h : V P w t v) : ∃ n, v = .int k n ∧ (Lit.int k n).wf = true := by
  obtain ⟨⟨base, ho⟩, h⟩ := h
  obtain ⟨n, hn, hw⟩ := R.int ht h
  have ho' : Cell.okWide P w .any base t v := by simpa only [Value.okWide, ht] using ho
  cases v <;> simp [Value.cells] at hn <;> first | (obtain ⟨rfl, rfl⟩ := hn; exact ⟨_, rfl, hw⟩) | skip
  all_goals simp [Cell.okWide, ht, Cell.ok] at ho'

theorem V.slice {P : Program} {w : World} {t e : TypeId} {v : Value} (ht : P.underlying t = some (.slice e)) (h : V P w t v) : ∃ a len cap, v = .slice a len cap ∧ R P w t [v] := by
  obtain ⟨⟨base, ho⟩, h⟩ := h
  obtain ⟨a, len, cap, rfl⟩ := okWide_slice ht ho
  exact ⟨a, len, cap, rfl, h⟩

theorem V.struct {P : Program} {w : World} {t : TypeId} {v : Value} {fs : Array Field} (ht : P.underlying t = some (.struct fs)) (h : V P w t v) : ∃ cs : List Value, v = .agg cs.toArray ∧ R P w t cs := by
  obtain ⟨⟨base, ho⟩, h⟩ := h
  simp only [Value.okWide, ht] at ho
  obtain ⟨cs, rfl, _, _⟩ := ho
  exact ⟨cs.toList, by simp, h⟩

/-- All arguments read; and read again behind a call that wrote only new memory. -/
theorem trodAll_below {H : Type} {enc : TypeId × Value → H} {P : Program} (hl : laidOutB P = true) {W W' : World} (hb : Below W.heap.size W W') : ∀ {ts : List TypeId} {vs : List Value} {ds : List (DataW H)} {ps : List MemPlace},
    (∀ t ∈ ts, P.readableRec t = true ∧ t < P.types.size) → DataW.TrodAll enc P W 0 (fun _ => true) true ts vs ds ps → DataW.TrodAll enc P W' 0 (fun b => decide (b < W.heap.size)) true ts vs ds ps
  | [], [], [], ps, _, h => h
  | t :: ts, v :: vs, d :: ds, ps, hts, h => by
    obtain ⟨p, q, h1, h2, rfl⟩ := h
    obtain ⟨ht1, ht2⟩ := hts t (List.mem_cons_self ..)
    refine ⟨p, q, Below.trod hl ht1 ht2 h1 hb ?_, trodAll_below hl hb (fun t ht => hts t (List.mem_cons_of_mem _ ht)) h2, rfl⟩
    obtain ⟨m, hm⟩ := h1
    exact DataW.trod_lt m _ _ _ hm
  | [], _ :: _, _, _, _, h => h.elim
  | [], [], _ :: _, _, _, h => h.elim
  | _ :: _, [], _, _, _, h => h.elim
  | _ :: _, _ :: _, [], _, _, h => h.elim

theorem trodAll_V {H : Type} {enc : TypeId × Value → H} {P : Program} {W : World} {base : Nat} : ∀ {ts : List TypeId} {vs : List Value} {ds : List (DataW H)} {ps : List MemPlace},
    DataW.TrodAll enc P W 0 (fun _ => true) true ts vs ds ps → (∀ n ∈ DataW.weightsEach P ts ds, n ≤ reachBytes) →
    (∀ (j : Nat) t v, ts[j]? = some t → vs[j]? = some v → Value.okWide P W .any base t v) → ∀ (j : Nat) t v, ts[j]? = some t → vs[j]? = some v → V P W t v
  | t :: ts, v :: vs, d :: ds, ps, h, hz, hv, j, t', v', hj, hj' => by
    obtain ⟨p, q, ⟨m, h1⟩, h2, rfl⟩ := h
    simp only [DataW.weightsEach, List.mem_append] at hz
    cases j with
    | zero =>
      simp only [List.getElem?_cons_zero, Option.some.injEq] at hj hj'
      subst hj; subst hj'
      exact ⟨⟨base, hv 0 t v rfl rfl⟩, H, enc, m, d, p, h1, fun n hn => hz n (.inl hn)⟩
    | succ j =>
      exact trodAll_V h2 (fun n hn => hz n (.inr hn)) (fun i t v hi hi' => hv (i + 1) t v (by simpa using hi) (by simpa using hi')) j t' v' (by simpa using hj) (by simpa using hj')
  | [], _, _, _, _, _, _, j, _, _, hj, _ => by simp at hj
  | _ :: _, [], _, _, _, _, _, j, _, _, _, hj' => by simp at hj'
  | _ :: _, _ :: _, [], _, h, _, _, _, _, _, _, _ => h.elim

end Go.Proofs.Ytjhmlbhfnogdiaa.Rd
