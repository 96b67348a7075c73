/- How an argument reads where the whole is of bounded bulk: a struct's fields, slices of numbers and slices of such slices, with the number of their elements. -/
import Derived.Test.YtjhmlbhfnogdiaaRows
import Derived.Test.YtjhmlbhfnogdiaaGr
import Derived.JoinedCond
import Derived.Deep.CondSized
namespace Go.Proofs.Ytjhmlbhfnogdiaa.Rb
open Go.ChangeShapes Go.WideShapes Go.ChangeAt Go.RowKit
open Go.Proofs.Ytjhmlbhfnogdiaa Go.Proofs.Ytjhmlbhfnogdiaa.Gr

theorem one_le {H : Type} (d : DataW H) : 1 ≤ Rows.uptoBulk d := by
  cases d with
  | lit l => cases l <;> simp [Rows.uptoBulk]
  | nil => simp [Rows.uptoBulk]
  | ptr d => simp [Rows.uptoBulk]
  | slice elems spare => simp [Rows.uptoBulk]
  | agg parts => simp [Rows.uptoBulk]
  | iface t d => simp [Rows.uptoBulk]
  | map entries => simp [Rows.uptoBulk]
  | held h => simp [Rows.uptoBulk]

theorem part_le {H : Type} {d : DataW H} {l : List (DataW H)} (h : d ∈ l) : Rows.uptoBulk d ≤ Rows.uptoBulkAll l := by
  induction l with
  | nil => cases h
  | cons x r ih =>
    simp only [Rows.uptoBulkAll]
    cases List.mem_cons.1 h with
    | inl e => subst e; omega
    | inr e => have := ih e; omega

theorem all_append {H : Type} (l r : List (DataW H)) : Rows.uptoBulkAll (l ++ r) = Rows.uptoBulkAll l + Rows.uptoBulkAll r := by
  induction l with
  | nil => simp [Rows.uptoBulkAll]
  | cons x l ih => simp only [List.cons_append, Rows.uptoBulkAll, ih]; omega

theorem all_sum {H : Type} (l : List (DataW H)) : Rows.uptoBulkAll l = (l.map Rows.uptoBulk).sum := by
  induction l with
  | nil => simp [Rows.uptoBulkAll]
  | cons x l ih => simp only [Rows.uptoBulkAll, List.map_cons, List.sum_cons, ih]

/-- The cells cs read as a value of type t in w, within reach, of bulk at most B. -/
def R (P : Program) (w : World) (t : TypeId) (cs : List Value) (B : Nat) : Prop :=
  ∃ (H : Type) (enc : TypeId × Value → H) (fuel : Nat) (d : DataW H) (ps : List MemPlace), DataW.trod enc P w 0 (fun _ => true) true fuel t cs = some (d, ps) ∧ (∀ n ∈ d.weights P t, n ≤ reachBytes) ∧ Rows.uptoBulk d ≤ B

theorem R.rd {P : Program} {w : World} {t : TypeId} {cs : List Value} {B : Nat} (h : R P w t cs B) : Rd.R P w t cs := by
  obtain ⟨H, enc, fuel, d, ps, h1, h2, _⟩ := h
  exact ⟨H, enc, fuel, d, ps, h1, h2⟩

theorem R.le {P : Program} {w : World} {t : TypeId} {cs : List Value} {B C : Nat} (h : R P w t cs B) (hb : B ≤ C) : R P w t cs C := by
  obtain ⟨H, enc, fuel, d, ps, h1, h2, h3⟩ := h
  exact ⟨H, enc, fuel, d, ps, h1, h2, Nat.le_trans h3 hb⟩

def V (P : Program) (w : World) (t : TypeId) (v : Value) (B : Nat) : Prop := (∃ base, Value.okWide P w .any base t v) ∧ R P w t v.cells.toList B

theorem V.rd {P : Program} {w : World} {t : TypeId} {v : Value} {B : Nat} (h : V P w t v B) : Rd.V P w t v := ⟨h.1, h.2.rd⟩

theorem V.slice {P : Program} {w : World} {t e : TypeId} {v : Value} {B : Nat} (ht : P.underlying t = some (.slice e)) (h : V P w t v B) : ∃ a len cap, v = .slice a len cap ∧ R P w t [v] B := by
  obtain ⟨⟨base, ho⟩, h⟩ := h
  obtain ⟨a, len, cap, rfl⟩ := okWide_slice ht ho
  exact ⟨a, len, cap, rfl, h⟩

theorem V.struct {P : Program} {w : World} {t : TypeId} {v : Value} {fs : Array Field} {B : Nat} (ht : P.underlying t = some (.struct fs)) (h : V P w t v B) : ∃ cs : List Value, v = .agg cs.toArray ∧ R P w t cs B := by
  obtain ⟨⟨base, ho⟩, h⟩ := h
  simp only [Value.okWide, ht] at ho
  obtain ⟨cs, rfl, _, _⟩ := ho
  exact ⟨cs.toList, by simp, h⟩

theorem R.struct {P : Program} {w : World} {t : TypeId} {cs : List Value} {fs : Array Field} {B : Nat} (ht : P.underlying t = some (.struct fs)) (h : R P w t cs B) :
    ∀ (i : Nat) (f : Field), fs[i]? = some f → R P w f.type ((cs.drop f.offset).take (P.cellsOf f.type)) B := by
  obtain ⟨H, enc, fuel, d, ps, h, hw, hb⟩ := h
  obtain ⟨xs, n, rfl, hx, hl, hlen, hel⟩ := DataW.trod_struct ht h
  intro i f hf
  have hi : i < xs.length := by rw [hlen]; exact (Array.getElem?_eq_some_iff.1 hf).1
  have he := hel i f hf
  rw [List.getElem?_eq_getElem hi] at he
  simp only [Prod.mk.injEq] at hx
  refine ⟨H, enc, n, xs[i].1, xs[i].2, he, fun m hm => hw m ?_, Nat.le_trans ?_ hb⟩
  · rw [hx.1]
    simp only [DataW.weights, ht]
    refine DataW.weights_mem_each (j := i) (t := f.type) (d := xs[i].1) ?_ ?_ m hm
    · simp [hf]
    · simp [hi]
  · rw [hx.1]
    simp only [Rows.uptoBulk]
    have := part_le (List.mem_map.2 ⟨xs[i], List.getElem_mem hi, rfl⟩ : xs[i].1 ∈ xs.map (·.1))
    omega

theorem R.field {P : Program} {w : World} {t : TypeId} {cs : List Value} {fs : Array Field} {B : Nat} (ht : P.underlying t = some (.struct fs)) (h : R P w t cs B) (i : Nat) {f : Field} (hf : fs[i]? = some f)
    (off n : Nat) (ty : TypeId) (ho : f.offset = off) (hty : f.type = ty) (hn : P.cellsOf ty = n) : R P w ty ((cs.drop off).take n) B := by
  subst ho; subst hty; subst hn
  exact R.struct ht h i f hf

/-- A slice, its elements' bulks. -/
theorem R.slice {P : Program} {w : World} {t e : TypeId} {cs : List Value} {B : Nat} (ht : P.underlying t = some (.slice e)) (h : R P w t cs B) :
    cs = [.slice none 0 0] ∨ ∃ (a : Addr) (len cap : Nat) (bs : List Nat), cs = [.slice (some a) len cap] ∧ bs.length = len ∧ bs.sum ≤ B ∧ len ≤ B ∧ len ≤ cap ∧ cap ≤ maxLen ∧ cap * P.bytesOf e ≤ reachBytes ∧
      (∀ i, i < cap → ∃ el, w.cells? 0 (a.add (i * P.cellsOf e)) (P.cellsOf e) = some el ∧ Rd.R P w e el) ∧ ∀ i, i < len → ∃ el, w.cells? 0 (a.add (i * P.cellsOf e)) (P.cellsOf e) = some el ∧ R P w e el (bs.getD i 0) := by
  have hrd := h.rd
  obtain ⟨H, enc, fuel, d, ps, h, hw, hb⟩ := h
  rcases DataW.trod_slice ht h with ⟨h0, _⟩ | ⟨a, len, cap, elems, rest, n, rfl, hcs, hx, _, hl, hm, hlen, hel, hsp, _⟩
  · exact .inl h0
  · right
    rcases hrd.slice ht with h0 | ⟨a', len', cap', hcs', hl', hm', hz', hel'⟩
    · rw [hcs] at h0; simp at h0
    · have e := hcs.symm.trans hcs'
      simp only [List.cons.injEq, Value.slice.injEq, Option.some.injEq, and_true] at e
      obtain ⟨rfl, rfl, rfl⟩ := e
      simp only [Prod.mk.injEq] at hx
      have hd := hx.1
      have hsum : ((elems.map (·.1)).map Rows.uptoBulk).sum ≤ B := by
        rw [← all_sum]
        rw [hd] at hb
        simp only [Rows.uptoBulk] at hb
        omega
      refine ⟨a, len, cap, (elems.map (·.1)).map Rows.uptoBulk, hcs, by simp [hlen], hsum, ?_, hl, hm, hz', hel', fun i hi => ?_⟩
      · have h1 : ∀ l : List (DataW H), l.length ≤ (l.map Rows.uptoBulk).sum := fun l => by
          induction l with
          | nil => simp
          | cons x l ih => have := one_le x; simp only [List.map_cons, List.sum_cons, List.length_cons]; omega
        have := h1 (elems.map (·.1))
        rw [List.length_map, hlen] at this
        omega
      · have he := hel i hi
        have hi' : i < elems.length := by omega
        rw [List.getElem?_eq_getElem hi', Option.bind_eq_some_iff] at he
        obtain ⟨el, h1, h2⟩ := he
        refine ⟨el, h1, H, enc, n, elems[i].1, elems[i].2, h2, fun m hm => hw m ?_, ?_⟩
        · rw [hd]
          simp only [DataW.weights, ht, List.mem_cons, List.mem_append]
          exact .inr (.inl (Rd.weights_all (List.mem_map.2 ⟨elems[i], List.getElem_mem _, rfl⟩) m hm))
        · simp [List.getD_eq_getElem?_getD, hi']

/-- A slice of numbers has at most B of them. -/
theorem sl_le {w : World} {v : Value} {xs : List Int} {B : Nat} (h : R Try.prog w 42 [v] B) (hs : Sl .i64 w v xs) : xs.length ≤ B := by
  obtain ⟨a0, c0, hf⟩ := Row.form hs
  rcases h.slice uI with h | ⟨a, len, cap, bs, hv, _, _, hle, _⟩
  · obtain rfl : v = .slice none 0 0 := by simpa using h
    simp only [Value.slice.injEq] at hf
    omega
  · obtain rfl : v = .slice (some a) len cap := by simpa using hv
    simp only [Value.slice.injEq] at hf
    omega
theorem le_sum : ∀ (l : List Nat) (i : Nat), l.getD i 0 ≤ l.sum
  | [], i => by simp
  | x :: r, 0 => by simp
  | x :: r, i + 1 => by have := le_sum r i; simp only [List.getD_cons_succ, List.sum_cons]; omega
set_option maxRecDepth 100000 in
/-- Each row of handles has at most B of them. -/
theorem ma_le {w : World} {v : Value} {rows : List (List Int)} {B : Nat} (h : R Try.prog w 23 [v] B) (hM : Ma .i64 w v rows) : ∀ r ∈ rows, r.length ≤ B := by
  have hc1 : Try.prog.cellsOf 42 = 1 := by kernel_rfl
  obtain ⟨vs, hl, hr, _, hs⟩ := hM
  intro r hrm
  obtain ⟨i, hi1, rfl⟩ := List.mem_iff_getElem.1 hrm
  have hi2 : i < vs.length := by omega
  rcases h.slice uS with h | ⟨a, len, cap, bs, hv, hbl, hsum, _, _, _, _, _, hel⟩
  · obtain rfl : v = .slice none 0 0 := by simpa using h
    obtain ⟨a0, c0, hf⟩ := hr.form
    simp only [Value.slice.injEq] at hf
    omega
  · obtain rfl : v = .slice (some a) len cap := by simpa using hv
    obtain ⟨_, _, _, ⟨h0, _⟩ | ⟨a', cap', hf, _, _, hcell⟩⟩ := hr
    · simp at h0
    · simp only [Value.slice.injEq, Option.some.injEq] at hf
      obtain ⟨rfl, hlen, rfl⟩ := hf
      obtain ⟨el, h1, h2⟩ := hel i (by omega)
      rw [hc1, Nat.mul_one] at h1
      have hel1 : ∃ u, el = [u] := by
        rcases h2.slice uI with h | ⟨_, _, _, _, hv, _⟩
        · exact ⟨_, h⟩
        · exact ⟨_, hv⟩
      obtain ⟨u, rfl⟩ := hel1
      have h3 := cell_of_cells?_one h1
      have h4 := hcell i vs[i] (by rw [List.getElem?_eq_getElem hi2])
      rw [h3] at h4
      simp only [Option.some.injEq] at h4
      subst h4
      have h5 := sl_le h2 (hs i vs[i] rows[i] (by rw [List.getElem?_eq_getElem hi2]) (by rw [List.getElem?_eq_getElem hi1]))
      exact Nat.le_trans h5 (Nat.le_trans (le_sum bs i) hsum)

/-- A graph's rows, of bounded bulk. -/
theorem gr_le {w : World} {a b : Value} {g : Gph} {B : Nat} (h : R Try.prog w 25 [a, b] B) (hG : Gr w a b g) : ∀ r ∈ g.2, r.length ≤ B :=
  ma_le (show R _ w _ [b] B from R.field Try.underlying25 h 1 rfl 1 1 23 rfl rfl (by kernel_rfl)) hG.2

theorem trodAll_V {H : Type} {enc : TypeId × Value → H} {P : Program} {W : World} {base B : Nat} : ∀ {ts : List TypeId} {vs : List Value} {ds : List (DataW H)} {ps : List MemPlace},
    DataW.TrodAll enc P W 0 (fun _ => true) true ts vs ds ps → (∀ n ∈ DataW.weightsEach P ts ds, n ≤ reachBytes) → (∀ d ∈ ds, Rows.uptoBulk d ≤ B) →
    (∀ (j : Nat) t v, ts[j]? = some t → vs[j]? = some v → Value.okWide P W .any base t v) → ∀ (j : Nat) t v, ts[j]? = some t → vs[j]? = some v → V P W t v B
  | t :: ts, v :: vs, d :: ds, ps, h, hz, hb, hv, j, t', v', hj, hj' => by
    obtain ⟨p, q, ⟨m, h1⟩, h2, rfl⟩ := h
    simp only [DataW.weightsEach, List.mem_append] at hz
    cases j with
    | zero =>
      simp only [List.getElem?_cons_zero, Option.some.injEq] at hj hj'
      subst hj; subst hj'
      exact ⟨⟨base, hv 0 t v rfl rfl⟩, H, enc, m, d, p, h1, fun n hn => hz n (.inl hn), hb d (List.mem_cons_self ..)⟩
    | succ j =>
      exact trodAll_V h2 (fun n hn => hz n (.inr hn)) (fun d hd => hb d (List.mem_cons_of_mem _ hd)) (fun i t v hi hi' => hv (i + 1) t v (by simpa using hi) (by simpa using hi')) j t' v' (by simpa using hj) (by simpa using hj')
  | [], _, _, _, _, _, _, _, j, _, _, hj, _ => by simp at hj
  | _ :: _, [], _, _, _, _, _, _, j, _, _, _, hj' => by simp at hj'
  | _ :: _, _ :: _, [], _, h, _, _, _, _, _, _, _, _ => h.elim

theorem small {H : Type} {l : List (DataW H)} (hk : Rows.uptoSmall H l = true) : ∀ d ∈ l, Rows.uptoBulk d ≤ 1048576 := fun d hd => by
  have h : Rows.uptoBulkAll l ≤ 1048576 := of_decide_eq_true hk
  exact Nat.le_trans (part_le hd) h

end Go.Proofs.Ytjhmlbhfnogdiaa.Rb
