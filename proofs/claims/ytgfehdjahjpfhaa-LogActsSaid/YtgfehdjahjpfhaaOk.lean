/- Entries as a map's keys; the closure of Once that tells whether an entry came before; each once, said of lists. -/
import Derived.DeepKeys4
import Derived.Maps.Keyed
import Derived.Test.YtgfehdjahjpfhaaEn
import Derived.Test.YtgfehdjahjpfhaaMt
namespace Go.Proofs.Ytgfehdjahjpfhaa.Ok
open Go.RowKit
open Go.Proofs.Ytgfehdjahjpfhaa Go.Proofs.Ytgfehdjahjpfhaa.En
set_option linter.unusedVariables false

theorem laidOut : laidOutB Try.prog = true := by kernel_rfl
theorem keyed : Maps.Keyed Try.prog 28 := Maps.Keyed.of_law (deep_law_laid laidOut (m := 2) (by omega) (of_decide_eq_true (by kernel_rfl)) (by kernel_rfl) (by rw [Try.underlying28]))

def wfE (e : E) : Prop := (Lit.int .u64 e.1).wf = true ∧ (Lit.int .i64 e.2).wf = true
def kl (e : E) : Lit := .string (keyBytes [.int .u64 e.1, .int .i64 e.2])
theorem kl_inj {a b : E} (ha : wfE a) (hb : wfE b) (h : kl a = kl b) : a = b := by
  have := keyBytes_inj (l := [.int .u64 a.1, .int .i64 a.2]) (l' := [.int .u64 b.1, .int .i64 b.2]) ⟨rfl, rfl, trivial⟩ (by simp [Lit.keyWf, ha.1, ha.2]) (by simp [Lit.keyWf, hb.1, hb.2]) (by unfold kl at h; simpa using h)
  simp at this
  exact Prod.ext this.1 this.2
theorem key_mk {e : E} (h : wfE e) : keyOf Try.prog 28 (ev e) = some (kl e) := by
  have hk : Try.prog.keyType 28 = true := by kernel_rfl
  have hf : (ev e).formed Try.prog 28 = true := by
    unfold ev Value.formed
    rw [Try.underlying28]
    kernel_rfl
  obtain ⟨d, hd⟩ : ∃ d, Try.prog.types.size + 1 = d + 1 + 1 := ⟨Try.prog.types.size - 1, by have : 1 ≤ Try.prog.types.size := of_decide_eq_true (by kernel_rfl); omega⟩
  have k1 : Try.prog.cellsOf 26 = 1 := by kernel_rfl
  have k2 : Try.prog.cellsOf 3 = 1 := by kernel_rfl
  have k3 : Try.prog.cellsOf 28 = 2 := by kernel_rfl
  unfold keyOf
  simp only [Try.underlying28, hk, hf, Bool.and_self, if_true, hd]
  simp [Program.keyLits, Try.underlying28, Try.underlying26, Try.underlying3, ev, Value.cells, k1, k2, k3, h.1, h.2, kl]

def step (out : List E) (e : E) : List E := if e ∈ out then out else out ++ [e]
def firsts (xs : List E) : List E := xs.foldl step []
def once (xs : List E) : List E := (firsts xs.reverse).reverse
theorem firsts_snoc (xs : List E) (e : E) : firsts (xs ++ [e]) = step (firsts xs) e := by simp [firsts]
theorem fold_mem (xs : List E) : ∀ (out : List E) (a : E), a ∈ xs.foldl step out ↔ a ∈ out ∨ a ∈ xs := by
  induction xs with
  | nil => intro out a; simp
  | cons x r ih =>
    intro out a
    simp only [List.foldl_cons, ih, List.mem_cons]
    unfold step
    by_cases h : x ∈ out
    · rw [if_pos h]
      constructor
      · rintro (h1 | h1)
        · exact .inl h1
        · exact .inr (.inr h1)
      · rintro (h1 | rfl | h1)
        · exact .inl h1
        · exact .inl h
        · exact .inr h1
    · rw [if_neg h]
      simp only [List.mem_append, List.mem_singleton]
      constructor
      · rintro ((h1 | h1) | h1)
        · exact .inl h1
        · exact .inr (.inl h1)
        · exact .inr (.inr h1)
      · rintro (h1 | h1 | h1)
        · exact .inl (.inl h1)
        · exact .inl (.inr h1)
        · exact .inr h1
theorem firsts_mem (xs : List E) (a : E) : a ∈ firsts xs ↔ a ∈ xs := by unfold firsts; rw [fold_mem]; simp
theorem fold_len (xs : List E) : ∀ out : List E, (xs.foldl step out).length ≤ out.length + xs.length := by
  induction xs with
  | nil => intro out; simp
  | cons x r ih =>
    intro out
    have h1 := ih (step out x)
    have h2 : (step out x).length ≤ out.length + 1 := by unfold step; split <;> simp
    simp only [List.foldl_cons, List.length_cons]
    omega
theorem firsts_len (xs : List E) : (firsts xs).length ≤ xs.length := by have := fold_len xs []; simpa [firsts] using this
theorem fold_nodup (xs : List E) : ∀ out : List E, out.Nodup → (xs.foldl step out).Nodup := by
  induction xs with
  | nil => intro out h; exact h
  | cons x r ih =>
    intro out h
    simp only [List.foldl_cons]
    refine ih _ ?_
    unfold step
    split
    · exact h
    · rename_i hc
      refine List.nodup_append.2 ⟨h, by simp, fun a ha b hb e => ?_⟩
      obtain rfl : b = x := by simpa using hb
      exact hc (e ▸ ha)
theorem firsts_nodup (xs : List E) : (firsts xs).Nodup := fold_nodup xs [] (by simp)

open Classical in
/-- What the map answers when pre has come. -/
noncomputable def had (pre : List E) (z : Lit) : Bool := decide (∃ e ∈ pre, kl e = z)
theorem had_at {pre : List E} {x : E} (hp : ∀ e ∈ pre, wfE e) (hx : wfE x) : had pre (kl x) = decide (x ∈ pre) := by
  unfold had
  rw [decide_eq_decide]
  constructor
  · rintro ⟨e, he, h⟩
    rw [← kl_inj (hp e he) hx h]; exact he
  · intro h; exact ⟨x, h, rfl⟩
theorem had_self (pre : List E) (x : E) : had (pre ++ [x]) (kl x) = true := by
  unfold had
  have h : ∃ e ∈ pre ++ [x], kl e = kl x := ⟨x, by simp, rfl⟩
  simp only [decide_eq_true_eq]
  exact h
theorem had_step (pre : List E) (x : E) (z : Lit) (h : z ≠ kl x) : had (pre ++ [x]) z = had pre z := by
  unfold had
  rw [decide_eq_decide]
  constructor
  · rintro ⟨e, he, hz⟩
    rcases List.mem_append.1 he with h1 | h1
    · exact ⟨e, h1, hz⟩
    · obtain rfl : e = x := by simpa using h1
      exact absurd hz.symm h
  · rintro ⟨e, he, hz⟩
    exact ⟨e, List.mem_append.2 (.inl he), hz⟩

/-- The closure: whether the entry came before; and now it has come. -/
theorem again_any (x : E) (b B n : Nat) (S S' : Lit → Bool) (w : World) (hx : wfE x) (hb : w.cell? ⟨B, 0, none⟩ = some (.map (some b))) (hM : MSet Try.prog 28 4 w b n S) (hn : n < maxLen) (h1 : S' (kl x) = true) (h2 : ∀ z, z ≠ kl x → S' z = S z) :
    Calls Try.prog 22 #[.agg #[.int .u64 x.1, .int .i64 x.2], .pointer (some ⟨B, 0, none⟩)] w fun e w' => e = .returned (.bool (S (kl x))) ∧ MSet Try.prog 28 4 w' b (n + 1) S' ∧ w.grownBy w' (some b) := by
  have hz0' : ∀ w, (zeroValue 4).run Try.prog w = .ok (.bool false) w := fun _ => by kernel_rfl
  have hbA : (w.alloc (.cells #[.int .u64 x.1, .int .i64 x.2] 28)).cell? ⟨B, 0, none⟩ = some (.map (some b)) := ((Ext.refl w).alloc _).cell hb
  have hMA := hM.alloc (.cells #[.int .u64 x.1, .int .i64 x.2] 28)
  have hlook := hMA.look (t := 48) keyed Try.underlying48 Try.underlying4 (hz0' _) (key_mk hx)
  obtain ⟨w2, hput, hset, hg⟩ := hMA.put (t := 48) keyed Try.underlying48 Try.underlying4 hn (key_mk hx) true h1 h2
  have HF : Hid (MSet Try.prog 28 4 w2 b (n + 1) S' ∧ w.grownBy w2 (some b)) := ⟨hset, by
    have hs := hg.size
    simp only [World.size_alloc] at hs
    refine ⟨hg.os, hg.tape, hg.output, by omega, fun k hk hne => ?_⟩
    exact (hg.block k (by simp; omega) hne).trans (Below.heap_alloc _ _ _ hk)⟩
  generalize S (kl x) = s at hlook
  unfold ev at hlook hput
  clear hset hg hMA hM h1 h2
  go_enter Try.func22, Try.ntmps22
  go_wp2
  go_ret
  exact ⟨rfl, HF.out⟩
end Go.Proofs.Ytgfehdjahjpfhaa.Ok
