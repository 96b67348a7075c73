/- slices.Reverse at rows of entries of the call's own. -/
import Derived.Test.YtgfehdjahjpfhaaEn
import Derived.Test.YtgfehdjahjpfhaaOw
import Derived.Laws.Cells
namespace Go.Proofs.Ytgfehdjahjpfhaa.Rv
open Go.RowKit
open Go.Proofs.Ytgfehdjahjpfhaa Go.Proofs.Ytgfehdjahjpfhaa.En
set_option linter.unusedVariables false

/-- Two entries change places. -/
def swp (es : List E) (i j : Nat) : List E := (es.set i (es.getD j (0, 0))).set j (es.getD i (0, 0))
theorem swp_len (es : List E) (i j : Nat) : (swp es i j).length = es.length := by simp [swp]
/-- The first i and the last i have changed places. -/
def part (es : List E) (i : Nat) : List E := (List.range es.length).map fun t => if t < i ∨ es.length ≤ t + i then es.getD (es.length - 1 - t) (0, 0) else es.getD t (0, 0)
theorem part_len (es : List E) (i : Nat) : (part es i).length = es.length := by simp [part]
theorem part_getD (es : List E) (i t : Nat) (h : t < es.length) : (part es i).getD t (0, 0) = if t < i ∨ es.length ≤ t + i then es.getD (es.length - 1 - t) (0, 0) else es.getD t (0, 0) := by
  simp [part, List.getD_eq_getElem?_getD, h]
theorem ext_getD {a b : List E} (hl : a.length = b.length) (h : ∀ t, t < a.length → a.getD t (0, 0) = b.getD t (0, 0)) : a = b :=
  List.ext_getElem hl fun t h1 h2 => by have := h t h1; simpa [List.getD_eq_getElem?_getD, h1, h2] using this
theorem part_zero (es : List E) : part es 0 = es := ext_getD (part_len _ _) fun t ht => by
  rw [part_len] at ht
  rw [part_getD es 0 t ht, if_neg (by omega)]
theorem part_end (es : List E) (i : Nat) (h : es.length ≤ 2 * i + 1) : part es i = es.reverse := ext_getD (by rw [part_len, List.length_reverse]) fun t ht => by
  rw [part_len] at ht
  rw [part_getD es i t ht]
  have e : es.reverse.getD t (0, 0) = es.getD (es.length - 1 - t) (0, 0) := by
    rw [List.getD_eq_getElem?_getD, List.getElem?_reverse ht, List.getD_eq_getElem?_getD]
  rw [e]
  split
  · rfl
  · have : es.length - 1 - t = t := by omega
    rw [this]
theorem part_step (es : List E) (i : Nat) (h : 2 * i + 1 < es.length) : swp (part es i) i (es.length - 1 - i) = part es (i + 1) := ext_getD (by rw [swp_len, part_len, part_len]) fun t ht => by
  rw [swp_len, part_len] at ht
  have hi : i < es.length := by omega
  have hj : es.length - 1 - i < es.length := by omega
  have g1 := part_getD es i i hi
  have g2 := part_getD es i (es.length - 1 - i) hj
  rw [if_neg (by omega)] at g1
  rw [if_neg (by omega)] at g2
  rw [part_getD es (i + 1) t ht]
  unfold swp
  rw [g1, g2]
  by_cases h1 : t = es.length - 1 - i
  · subst h1
    rw [if_pos (by omega)]
    have e : es.length - 1 - (es.length - 1 - i) = i := by omega
    rw [e, List.getD_eq_getElem?_getD, List.getElem?_set_self (by rw [List.length_set, part_len]; exact hj)]
    rfl
  · by_cases h2 : t = i
    · subst h2
      rw [if_pos (by omega), List.getD_eq_getElem?_getD, List.getElem?_set_ne (by omega), List.getElem?_set_self (by rw [part_len]; exact hi)]
      rfl
    · rw [List.getD_eq_getElem?_getD, List.getElem?_set_ne (by omega), List.getElem?_set_ne (by omega), ← List.getD_eq_getElem?_getD, part_getD es i t ht]
      by_cases h3 : t < i ∨ es.length ≤ t + i
      · rw [if_pos h3, if_pos (by omega)]
      · rw [if_neg h3, if_neg (by omega)]

theorem cs_set (es : List E) (i : Nat) (e : E) : i < es.length → cs (es.set i e) = ((cs es).set (i * 2) (.int .u64 e.1)).set (i * 2 + 1) (.int .i64 e.2) := by
  induction es generalizing i with
  | nil => intro h; simp at h
  | cons x r ih =>
    intro h
    have e3 : cs (x :: r) = .int .u64 x.1 :: .int .i64 x.2 :: cs r := rfl
    cases i with
    | zero => rfl
    | succ i =>
      have e1 : (i + 1) * 2 = i * 2 + 1 + 1 := by omega
      have ih' := ih i (by simpa using h)
      show .int .u64 x.1 :: .int .i64 x.2 :: cs (r.set i e) = _
      rw [e3, e1, ih']
      simp only [List.set_cons_succ]

/-- An entry of a row of the call's own: its place, and the row behind a store. -/
theorem own_at2 {w : World} {base n : Nat} {v : Value} {es : List E} (h : w.ownsRow base 28 2 v n (cs es)) (hn : es.length = n) :
    v = .slice none 0 0 ∧ n = 0 ∨ ∃ g cap, v = .slice (some ⟨g, 0, none⟩) n cap ∧ base ≤ g ∧ g < w.heap.size ∧ ∀ k, k < n →
      (∀ w', (Instr.indexAt 22 v (.int .i64 k)).run Try.prog w' = .ok (.pointer (some ⟨g, k * 2, none⟩)) w') ∧
      w.cell? ⟨g, k * 2, none⟩ = some (.int .u64 (es.getD k (0, 0)).1) ∧ w.cell? ⟨g, k * 2 + 1, none⟩ = some (.int .i64 (es.getD k (0, 0)).2) ∧ w.frozen? ⟨g, k * 2, none⟩ = false ∧ w.frozen? ⟨g, k * 2 + 1, none⟩ = false ∧
      ∀ x : E, ((w.setCell ⟨g, k * 2, none⟩ (.int .u64 x.1)).setCell ⟨g, k * 2 + 1, none⟩ (.int .i64 x.2)).ownsRow base 28 2 v n (cs (es.set k x)) := by
  have hlt := h.lt
  obtain ⟨hl, ⟨rfl, rfl⟩ | ⟨g, cap, cur, rfl, hb, hg, hnc, hc, hcs, htake⟩⟩ := h
  · exact .inl ⟨rfl, rfl⟩
  · refine .inr ⟨g, cap, rfl, hb, (hlt g rfl).2, fun k hk => ?_⟩
    have hadd : (⟨g, 0, none⟩ : Addr).add (k * 2) = ⟨g, k * 2, none⟩ := by unfold Addr.add; split <;> simp_all
    have hget := cs_get es k (by omega)
    have hcell : ∀ (j : Nat) (c : Value), (cs es)[j]? = some c → w.cell? ⟨g, j, none⟩ = some c := fun j c hj => by
      rw [cell_of_row w g j cur 28 (0, 0) hg]
      rw [← htake, List.getElem?_take] at hj
      split at hj
      · simpa using hj
      · cases hj
    refine ⟨fun w' => ?_, hcell _ _ hget.1, hcell _ _ hget.2, by simp [World.frozen?, hg], by simp [World.frozen?, hg], fun x => ?_⟩
    · have hsz := sz w'
      simp [Instr.indexAt, run_underlying uT, asIntOf, hk, hadd]
    · refine ⟨by rw [cs_len, List.length_set, hn], .inr ⟨g, cap, (cur.setIfInBounds (k * 2) (.int .u64 x.1)).setIfInBounds (k * 2 + 1) (.int .i64 x.2), rfl, hb, ?_, hnc, hc, by simpa using hcs, ?_⟩⟩
      · simp [World.setCell, Array.getElem?_modify, hg]
      · rw [cs_set es k x (by omega), ← htake]
        simp [Array.toList_setIfInBounds, List.take_set]

theorem grown_set {w W : World} {g : Nat} (h : w.grownBy W (some g)) (o : Nat) (x : Value) : w.grownBy (W.setCell ⟨g, o, none⟩ x) (some g) :=
  ⟨h.os, h.tape, h.output, by have := h.size; simpa [World.setCell] using this, fun k hk hne => (Below.heap_setCell _ _ _ _ (fun e => hne (by rw [e]))).trans (h.block k hk hne)⟩
theorem grown_drew {w W : World} {r : Option Nat} (h : w.grownBy W r) : w.grownBy W.drew r := ⟨h.os, h.tape, h.output, h.size, h.block⟩

set_option maxHeartbeats 2000000 in
theorem rev_any (v : Value) (es : List E) (base : Nat) (w : World) (h : w.ownsRow base 28 2 v es.length (cs es)) (hb : es.length * 16 ≤ 140737488355328) :
    Calls Try.prog 24 #[v] w fun e w' => e = .returned (.tuple #[]) ∧ w'.ownsRow base 28 2 v es.length (cs es.reverse) ∧ w.grownBy w' v.ownBlock := by
  have hR : Es w v es := Row.of_own (b := 16) h hb (by omega)
  have hlen := hR.len
  have hsm := hR.small
  obtain ⟨n, hn⟩ : ∃ n, es.length = n := ⟨_, rfl⟩
  rw [hn] at hlen hsm h
  have H := Lib.hid h
  have HN := Lib.hid hn
  clear hR h
  rw [hn]
  clear hn hb
  go_enter Try.func24, Try.ntmps24
  go_wp2
  go_loopw [2, 3] (fun a b wr => ∃ i : Nat, a = .int .i64 i ∧ b = .int .i64 ((n : Int) - 1 - i) ∧ i ≤ n ∧ wr.ownsRow base 28 2 v n (cs (part es i)) ∧ w.grownBy wr v.ownBlock) (fun a _ _ => n - (intOf a).toNat)
  case atStart => exact ⟨0, rfl, by simp, Nat.zero_le _, by rw [part_zero]; exact H.out, ⟨rfl, rfl, rfl, Nat.le_refl _, fun _ _ _ => rfl⟩⟩
  case round =>
    obtain ⟨i, rfl, rfl, hi, hO, hG⟩ := hrel
    have hO' := hO
    have HG := Lib.hid hG
    clear hG
    by_cases hlt : 2 * i + 1 < n
    · obtain ⟨j, hj⟩ : ∃ j : Nat, (n : Int) - 1 - i = j := ⟨n - 1 - i, by omega⟩
      have hjn : j = n - 1 - i := by omega
      rcases own_at2 hO (by rw [part_len]; exact HN.out) with ⟨_, h0⟩ | ⟨g, cap, hv, hbg, hgs, hat⟩
      · omega
      · obtain ⟨hxi, ci1, ci2, fi1, fi2, hset⟩ := hat i (by omega)
        obtain ⟨hxj, cj1, cj2, fj1, fj2, _⟩ := hat j (by omega)
        have hstep := part_step es i (by have := HN.out; omega)
        rw [HN.out, ← hjn] at hstep
        unfold swp at hstep
        generalize hX : (part es i).getD i (0, 0) = X at ci1 ci2 hstep
        generalize hY : (part es i).getD j (0, 0) = Y at cj1 cj2 hstep
        have hO1 := hset Y
        rcases own_at2 hO1 (by rw [List.length_set, part_len]; exact HN.out) with ⟨_, h0⟩ | ⟨g2, cap2, hv2, _, _, hat2⟩
        · omega
        · have e2 := hv.symm.trans hv2
          simp only [Value.slice.injEq, Option.some.injEq, Addr.mk.injEq] at e2
          obtain ⟨⟨rfl, _⟩, _⟩ := e2
          obtain ⟨_, dj1, dj2, gj1, gj2, hset2⟩ := hat2 j (by omega)
          have hO2 := hset2 X
          rw [hstep] at hO2
          have HO2 := Lib.hid hO2
          rw [hj]
          have hij : (i : Int) < j := by omega
          have hij2 : ¬ i = j := by omega
          have hi' : (i : Int) ≤ 140737488355328 := by omega
          have HJ := Lib.hid hj
          have HJN := Lib.hid hjn
          have hjs : (j : Int) ≤ 140737488355328 := by omega
          have hin : i < n := by omega
          have hjn' : j < n := by omega
          clear hset hset2 hat hat2 hO hO1 hO2 hO' hstep hX hY hv2 hj hjn hlt
          go_wp2_with fail
          go_region
          go_wp2_with fail
          go_roundw
          case rel => exact ⟨i + 1, by go_num, by have := HJ.out; congr 1; omega, hin, own_ext HO2.out ((Ext.refl _).drew), by
            have hg := HG.out
            rw [hv] at hg ⊢
            exact grown_drew (grown_set (grown_set (grown_set (grown_set hg _ _) _ _) _ _) _ _)⟩
          case measure => simp [intOf]; omega
    · have hle : ¬ (i : Int) < (n : Int) - 1 - i := by omega
      have HE : Hid (part es i = es.reverse) := part_end es i (by have := HN.out; omega)
      rw [HE.out] at hO'
      have HO := Lib.hid hO'
      clear hO hO' hlt
      generalize (n : Int) - 1 - i = z at hle
      have hle2 : decide ((i : Int) < z) = false := decide_eq_false hle
      clear hle
      go_wp2_with fail
      go_end0
      exact ⟨rfl, HO.out, HG.out⟩
end Go.Proofs.Ytgfehdjahjpfhaa.Rv
