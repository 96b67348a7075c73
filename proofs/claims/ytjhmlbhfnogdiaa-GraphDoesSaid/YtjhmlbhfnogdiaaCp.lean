/- The reference's place. -/
import Derived.Test.YtjhmlbhfnogdiaaOp
namespace Go.Proofs.Ytjhmlbhfnogdiaa.Cp
open Go.RowKit
open Go.Proofs.Ytjhmlbhfnogdiaa Go.Proofs.Ytjhmlbhfnogdiaa.Hd Go.Proofs.Ytjhmlbhfnogdiaa.Gr Go.Proofs.Ytjhmlbhfnogdiaa.Hg
set_option linter.unusedVariables false

/-- A number's place in a row; below 0: none. -/
def placeL (l : List Int) (n : Int) : Int := if n ∈ l then (l.idxOf n : Int) else -1
theorem place_at {l : List Int} {n : Int} {j : Nat} (hj : j < l.length) (h : l.getD j 0 = n) (hb : ∀ t, t < j → l.getD t 0 ≠ n) : placeL l n = j := by
  have hg : l[j] = n := by simpa [List.getD_eq_getElem?_getD, hj] using h
  have hm : n ∈ l := hg ▸ List.getElem_mem hj
  unfold placeL
  rw [if_pos hm]
  have h1 : l.idxOf n < l.length := List.idxOf_lt_length_of_mem hm
  have h2 : l[l.idxOf n] = n := List.getElem_idxOf h1
  have h3 : ¬ l.idxOf n < j := fun hlt => hb _ hlt (by simp [List.getD_eq_getElem?_getD, h1, h2])
  have h4 : ¬ j < l.idxOf n := fun hlt => by
    have := List.not_of_lt_findIdx (xs := l) (p := (· == n)) (i := j) hlt
    simp [hg] at this
  omega
theorem place_no {l : List Int} {n : Int} (hb : ∀ t, t < l.length → l.getD t 0 ≠ n) : placeL l n = -1 := by
  unfold placeL
  rw [if_neg]
  intro hm
  obtain ⟨i, hi, e⟩ := List.mem_iff_getElem.1 hm
  exact hb i hi (by simp [List.getD_eq_getElem?_getD, hi, e])

theorem place_any (v : Value) (xs : List Int) (n : Int) (w : World) (h : Sl .i64 w v xs) :
    Calls Try.prog 44 #[v, .int .i64 n] w fun e w' => e = .returned (.int .i64 (placeL xs n)) ∧ w = w' := by
  have hlen := fun ty W => Sl.len (P := Try.prog) uI h ty W
  have hsm := h.small
  obtain ⟨m, hm⟩ : ∃ m, xs.length = m := ⟨_, rfl⟩
  have HX : Hid (∀ i : Nat, i < m → ∃ p : Addr, (∀ w', (Instr.indexAt 42 v (.int .i64 i)).run Try.prog w' = .ok (.pointer (some p)) w') ∧ w.cell? p = some (.int .i64 (xs.getD i 0))) := fun i hi => h.at_ uI szI (i := i) (by omega) (by omega)
  rw [hm] at hlen hsm
  have HM := Lib.hid hm
  obtain ⟨r, hr⟩ : ∃ r, placeL xs n = r := ⟨_, rfl⟩
  rw [hr]
  have HR := Lib.hid hr
  clear h hm hr
  go_enter Try.func44, Try.ntmps44
  go_wp2_with fail
  go_loopw [5] (fun i wr => ∃ j : Nat, i = .int .i64 j ∧ j ≤ m ∧ (∀ t : Nat, t < j → xs.getD t 0 ≠ n) ∧ wr = w) (fun i _ => m - (intOf i).toNat)
  case atStart => exact ⟨0, rfl, Nat.zero_le _, fun t ht => by omega, rfl⟩
  case round =>
    obtain ⟨j, rfl, hj, hall, rfl⟩ := hrel
    have HA := Lib.hid hall
    clear hall
    by_cases hlt : j < m
    · obtain ⟨p1, hp, hcp⟩ := HX.out j hlt
      obtain ⟨x, hx⟩ : ∃ x, xs.getD j 0 = x := ⟨_, rfl⟩
      rw [hx] at hcp
      have HXX := Lib.hid hx
      clear hx
      cases hb : (x == n) with
      | true =>
        have hB : Hid (r = j) := by
          show _ = _
          rw [← HR.out]
          exact place_at (by rw [HM.out]; exact hlt) (by rw [HXX.out]; simpa using hb) HA.out
        go_wp2_with fail
        go_ret
        exact ⟨by rw [hB.out]; rfl, rfl⟩
      | false =>
        have hN : Hid (∀ t : Nat, t < j + 1 → xs.getD t 0 ≠ n) := fun t ht => by
          by_cases e : t = j
          · subst e; rw [HXX.out]; simpa using hb
          · exact HA.out t (by omega)
        go_wp2_with fail
        go_roundw
        case rel => exact ⟨j + 1, by go_num, hlt, hN.out, (by first | rfl | trivial)⟩
        case measure => simp [intOf]; omega
    · obtain rfl : j = m := by omega
      have hB : Hid (r = -1) := by
        show _ = _
        rw [← HR.out]
        exact place_no fun t ht => HA.out t (by rw [HM.out] at ht; exact ht)
      go_wp2_with fail
      go_ret
      exact ⟨by rw [hB.out]; rfl, rfl⟩
end Go.Proofs.Ytjhmlbhfnogdiaa.Cp
