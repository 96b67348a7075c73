/- Next of package log: the first log with an entry. -/
import Derived.Test.YtgfehdjahjpfhaaMr
namespace Go.Proofs.Ytgfehdjahjpfhaa.Nx
open Go.RowKit
open Go.Proofs.Ytgfehdjahjpfhaa Go.Proofs.Ytgfehdjahjpfhaa.En Go.Proofs.Ytgfehdjahjpfhaa.Mr
set_option linter.unusedVariables false

def idx (rows : List (List E)) : Nat := rows.findIdx fun r => decide (0 < r.length)
def nxB (rows : List (List E)) : Bool := decide (idx rows < rows.length)
def nxI (rows : List (List E)) : Int := if idx rows < rows.length then idx rows else 0
theorem idx_eq {rows : List (List E)} {j : Nat} (hj : j < rows.length) (h1 : 0 < (rows.getD j []).length) (h2 : ∀ t, t < j → (rows.getD t []).length = 0) : idx rows = j := by
  unfold idx
  rw [List.findIdx_eq hj]
  refine ⟨by simpa [List.getD_eq_getElem?_getD, hj] using h1, fun t ht => ?_⟩
  have := h2 t ht
  have ht' : t < rows.length := by omega
  simpa [List.getD_eq_getElem?_getD, ht'] using this
theorem idx_none {rows : List (List E)} (h : ∀ t, t < rows.length → (rows.getD t []).length = 0) : ¬ idx rows < rows.length := by
  intro hlt
  have := List.findIdx_getElem (xs := rows) (p := fun r : List E => decide (0 < r.length)) (w := hlt)
  have h2 := h (idx rows) hlt
  simp only [decide_eq_true_eq] at this
  rw [List.getD_eq_getElem?_getD, List.getElem?_eq_getElem hlt] at h2
  simp only [Option.getD_some] at h2
  exact absurd h2 (by unfold idx; omega)

set_option maxRecDepth 100000 in
theorem next_any (v : Value) (rows : List (List E)) (w : World) (h : Me w v rows) :
    Calls Try.prog 16 #[v] w fun e w' => e = .returned (.tuple #[.int .i64 (nxI rows), .bool (nxB rows)]) ∧ w = w' := by
  have hlen := h.len
  have hsm := h.small
  have H := Lib.hid h
  clear h
  go_enter Try.func16, Try.ntmps16
  go_wp2
  try go_step3
  try go_wp2
  try go_step3
  try go_wp2
  go_loopw [4, 5, 10] (fun a b i wr => ∃ j : Nat, a = .int .i64 0 ∧ b = .bool false ∧ i = .int .i64 j ∧ j ≤ rows.length ∧ wr = w ∧ Hid (∀ t, t < j → (rows.getD t []).length = 0)) (fun _ _ i _ => rows.length - (intOf i).toNat)
  case atStart => exact ⟨0, rfl, rfl, rfl, Nat.zero_le _, rfl, fun t ht => by omega⟩
  case round =>
    obtain ⟨j, rfl, rfl, rfl, hj, rfl, HA⟩ := hrel
    by_cases hlt : j < rows.length
    · obtain ⟨p, u, hp, hcp, hu⟩ := H.out.at_ j hlt
      have hul := hu.len
      have husm := hu.small
      obtain ⟨l, hl⟩ : ∃ l, (rows.getD j []).length = l := ⟨_, rfl⟩
      rw [hl] at hul husm
      have HL := Lib.hid hl
      clear hu hl
      by_cases h0 : 0 < l
      · have hidx := idx_eq hlt (by rw [HL.out]; exact h0) HA.out
        have e1 : nxI rows = j := by unfold nxI; rw [hidx, if_pos hlt]
        have e2 : nxB rows = true := by unfold nxB; rw [hidx]; exact decide_eq_true hlt
        have HE := Lib.hid (And.intro e1 e2)
        have h0' : (0 : Int) < l := by omega
        clear e1 e2 hidx
        go_wp2
        try rw [Exit.noGoto_ret]
        go_ret2
        exact ⟨(by rw [HE.out.1, HE.out.2]; rfl), rfl⟩
      · have hl0 : l = 0 := by omega
        subst hl0
        replace hul : ∀ ty w', (Builtin.len_ #[22] ty #[u]).run Try.prog w' = .ok (.int .i64 0) w' := hul
        go_wp2
        go_roundw
        case rel => exact ⟨j + 1, rfl, rfl, by go_num, hlt, (by first | rfl | trivial), fun t ht => by
          by_cases e : t = j
          · subst e; exact HL.out
          · exact HA.out t (by omega)⟩
        case measure => simp [intOf]; omega
    · obtain rfl : j = rows.length := by omega
      have hno := idx_none HA.out
      have e1 : nxI rows = 0 := by unfold nxI; rw [if_neg hno]
      have e2 : nxB rows = false := by unfold nxB; exact decide_eq_false hno
      have HE := Lib.hid (And.intro e1 e2)
      clear e1 e2 hno
      go_wp2
      try rw [Exit.noGoto_ret]
      go_ret2
      exact ⟨(by rw [HE.out.1, HE.out.2]; rfl), rfl⟩
end Go.Proofs.Ytgfehdjahjpfhaa.Nx
