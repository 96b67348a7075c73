/- References of chapter 10: Many. -/
import Derived.Test.YtgfehdjahjpfhaaNx
import Derived.Test.YtgfehdjahjpfhaaFt
namespace Go.Proofs.Ytgfehdjahjpfhaa.Rg
open Go.RowKit
open Go.Proofs.Ytgfehdjahjpfhaa Go.Proofs.Ytgfehdjahjpfhaa.En Go.Proofs.Ytgfehdjahjpfhaa.Mr
set_option linter.unusedVariables false

theorem many_any (v : Value) (rows : List (List E)) (w : World) (h : Me w v rows) :
    Calls Try.prog 21 #[v] w fun e w' => e = .returned (.int .i64 (many rows)) ∧ w = w' := by
  have hlen := h.len
  have hsm := h.small
  have H := Lib.hid h
  clear h
  go_enter Try.func21, Try.ntmps21
  go_wp2
  go_loopw [3, 4] (fun n i wr => ∃ j : Nat, n = .int .i64 (many (rows.take j)) ∧ i = .int .i64 j ∧ j ≤ rows.length ∧ Hid (wr = w)) (fun _ i _ => rows.length - (intOf i).toNat)
  case atStart => exact ⟨0, rfl, rfl, Nat.zero_le _, rfl⟩
  case round =>
    obtain ⟨j, rfl, rfl, hj, HW⟩ := hrel
    obtain rfl := HW.out
    by_cases hlt : j < rows.length
    · obtain ⟨p, u, hp, hcp, hu⟩ := H.out.at_ j hlt
      have hul := hu.len
      have husm := hu.small
      have hmt := many_take rows hlt
      obtain ⟨l, hl⟩ : ∃ l, (rows.getD j []).length = l := ⟨_, rfl⟩
      rw [hl] at hul husm hmt
      obtain ⟨m, hm⟩ : ∃ m, many (rows.take j) = m := ⟨_, rfl⟩
      rw [hm] at hmt ⊢
      obtain ⟨y, hy⟩ : ∃ y, IntKind.i64.wrap (m + (l : Int)) = y := ⟨_, rfl⟩
      rw [hy] at hmt
      have HMT := Lib.hid hmt
      clear hu hl hm hmt
      go_wp2
      go_roundw
      case rel => exact ⟨j + 1, by rw [HMT.out], by go_num, hlt, (by first | rfl | trivial | exact True.intro)⟩
      case measure => simp [intOf]; omega
    · obtain rfl : j = rows.length := by omega
      rw [List.take_length]
      go_wp2
      go_ret
      exact ⟨rfl, rfl⟩
set_option maxRecDepth 100000 in
theorem next_any (v : Value) (rows : List (List E)) (w : World) (h : Me w v rows) :
    Calls Try.prog 19 #[v] w fun e w' => e = .returned (.tuple #[.int .i64 (Nx.nxI rows), .bool (Nx.nxB rows)]) ∧ w = w' := by
  have hlen := h.len
  have hsm := h.small
  have H := Lib.hid h
  clear h
  go_enter Try.func19, Try.ntmps19
  go_wp2
  go_loopw [4] (fun i wr => ∃ j : Nat, i = .int .i64 j ∧ j ≤ rows.length ∧ wr = w ∧ Hid (∀ t, t < j → (rows.getD t []).length = 0)) (fun i _ => rows.length - (intOf i).toNat)
  case atStart => exact ⟨0, rfl, Nat.zero_le _, rfl, fun t ht => by omega⟩
  case round =>
    obtain ⟨j, rfl, hj, rfl, HA⟩ := hrel
    by_cases hlt : j < rows.length
    · obtain ⟨p, u, hp, hcp, hu⟩ := H.out.at_ j hlt
      have hul := hu.len
      have husm := hu.small
      obtain ⟨l, hl⟩ : ∃ l, (rows.getD j []).length = l := ⟨_, rfl⟩
      rw [hl] at hul husm
      have HL := Lib.hid hl
      clear hu hl
      by_cases h0 : 0 < l
      · have hidx := Nx.idx_eq hlt (by rw [HL.out]; exact h0) HA.out
        have e1 : Nx.nxI rows = j := by unfold Nx.nxI; rw [hidx, if_pos hlt]
        have e2 : Nx.nxB rows = true := by unfold Nx.nxB; rw [hidx]; exact decide_eq_true hlt
        have HE := Lib.hid (And.intro e1 e2)
        have h0' : (0 : Int) < l := by omega
        clear e1 e2 hidx
        go_wp2
        go_ret2
        exact ⟨(by rw [HE.out.1, HE.out.2]; rfl), rfl⟩
      · have hl0 : l = 0 := by omega
        subst hl0
        replace hul : ∀ ty w', (Builtin.len_ #[22] ty #[u]).run Try.prog w' = .ok (.int .i64 0) w' := hul
        go_wp2
        go_roundw
        case rel => exact ⟨j + 1, by go_num, hlt, (by first | rfl | trivial), fun t ht => by
          by_cases e : t = j
          · subst e; exact HL.out
          · exact HA.out t (by omega)⟩
        case measure => simp [intOf]; omega
    · obtain rfl : j = rows.length := by omega
      have hno := Nx.idx_none HA.out
      have e1 : Nx.nxI rows = 0 := by unfold Nx.nxI; rw [if_neg hno]
      have e2 : Nx.nxB rows = false := by unfold Nx.nxB; exact decide_eq_false hno
      have HE := Lib.hid (And.intro e1 e2)
      clear e1 e2 hno
      go_wp2
      go_ret2
      exact ⟨(by rw [HE.out.1, HE.out.2]; rfl), rfl⟩

/-- First of an empty log. -/
theorem first_nil (v : Value) (w : World) (h : Es w v []) :
    Calls Try.prog 15 #[v] w fun r w' => r = .returned (.tuple #[.agg #[.int .u64 0, .int .i64 0], v, .bool false]) ∧ Ext w w' := by
  have hlen := h.len
  replace hlen : ∀ ty w', (Builtin.len_ #[22] ty #[v]).run Try.prog w' = .ok (.int .i64 0) w' := hlen
  have hb := Blk.new w #[.int .u64 0, .int .i64 0] 28
  clear h
  have g0 := hb.cell (i := 0) rfl
  have g1 := hb.cell (i := 1) rfl
  go_enter Try.func15, Try.ntmps15
  go_wp2_with fail
  refine bodyPost_ret (v := .tuple #[.agg #[.int .u64 0, .int .i64 0], v, .bool false]) (by simp [results, Try.results15, go_sem, g0, g1]) rfl ⟨rfl, (Ext.refl w).alloc _⟩
end Go.Proofs.Ytgfehdjahjpfhaa.Rg
