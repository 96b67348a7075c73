/- The program's Right: its closures, and ContainsFunc with them. -/
import Derived.Test.YtjhmlbhfnogdiaaHq
import Derived.Test.YtjhmlbhfnogdiaaRr
namespace Go.Proofs.Ytjhmlbhfnogdiaa.Qr
open Go.RowKit
open Go.Proofs.Ytjhmlbhfnogdiaa Go.Proofs.Ytjhmlbhfnogdiaa.Hd Go.Proofs.Ytjhmlbhfnogdiaa.Gr Go.Proofs.Ytjhmlbhfnogdiaa.Hg Go.Proofs.Ytjhmlbhfnogdiaa.Ps Go.Proofs.Ytjhmlbhfnogdiaa.Rr
set_option linter.unusedVariables false

theorem wrap_u (n : Int) (h0 : 0 ≤ n) (h1 : n ≤ 140737488355328) : IntKind.u64.wrap n = n := by
  rw [IntKind.wrap_u64]; omega

/-- 'in': is a word a node's number, or 0. -/
theorem in_any (v n : Int) (p : Nat) (a : Option Addr) (N c : Nat) (hn : (N : Int) = n) (hs : n ≤ 140737488355328) (w : World) (h0 : w.cell? ⟨p, 0, none⟩ = some (.slice a N c)) (hl : ∀ ty W, (Builtin.len_ #[22] ty #[.slice a N c]).run Try.prog W = .ok (.int .i64 n) W) :
    Calls Try.prog 31 #[.int .u64 v, .pointer (some ⟨p, 0, none⟩)] w fun e w' => e = .returned (.bool (decide (v ≤ n))) ∧ w = w' := by
  have hw := wrap_u n (by omega) hs
  clear hn hs
  go_enter Try.func31, Try.ntmps31
  go_wp2
  go_ret
  exact ⟨by first | rfl | (simp [hw]; done), rfl⟩

def bad (n x : Int) : Bool := decide (x < 0) || !decide (x ≤ n)
/-- Is a handle none of a right graph. -/
theorem out_any (x n : Int) (p q : Nat) (a : Option Addr) (N c : Nat) (hn : (N : Int) = n) (hs : n ≤ 140737488355328) (hx : x ≤ 9223372036854775807) (w : World) (h0 : w.cell? ⟨p, 0, none⟩ = some (.slice a N c)) (hq : w.cell? ⟨q, 0, none⟩ = some (.func (.func 31) #[] #[.pointer (some ⟨p, 0, none⟩)])) (hl : ∀ ty W, (Builtin.len_ #[22] ty #[.slice a N c]).run Try.prog W = .ok (.int .i64 n) W) :
    Calls Try.prog 34 #[.int .i64 x, .pointer (some ⟨q, 0, none⟩)] w fun e w' => e = .returned (.bool (bad n x)) ∧ w = w' := by
  have HI := Lib.hid (fun v => in_any v n p a N c hn hs w h0 hl)
  clear h0 hl hn hs
  unfold bad
  by_cases hx0 : x < 0
  · have d1 : decide (x < 0) = true := decide_eq_true hx0
    clear hx0
    go_enter Try.func34, Try.ntmps34
    go_wp2_with fail
    go_ret
    exact ⟨by first | rfl | (simp [d1]; done), rfl⟩
  · have d1 : decide (x < 0) = false := decide_eq_false hx0
    have hw : IntKind.u64.wrap x = x := by rw [IntKind.wrap_u64]; omega
    obtain ⟨b, hb⟩ : ∃ b, decide (x ≤ n) = b := ⟨_, rfl⟩
    have HIx := HI.out x
    rw [hb] at HIx
    rw [hb, d1]
    replace HIx := Lib.hid HIx
    clear hb HI
    go_enter Try.func34, Try.ntmps34
    go_wp2_with fail
    refine HIx.out.mono ?_; rintro e w' ⟨rfl, rfl⟩
    go_wp2_with fail
    go_ret
    exact ⟨by cases b <;> rfl, rfl⟩

theorem any_false {α : Type} {l : List α} {f : α → Bool} (d : α) {n : Nat} (hn : l.length = n) (h : ∀ i, i < n → f (l.getD i d) = false) : l.any f = false := by
  rw [List.any_eq_false]
  intro x hx
  obtain ⟨i, hi, rfl⟩ := List.mem_iff_getElem.1 hx
  have := h i (by omega)
  simpa [List.getD_eq_getElem?_getD, hi] using this
theorem any_true {α : Type} {l : List α} {f : α → Bool} (d : α) {i : Nat} (hi : i < l.length) (h : f (l.getD i d) = true) : l.any f = true :=
  List.any_eq_true.2 ⟨_, List.getElem_mem hi, by simpa [List.getD_eq_getElem?_getD, hi] using h⟩

set_option maxHeartbeats 1000000 in
/-- The first such handle's place. -/
theorem index_any (v : Value) (xs : List Int) (n : Int) (p q : Nat) (a : Option Addr) (N c : Nat) (hn : (N : Int) = n) (hs : n ≤ 140737488355328) (hx : ∀ i, xs.getD i 0 ≤ 9223372036854775807) (w : World) (h : Sl .i64 w v xs) (h0 : w.cell? ⟨p, 0, none⟩ = some (.slice a N c)) (hq : w.cell? ⟨q, 0, none⟩ = some (.func (.func 31) #[] #[.pointer (some ⟨p, 0, none⟩)])) (hl : ∀ ty W, (Builtin.len_ #[22] ty #[.slice a N c]).run Try.prog W = .ok (.int .i64 n) W) :
    Calls Try.prog 69 #[v, .func (.func 34) #[] #[.pointer (some ⟨q, 0, none⟩)]] w fun e w' => ∃ r : Int, e = .returned (.int .i64 r) ∧ decide (0 ≤ r) = xs.any (bad n) ∧ w = w' := by
  have HO := Lib.hid (fun i => out_any (xs.getD i 0) n p q a N c hn hs (hx i) w h0 hq hl)
  have hlen := fun ty W => Sl.len (P := Try.prog) uI h ty W
  have hsm := h.small
  obtain ⟨m, hm⟩ : ∃ m, xs.length = m := ⟨_, rfl⟩
  have HX : Hid (∀ i : Nat, i < m → ∃ p : Addr, (∀ w', (Instr.indexAt 42 v (.int .i64 i)).run Try.prog w' = .ok (.pointer (some p)) w') ∧ w.cell? p = some (.int .i64 (xs.getD i 0))) := fun i hi => h.at_ uI szI (i := i) (by omega) (by omega)
  rw [hm] at hlen hsm
  have HM := Lib.hid hm
  clear h h0 hq hl hn hs hx hm
  go_enter Try.func69, Try.ntmps69
  go_wp2_with fail
  go_loopw [8] (fun i wr => ∃ j : Nat, i = .int .i64 j ∧ j ≤ m ∧ (∀ t : Nat, t < j → bad n (xs.getD t 0) = false) ∧ wr = w) (fun i _ => m - (intOf i).toNat)
  case atStart => exact ⟨0, rfl, Nat.zero_le _, fun t ht => by omega, rfl⟩
  case round =>
    obtain ⟨j, rfl, hj, hall, rfl⟩ := hrel
    have HA := Lib.hid hall
    clear hall
    by_cases hlt : j < m
    · obtain ⟨p1, hp, hcp⟩ := HX.out j hlt
      have HOj := HO.out j
      obtain ⟨x, hx⟩ : ∃ x, xs.getD j 0 = x := ⟨_, rfl⟩
      rw [hx] at hcp HOj
      obtain ⟨b, hb⟩ : ∃ b, bad n x = b := ⟨_, rfl⟩
      rw [hb] at HOj
      have HXB : Hid (bad n (xs.getD j 0) = b) := by show _ = _; rw [hx]; exact hb
      replace HOj := Lib.hid HOj
      clear hx hb
      go_wp2_with fail
      refine HOj.out.mono ?_; rintro e w' ⟨rfl, rfl⟩
      cases b with
      | true =>
        go_wp2_with fail
        go_ret
        exact ⟨j, rfl, by rw [any_true 0 (by rw [HM.out]; exact hlt) HXB.out]; exact decide_eq_true (by omega), rfl⟩
      | false =>
        go_wp2_with fail
        go_roundw
        case rel => exact ⟨j + 1, by go_num, hlt, fun t ht => by
          by_cases e : t = j
          · subst e; exact HXB.out
          · exact HA.out t (by omega), (by first | rfl | trivial)⟩
        case measure => simp [intOf]; omega
    · obtain rfl : j = m := by omega
      go_wp2_with fail
      go_ret
      exact ⟨-1, rfl, by rw [any_false 0 HM.out HA.out]; rfl, rfl⟩

theorem contains_any (v : Value) (xs : List Int) (n : Int) (p q : Nat) (a : Option Addr) (N c : Nat) (hn : (N : Int) = n) (hs : n ≤ 140737488355328) (hx : ∀ i, xs.getD i 0 ≤ 9223372036854775807) (w : World) (h : Sl .i64 w v xs) (h0 : w.cell? ⟨p, 0, none⟩ = some (.slice a N c)) (hq : w.cell? ⟨q, 0, none⟩ = some (.func (.func 31) #[] #[.pointer (some ⟨p, 0, none⟩)])) (hl : ∀ ty W, (Builtin.len_ #[22] ty #[.slice a N c]).run Try.prog W = .ok (.int .i64 n) W) :
    Calls Try.prog 33 #[v, .func (.func 34) #[] #[.pointer (some ⟨q, 0, none⟩)]] w fun e w' => e = .returned (.bool (xs.any (bad n))) ∧ w = w' := by
  have HI := Lib.hid (index_any v xs n p q a N c hn hs hx w h h0 hq hl)
  clear h h0 hq hl hn hs hx
  go_enter Try.func33, Try.ntmps33
  go_wp2_with fail
  refine HI.out.mono ?_; rintro e w' ⟨r, rfl, hr, rfl⟩
  have HR := Lib.hid hr
  clear hr
  go_wp2_with fail
  go_ret
  exact ⟨by rw [← HR.out]; first | rfl | (simp; done), rfl⟩
end Go.Proofs.Ytjhmlbhfnogdiaa.Qr
