/- Addresses turned into others, as lists: the plain side of chapter 9's Turn. No program in sight. -/
namespace Go.Proofs.Ytmkpbdibhjjmpaa.Tp

/-- The first place of a number in a list; the list's length, if it isn't there. -/
def fnd (xs : List Int) (a : Int) : Nat := xs.findIdx (· == a)
theorem fnd_le (xs : List Int) (a : Int) : fnd xs a ≤ xs.length := List.findIdx_le_length
theorem fnd_at {xs : List Int} {a : Int} (h : fnd xs a < xs.length) : xs.getD (fnd xs a) 0 = a := by
  have := List.findIdx_getElem (xs := xs) (p := (· == a)) (w := h)
  have e : xs[fnd xs a] = a := beq_iff_eq.1 this
  simp [List.getD_eq_getElem?_getD, h, e]
theorem fnd_ne {xs : List Int} {a : Int} {t : Nat} (h : t < fnd xs a) : xs.getD t 0 ≠ a := by
  have hlt : t < xs.length := Nat.lt_of_lt_of_le h (fnd_le xs a)
  have := List.not_of_lt_findIdx (xs := xs) (p := (· == a)) h
  simp [List.getD_eq_getElem?_getD, hlt]
  simpa using this
theorem fnd_eq {xs : List Int} {a : Int} {j : Nat} (hj : j < xs.length) (h1 : xs.getD j 0 = a) (h2 : ∀ t, t < j → xs.getD t 0 ≠ a) : fnd xs a = j := by
  rcases Nat.lt_trichotomy (fnd xs a) j with h | h | h
  · exact absurd (fnd_at (Nat.lt_trans h hj)) (h2 _ h)
  · exact h
  · exact absurd h1 (fnd_ne h)
theorem fnd_none {xs : List Int} {a : Int} (h : ∀ t, t < xs.length → xs.getD t 0 ≠ a) : fnd xs a = xs.length := by
  rcases Nat.lt_or_ge (fnd xs a) xs.length with h1 | h1
  · exact absurd (fnd_at h1) (h _ h1)
  · exact Nat.le_antisymm (fnd_le xs a) h1

/-- What Index tells. -/
def idx (xs : List Int) (a : Int) : Int := if fnd xs a < xs.length then (fnd xs a : Int) else -1

/-- What an address is turned into. -/
def turn1 (fr to : List Int) (a : Int) : Int := if fnd fr a < fr.length ∧ fnd fr a < to.length then to.getD (fnd fr a) 0 else a
def turnRow (fr to : List Int) (row : List Int) : List Int := row.map (turn1 fr to)
def turn (fr to : List Int) (rows : List (List Int)) : List (List Int) := rows.map (turnRow fr to)

/-- The reference's loop, from the end down: what stands when the places from n on are done. -/
def tv (fr to : List Int) (a : Int) (n : Nat) : Int :=
  if n + fnd (fr.drop n) a < fr.length ∧ n + fnd (fr.drop n) a < to.length then to.getD (n + fnd (fr.drop n) a) 0 else a
theorem tv_zero (fr to : List Int) (a : Int) : tv fr to a 0 = turn1 fr to a := by simp [tv, turn1]
theorem tv_end (fr to : List Int) (a : Int) : tv fr to a fr.length = a := by
  unfold tv
  rw [if_neg (by omega)]
theorem drop_eq (fr : List Int) {n : Nat} (h : n < fr.length) : fr.drop n = fr.getD n 0 :: fr.drop (n + 1) := by
  rw [List.drop_eq_getElem_cons h]; simp [List.getD_eq_getElem?_getD, h]
theorem tv_hit (fr to : List Int) (a : Int) {n : Nat} (h : n < fr.length) (he : fr.getD n 0 = a) : tv fr to a n = if n < to.length then to.getD n 0 else a := by
  have e : fnd (fr.drop n) a = 0 := by unfold fnd; rw [drop_eq fr h, List.findIdx_cons, he]; simp
  unfold tv
  rw [e]
  by_cases ht : n < to.length
  · rw [if_pos ⟨by omega, by omega⟩, if_pos ht]; simp
  · rw [if_neg (by omega), if_neg ht]
theorem tv_miss (fr to : List Int) (a : Int) {n : Nat} (h : n < fr.length) (he : fr.getD n 0 ≠ a) : tv fr to a n = tv fr to a (n + 1) := by
  have e : fnd (fr.drop n) a = fnd (fr.drop (n + 1)) a + 1 := by
    unfold fnd; rw [drop_eq fr h, List.findIdx_cons]
    have : (fr.getD n 0 == a) = false := beq_eq_false_iff_ne.2 he
    rw [this]; rfl
  unfold tv
  rw [e]
  have : n + (fnd (fr.drop (n + 1)) a + 1) = n + 1 + fnd (fr.drop (n + 1)) a := by omega
  rw [this]

theorem turn_nil (to : List Int) (rows : List (List Int)) : turn [] to rows = rows := by
  have h : ∀ row : List Int, turnRow [] to row = row := fun row => by
    unfold turnRow
    have : ∀ a, turn1 [] to a = a := fun a => by unfold turn1; rw [if_neg (by simp)]
    rw [List.map_congr_left (g := id) fun a _ => this a, List.map_id]
  unfold turn
  rw [List.map_congr_left (g := id) fun a _ => h a, List.map_id]

theorem fnd_lt_iff {xs : List Int} {a : Int} : fnd xs a < xs.length ↔ a ∈ xs := by
  constructor
  · intro h
    have := fnd_at h
    rw [← this]
    simp [List.getD_eq_getElem?_getD, h]
  · intro h
    rcases Nat.lt_or_ge (fnd xs a) xs.length with h1 | h1
    · exact h1
    · obtain ⟨j, hj, rfl⟩ := List.getElem_of_mem h
      exact absurd (by simp [List.getD_eq_getElem?_getD, hj]) (fnd_ne (xs := xs) (a := xs[j]) (t := j) (Nat.lt_of_lt_of_le hj h1))

/-- Turned there and back an address is as it was. -/
theorem there_back1 {fr to : List Int} (hl : fr.length = to.length) (_hf : fr.Nodup) (ht : to.Nodup) {a : Int} (ha : a ∉ to) : turn1 to fr (turn1 fr to a) = a := by
  by_cases hm : a ∈ fr
  · have h1 := fnd_lt_iff.2 hm
    have e1 : turn1 fr to a = to.getD (fnd fr a) 0 := by unfold turn1; rw [if_pos ⟨h1, by omega⟩]
    have e2 : fnd to (to.getD (fnd fr a) 0) = fnd fr a := by
      refine fnd_eq (by omega) rfl fun t ht' he => ?_
      have hlt : fnd fr a < to.length := by omega
      have hlt2 : t < to.length := by omega
      simp only [List.getD_eq_getElem?_getD, List.getElem?_eq_getElem hlt, List.getElem?_eq_getElem hlt2, Option.getD_some] at he
      exact (List.pairwise_iff_getElem.1 ht) t (fnd fr a) hlt2 hlt ht' he
    rw [e1]
    unfold turn1
    rw [e2, if_pos ⟨by omega, h1⟩]
    exact fnd_at h1
  · have e1 : turn1 fr to a = a := by unfold turn1; rw [if_neg (fun h => hm (fnd_lt_iff.1 h.1))]
    rw [e1]
    unfold turn1
    rw [if_neg (fun h => ha (fnd_lt_iff.1 h.1))]
theorem there_back {fr to : List Int} (hl : fr.length = to.length) (_hf : fr.Nodup) (ht : to.Nodup) {rows : List (List Int)} (hr : ∀ row ∈ rows, ∀ x ∈ row, x ∉ to) : turn to fr (turn fr to rows) = rows := by
  have h1 : ∀ row ∈ rows, turnRow to fr (turnRow fr to row) = row := fun row hrow => by
    unfold turnRow
    rw [List.map_map]
    have : ∀ x ∈ row, (turn1 to fr ∘ turn1 fr to) x = x := fun x hx => there_back1 hl _hf ht (hr row hrow x hx)
    conv => rhs; rw [← List.map_id row]
    exact List.map_congr_left this
  unfold turn
  rw [List.map_map]
  conv => rhs; rw [← List.map_id rows]
  exact List.map_congr_left h1
/-- A row whose first q addresses are turned. -/
def part (fr to : List Int) (row : List Int) (q : Nat) : List Int := turnRow fr to (row.take q) ++ row.drop q
theorem part_zero (fr to row : List Int) : part fr to row 0 = row := by simp [part, turnRow]
theorem part_all (fr to row : List Int) : part fr to row row.length = turnRow fr to row := by simp [part]
theorem part_len (fr to row : List Int) (q : Nat) : (part fr to row q).length = row.length := by simp [part, turnRow]; omega
theorem part_get (fr to row : List Int) {q : Nat} (h : q < row.length) : (part fr to row q)[q]? = some (row.getD q 0) := by
  unfold part
  have h1 : (turnRow fr to (row.take q)).length = q := by simp [turnRow]; omega
  rw [List.getElem?_append_right (by omega), h1, Nat.sub_self, List.getElem?_drop]
  simp [List.getD_eq_getElem?_getD, h]
theorem part_set (fr to row : List Int) {q : Nat} (h : q < row.length) : (part fr to row q).set q (turn1 fr to (row.getD q 0)) = part fr to row (q + 1) := by
  unfold part
  have h1 : (turnRow fr to (row.take q)).length = q := by simp [turnRow]; omega
  rw [List.set_append_right _ _ (by omega), h1, Nat.sub_self, List.drop_eq_getElem_cons h, List.set_cons_zero, List.take_succ_eq_append_getElem h]
  have e : row.getD q 0 = row[q] := by simp [List.getD_eq_getElem?_getD, h]
  rw [e]
  simp only [turnRow, List.map_append, List.map_cons, List.map_nil, List.append_assoc, List.cons_append, List.nil_append]
theorem turn_take (fr to : List Int) (rows : List (List Int)) {j : Nat} (h : j < rows.length) : turn fr to (rows.take (j + 1)) = turn fr to (rows.take j) ++ [turnRow fr to (rows.getD j [])] := by
  rw [List.take_succ_eq_append_getElem h]
  have e : rows.getD j [] = rows[j] := by simp [List.getD_eq_getElem?_getD, h]
  rw [e]
  simp only [turn, List.map_append, List.map_cons, List.map_nil]
theorem turnRow_take (fr to row : List Int) {q : Nat} (h : q < row.length) : turnRow fr to (row.take (q + 1)) = turnRow fr to (row.take q) ++ [turn1 fr to (row.getD q 0)] := by
  rw [List.take_succ_eq_append_getElem h]
  have e : row.getD q 0 = row[q] := by simp [List.getD_eq_getElem?_getD, h]
  rw [e]
  simp only [turnRow, List.map_append, List.map_cons, List.map_nil]
end Go.Proofs.Ytmkpbdibhjjmpaa.Tp
