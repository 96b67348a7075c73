/- The arguments of chapter 15's laws, and comparing two answers. -/
import Derived.Test.YtjhmlbhfnogdiaaSh15
namespace Go.Proofs.Ytjhmlbhfnogdiaa.Op
open Go.RowKit
open Go.Proofs.Ytjhmlbhfnogdiaa Go.Proofs.Ytjhmlbhfnogdiaa.Hd Go.Proofs.Ytjhmlbhfnogdiaa.Gr Go.Proofs.Ytjhmlbhfnogdiaa.Hg Go.Proofs.Ytjhmlbhfnogdiaa.Rr Go.Proofs.Ytjhmlbhfnogdiaa.Wk Go.Proofs.Ytjhmlbhfnogdiaa.Wp Go.Proofs.Ytjhmlbhfnogdiaa.Wa Go.Proofs.Ytjhmlbhfnogdiaa.Wc Go.Proofs.Ytjhmlbhfnogdiaa.Wf Go.Proofs.Ytjhmlbhfnogdiaa.Pl
set_option linter.unusedVariables false

theorem eqAns (a b : Int) (c : Bool) (d e : Int) (f : Bool) (w : World) : (Op.equalIn 10000 35 (.agg #[.int .i64 a, .int .u64 b, .bool c]) (.agg #[.int .i64 d, .int .u64 e, .bool f])).run Try.prog w = .ok (a == d && (b == e && c == f)) w := by
  have u3 := Try.underlying33
  have a3 := Try.isAgg33
  have z3 := Try.sizeOf33
  have u4 := Try.underlying26
  have a4 := Try.isAgg26
  have z4 := Try.sizeOf26
  have u5 := Try.underlying4
  have a5 := Try.isAgg4
  have z5 := Try.sizeOf4
  have hS : Try.prog.underlying 35 = some (.struct (Try.prog.fieldsOf 35)) := by kernel_rfl
  have hp : Try.prog.stoodInHeld 35 = false := by kernel_rfl
  rw [show (10000 : Nat) = 9999 + 1 from rfl, run_equalIn_agg w 9999 35 _ _ hS hp]
  simp only [Program.fieldsOf, Try.underlying35]
  go_simp
  by_cases h1 : a = d <;> by_cases h2 : b = e <;> by_cases h3 : c = f <;> simp [h1, h2, h3]

theorem three_of {α : Type} {l : List α} (h : l.length = 3) : ∃ a b c, l = [a, b, c] := by
  obtain ⟨a, r, rfl⟩ := List.exists_cons_of_length_pos (show 0 < l.length by omega)
  obtain ⟨b, c, rfl⟩ := Gr.two_of (show r.length = 2 by simpa using h)
  exact ⟨a, b, c, rfl⟩
theorem eight_of {α : Type} {l : List α} (h : l.length = 8) : ∃ a b c d e f g i, l = [a, b, c, d, e, f, g, i] := by
  have h1 : l = l.take 4 ++ l.drop 4 := (List.take_append_drop 4 l).symm
  obtain ⟨a, b, c, d, e1⟩ := Gr.four_of (l := l.take 4) (by simp [h])
  obtain ⟨e, f, g, i, e2⟩ := Gr.four_of (l := l.drop 4) (by simp [h])
  exact ⟨a, b, c, d, e, f, g, i, by rw [h1, e1, e2]; rfl⟩
/-- A head, as it is handed. -/
theorem head_of_R {w : World} {cs : List Value} (h : Rd.R Try.prog w 28 cs) : ∃ n : Hd, cs = [.int .i64 n.1, .int .i64 n.2.1, .int .u64 n.2.2] ∧ 0 ≤ n.2.2 := by
  obtain ⟨hl, _⟩ := h.struct Try.underlying28
  rw [show Try.prog.cellsOf 28 = 3 by kernel_rfl] at hl
  obtain ⟨c0, c1, c2, rfl⟩ := three_of hl
  obtain ⟨a, ha, _⟩ := (Rd.R.field Try.underlying28 h 0 rfl 0 1 3 rfl rfl (by kernel_rfl)).int Try.underlying3
  obtain ⟨b, hb, _⟩ := (Rd.R.field Try.underlying28 h 1 rfl 1 1 3 rfl rfl (by kernel_rfl)).int Try.underlying3
  obtain ⟨c, hc, hw⟩ := (Rd.R.field Try.underlying28 h 2 rfl 2 1 26 rfl rfl (by kernel_rfl)).int Try.underlying26
  obtain rfl : c0 = .int .i64 a := by simpa using ha
  obtain rfl : c1 = .int .i64 b := by simpa using hb
  obtain rfl : c2 = .int .u64 c := by simpa using hc
  exact ⟨(a, b, c), rfl, (Rd.u64_bd hw).1⟩

def ocells (o : Opn) : List Value := [.int .i64 o.kind, .int .i64 o.h, .int .i64 o.i, .int .i64 o.k, .int .u64 o.v, .int .i64 o.new.1, .int .i64 o.new.2.1, .int .u64 o.new.2.2]
/-- An operation, as it is handed. -/
theorem op_of_R {w : World} {cs : List Value} (h : Rd.R Try.prog w 30 cs) : ∃ o : Opn, cs = ocells o ∧ (0 ≤ o.v ∧ o.v ≤ 18446744073709551615) ∧ 0 ≤ o.new.2.2 := by
  obtain ⟨hl, _⟩ := h.struct Try.underlying30
  rw [show Try.prog.cellsOf 30 = 8 by kernel_rfl] at hl
  obtain ⟨c0, c1, c2, c3, c4, c5, c6, c7, rfl⟩ := eight_of hl
  obtain ⟨a, ha, _⟩ := (Rd.R.field Try.underlying30 h 0 rfl 0 1 3 rfl rfl (by kernel_rfl)).int Try.underlying3
  obtain ⟨b, hb, _⟩ := (Rd.R.field Try.underlying30 h 1 rfl 1 1 3 rfl rfl (by kernel_rfl)).int Try.underlying3
  obtain ⟨c, hc, _⟩ := (Rd.R.field Try.underlying30 h 2 rfl 2 1 3 rfl rfl (by kernel_rfl)).int Try.underlying3
  obtain ⟨d, hd, _⟩ := (Rd.R.field Try.underlying30 h 3 rfl 3 1 3 rfl rfl (by kernel_rfl)).int Try.underlying3
  obtain ⟨v, hv, hw⟩ := (Rd.R.field Try.underlying30 h 4 rfl 4 1 26 rfl rfl (by kernel_rfl)).int Try.underlying26
  obtain ⟨n, hn, hm⟩ := head_of_R (show Rd.R _ w _ [c5, c6, c7] from Rd.R.field Try.underlying30 h 5 rfl 5 3 28 rfl rfl (by kernel_rfl))
  obtain rfl : c0 = .int .i64 a := by simpa using ha
  obtain rfl : c1 = .int .i64 b := by simpa using hb
  obtain rfl : c2 = .int .i64 c := by simpa using hc
  obtain rfl : c3 = .int .i64 d := by simpa using hd
  obtain rfl : c4 = .int .u64 v := by simpa using hv
  obtain ⟨rfl, rfl, rfl⟩ : c5 = .int .i64 n.1 ∧ c6 = .int .i64 n.2.1 ∧ c7 = .int .u64 n.2.2 := by simpa using hn
  exact ⟨⟨a, b, c, d, v, n⟩, rfl, Rd.u64_bd hw, hm⟩

/-- What a graph is asked. -/
theorem few_of {g : Gph} (h : fewG g = true) : rightG g = true ∧ g.1.length ≤ 60 ∧ g.2.length ≤ 200 := by
  unfold fewG at h
  simpa [and_assoc] using h
end Go.Proofs.Ytjhmlbhfnogdiaa.Op
