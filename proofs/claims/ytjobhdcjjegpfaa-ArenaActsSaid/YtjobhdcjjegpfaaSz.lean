/- Sums that don't go round, how many words an object takes, what fits, addresses and their places, as plain integers. No program in sight. -/
namespace Go.Proofs.Ytjobhdcjjegpfaa.Sz

def addOk (a b : Int) : Bool := decide (0 ≤ a ∧ 0 ≤ b ∧ a + b ≤ 9223372036854775807)
def addS (a b : Int) : Int := if addOk a b = true then a + b else 0
def objE (n : Int) : Int := if n < 0 then 1 else if 16 < n then 3 else 0
def objS (n : Int) : Int := if n < 0 then 0 else if 16 < n then 0 else n + 2
def fits (at_ n words : Int) : Bool := decide (0 ≤ at_ ∧ 0 ≤ n ∧ at_ + n ≤ words)
def addrOk (s at_ : Int) : Bool := decide ((s = 0 ∨ s = 1) ∧ 0 ≤ at_ ∧ at_ ≤ 4294967295)
def addr (s at_ : Int) : Int := if addrOk s at_ = true then (s + 1) * 4294967296 + at_ else 0
def whOk (a : Int) : Bool := decide (a / 4294967296 = 1 ∨ a / 4294967296 = 2)
def whS (a : Int) : Int := if whOk a = true then a / 4294967296 - 1 else 0
def whA (a : Int) : Int := if whOk a = true then a % 4294967296 else 0
def other (s : Int) : Int := if s = 0 then 1 else 0

theorem addOk_iff {a b : Int} : addOk a b = true ↔ 0 ≤ a ∧ 0 ≤ b ∧ a + b ≤ 9223372036854775807 := by unfold addOk; exact decide_eq_true_iff
theorem fits_iff {a n w : Int} : fits a n w = true ↔ 0 ≤ a ∧ 0 ≤ n ∧ a + n ≤ w := by unfold fits; exact decide_eq_true_iff
theorem addrOk_iff {s a : Int} : addrOk s a = true ↔ (s = 0 ∨ s = 1) ∧ 0 ≤ a ∧ a ≤ 4294967295 := by unfold addrOk; exact decide_eq_true_iff
theorem whOk_iff {a : Int} : whOk a = true ↔ a / 4294967296 = 1 ∨ a / 4294967296 = 2 := by unfold whOk; exact decide_eq_true_iff
theorem eq_false_of {b : Bool} {p : Prop} (h : b = true ↔ p) (hp : ¬ p) : b = false := by cases b; rfl; exact absurd (h.1 rfl) hp
theorem addS_ok {a b : Int} (h : addOk a b = true) : addS a b = a + b := by unfold addS; rw [if_pos h]
theorem addS_no {a b : Int} (h : addOk a b = false) : addS a b = 0 := by unfold addS; rw [h]; rfl
theorem addr_ok {s a : Int} (h : addrOk s a = true) : addr s a = (s + 1) * 4294967296 + a := by unfold addr; rw [if_pos h]
theorem addr_no {s a : Int} (h : addrOk s a = false) : addr s a = 0 := by unfold addr; rw [h]; rfl
theorem whS_ok {a : Int} (h : whOk a = true) : whS a = a / 4294967296 - 1 := by unfold whS; rw [if_pos h]
theorem whS_no {a : Int} (h : whOk a = false) : whS a = 0 := by unfold whS; rw [h]; rfl
theorem whA_ok {a : Int} (h : whOk a = true) : whA a = a % 4294967296 := by unfold whA; rw [if_pos h]
theorem whA_no {a : Int} (h : whOk a = false) : whA a = 0 := by unfold whA; rw [h]; rfl
theorem addr_bd (s a : Int) : 0 ≤ addr s a ∧ addr s a ≤ 12884901887 := by
  cases h : addrOk s a with
  | true => rw [addr_ok h]; have := addrOk_iff.1 h; omega
  | false => rw [addr_no h]; omega
theorem wh_bd (a : Int) : 0 ≤ whS a ∧ whS a ≤ 1 ∧ 0 ≤ whA a ∧ whA a ≤ 4294967295 := by
  cases h : whOk a with
  | true => rw [whS_ok h, whA_ok h]; have := whOk_iff.1 h; omega
  | false => rw [whS_no h, whA_no h]; omega
theorem wh_addr {s a : Int} (h : addrOk s a = true) : whOk (addr s a) = true ∧ whS (addr s a) = s ∧ whA (addr s a) = a := by
  have h' := addrOk_iff.1 h
  have e := addr_ok h
  have hq : whOk (addr s a) = true := whOk_iff.2 (by rw [e]; omega)
  exact ⟨hq, by rw [whS_ok hq, e]; omega, by rw [whA_ok hq, e]; omega⟩
theorem wh_zero {s a : Int} (h : addrOk s a = false) : whOk (addr s a) = false := by
  rw [addr_no h]; exact eq_false_of whOk_iff (by omega)
theorem addr_wh {a : Int} (h : whOk a = true) : addrOk (whS a) (whA a) = true ∧ addr (whS a) (whA a) = a := by
  have h' := whOk_iff.1 h
  have e1 := whS_ok h
  have e2 := whA_ok h
  have hq : addrOk (whS a) (whA a) = true := addrOk_iff.2 (by rw [e1, e2]; omega)
  exact ⟨hq, by rw [addr_ok hq, e1, e2]; omega⟩
theorem addr_ne {s a : Int} (h : addrOk s a = true) : addr s a ≠ 0 := by rw [addr_ok h]; have := addrOk_iff.1 h; omega
theorem addr_inj {s a t b : Int} (h : addrOk s a = true) (k : addrOk t b = true) : addr s a = addr t b ↔ s = t ∧ a = b := by
  rw [addr_ok h, addr_ok k]
  have h1 := addrOk_iff.1 h; have h2 := addrOk_iff.1 k
  omega
theorem obj_bd (n : Int) : 0 ≤ objS n ∧ objS n ≤ 18 := by unfold objS; split <;> (try split) <;> omega
end Go.Proofs.Ytjobhdcjjegpfaa.Sz
