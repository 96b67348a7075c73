/- Complex numbers of two 16-bit parts in a word, as plain integers: the parts, packing, sums, products, conjugates, powers and their laws. No program in sight. -/
namespace Go.Proofs.Ytjhmlbhfnogdiaa.Nm

/-- A number gone round at 2^16, with a sign. -/
def s16 (x : Int) : Int := if 32768 ≤ x % 65536 then x % 65536 - 65536 else x % 65536
def reW (w : Int) : Int := s16 (w / 65536)
def imW (w : Int) : Int := s16 w
def packW (x y : Int) : Int := x % 65536 * 65536 + y % 65536
def normW (w : Int) : Int := w % 4294967296
def addW (a b : Int) : Int := packW (reW a + reW b) (imW a + imW b)
def mulW (a b : Int) : Int := packW (reW a * reW b - imW a * imW b) (reW a * imW b + imW a * reW b)
def conjW (a : Int) : Int := packW (reW a) (-imW a)
def powW (a : Int) : Nat → Int
  | 0 => packW 1 0
  | n + 1 => mulW (powW a n) a

theorem s16_bd (x : Int) : -32768 ≤ s16 x ∧ s16 x ≤ 32767 := by unfold s16; split <;> omega
theorem s16_mod (x : Int) : s16 x % 65536 = x % 65536 := by unfold s16; split <;> omega
theorem s16_id {x : Int} (h1 : -32768 ≤ x) (h2 : x ≤ 32767) : s16 x = x := by unfold s16; split <;> omega
theorem s16_congr {x y : Int} (h : x % 65536 = y % 65536) : s16 x = s16 y := by unfold s16; rw [h]
theorem re_bd (a : Int) : -32768 ≤ reW a ∧ reW a ≤ 32767 := s16_bd _
theorem im_bd (a : Int) : -32768 ≤ imW a ∧ imW a ≤ 32767 := s16_bd _
theorem pack_bd (x y : Int) : 0 ≤ packW x y ∧ packW x y ≤ 4294967295 := by unfold packW; omega
theorem re_pack (x y : Int) : reW (packW x y) = s16 x := by
  unfold reW packW; refine s16_congr ?_; omega
theorem im_pack (x y : Int) : imW (packW x y) = s16 y := by
  unfold imW packW; refine s16_congr ?_; omega
theorem pack_congr {x y x' y' : Int} (h1 : x % 65536 = x' % 65536) (h2 : y % 65536 = y' % 65536) : packW x y = packW x' y' := by
  unfold packW; rw [h1, h2]
theorem pack_parts (a : Int) : packW (reW a) (imW a) = normW a := by
  unfold packW reW imW normW; rw [s16_mod, s16_mod]; omega

/-- The same modulo 2^16. -/
def E (x y : Int) : Prop := x % 65536 = y % 65536
theorem E.refl (x : Int) : E x x := rfl
theorem E.symm {x y : Int} (h : E x y) : E y x := Eq.symm h
theorem E.trans {x y z : Int} (h : E x y) (k : E y z) : E x z := Eq.trans h k
theorem E.add {x y u v : Int} (h : E x y) (k : E u v) : E (x + u) (y + v) := by unfold E at *; omega
theorem E.sub {x y u v : Int} (h : E x y) (k : E u v) : E (x - u) (y - v) := by unfold E at *; omega
theorem E.neg {x y : Int} (h : E x y) : E (-x) (-y) := by unfold E at *; omega
theorem E.mul {x y u v : Int} (h : E x y) (k : E u v) : E (x * u) (y * v) := by
  unfold E at *; rw [Int.mul_emod, h, k, ← Int.mul_emod]
theorem E.of {x y : Int} (h : x = y) : E x y := by rw [h]; rfl
theorem s16_E (x : Int) : E (s16 x) x := s16_mod x

theorem re_add (a b : Int) : E (reW (addW a b)) (reW a + reW b) := by unfold addW; rw [re_pack]; exact s16_E _
theorem im_add (a b : Int) : E (imW (addW a b)) (imW a + imW b) := by unfold addW; rw [im_pack]; exact s16_E _
theorem re_mul (a b : Int) : E (reW (mulW a b)) (reW a * reW b - imW a * imW b) := by unfold mulW; rw [re_pack]; exact s16_E _
theorem im_mul (a b : Int) : E (imW (mulW a b)) (reW a * imW b + imW a * reW b) := by unfold mulW; rw [im_pack]; exact s16_E _
theorem re_conj (a : Int) : E (reW (conjW a)) (reW a) := by unfold conjW; rw [re_pack]; exact s16_E _
theorem im_conj (a : Int) : E (imW (conjW a)) (-imW a) := by unfold conjW; rw [im_pack]; exact s16_E _

theorem add_comm (a b : Int) : addW a b = addW b a := by unfold addW; rw [Int.add_comm (reW a), Int.add_comm (imW a)]
theorem mul_comm (a b : Int) : mulW a b = mulW b a := by
  unfold mulW
  rw [Int.mul_comm (reW a) (reW b), Int.mul_comm (imW a) (imW b), Int.add_comm (reW a * imW b), Int.mul_comm (imW a) (reW b), Int.mul_comm (reW a) (imW b)]
theorem add_assoc (a b c : Int) : addW (addW a b) c = addW a (addW b c) := by
  refine pack_congr ?_ ?_
  · exact ((re_add a b).add (E.refl _)).trans ((E.of (by omega)).trans ((E.refl _).add (re_add b c).symm))
  · exact ((im_add a b).add (E.refl _)).trans ((E.of (by omega)).trans ((E.refl _).add (im_add b c).symm))
theorem mul_assoc (a b c : Int) : mulW (mulW a b) c = mulW a (mulW b c) := by
  refine pack_congr ?_ ?_
  · refine E.trans (((re_mul a b).mul (E.refl _)).sub ((im_mul a b).mul (E.refl _))) (E.trans (E.of ?_) (E.symm (((E.refl _).mul (re_mul b c)).sub ((E.refl _).mul (im_mul b c)))))
    grind
  · refine E.trans (((re_mul a b).mul (E.refl _)).add ((im_mul a b).mul (E.refl _))) (E.trans (E.of ?_) (E.symm (((E.refl _).mul (im_mul b c)).add ((E.refl _).mul (re_mul b c)))))
    grind
theorem mul_add (a b c : Int) : mulW a (addW b c) = addW (mulW a b) (mulW a c) := by
  refine pack_congr ?_ ?_
  · refine E.trans (((E.refl _).mul (re_add b c)).sub ((E.refl _).mul (im_add b c))) (E.trans (E.of ?_) (E.symm ((re_mul a b).add (re_mul a c))))
    grind
  · refine E.trans (((E.refl _).mul (im_add b c)).add ((E.refl _).mul (re_add b c))) (E.trans (E.of ?_) (E.symm ((im_mul a b).add (im_mul a c))))
    grind

theorem conj_im (a : Int) : imW (mulW a (conjW a)) = 0 := by
  unfold mulW
  rw [im_pack]
  have h : E (reW a * imW (conjW a) + imW a * reW (conjW a)) 0 := by
    refine E.trans (((E.refl _).mul (im_conj a)).add ((E.refl _).mul (re_conj a))) (E.of ?_)
    grind
  rw [s16_congr h]; rfl
theorem conj_conj (a : Int) : conjW (conjW a) = normW a := by
  rw [← pack_parts]
  exact pack_congr (re_conj a) ((im_conj a).neg.trans (E.of (by omega)))
theorem conj_mul (a b : Int) : conjW (mulW a b) = mulW (conjW a) (conjW b) := by
  refine pack_congr ?_ ?_
  · refine E.trans (re_mul a b) (E.trans (E.of ?_) (E.symm (((re_conj a).mul (re_conj b)).sub ((im_conj a).mul (im_conj b)))))
    grind
  · refine E.trans (im_mul a b).neg (E.trans (E.of ?_) (E.symm (((re_conj a).mul (im_conj b)).add ((im_conj a).mul (re_conj b)))))
    grind
theorem conj_add (a b : Int) : conjW (addW a b) = addW (conjW a) (conjW b) := by
  refine pack_congr ?_ ?_
  · exact (re_add a b).trans ((re_conj a).symm.add (re_conj b).symm)
  · exact ((im_add a b).neg).trans ((E.of (by omega)).trans ((im_conj a).symm.add (im_conj b).symm))

theorem re_norm (a : Int) : reW (normW a) = reW a := by unfold reW normW; refine s16_congr ?_; omega
theorem im_norm (a : Int) : imW (normW a) = imW a := by unfold imW normW; refine s16_congr ?_; omega
theorem add_zero (a : Int) : addW a 0 = normW a := by
  have h1 : reW 0 = 0 := by decide
  have h2 : imW 0 = 0 := by decide
  unfold addW; rw [h1, h2, Int.add_zero, Int.add_zero]; exact pack_parts a
theorem mul_zero (a : Int) : mulW a 0 = 0 := by
  have h1 : reW 0 = 0 := by decide
  have h2 : imW 0 = 0 := by decide
  unfold mulW; rw [h1, h2]; simp [packW]
theorem mul_one (a : Int) : mulW a (packW 1 0) = normW a := by
  have h1 : reW (packW 1 0) = 1 := by decide
  have h2 : imW (packW 1 0) = 0 := by decide
  unfold mulW; rw [h1, h2, ← pack_parts]; simp
theorem norm_mul (a b : Int) : mulW (normW a) b = mulW a b := by unfold mulW; rw [re_norm, im_norm]
theorem norm_pack (x y : Int) : normW (packW x y) = packW x y := by unfold normW packW; omega
theorem turns (a : Int) : mulW (mulW (mulW (mulW a (packW 0 1)) (packW 0 1)) (packW 0 1)) (packW 0 1) = normW a := by
  rw [mul_assoc, mul_assoc, mul_assoc]
  have : mulW (packW 0 1) (mulW (packW 0 1) (mulW (packW 0 1) (packW 0 1))) = packW 1 0 := by decide
  rw [this]; exact mul_one a
theorem pow_norm (a : Int) (n : Nat) : normW (powW a n) = powW a n := by
  cases n <;> exact norm_pack _ _
theorem one_mul_pow (a : Int) (n : Nat) : mulW (powW a n) (packW 1 0) = powW a n := by rw [mul_one, pow_norm]
theorem pow_add (a : Int) (n m : Nat) : powW a (n + m) = mulW (powW a n) (powW a m) := by
  induction m with
  | zero => exact (one_mul_pow a n).symm
  | succ m ih => show mulW (powW a (n + m)) a = mulW (powW a n) (mulW (powW a m) a); rw [ih, mul_assoc]
theorem pow_one (a : Int) : powW a 1 = normW a := by
  show mulW (packW 1 0) a = normW a
  rw [mul_comm]; exact mul_one a
/-- Other bits don't count. -/
theorem re_other {a x : Int} (h : x % 4294967296 = a % 4294967296) : reW x = reW a := by unfold reW; refine s16_congr ?_; omega
theorem im_other {a x : Int} (h : x % 4294967296 = a % 4294967296) : imW x = imW a := by unfold imW; refine s16_congr ?_; omega
theorem add_bd (a b : Int) : 0 ≤ addW a b ∧ addW a b ≤ 4294967295 := pack_bd _ _
theorem mul_bd (a b : Int) : 0 ≤ mulW a b ∧ mulW a b ≤ 4294967295 := pack_bd _ _
theorem pow_bd (a : Int) (n : Nat) : 0 ≤ powW a n ∧ powW a n ≤ 4294967295 := by cases n <;> exact pack_bd _ _
end Go.Proofs.Ytjhmlbhfnogdiaa.Nm
