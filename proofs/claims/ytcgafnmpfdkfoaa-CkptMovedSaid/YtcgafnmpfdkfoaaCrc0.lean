/- Sums over a polynomial, in plain Lean: shifting bits out, linear over xor. -/
import Init
namespace Go.Proofs.Ytcgafnmpfdkfoaa
theorem xor_zero_eq {a b : Nat} (h : a ^^^ b = 0) : a = b := by
  have := congrArg (· ^^^ b) h
  simpa [Nat.xor_assoc] using this
def fN (x : Nat) : Nat := (x / 2) ^^^ (if x % 2 = 1 then 2197175160 else 0)
def fIt : Nat → Nat → Nat
  | 0, x => x
  | k + 1, x => fIt k (fN x)
theorem fIt_add (j k x : Nat) : fIt (j + k) x = fIt k (fIt j x) := by
  induction j generalizing x with
  | zero => simp [fIt]
  | succ j ih => rw [show j + 1 + k = (j + k) + 1 by omega]; simp only [fIt]; exact ih _
theorem fN_xor (x y : Nat) : fN (x ^^^ y) = fN x ^^^ fN y := by
  unfold fN
  have h1 : (x ^^^ y) / 2 = (x / 2) ^^^ (y / 2) := by
    apply Nat.eq_of_testBit_eq; intro i
    simp [Nat.testBit_xor, Nat.testBit_div_two]
  have h2 : (x ^^^ y) % 2 = (x % 2 + y % 2) % 2 := by
    have h := Nat.testBit_xor x y 0
    simp only [Nat.testBit_zero] at h
    have k : (x ^^^ y) % 2 = 1 ↔ ¬ (x % 2 = 1 ↔ y % 2 = 1) := by
      rw [← decide_eq_true_iff (p := (x ^^^ y) % 2 = 1), h]
      by_cases hx : x % 2 = 1 <;> by_cases hy : y % 2 = 1 <;> simp [hx, hy]
    omega
  rw [h1, h2]
  by_cases hx : x % 2 = 1
  · by_cases hy : y % 2 = 1
    · rw [if_neg (by omega), if_pos hx, if_pos hy]
      rw [Nat.xor_zero]
      have : x / 2 ^^^ 2197175160 ^^^ (y / 2 ^^^ 2197175160) = x / 2 ^^^ y / 2 ^^^ (2197175160 ^^^ 2197175160) := by ac_rfl
      rw [this, Nat.xor_self, Nat.xor_zero]
    · rw [if_pos (by omega), if_pos hx, if_neg hy, Nat.xor_zero]
      ac_rfl
  · by_cases hy : y % 2 = 1
    · rw [if_pos (by omega), if_neg hx, if_pos hy, Nat.xor_zero]
      ac_rfl
    · rw [if_neg (by omega), if_neg hx, if_neg hy, Nat.xor_zero, Nat.xor_zero, Nat.xor_zero]
theorem fIt_xor (k x y : Nat) : fIt k (x ^^^ y) = fIt k x ^^^ fIt k y := by
  induction k generalizing x y with
  | zero => rfl
  | succ k ih => simp only [fIt, fN_xor, ih]
theorem fN_two (y : Nat) : fN (2 * y) = y := by
  unfold fN
  rw [if_neg (by omega), Nat.xor_zero]; omega
theorem fIt_pow (k y : Nat) : fIt k (2 ^ k * y) = y := by
  induction k generalizing y with
  | zero => simp [fIt]
  | succ k ih =>
    simp only [fIt]
    rw [show 2 ^ (k + 1) * y = 2 * (2 ^ k * y) by rw [Nat.pow_succ]; ac_rfl, fN_two, ih]
theorem fN_lt (x : Nat) (h : x < 4294967296) : fN x < 4294967296 := by
  unfold fN
  exact Nat.xor_lt_two_pow (n := 32) (by omega) (by split <;> omega)
theorem fIt_lt (k x : Nat) (h : x < 4294967296) : fIt k x < 4294967296 := by
  induction k generalizing x with
  | zero => exact h
  | succ k ih => exact ih _ (fN_lt x h)
theorem fN_zero (x : Nat) (h : x < 4294967296) (h0 : fN x = 0) : x = 0 := by
  unfold fN at h0
  by_cases hx : x % 2 = 1
  · rw [if_pos hx] at h0
    have : x / 2 = 2197175160 := xor_zero_eq h0
    omega
  · rw [if_neg hx, Nat.xor_zero] at h0
    omega
theorem fIt_zero (k x : Nat) (h : x < 4294967296) (h0 : fIt k x = 0) : x = 0 := by
  induction k generalizing x with
  | zero => exact h0
  | succ k ih => exact fN_zero x h (ih _ (fN_lt x h) h0)
theorem fIt_of_zero (k : Nat) : fIt k 0 = 0 := by
  induction k with
  | zero => rfl
  | succ k ih => simpa [fIt, fN] using ih
/-- A byte ahead of a number. -/
theorem byte_xor (c n : Nat) (h : c < 256) : c + 256 * n = c ^^^ (256 * n) := by
  apply Nat.eq_of_testBit_eq
  intro i
  have e : c + 256 * n = 2 ^ 8 * n + c := by omega
  rw [Nat.testBit_xor, e, Nat.testBit_two_pow_mul_add n (by omega : c < 2 ^ 8), show 256 * n = 2 ^ 8 * n by omega, Nat.testBit_two_pow_mul]
  by_cases hi : i < 8
  · simp [hi, Nat.not_le.2 hi]
  · have : c.testBit i = false := Nat.testBit_lt_two_pow (Nat.lt_of_lt_of_le h (by calc 256 = 2 ^ 8 := by rfl
      _ ≤ 2 ^ i := Nat.pow_le_pow_right (by omega) (by omega)))
    simp [hi, this, Nat.not_lt.1 hi]
def tabN (i : Nat) : Nat := fIt 8 i
def stepN (r c : Nat) : Nat := fIt 8 (r ^^^ c)
theorem tabN_lt (i : Nat) (h : i < 4294967296) : tabN i < 4294967296 := fIt_lt 8 i h
theorem xor_mod (r c : Nat) (hc : c < 256) : (r ^^^ c) % 256 = (r % 256) ^^^ c ∧ (r ^^^ c) / 256 = r / 256 := by
  constructor
  · apply Nat.eq_of_testBit_eq; intro i
    rw [show (256 : Nat) = 2 ^ 8 by rfl, Nat.testBit_mod_two_pow, Nat.testBit_xor, Nat.testBit_xor, Nat.testBit_mod_two_pow]
    by_cases hi : i < 8
    · simp [hi]
    · have : c.testBit i = false := Nat.testBit_lt_two_pow (Nat.lt_of_lt_of_le hc (by calc 256 = 2 ^ 8 := by rfl
        _ ≤ 2 ^ i := Nat.pow_le_pow_right (by omega) (by omega)))
      simp [hi, this]
  · apply Nat.eq_of_testBit_eq; intro i
    rw [show (256 : Nat) = 2 ^ 8 by rfl, Nat.testBit_div_two_pow, Nat.testBit_xor, Nat.testBit_div_two_pow]
    have : c.testBit (i + 8) = false := Nat.testBit_lt_two_pow (Nat.lt_of_lt_of_le hc (by calc 256 = 2 ^ 8 := by rfl
      _ ≤ 2 ^ (i + 8) := Nat.pow_le_pow_right (by omega) (by omega)))
    simp [this]
theorem stepN_eq (r c : Nat) (hc : c < 256) : stepN r c = (r / 256) ^^^ tabN ((r % 256) ^^^ c) := by
  unfold stepN tabN
  obtain ⟨h1, h2⟩ := xor_mod r c hc
  have h := byte_xor ((r ^^^ c) % 256) ((r ^^^ c) / 256) (Nat.mod_lt _ (by omega))
  rw [Nat.mod_add_div] at h
  rw [h, fIt_xor, show (256 : Nat) * ((r ^^^ c) / 256) = 2 ^ 8 * ((r ^^^ c) / 256) by rfl, fIt_pow, h1, h2, Nat.xor_comm]
theorem xor_byte_lt (r c : Nat) (hc : c < 256) : (r % 256) ^^^ c < 256 := Nat.xor_lt_two_pow (n := 8) (Nat.mod_lt _ (by omega)) hc
theorem stepN_lt (r c : Nat) (hr : r < 4294967296) (hc : c < 256) : stepN r c < 4294967296 := fIt_lt 8 _ (Nat.xor_lt_two_pow (n := 32) hr (by omega))
def overN : Nat → List Nat → Nat
  | r, [] => r
  | r, c :: cs => overN (stepN r c) cs
theorem overN_snoc (r : Nat) (xs : List Nat) (c : Nat) : overN r (xs ++ [c]) = stepN (overN r xs) c := by
  induction xs generalizing r with
  | nil => rfl
  | cons x xs ih => exact ih _
theorem overN_append (r : Nat) (xs ys : List Nat) : overN r (xs ++ ys) = overN (overN r xs) ys := by
  induction xs generalizing r with
  | nil => rfl
  | cons x xs ih => exact ih _
theorem overN_lt (r : Nat) (xs : List Nat) (hr : r < 4294967296) (h : ∀ x ∈ xs, x < 256) : overN r xs < 4294967296 := by
  induction xs generalizing r with
  | nil => exact hr
  | cons x xs ih => exact ih _ (stepN_lt r x hr (h x (by simp))) (fun y hy => h y (by simp [hy]))
def numN : List Nat → Nat
  | [] => 0
  | c :: cs => c + 256 * numN cs
theorem overN_num (r : Nat) (xs : List Nat) (h : ∀ x ∈ xs, x < 256) : overN r xs = fIt (8 * xs.length) (r ^^^ numN xs) := by
  induction xs generalizing r with
  | nil => simp [overN, numN, fIt]
  | cons x xs ih =>
    have hx := h x (by simp)
    simp only [overN, numN, List.length_cons]
    rw [ih _ (fun y hy => h y (by simp [hy])), show 8 * (xs.length + 1) = 8 + 8 * xs.length by omega, fIt_add, byte_xor _ _ hx, ← Nat.xor_assoc, fIt_xor 8, show (256 : Nat) * numN xs = 2 ^ 8 * numN xs by rfl, fIt_pow]
    rfl
/-- A pattern changes the sum by its own sum. -/
theorem overN_xor (r s : Nat) (xs ys : List Nat) (hl : xs.length = ys.length) : overN (r ^^^ s) (List.zipWith (· ^^^ ·) xs ys) = overN r xs ^^^ overN s ys := by
  induction xs generalizing r s ys with
  | nil => cases ys with
    | nil => rfl
    | cons => simp at hl
  | cons x xs ih => cases ys with
    | nil => simp at hl
    | cons y ys =>
      simp only [List.zipWith_cons_cons, overN]
      rw [← ih _ _ ys (by simpa using hl)]
      congr 1
      unfold stepN
      rw [← fIt_xor]
      congr 1
      ac_rfl
end Go.Proofs.Ytcgafnmpfdkfoaa
