/- Digits of sixteen bits: plain arithmetic. -/
namespace Go.Proofs.Ythpdfacdjgkmpaa.Wi

/-- A number's digits. -/
def dig (N i : Nat) : Nat := N / 65536 ^ i % 65536
theorem pow_pos (k : Nat) : 0 < 65536 ^ k := Nat.pow_pos (by omega)
theorem pow_step (k : Nat) : 65536 ^ (k + 1) = 65536 ^ k * 65536 := Nat.pow_succ ..
theorem dig_lt (N i : Nat) : dig N i < 65536 := Nat.mod_lt _ (by omega)
theorem dig_zero (i : Nat) : dig 0 i = 0 := by simp [dig]
theorem dig_small {N i : Nat} (h : N < 65536 ^ i) : dig N i = 0 := by simp [dig, Nat.div_eq_of_lt h]
/-- A number's low digits, and the next one. -/
theorem mod_step (N k : Nat) : N % 65536 ^ (k + 1) = N % 65536 ^ k + dig N k * 65536 ^ k := by
  rw [pow_step, Nat.mod_mul, Nat.mul_comm]; rfl
theorem addmul_mod {L k : Nat} (y : Nat) (h : L < 65536 ^ k) : (L + y * 65536 ^ k) % 65536 ^ (k + 1) = L + (y % 65536) * 65536 ^ k := by
  rw [pow_step, Nat.mod_mul, Nat.add_mul_mod_self_right, Nat.mod_eq_of_lt h, Nat.add_mul_div_right _ _ (pow_pos k), Nat.div_eq_of_lt h, Nat.zero_add, Nat.mul_comm (y % 65536)]
/-- The next digit of a number of which is known what it is, the low digits apart. -/
theorem dig_of {X k y : Nat} (h : X % 65536 ^ (k + 1) = (X % 65536 ^ k + y * 65536 ^ k) % 65536 ^ (k + 1)) : dig X k = y % 65536 := by
  rw [addmul_mod y (Nat.mod_lt _ (pow_pos k)), mod_step] at h
  have := Nat.add_left_cancel h
  exact Nat.eq_of_mul_eq_mul_right (pow_pos k) this

/-! ### Sums -/
def car (N M k : Nat) : Nat := (N % 65536 ^ k + M % 65536 ^ k) / 65536 ^ k
theorem car_zero (N M : Nat) : car N M 0 = 0 := by simp [car, Nat.mod_one]
theorem car_le (N M k : Nat) : car N M k ≤ 1 := by
  unfold car
  have h := pow_pos k
  have h1 := Nat.mod_lt N h
  have h2 := Nat.mod_lt M h
  have : (N % 65536 ^ k + M % 65536 ^ k) / 65536 ^ k < 2 := by rw [Nat.div_lt_iff_lt_mul h]; omega
  omega
theorem car_eq (N M k : Nat) : N % 65536 ^ k + M % 65536 ^ k = (N + M) % 65536 ^ k + car N M k * 65536 ^ k := by
  unfold car
  rw [Nat.add_mod N M]
  have := Nat.mod_add_div (N % 65536 ^ k + M % 65536 ^ k) (65536 ^ k)
  rw [Nat.mul_comm] at this
  exact this.symm
theorem car_sum (N M k : Nat) : (car N M k + dig N k + dig M k) % 65536 = dig (N + M) k ∧ (car N M k + dig N k + dig M k) / 65536 = car N M (k + 1) := by
  have e : N % 65536 ^ (k + 1) + M % 65536 ^ (k + 1) = (N + M) % 65536 ^ k + (car N M k + dig N k + dig M k) * 65536 ^ k := by
    rw [mod_step, mod_step]
    have := car_eq N M k
    rw [Nat.add_mul, Nat.add_mul]
    omega
  refine ⟨(dig_of ?_).symm, ?_⟩
  · rw [← e, Nat.add_mod N M]
  · unfold car
    rw [e, pow_step, ← Nat.div_div_eq_div_mul, Nat.add_mul_div_right _ _ (pow_pos k), Nat.div_eq_of_lt (Nat.mod_lt _ (pow_pos k)), Nat.zero_add]
    rfl

/-! ### Differences -/
theorem bor_step {N M : Nat} (h : M ≤ N) (k : Nat) : (dig N k + 65536 - dig M k - car (N - M) M k) % 65536 = dig (N - M) k ∧ 1 - (dig N k + 65536 - dig M k - car (N - M) M k) / 65536 = car (N - M) M (k + 1) ∧ dig M k + car (N - M) M k ≤ dig N k + 65536 := by
  have h1 := car_sum (N - M) M k
  rw [Nat.sub_add_cancel h] at h1
  have l1 := dig_lt (N - M) k
  have l2 := dig_lt M k
  have l3 := car_le (N - M) M k
  omega

/-! ### Order -/
theorem mod_lt_of {N M i k : Nat} (hk : k < i) (hhi : ∀ j, k < j → j < i → dig N j = dig M j) (h : dig N k < dig M k) : N % 65536 ^ i < M % 65536 ^ i := by
  induction i with
  | zero => omega
  | succ i ih =>
    rw [mod_step, mod_step]
    by_cases e : k = i
    · subst e
      have h1 := Nat.mod_lt N (pow_pos k)
      have : (dig N k + 1) * 65536 ^ k ≤ dig M k * 65536 ^ k := Nat.mul_le_mul_right _ h
      rw [Nat.add_mul] at this
      omega
    · have := ih (by omega) (fun j h1 h2 => hhi j h1 (by omega))
      rw [hhi i (by omega) (by omega)]
      omega
theorem mod_eq_of {N M i : Nat} (h : ∀ j, j < i → dig N j = dig M j) : N % 65536 ^ i = M % 65536 ^ i := by
  induction i with
  | zero => simp [Nat.mod_one]
  | succ i ih => rw [mod_step, mod_step, ih (fun j hj => h j (by omega)), h i (by omega)]

/-! ### Products -/
/-- What is out behind i rows. -/
def row (N M i : Nat) : Nat := (N % 65536 ^ i) * M
theorem row_step (N M i : Nat) : row N M (i + 1) = row N M i + dig N i * M * 65536 ^ i := by
  unfold row
  rw [mod_step, Nat.add_mul, Nat.mul_right_comm]
/-- The carry ahead of column k of row i. -/
def tcar (N M i k : Nat) : Nat := (row N M i % 65536 ^ (i + k) + dig N i * (M % 65536 ^ k) * 65536 ^ i) / 65536 ^ (i + k)
theorem mod_row (N M i k : Nat) : row N M (i + 1) % 65536 ^ (i + k) = (row N M i % 65536 ^ (i + k) + dig N i * (M % 65536 ^ k) * 65536 ^ i) % 65536 ^ (i + k) := by
  rw [row_step, Nat.add_mod]
  have e : dig N i * M * 65536 ^ i % 65536 ^ (i + k) = dig N i * (M % 65536 ^ k) * 65536 ^ i % 65536 ^ (i + k) := by
    rw [Nat.pow_add, Nat.mul_comm (dig N i * M), Nat.mul_mod_mul_left, Nat.mul_comm (dig N i * (M % 65536 ^ k)), Nat.mul_mod_mul_left]
    congr 1
    rw [Nat.mul_mod, Nat.mul_mod (dig N i) (M % 65536 ^ k), Nat.mod_mod]
  rw [e, Nat.add_mod_mod]
theorem tcar_eq (N M i k : Nat) : row N M i % 65536 ^ (i + k) + dig N i * (M % 65536 ^ k) * 65536 ^ i = row N M (i + 1) % 65536 ^ (i + k) + tcar N M i k * 65536 ^ (i + k) := by
  rw [mod_row]
  unfold tcar
  have := Nat.mod_add_div (row N M i % 65536 ^ (i + k) + dig N i * (M % 65536 ^ k) * 65536 ^ i) (65536 ^ (i + k))
  rw [Nat.mul_comm (65536 ^ (i + k))] at this
  exact this.symm
theorem tcar_zero (N M i : Nat) : tcar N M i 0 = 0 := by
  unfold tcar
  rw [Nat.pow_zero, Nat.mod_one, Nat.mul_zero, Nat.zero_mul, Nat.add_zero]
  exact Nat.div_eq_of_lt (Nat.mod_lt _ (pow_pos _))
theorem tcar_le (N M i k : Nat) : tcar N M i k ≤ 65536 := by
  unfold tcar
  have h := pow_pos (i + k)
  have h1 := Nat.mod_lt (row N M i) h
  have h2 : dig N i * (M % 65536 ^ k) * 65536 ^ i ≤ 65536 * 65536 ^ (i + k) := by
    rw [Nat.pow_add, Nat.mul_comm (65536 ^ i), ← Nat.mul_assoc]
    exact Nat.mul_le_mul_right _ (Nat.mul_le_mul (Nat.le_of_lt (dig_lt N i)) (Nat.le_of_lt (Nat.mod_lt _ (pow_pos k))))
  have : (row N M i % 65536 ^ (i + k) + dig N i * (M % 65536 ^ k) * 65536 ^ i) / 65536 ^ (i + k) < 65537 := by
    rw [Nat.div_lt_iff_lt_mul h]
    omega
  omega
theorem tcar_sum (N M i k : Nat) : (dig (row N M i) (i + k) + tcar N M i k + dig N i * dig M k) % 65536 = dig (row N M (i + 1)) (i + k) ∧
    (dig (row N M i) (i + k) + tcar N M i k + dig N i * dig M k) / 65536 = tcar N M i (k + 1) := by
  have e : row N M i % 65536 ^ (i + (k + 1)) + dig N i * (M % 65536 ^ (k + 1)) * 65536 ^ i = row N M (i + 1) % 65536 ^ (i + k) + (dig (row N M i) (i + k) + tcar N M i k + dig N i * dig M k) * 65536 ^ (i + k) := by
    rw [← Nat.add_assoc, mod_step, mod_step, Nat.mul_add, Nat.add_mul]
    have h := tcar_eq N M i k
    have e2 : dig N i * (dig M k * 65536 ^ k) * 65536 ^ i = dig N i * dig M k * 65536 ^ (i + k) := by
      rw [Nat.pow_add, Nat.mul_comm (65536 ^ i), ← Nat.mul_assoc (dig N i), Nat.mul_assoc]
    rw [e2, Nat.add_mul, Nat.add_mul]
    omega
  refine ⟨(dig_of ?_).symm, ?_⟩
  · rw [← e]
    exact mod_row N M i (k + 1)
  · unfold tcar
    rw [e, ← Nat.add_assoc, pow_step, ← Nat.div_div_eq_div_mul, Nat.add_mul_div_right _ _ (pow_pos _), Nat.div_eq_of_lt (Nat.mod_lt _ (pow_pos _)), Nat.zero_add]
    rfl

/-- A number below 2^320 is told by its digits. -/
theorem row_full {N M : Nat} (h : N < 65536 ^ 8) : row N M 8 = N * M := by
  unfold row
  rw [Nat.mod_eq_of_lt h]
theorem row_zero (N M : Nat) : row N M 0 = 0 := by
  unfold row
  rw [Nat.pow_zero, Nat.mod_one, Nat.zero_mul]
theorem row_lt {N M : Nat} (h : M < 65536 ^ 8) (i : Nat) : row N M i < 65536 ^ (i + 8) := by
  unfold row
  rw [Nat.pow_add]
  have h1 := Nat.mod_lt N (pow_pos i)
  exact Nat.mul_lt_mul'' h1 h
theorem dig_above {N M : Nat} (h : M < 65536 ^ 8) (i j : Nat) (hj : i + 8 ≤ j) : dig (row N M i) j = 0 :=
  dig_small (Nat.lt_of_lt_of_le (row_lt h i) (Nat.pow_le_pow_right (by omega) hj))
/-- A further row leaves the lower digits. -/
theorem row_low (N M q i : Nat) (h : i < q) : dig (row N M (q + 1)) i = dig (row N M q) i := by
  rw [row_step]
  obtain ⟨d, rfl⟩ : ∃ d, q = i + 1 + d := ⟨q - i - 1, by omega⟩
  show (row N M (i + 1 + d) + dig N (i + 1 + d) * M * 65536 ^ (i + 1 + d)) / 65536 ^ i % 65536 = row N M (i + 1 + d) / 65536 ^ i % 65536
  rw [show dig N (i + 1 + d) * M * 65536 ^ (i + 1 + d) = (dig N (i + 1 + d) * M * 65536 ^ d * 65536) * 65536 ^ i by
    rw [Nat.pow_add, pow_step]; simp only [Nat.mul_assoc, Nat.mul_left_comm, Nat.mul_comm], Nat.add_mul_div_right _ _ (pow_pos i), Nat.add_mul_mod_self_right]
end Go.Proofs.Ythpdfacdjgkmpaa.Wi
