/- Wide numbers: moved by bits; lengths: walks. -/
import Derived.Test.YthpdfacdjgkmpaaDh
namespace Go.Proofs.Ythpdfacdjgkmpaa.Wi
open Go.RowKit K

def wn (X : Int) : Value := wv (X / 18446744073709551616) (X % 18446744073709551616)
theorem wn_of {X a b : Int} (hb : 0 ≤ b ∧ b < 18446744073709551616) (hX : X = a * 18446744073709551616 + b) : wn X = .agg #[.int .u64 a, .int .u64 b] := by
  have e1 : X / 18446744073709551616 = a := by omega
  have e2 : X % 18446744073709551616 = b := by omega
  rw [wn, e1, e2, wv]
/-- 'Or' of parts that do not meet is their sum. -/
theorem or_sum {x y : Int} (k : Nat) (hx : 0 ≤ x) (hxk : x < 2 ^ k) (hy : 0 ≤ y) (hyk : y % 2 ^ k = 0) (hk : k ≤ 64) (hy64 : y < 18446744073709551616) : bits .or .u64 x y = x + y := by
  obtain ⟨a, rfl⟩ := Int.eq_ofNat_of_zero_le hx
  obtain ⟨b, rfl⟩ := Int.eq_ofNat_of_zero_le hy
  have ha : a < 2 ^ k := by exact_mod_cast hxk
  have hb : b % 2 ^ k = 0 := by exact_mod_cast hyk
  have h64 : 2 ^ k ≤ 2 ^ 64 := Nat.pow_le_pow_right (by omega) hk
  rw [bits_or_u64_nat a b (by omega) (by omega)]
  have e : b = 2 ^ k * (b / 2 ^ k) := by have := Nat.div_add_mod b (2 ^ k); omega
  have := Nat.two_pow_add_eq_or_of_lt ha (b / 2 ^ k)
  rw [← e] at this
  rw [Nat.or_comm, ← this]
  omega
theorem pow_split {n : Int} (h0 : 0 ≤ n) (h1 : n ≤ 64) : (2 : Int) ^ n.toNat * 2 ^ (64 - n).toNat = 18446744073709551616 := by
  rw [← Int.pow_add, show n.toNat + (64 - n).toNat = 64 by omega]; decide
theorem two_pos (k : Nat) : (0 : Int) < 2 ^ k := Int.pow_pos (by decide)
/-- What moves up by q leaves a remainder in whole q. -/
theorem up_parts {p q a : Int} (hp : 0 < p) (hq : 0 < q) (hpq : p * q = 18446744073709551616) (_ : 0 ≤ a) : a * q % 18446744073709551616 = a % p * q ∧ a * q / 18446744073709551616 = a / p := by
  have h1 : a * q = a / p * 18446744073709551616 + a % p * q := by
    rw [← hpq, ← Int.mul_assoc, ← Int.add_mul, Int.mul_comm (a / p) p, Int.mul_ediv_add_emod]
  have h2 : 0 ≤ a % p := Int.emod_nonneg _ (by omega)
  have h3 : a % p + 1 ≤ p := Int.emod_lt_of_pos _ hp
  have h4 : 0 ≤ a % p * q := Int.mul_nonneg h2 (by omega)
  have h5 : (a % p + 1) * q ≤ p * q := Int.mul_le_mul_of_nonneg_right h3 (by omega)
  rw [Int.add_mul, Int.one_mul] at h5
  generalize a % p * q = r at *
  generalize a / p = t at *
  omega
theorem down_parts {p q a b : Int} (hp : 0 < p) (hq : 0 < q) (hpq : p * q = 18446744073709551616) (ha : 0 ≤ a) (hb : 0 ≤ b) (hb' : b < 18446744073709551616) :
    (a * 18446744073709551616 + b) / p = a / p * 18446744073709551616 + (b / p + a * q % 18446744073709551616) ∧ 0 ≤ b / p ∧ b / p < q ∧ 0 ≤ b / p + a * q % 18446744073709551616 ∧ b / p + a * q % 18446744073709551616 < 18446744073709551616 ∧ a * q % 18446744073709551616 % q = 0 := by
  obtain ⟨h1, h2⟩ := up_parts hp hq hpq ha
  have h3 : 0 ≤ b / p := Int.ediv_nonneg hb (by omega)
  have h4 : b / p < q := Int.ediv_lt_of_lt_mul hp (by rw [Int.mul_comm, hpq]; exact hb')
  have h5 : (a * 18446744073709551616 + b) / p = a * q + b / p := by
    rw [← hpq, Int.mul_left_comm, Int.add_comm, Int.add_mul_ediv_left _ _ (by omega), Int.add_comm]
  have h6 : a * q = a / p * 18446744073709551616 + a % p * q := by
    rw [← hpq, ← Int.mul_assoc, ← Int.add_mul, Int.mul_comm (a / p) p, Int.mul_ediv_add_emod]
  have h7 : 0 ≤ a % p := Int.emod_nonneg _ (by omega)
  have h8 : (a % p + 1) * q ≤ p * q := Int.mul_le_mul_of_nonneg_right (Int.emod_lt_of_pos _ hp) (by omega)
  have h9 : 0 ≤ a % p * q := Int.mul_nonneg h7 (by omega)
  rw [Int.add_mul, Int.one_mul, hpq] at h8
  refine ⟨?_, h3, h4, ?_, ?_, by rw [h1, Int.mul_emod_left]⟩
  · rw [h5, h1, h6]
    generalize a % p * q = r at *
    generalize a / p = t at *
    omega
  · rw [h1]; generalize a % p * q = r at *; omega
  · rw [h1]; generalize a % p * q = r at *; omega
set_option maxHeartbeats 4000000 in
theorem right_any (w : World) (a b n : Int) (ha : U a) (hb : U b) (hn : n < 9223372036854775808) (hn' : -9223372036854775808 ≤ n) : Calls Try.prog 61 #[wv a b, .int .i64 n] w (Ret w (wn (wval a b / 2 ^ n.toNat))) := by
  unfold U at ha hb
  obtain ⟨V, hV⟩ : ∃ V, wn (wval a b / 2 ^ n.toNat) = V := ⟨_, rfl⟩
  rw [hV]
  have HV := Lib.hid hV
  clear hV
  unfold wv
  by_cases h0 : n ≤ 0
  · go_enter Try.func61, Try.ntmps61
    go_wp2
    refine bodyPost_ret (v := .agg #[.int .u64 a, .int .u64 b]) (by simp [results, Try.results61, go_sem]; done) rfl ⟨congrArg Ending.returned ?_, by (repeat (first | exact Below.refl _ _ | refine b_alloc ?_ _ | refine b_set ?_ (by first | exact Nat.le_refl _ | (simp; omega) | omega | simp) _ | refine b_drew ?_))⟩
    rw [← HV.out, show n.toNat = 0 by omega, Int.pow_zero, Int.ediv_one]
    exact (wn_of hb rfl).symm
  · by_cases h1 : 128 ≤ n
    · go_enter Try.func61, Try.ntmps61
      go_wp2
      refine bodyPost_ret (v := .agg #[.int .u64 0, .int .u64 0]) (by simp [results, Try.results61, go_sem]; done) rfl ⟨congrArg Ending.returned ?_, by (repeat (first | exact Below.refl _ _ | refine b_alloc ?_ _ | refine b_set ?_ (by first | exact Nat.le_refl _ | (simp; omega) | omega | simp) _ | refine b_drew ?_))⟩
      rw [← HV.out]
      refine (wn_of (by omega) ?_).symm
      have h3 : (2 : Int) ^ 128 ≤ 2 ^ n.toNat := by exact_mod_cast Nat.pow_le_pow_right (n := 2) (by omega) (show 128 ≤ n.toNat by omega)
      rw [Int.ediv_eq_zero_of_lt (by unfold wval; omega) (by unfold wval; omega)]; rfl
    · by_cases h2 : 64 ≤ n
      · have e1 : (0 : Int) ≤ n - 64 := by omega
        have e2 : IntKind.i64.wrap (n - 64) = n - 64 := by simp [IntKind.wrap, IntKind.signed, IntKind.bits]; omega
        go_enter Try.func61, Try.ntmps61
        go_wp2
        refine bodyPost_ret (v := .agg #[.int .u64 0, .int .u64 (a / 2 ^ (n - 64).toNat)]) (by simp [results, Try.results61, go_sem]; done) rfl ⟨congrArg Ending.returned ?_, by (repeat (first | exact Below.refl _ _ | refine b_alloc ?_ _ | refine b_set ?_ (by first | exact Nat.le_refl _ | (simp; omega) | omega | simp) _ | refine b_drew ?_))⟩
        rw [← HV.out]
        have h3 := two_pos (n - 64).toNat
        refine (wn_of ⟨Int.ediv_nonneg ha.1 (by omega), Int.lt_of_le_of_lt (Int.ediv_le_self _ ha.1) ha.2⟩ ?_).symm
        rw [show n.toNat = 64 + (n - 64).toNat by omega, Int.pow_add, ← Int.ediv_ediv_of_nonneg (by decide), show ((2 : Int) ^ 64) = 18446744073709551616 by decide, wval, Int.add_comm, Int.add_mul_ediv_right _ _ (by decide), Int.ediv_eq_zero_of_lt hb.1 hb.2, Int.zero_add, Int.zero_mul, Int.zero_add]
      · have e1 : (0 : Int) ≤ 64 - n := by omega
        have e2 : IntKind.i64.wrap (64 - n) = 64 - n := by simp [IntKind.wrap, IntKind.signed, IntKind.bits]; omega
        go_enter Try.func61, Try.ntmps61
        go_wp2_with fail
        go_region
        go_wp2_with fail
        obtain ⟨d1, d2, d3, d4, d5, d6⟩ := down_parts (two_pos n.toNat) (two_pos (64 - n).toNat) (pow_split (by omega) (by omega)) ha.1 hb.1 hb.2
        have eo : bits .or .u64 (b / 2 ^ n.toNat) (IntKind.u64.wrap (a * 2 ^ (64 - n).toNat)) = b / 2 ^ n.toNat + a * 2 ^ (64 - n).toNat % 18446744073709551616 := by
          rw [wu64]
          exact or_sum (64 - n).toNat d2 d3 (Int.emod_nonneg _ (by decide)) d6 (by omega) (Int.emod_lt_of_pos _ (by decide))
        rw [eo]
        refine bodyPost_ret (v := .agg #[.int .u64 (a / 2 ^ n.toNat), .int .u64 (b / 2 ^ n.toNat + a * 2 ^ (64 - n).toNat % 18446744073709551616)]) (by simp [results, Try.results61, go_sem]; done) rfl ⟨congrArg Ending.returned ?_, by (repeat (first | exact Below.refl _ _ | refine b_alloc ?_ _ | refine b_set ?_ (by first | exact Nat.le_refl _ | (simp; omega) | omega | simp) _ | refine b_drew ?_))⟩
        rw [← HV.out]
        exact (wn_of ⟨d4, d5⟩ (by rw [wval, d1])).symm
end Go.Proofs.Ythpdfacdjgkmpaa.Wi
