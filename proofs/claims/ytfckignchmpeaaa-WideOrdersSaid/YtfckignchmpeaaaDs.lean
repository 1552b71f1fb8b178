/- WideOrders: a walk. -/
import Derived.Test.YtfckignchmpeaaaDr
import Derived.Deep.RegionHeld3
import Derived.Test.YtfckignchmpeaaaDx
namespace Go.Proofs.Ytfckignchmpeaaa.Wi
open Go.RowKit K

attribute [local go_sem ↓] eqn24
theorem bit_ge {n k : Nat} (h : 2 ^ k ≤ n) : k + 1 ≤ bitLen n := by
  by_cases hc : k + 1 ≤ bitLen n
  · exact hc
  · exfalso
    have h1 := (bitLen_spec n).1
    have h2 : 2 ^ bitLen n ≤ 2 ^ k := Nat.pow_le_pow_right (by omega) (by omega)
    omega
theorem bit_mono {n m : Nat} (h : n ≤ m) : bitLen n ≤ bitLen m := bitLen_lt _ _ (Nat.lt_of_le_of_lt h (bitLen_spec m).1)
theorem bit_zero {n : Nat} : bitLen n = 0 ↔ n = 0 := by
  unfold bitLen
  split <;> simp_all
theorem bit_top {n : Nat} (h : n ≠ 0) : n / 2 ^ (bitLen n - 1) = 1 := by
  obtain ⟨h1, h2⟩ := bitLen_spec n
  have h3 := h2 h
  have h4 : bitLen n ≠ 0 := fun e => h (bit_zero.1 e)
  have h5 : 2 ^ bitLen n = 2 ^ (bitLen n - 1) * 2 := by rw [← Nat.pow_succ]; congr 1; omega
  rw [h5] at h1
  have hp : 0 < 2 ^ (bitLen n - 1) := Nat.pow_pos (by omega)
  have h6 : n / 2 ^ (bitLen n - 1) < 2 := Nat.div_lt_of_lt_mul h1
  have h7 : 1 ≤ n / 2 ^ (bitLen n - 1) := (Nat.le_div_iff_mul_le hp).2 (by omega)
  omega
theorem int_div_pow {A : Int} (h : 0 ≤ A) (k : Nat) : A / 2 ^ k = ((A.toNat / 2 ^ k : Nat) : Int) := by
  obtain ⟨n, rfl⟩ := Int.eq_ofNat_of_zero_le h
  simp
theorem wn_pq {X : Int} (h : 0 ≤ X) (hX : X < 340282366920938463463374607431768211456) : ∃ P Q : Int, wn X = .agg #[.int .u64 P, .int .u64 Q] ∧ wval P Q = X ∧ U P ∧ U Q := by
  refine ⟨X / 18446744073709551616, X % 18446744073709551616, rfl, ?_, ?_, ?_⟩
  · unfold wval; omega
  · unfold U; omega
  · unfold U; omega
theorem right_zero {A : Int} (h : 0 ≤ A) : wn (A / 2 ^ (bitLen A.toNat : Int).toNat) = .agg #[.int .u64 0, .int .u64 0] := by
  rw [Int.toNat_natCast, int_div_pow h, Nat.div_eq_of_lt (bitLen_spec _).1]
  rfl
theorem right_one {A : Int} (h : 0 < A) {K : Int} (hK : (bitLen A.toNat : Int) = K) : wn (A / 2 ^ (K - 1).toNat) = .agg #[.int .u64 0, .int .u64 1] := by
  have e : (K - 1).toNat = bitLen A.toNat - 1 := by omega
  rw [e, int_div_pow (by omega), bit_top (by omega)]
  rfl
theorem right_low {A : Int} (h : 0 ≤ A) (n : Nat) : 0 ≤ A / 2 ^ n ∧ A / 2 ^ n ≤ A := by
  rw [int_div_pow h]
  have := Nat.div_le_self A.toNat (2 ^ n)
  generalize A.toNat / 2 ^ n = q at *
  omega
theorem wval_range {a b : Int} (ha : U a) (hb : U b) : 0 ≤ wval a b ∧ wval a b < 340282366920938463463374607431768211456 := by
  unfold U at ha hb
  unfold wval
  omega
theorem wval_eq {a b c d : Int} (_ : U a) (hb : U b) (_ : U c) (hd : U d) : wval a b = wval c d ↔ a = c ∧ b = d := by
  unfold U at *
  unfold wval
  omega
theorem cmp_low {x y : Int} (h : x ≤ y) : ∃ z, cmpI x y = z ∧ z ≤ 0 := by
  refine ⟨_, rfl, ?_⟩
  unfold cmpI
  split
  · decide
  · rw [if_neg (by omega)]
    decide
def C7 (w : World) (a b c d : Int) (w' : World) : Prop := (w'.cell? ⟨w.heap.size, 0, none⟩ = some (.int .u64 a) ∧ w'.cell? ⟨w.heap.size, 1, none⟩ = some (.int .u64 b) ∧ w'.cell? ⟨w.heap.size + 1, 0, none⟩ = some (.int .u64 c) ∧ w'.cell? ⟨w.heap.size + 1, 1, none⟩ = some (.int .u64 d)) ∧ w.heap.size + 1 < w'.heap.size ∧ Below w.heap.size w w'
theorem c7_below {w w1 w2 : World} {a b c d : Int} (hb : Below w1.heap.size w1 w2) (h : C7 w a b c d w1) : C7 w a b c d w2 := by
  obtain ⟨⟨h1, h2, h3, h4⟩, h5, h6⟩ := h
  have := hb.size
  refine ⟨⟨?_, ?_, ?_, ?_⟩, by omega, b_then h6 hb⟩
  · rw [hb.cell (by show w.heap.size < _; omega)]; exact h1
  · rw [hb.cell (by show w.heap.size < _; omega)]; exact h2
  · rw [hb.cell (by show w.heap.size + 1 < _; omega)]; exact h3
  · rw [hb.cell (by show w.heap.size + 1 < _; omega)]; exact h4
set_option maxHeartbeats 4000000 in
set_option maxRecDepth 100000 in
theorem orders_ltn (w : World) (a b c d n : Int) (ha : U a) (hb : U b) (hc : U c) (hd : U d) (hn : 0 ≤ n) (hn' : n < 256) (hs : wval a b < wval c d) (hz : 0 < wval a b) : Calls Try.prog 7 #[wv a b, wv c d, .int .u8 n] w (Ret w (.bool true)) := by
  have HA := Lib.hid ha
  have HB := Lib.hid hb
  have HC := Lib.hid hc
  have HD := Lib.hid hd
  have rA := wval_range ha hb
  have rB := wval_range hc hd
  have k1 : cmpI (wval a b) (wval c d) = -1 := by unfold cmpI; rw [if_pos hs]
  have k2 : cmpI (wval c d) (wval a b) = 1 := by unfold cmpI; rw [if_neg (by omega), if_pos hs]
  have e1 : (decide (a = c) && decide (b = d)) = false := by
    have := wval_eq ha hb hc hd
    simp; omega
  have e2 : (decide (a = 0) && decide (b = 0)) = false := by
    have := wval_eq ha hb (show U 0 by unfold U; decide) (show U 0 by unfold U; decide)
    have h0 : wval 0 0 = 0 := rfl
    simp; omega
  have s1 : ∃ P Q : Int, optV (wval a b - wval c d) (wval c d ≤ wval a b) = .tuple #[.agg #[.int .u64 P, .int .u64 Q], .bool false] := by
    unfold optV
    rw [if_neg (by omega)]
    exact ⟨_, _, rfl⟩
  obtain ⟨P, Q, s1⟩ := s1
  obtain ⟨K, hK⟩ : ∃ K : Int, (bitLen (wval a b).toNat : Int) = K := ⟨_, rfl⟩
  obtain ⟨KB, hKB⟩ : ∃ KB : Int, (bitLen (wval c d).toNat : Int) = KB := ⟨_, rfl⟩
  have hK0 : 0 < K := by
    have := bit_zero (n := (wval a b).toNat)
    omega
  have hK1 : K ≤ 128 := by
    have := bitLen_lt (wval a b).toNat 128 (by omega)
    omega
  have hKK : 0 ≤ KB := by omega
  have z1 := right_zero rA.1
  rw [hK] at z1
  have z2 := right_one hz hK
  have rl := right_low rA.1 n.toNat
  obtain ⟨R, S, z3, z4, hR, hS⟩ := wn_pq rl.1 (by omega)
  obtain ⟨y, z5, z6⟩ := cmp_low (show wval R S ≤ wval a b by omega)
  have HR := Lib.hid hR
  have HS := Lib.hid hS
  have Hk1 := Lib.hid k1
  have Hk2 := Lib.hid k2
  have Hs1 := Lib.hid s1
  have Hz1 := Lib.hid z1
  have Hz2 := Lib.hid z2
  have Hz3 := Lib.hid z3
  have Hz5 := Lib.hid z5
  have HK := Lib.hid hK
  have HKB := Lib.hid hKB
  have ew : IntKind.i64.wrap (K - 1) = K - 1 := by simp [IntKind.wrap, IntKind.signed, IntKind.bits]; omega
  have ew2 : wrap64 (K - 1) = K - 1 := by unfold wrap64; omega
  have ew3 : IntKind.i64.wrap n = n := by simp [IntKind.wrap, IntKind.signed, IntKind.bits]; omega
  have ew4 : wrap64 n = n := by unfold wrap64; omega
  clear ha hb hc hd rA rB k1 k2 s1 z1 z2 z3 z4 z5 hR hS hs hz rl hK hKB
  have hKe : (K == 0) = false := by simp; omega
  have hye : decide (y ≤ 0) = true := by simp; omega
  unfold wv
  go_enter Try.func7, Try.ntmps7
  go_wp2_with fail
  refine (first_any _).mono ?_
  rintro e w1 ⟨rfl, h1⟩
  have B1 := Lib.hid (b_then (by first | exact (Below.refl w.heap.size w) | exact b_drew (Below.refl w.heap.size w) | exact (b_alloc (Below.refl w.heap.size w) _) | exact b_drew (b_alloc (Below.refl w.heap.size w) _) | exact (b_alloc (b_alloc (Below.refl w.heap.size w) _) _) | exact b_drew (b_alloc (b_alloc (Below.refl w.heap.size w) _) _) | exact (b_alloc (b_alloc (b_alloc (Below.refl w.heap.size w) _) _) _) | exact b_drew (b_alloc (b_alloc (b_alloc (Below.refl w.heap.size w) _) _) _) | exact (b_alloc (b_alloc (b_alloc (b_alloc (Below.refl w.heap.size w) _) _) _) _) | exact b_drew (b_alloc (b_alloc (b_alloc (b_alloc (Below.refl w.heap.size w) _) _) _) _) | exact (b_alloc (b_alloc (b_alloc (b_alloc (b_alloc (Below.refl w.heap.size w) _) _) _) _) _) | exact b_drew (b_alloc (b_alloc (b_alloc (b_alloc (b_alloc (Below.refl w.heap.size w) _) _) _) _) _)) h1)
  have ra : w1.heap[w.heap.size]? = some (.cells #[.int .u64 a, .int .u64 b] 24 (0, 0)) := by first | exact blk_below (blk_new rfl) h1 | exact blk_below (blk_drew (blk_new rfl)) h1 | exact blk_below (blk_alloc (blk_new rfl) _) h1 | exact blk_below (blk_drew (blk_alloc (blk_new rfl) _)) h1 | exact blk_below (blk_alloc (blk_alloc (blk_new rfl) _) _) h1 | exact blk_below (blk_drew (blk_alloc (blk_alloc (blk_new rfl) _) _)) h1 | exact blk_below (blk_alloc (blk_alloc (blk_alloc (blk_new rfl) _) _) _) h1 | exact blk_below (blk_drew (blk_alloc (blk_alloc (blk_alloc (blk_new rfl) _) _) _)) h1 | exact blk_below (blk_alloc (blk_alloc (blk_alloc (blk_alloc (blk_new rfl) _) _) _) _) h1 | exact blk_below (blk_drew (blk_alloc (blk_alloc (blk_alloc (blk_alloc (blk_new rfl) _) _) _) _)) h1 | exact blk_below (blk_new (by simp)) h1 | exact blk_below (blk_drew (blk_new (by simp))) h1 | exact blk_below (blk_alloc (blk_new (by simp)) _) h1 | exact blk_below (blk_drew (blk_alloc (blk_new (by simp)) _)) h1 | exact blk_below (blk_alloc (blk_alloc (blk_new (by simp)) _) _) h1 | exact blk_below (blk_drew (blk_alloc (blk_alloc (blk_new (by simp)) _) _)) h1 | exact blk_below (blk_alloc (blk_alloc (blk_alloc (blk_new (by simp)) _) _) _) h1 | exact blk_below (blk_drew (blk_alloc (blk_alloc (blk_alloc (blk_new (by simp)) _) _) _)) h1 | exact blk_below (blk_alloc (blk_alloc (blk_alloc (blk_alloc (blk_new (by simp)) _) _) _) _) h1 | exact blk_below (blk_drew (blk_alloc (blk_alloc (blk_alloc (blk_alloc (blk_new (by simp)) _) _) _) _)) h1
  have rb : w1.heap[(w.heap.size + 1)]? = some (.cells #[.int .u64 c, .int .u64 d] 24 (0, 0)) := by first | exact blk_below (blk_new rfl) h1 | exact blk_below (blk_drew (blk_new rfl)) h1 | exact blk_below (blk_alloc (blk_new rfl) _) h1 | exact blk_below (blk_drew (blk_alloc (blk_new rfl) _)) h1 | exact blk_below (blk_alloc (blk_alloc (blk_new rfl) _) _) h1 | exact blk_below (blk_drew (blk_alloc (blk_alloc (blk_new rfl) _) _)) h1 | exact blk_below (blk_alloc (blk_alloc (blk_alloc (blk_new rfl) _) _) _) h1 | exact blk_below (blk_drew (blk_alloc (blk_alloc (blk_alloc (blk_new rfl) _) _) _)) h1 | exact blk_below (blk_alloc (blk_alloc (blk_alloc (blk_alloc (blk_new rfl) _) _) _) _) h1 | exact blk_below (blk_drew (blk_alloc (blk_alloc (blk_alloc (blk_alloc (blk_new rfl) _) _) _) _)) h1 | exact blk_below (blk_new (by simp)) h1 | exact blk_below (blk_drew (blk_new (by simp))) h1 | exact blk_below (blk_alloc (blk_new (by simp)) _) h1 | exact blk_below (blk_drew (blk_alloc (blk_new (by simp)) _)) h1 | exact blk_below (blk_alloc (blk_alloc (blk_new (by simp)) _) _) h1 | exact blk_below (blk_drew (blk_alloc (blk_alloc (blk_new (by simp)) _) _)) h1 | exact blk_below (blk_alloc (blk_alloc (blk_alloc (blk_new (by simp)) _) _) _) h1 | exact blk_below (blk_drew (blk_alloc (blk_alloc (blk_alloc (blk_new (by simp)) _) _) _)) h1 | exact blk_below (blk_alloc (blk_alloc (blk_alloc (blk_alloc (blk_new (by simp)) _) _) _) _) h1 | exact blk_below (blk_drew (blk_alloc (blk_alloc (blk_alloc (blk_alloc (blk_new (by simp)) _) _) _) _)) h1
  have fac0 : w1.cell? ⟨w.heap.size, 0, none⟩ = some (.int .u64 a) := (cell_of_row _ _ _ _ _ _ ra).trans rfl
  have faz0 := frozen_of_row _ _ 0 _ _ ra
  have fac1 : w1.cell? ⟨w.heap.size, 1, none⟩ = some (.int .u64 b) := (cell_of_row _ _ _ _ _ _ ra).trans rfl
  have faz1 := frozen_of_row _ _ 1 _ _ ra
  have fal := blk_lt ra
  have Ra := Lib.hid ra
  clear ra
  have fbc0 : w1.cell? ⟨(w.heap.size + 1), 0, none⟩ = some (.int .u64 c) := (cell_of_row _ _ _ _ _ _ rb).trans rfl
  have fbz0 := frozen_of_row _ _ 0 _ _ rb
  have fbc1 : w1.cell? ⟨(w.heap.size + 1), 1, none⟩ = some (.int .u64 d) := (cell_of_row _ _ _ _ _ _ rb).trans rfl
  have fbz1 := frozen_of_row _ _ 1 _ _ rb
  have fbl := blk_lt rb
  have Rb := Lib.hid rb
  clear rb
  clear h1
  go_wp2_with fail
  refine (compare_any _ a b c d HA.out HB.out HC.out HD.out).mono ?_
  rintro e w2 ⟨rfl, h2⟩
  rw [Hk1.out]
  have B2 := Lib.hid (b_then (by first | exact (B1.out) | exact b_drew (B1.out) | exact (b_alloc (B1.out) _) | exact b_drew (b_alloc (B1.out) _) | exact (b_alloc (b_alloc (B1.out) _) _) | exact b_drew (b_alloc (b_alloc (B1.out) _) _) | exact (b_alloc (b_alloc (b_alloc (B1.out) _) _) _) | exact b_drew (b_alloc (b_alloc (b_alloc (B1.out) _) _) _) | exact (b_alloc (b_alloc (b_alloc (b_alloc (B1.out) _) _) _) _) | exact b_drew (b_alloc (b_alloc (b_alloc (b_alloc (B1.out) _) _) _) _) | exact (b_alloc (b_alloc (b_alloc (b_alloc (b_alloc (B1.out) _) _) _) _) _) | exact b_drew (b_alloc (b_alloc (b_alloc (b_alloc (b_alloc (B1.out) _) _) _) _) _)) h2)
  have ra : w2.heap[w.heap.size]? = some (.cells #[.int .u64 a, .int .u64 b] 24 (0, 0)) := by first | exact blk_below (Ra.out) h2 | exact blk_below (blk_drew (Ra.out)) h2 | exact blk_below (blk_alloc (Ra.out) _) h2 | exact blk_below (blk_drew (blk_alloc (Ra.out) _)) h2 | exact blk_below (blk_alloc (blk_alloc (Ra.out) _) _) h2 | exact blk_below (blk_drew (blk_alloc (blk_alloc (Ra.out) _) _)) h2 | exact blk_below (blk_alloc (blk_alloc (blk_alloc (Ra.out) _) _) _) h2 | exact blk_below (blk_drew (blk_alloc (blk_alloc (blk_alloc (Ra.out) _) _) _)) h2 | exact blk_below (blk_alloc (blk_alloc (blk_alloc (blk_alloc (Ra.out) _) _) _) _) h2 | exact blk_below (blk_drew (blk_alloc (blk_alloc (blk_alloc (blk_alloc (Ra.out) _) _) _) _)) h2 | exact blk_below (blk_new rfl) h2 | exact blk_below (blk_drew (blk_new rfl)) h2 | exact blk_below (blk_alloc (blk_new rfl) _) h2 | exact blk_below (blk_drew (blk_alloc (blk_new rfl) _)) h2 | exact blk_below (blk_alloc (blk_alloc (blk_new rfl) _) _) h2 | exact blk_below (blk_drew (blk_alloc (blk_alloc (blk_new rfl) _) _)) h2 | exact blk_below (blk_alloc (blk_alloc (blk_alloc (blk_new rfl) _) _) _) h2 | exact blk_below (blk_drew (blk_alloc (blk_alloc (blk_alloc (blk_new rfl) _) _) _)) h2 | exact blk_below (blk_alloc (blk_alloc (blk_alloc (blk_alloc (blk_new rfl) _) _) _) _) h2 | exact blk_below (blk_drew (blk_alloc (blk_alloc (blk_alloc (blk_alloc (blk_new rfl) _) _) _) _)) h2 | exact blk_below (blk_new (by simp)) h2 | exact blk_below (blk_drew (blk_new (by simp))) h2 | exact blk_below (blk_alloc (blk_new (by simp)) _) h2 | exact blk_below (blk_drew (blk_alloc (blk_new (by simp)) _)) h2 | exact blk_below (blk_alloc (blk_alloc (blk_new (by simp)) _) _) h2 | exact blk_below (blk_drew (blk_alloc (blk_alloc (blk_new (by simp)) _) _)) h2 | exact blk_below (blk_alloc (blk_alloc (blk_alloc (blk_new (by simp)) _) _) _) h2 | exact blk_below (blk_drew (blk_alloc (blk_alloc (blk_alloc (blk_new (by simp)) _) _) _)) h2 | exact blk_below (blk_alloc (blk_alloc (blk_alloc (blk_alloc (blk_new (by simp)) _) _) _) _) h2 | exact blk_below (blk_drew (blk_alloc (blk_alloc (blk_alloc (blk_alloc (blk_new (by simp)) _) _) _) _)) h2
  have rb : w2.heap[(w.heap.size + 1)]? = some (.cells #[.int .u64 c, .int .u64 d] 24 (0, 0)) := by first | exact blk_below (Rb.out) h2 | exact blk_below (blk_drew (Rb.out)) h2 | exact blk_below (blk_alloc (Rb.out) _) h2 | exact blk_below (blk_drew (blk_alloc (Rb.out) _)) h2 | exact blk_below (blk_alloc (blk_alloc (Rb.out) _) _) h2 | exact blk_below (blk_drew (blk_alloc (blk_alloc (Rb.out) _) _)) h2 | exact blk_below (blk_alloc (blk_alloc (blk_alloc (Rb.out) _) _) _) h2 | exact blk_below (blk_drew (blk_alloc (blk_alloc (blk_alloc (Rb.out) _) _) _)) h2 | exact blk_below (blk_alloc (blk_alloc (blk_alloc (blk_alloc (Rb.out) _) _) _) _) h2 | exact blk_below (blk_drew (blk_alloc (blk_alloc (blk_alloc (blk_alloc (Rb.out) _) _) _) _)) h2 | exact blk_below (blk_new rfl) h2 | exact blk_below (blk_drew (blk_new rfl)) h2 | exact blk_below (blk_alloc (blk_new rfl) _) h2 | exact blk_below (blk_drew (blk_alloc (blk_new rfl) _)) h2 | exact blk_below (blk_alloc (blk_alloc (blk_new rfl) _) _) h2 | exact blk_below (blk_drew (blk_alloc (blk_alloc (blk_new rfl) _) _)) h2 | exact blk_below (blk_alloc (blk_alloc (blk_alloc (blk_new rfl) _) _) _) h2 | exact blk_below (blk_drew (blk_alloc (blk_alloc (blk_alloc (blk_new rfl) _) _) _)) h2 | exact blk_below (blk_alloc (blk_alloc (blk_alloc (blk_alloc (blk_new rfl) _) _) _) _) h2 | exact blk_below (blk_drew (blk_alloc (blk_alloc (blk_alloc (blk_alloc (blk_new rfl) _) _) _) _)) h2 | exact blk_below (blk_new (by simp)) h2 | exact blk_below (blk_drew (blk_new (by simp))) h2 | exact blk_below (blk_alloc (blk_new (by simp)) _) h2 | exact blk_below (blk_drew (blk_alloc (blk_new (by simp)) _)) h2 | exact blk_below (blk_alloc (blk_alloc (blk_new (by simp)) _) _) h2 | exact blk_below (blk_drew (blk_alloc (blk_alloc (blk_new (by simp)) _) _)) h2 | exact blk_below (blk_alloc (blk_alloc (blk_alloc (blk_new (by simp)) _) _) _) h2 | exact blk_below (blk_drew (blk_alloc (blk_alloc (blk_alloc (blk_new (by simp)) _) _) _)) h2 | exact blk_below (blk_alloc (blk_alloc (blk_alloc (blk_alloc (blk_new (by simp)) _) _) _) _) h2 | exact blk_below (blk_drew (blk_alloc (blk_alloc (blk_alloc (blk_alloc (blk_new (by simp)) _) _) _) _)) h2
  clear fac0 faz0 fac1 faz1 fal fbc0 fbz0 fbc1 fbz1 fbl
  clear Ra Rb
  have fac0 : w2.cell? ⟨w.heap.size, 0, none⟩ = some (.int .u64 a) := (cell_of_row _ _ _ _ _ _ ra).trans rfl
  have faz0 := frozen_of_row _ _ 0 _ _ ra
  have fac1 : w2.cell? ⟨w.heap.size, 1, none⟩ = some (.int .u64 b) := (cell_of_row _ _ _ _ _ _ ra).trans rfl
  have faz1 := frozen_of_row _ _ 1 _ _ ra
  have fal := blk_lt ra
  have Ra := Lib.hid ra
  clear ra
  have fbc0 : w2.cell? ⟨(w.heap.size + 1), 0, none⟩ = some (.int .u64 c) := (cell_of_row _ _ _ _ _ _ rb).trans rfl
  have fbz0 := frozen_of_row _ _ 0 _ _ rb
  have fbc1 : w2.cell? ⟨(w.heap.size + 1), 1, none⟩ = some (.int .u64 d) := (cell_of_row _ _ _ _ _ _ rb).trans rfl
  have fbz1 := frozen_of_row _ _ 1 _ _ rb
  have fbl := blk_lt rb
  have Rb := Lib.hid rb
  clear rb
  clear B1
  clear h2
  go_wp2_with fail
  refine (sub_any _ a b c d HA.out HB.out HC.out HD.out).mono ?_
  rintro e w3 ⟨rfl, h3⟩
  rw [Hs1.out]
  have B3 := Lib.hid (b_then (by first | exact (B2.out) | exact b_drew (B2.out) | exact (b_alloc (B2.out) _) | exact b_drew (b_alloc (B2.out) _) | exact (b_alloc (b_alloc (B2.out) _) _) | exact b_drew (b_alloc (b_alloc (B2.out) _) _) | exact (b_alloc (b_alloc (b_alloc (B2.out) _) _) _) | exact b_drew (b_alloc (b_alloc (b_alloc (B2.out) _) _) _) | exact (b_alloc (b_alloc (b_alloc (b_alloc (B2.out) _) _) _) _) | exact b_drew (b_alloc (b_alloc (b_alloc (b_alloc (B2.out) _) _) _) _) | exact (b_alloc (b_alloc (b_alloc (b_alloc (b_alloc (B2.out) _) _) _) _) _) | exact b_drew (b_alloc (b_alloc (b_alloc (b_alloc (b_alloc (B2.out) _) _) _) _) _)) h3)
  have ra : w3.heap[w.heap.size]? = some (.cells #[.int .u64 a, .int .u64 b] 24 (0, 0)) := by first | exact blk_below (Ra.out) h3 | exact blk_below (blk_drew (Ra.out)) h3 | exact blk_below (blk_alloc (Ra.out) _) h3 | exact blk_below (blk_drew (blk_alloc (Ra.out) _)) h3 | exact blk_below (blk_alloc (blk_alloc (Ra.out) _) _) h3 | exact blk_below (blk_drew (blk_alloc (blk_alloc (Ra.out) _) _)) h3 | exact blk_below (blk_alloc (blk_alloc (blk_alloc (Ra.out) _) _) _) h3 | exact blk_below (blk_drew (blk_alloc (blk_alloc (blk_alloc (Ra.out) _) _) _)) h3 | exact blk_below (blk_alloc (blk_alloc (blk_alloc (blk_alloc (Ra.out) _) _) _) _) h3 | exact blk_below (blk_drew (blk_alloc (blk_alloc (blk_alloc (blk_alloc (Ra.out) _) _) _) _)) h3 | exact blk_below (blk_new rfl) h3 | exact blk_below (blk_drew (blk_new rfl)) h3 | exact blk_below (blk_alloc (blk_new rfl) _) h3 | exact blk_below (blk_drew (blk_alloc (blk_new rfl) _)) h3 | exact blk_below (blk_alloc (blk_alloc (blk_new rfl) _) _) h3 | exact blk_below (blk_drew (blk_alloc (blk_alloc (blk_new rfl) _) _)) h3 | exact blk_below (blk_alloc (blk_alloc (blk_alloc (blk_new rfl) _) _) _) h3 | exact blk_below (blk_drew (blk_alloc (blk_alloc (blk_alloc (blk_new rfl) _) _) _)) h3 | exact blk_below (blk_alloc (blk_alloc (blk_alloc (blk_alloc (blk_new rfl) _) _) _) _) h3 | exact blk_below (blk_drew (blk_alloc (blk_alloc (blk_alloc (blk_alloc (blk_new rfl) _) _) _) _)) h3 | exact blk_below (blk_new (by simp)) h3 | exact blk_below (blk_drew (blk_new (by simp))) h3 | exact blk_below (blk_alloc (blk_new (by simp)) _) h3 | exact blk_below (blk_drew (blk_alloc (blk_new (by simp)) _)) h3 | exact blk_below (blk_alloc (blk_alloc (blk_new (by simp)) _) _) h3 | exact blk_below (blk_drew (blk_alloc (blk_alloc (blk_new (by simp)) _) _)) h3 | exact blk_below (blk_alloc (blk_alloc (blk_alloc (blk_new (by simp)) _) _) _) h3 | exact blk_below (blk_drew (blk_alloc (blk_alloc (blk_alloc (blk_new (by simp)) _) _) _)) h3 | exact blk_below (blk_alloc (blk_alloc (blk_alloc (blk_alloc (blk_new (by simp)) _) _) _) _) h3 | exact blk_below (blk_drew (blk_alloc (blk_alloc (blk_alloc (blk_alloc (blk_new (by simp)) _) _) _) _)) h3
  have rb : w3.heap[(w.heap.size + 1)]? = some (.cells #[.int .u64 c, .int .u64 d] 24 (0, 0)) := by first | exact blk_below (Rb.out) h3 | exact blk_below (blk_drew (Rb.out)) h3 | exact blk_below (blk_alloc (Rb.out) _) h3 | exact blk_below (blk_drew (blk_alloc (Rb.out) _)) h3 | exact blk_below (blk_alloc (blk_alloc (Rb.out) _) _) h3 | exact blk_below (blk_drew (blk_alloc (blk_alloc (Rb.out) _) _)) h3 | exact blk_below (blk_alloc (blk_alloc (blk_alloc (Rb.out) _) _) _) h3 | exact blk_below (blk_drew (blk_alloc (blk_alloc (blk_alloc (Rb.out) _) _) _)) h3 | exact blk_below (blk_alloc (blk_alloc (blk_alloc (blk_alloc (Rb.out) _) _) _) _) h3 | exact blk_below (blk_drew (blk_alloc (blk_alloc (blk_alloc (blk_alloc (Rb.out) _) _) _) _)) h3 | exact blk_below (blk_new rfl) h3 | exact blk_below (blk_drew (blk_new rfl)) h3 | exact blk_below (blk_alloc (blk_new rfl) _) h3 | exact blk_below (blk_drew (blk_alloc (blk_new rfl) _)) h3 | exact blk_below (blk_alloc (blk_alloc (blk_new rfl) _) _) h3 | exact blk_below (blk_drew (blk_alloc (blk_alloc (blk_new rfl) _) _)) h3 | exact blk_below (blk_alloc (blk_alloc (blk_alloc (blk_new rfl) _) _) _) h3 | exact blk_below (blk_drew (blk_alloc (blk_alloc (blk_alloc (blk_new rfl) _) _) _)) h3 | exact blk_below (blk_alloc (blk_alloc (blk_alloc (blk_alloc (blk_new rfl) _) _) _) _) h3 | exact blk_below (blk_drew (blk_alloc (blk_alloc (blk_alloc (blk_alloc (blk_new rfl) _) _) _) _)) h3 | exact blk_below (blk_new (by simp)) h3 | exact blk_below (blk_drew (blk_new (by simp))) h3 | exact blk_below (blk_alloc (blk_new (by simp)) _) h3 | exact blk_below (blk_drew (blk_alloc (blk_new (by simp)) _)) h3 | exact blk_below (blk_alloc (blk_alloc (blk_new (by simp)) _) _) h3 | exact blk_below (blk_drew (blk_alloc (blk_alloc (blk_new (by simp)) _) _)) h3 | exact blk_below (blk_alloc (blk_alloc (blk_alloc (blk_new (by simp)) _) _) _) h3 | exact blk_below (blk_drew (blk_alloc (blk_alloc (blk_alloc (blk_new (by simp)) _) _) _)) h3 | exact blk_below (blk_alloc (blk_alloc (blk_alloc (blk_alloc (blk_new (by simp)) _) _) _) _) h3 | exact blk_below (blk_drew (blk_alloc (blk_alloc (blk_alloc (blk_alloc (blk_new (by simp)) _) _) _) _)) h3
  clear fac0 faz0 fac1 faz1 fal fbc0 fbz0 fbc1 fbz1 fbl
  clear Ra Rb
  have fac0 : w3.cell? ⟨w.heap.size, 0, none⟩ = some (.int .u64 a) := (cell_of_row _ _ _ _ _ _ ra).trans rfl
  have faz0 := frozen_of_row _ _ 0 _ _ ra
  have fac1 : w3.cell? ⟨w.heap.size, 1, none⟩ = some (.int .u64 b) := (cell_of_row _ _ _ _ _ _ ra).trans rfl
  have faz1 := frozen_of_row _ _ 1 _ _ ra
  have fal := blk_lt ra
  have Ra := Lib.hid ra
  clear ra
  have fbc0 : w3.cell? ⟨(w.heap.size + 1), 0, none⟩ = some (.int .u64 c) := (cell_of_row _ _ _ _ _ _ rb).trans rfl
  have fbz0 := frozen_of_row _ _ 0 _ _ rb
  have fbc1 : w3.cell? ⟨(w.heap.size + 1), 1, none⟩ = some (.int .u64 d) := (cell_of_row _ _ _ _ _ _ rb).trans rfl
  have fbz1 := frozen_of_row _ _ 1 _ _ rb
  have fbl := blk_lt rb
  have Rb := Lib.hid rb
  clear rb
  clear B2
  clear h3
  go_wp2_with fail
  refine (bits_any _ a b HA.out HB.out).mono ?_
  rintro e w4 ⟨rfl, h4⟩
  rw [HK.out]
  have B4 := Lib.hid (b_then (by first | exact (B3.out) | exact b_drew (B3.out) | exact (b_alloc (B3.out) _) | exact b_drew (b_alloc (B3.out) _) | exact (b_alloc (b_alloc (B3.out) _) _) | exact b_drew (b_alloc (b_alloc (B3.out) _) _) | exact (b_alloc (b_alloc (b_alloc (B3.out) _) _) _) | exact b_drew (b_alloc (b_alloc (b_alloc (B3.out) _) _) _) | exact (b_alloc (b_alloc (b_alloc (b_alloc (B3.out) _) _) _) _) | exact b_drew (b_alloc (b_alloc (b_alloc (b_alloc (B3.out) _) _) _) _) | exact (b_alloc (b_alloc (b_alloc (b_alloc (b_alloc (B3.out) _) _) _) _) _) | exact b_drew (b_alloc (b_alloc (b_alloc (b_alloc (b_alloc (B3.out) _) _) _) _) _)) h4)
  have ra : w4.heap[w.heap.size]? = some (.cells #[.int .u64 a, .int .u64 b] 24 (0, 0)) := by first | exact blk_below (Ra.out) h4 | exact blk_below (blk_drew (Ra.out)) h4 | exact blk_below (blk_alloc (Ra.out) _) h4 | exact blk_below (blk_drew (blk_alloc (Ra.out) _)) h4 | exact blk_below (blk_alloc (blk_alloc (Ra.out) _) _) h4 | exact blk_below (blk_drew (blk_alloc (blk_alloc (Ra.out) _) _)) h4 | exact blk_below (blk_alloc (blk_alloc (blk_alloc (Ra.out) _) _) _) h4 | exact blk_below (blk_drew (blk_alloc (blk_alloc (blk_alloc (Ra.out) _) _) _)) h4 | exact blk_below (blk_alloc (blk_alloc (blk_alloc (blk_alloc (Ra.out) _) _) _) _) h4 | exact blk_below (blk_drew (blk_alloc (blk_alloc (blk_alloc (blk_alloc (Ra.out) _) _) _) _)) h4 | exact blk_below (blk_new rfl) h4 | exact blk_below (blk_drew (blk_new rfl)) h4 | exact blk_below (blk_alloc (blk_new rfl) _) h4 | exact blk_below (blk_drew (blk_alloc (blk_new rfl) _)) h4 | exact blk_below (blk_alloc (blk_alloc (blk_new rfl) _) _) h4 | exact blk_below (blk_drew (blk_alloc (blk_alloc (blk_new rfl) _) _)) h4 | exact blk_below (blk_alloc (blk_alloc (blk_alloc (blk_new rfl) _) _) _) h4 | exact blk_below (blk_drew (blk_alloc (blk_alloc (blk_alloc (blk_new rfl) _) _) _)) h4 | exact blk_below (blk_alloc (blk_alloc (blk_alloc (blk_alloc (blk_new rfl) _) _) _) _) h4 | exact blk_below (blk_drew (blk_alloc (blk_alloc (blk_alloc (blk_alloc (blk_new rfl) _) _) _) _)) h4 | exact blk_below (blk_new (by simp)) h4 | exact blk_below (blk_drew (blk_new (by simp))) h4 | exact blk_below (blk_alloc (blk_new (by simp)) _) h4 | exact blk_below (blk_drew (blk_alloc (blk_new (by simp)) _)) h4 | exact blk_below (blk_alloc (blk_alloc (blk_new (by simp)) _) _) h4 | exact blk_below (blk_drew (blk_alloc (blk_alloc (blk_new (by simp)) _) _)) h4 | exact blk_below (blk_alloc (blk_alloc (blk_alloc (blk_new (by simp)) _) _) _) h4 | exact blk_below (blk_drew (blk_alloc (blk_alloc (blk_alloc (blk_new (by simp)) _) _) _)) h4 | exact blk_below (blk_alloc (blk_alloc (blk_alloc (blk_alloc (blk_new (by simp)) _) _) _) _) h4 | exact blk_below (blk_drew (blk_alloc (blk_alloc (blk_alloc (blk_alloc (blk_new (by simp)) _) _) _) _)) h4
  have rb : w4.heap[(w.heap.size + 1)]? = some (.cells #[.int .u64 c, .int .u64 d] 24 (0, 0)) := by first | exact blk_below (Rb.out) h4 | exact blk_below (blk_drew (Rb.out)) h4 | exact blk_below (blk_alloc (Rb.out) _) h4 | exact blk_below (blk_drew (blk_alloc (Rb.out) _)) h4 | exact blk_below (blk_alloc (blk_alloc (Rb.out) _) _) h4 | exact blk_below (blk_drew (blk_alloc (blk_alloc (Rb.out) _) _)) h4 | exact blk_below (blk_alloc (blk_alloc (blk_alloc (Rb.out) _) _) _) h4 | exact blk_below (blk_drew (blk_alloc (blk_alloc (blk_alloc (Rb.out) _) _) _)) h4 | exact blk_below (blk_alloc (blk_alloc (blk_alloc (blk_alloc (Rb.out) _) _) _) _) h4 | exact blk_below (blk_drew (blk_alloc (blk_alloc (blk_alloc (blk_alloc (Rb.out) _) _) _) _)) h4 | exact blk_below (blk_new rfl) h4 | exact blk_below (blk_drew (blk_new rfl)) h4 | exact blk_below (blk_alloc (blk_new rfl) _) h4 | exact blk_below (blk_drew (blk_alloc (blk_new rfl) _)) h4 | exact blk_below (blk_alloc (blk_alloc (blk_new rfl) _) _) h4 | exact blk_below (blk_drew (blk_alloc (blk_alloc (blk_new rfl) _) _)) h4 | exact blk_below (blk_alloc (blk_alloc (blk_alloc (blk_new rfl) _) _) _) h4 | exact blk_below (blk_drew (blk_alloc (blk_alloc (blk_alloc (blk_new rfl) _) _) _)) h4 | exact blk_below (blk_alloc (blk_alloc (blk_alloc (blk_alloc (blk_new rfl) _) _) _) _) h4 | exact blk_below (blk_drew (blk_alloc (blk_alloc (blk_alloc (blk_alloc (blk_new rfl) _) _) _) _)) h4 | exact blk_below (blk_new (by simp)) h4 | exact blk_below (blk_drew (blk_new (by simp))) h4 | exact blk_below (blk_alloc (blk_new (by simp)) _) h4 | exact blk_below (blk_drew (blk_alloc (blk_new (by simp)) _)) h4 | exact blk_below (blk_alloc (blk_alloc (blk_new (by simp)) _) _) h4 | exact blk_below (blk_drew (blk_alloc (blk_alloc (blk_new (by simp)) _) _)) h4 | exact blk_below (blk_alloc (blk_alloc (blk_alloc (blk_new (by simp)) _) _) _) h4 | exact blk_below (blk_drew (blk_alloc (blk_alloc (blk_alloc (blk_new (by simp)) _) _) _)) h4 | exact blk_below (blk_alloc (blk_alloc (blk_alloc (blk_alloc (blk_new (by simp)) _) _) _) _) h4 | exact blk_below (blk_drew (blk_alloc (blk_alloc (blk_alloc (blk_alloc (blk_new (by simp)) _) _) _) _)) h4
  clear fac0 faz0 fac1 faz1 fal fbc0 fbz0 fbc1 fbz1 fbl
  clear Ra Rb
  have fac0 : w4.cell? ⟨w.heap.size, 0, none⟩ = some (.int .u64 a) := (cell_of_row _ _ _ _ _ _ ra).trans rfl
  have faz0 := frozen_of_row _ _ 0 _ _ ra
  have fac1 : w4.cell? ⟨w.heap.size, 1, none⟩ = some (.int .u64 b) := (cell_of_row _ _ _ _ _ _ ra).trans rfl
  have faz1 := frozen_of_row _ _ 1 _ _ ra
  have fal := blk_lt ra
  have Ra := Lib.hid ra
  clear ra
  have fbc0 : w4.cell? ⟨(w.heap.size + 1), 0, none⟩ = some (.int .u64 c) := (cell_of_row _ _ _ _ _ _ rb).trans rfl
  have fbz0 := frozen_of_row _ _ 0 _ _ rb
  have fbc1 : w4.cell? ⟨(w.heap.size + 1), 1, none⟩ = some (.int .u64 d) := (cell_of_row _ _ _ _ _ _ rb).trans rfl
  have fbz1 := frozen_of_row _ _ 1 _ _ rb
  have fbl := blk_lt rb
  have Rb := Lib.hid rb
  clear rb
  clear B3
  clear h4
  go_wp2_with fail
  refine (compare_any _ c d a b HC.out HD.out HA.out HB.out).mono ?_
  rintro e w5 ⟨rfl, h5⟩
  rw [Hk2.out]
  have B5 := Lib.hid (b_then (by first | exact (B4.out) | exact b_drew (B4.out) | exact (b_alloc (B4.out) _) | exact b_drew (b_alloc (B4.out) _) | exact (b_alloc (b_alloc (B4.out) _) _) | exact b_drew (b_alloc (b_alloc (B4.out) _) _) | exact (b_alloc (b_alloc (b_alloc (B4.out) _) _) _) | exact b_drew (b_alloc (b_alloc (b_alloc (B4.out) _) _) _) | exact (b_alloc (b_alloc (b_alloc (b_alloc (B4.out) _) _) _) _) | exact b_drew (b_alloc (b_alloc (b_alloc (b_alloc (B4.out) _) _) _) _) | exact (b_alloc (b_alloc (b_alloc (b_alloc (b_alloc (B4.out) _) _) _) _) _) | exact b_drew (b_alloc (b_alloc (b_alloc (b_alloc (b_alloc (B4.out) _) _) _) _) _)) h5)
  have ra : w5.heap[w.heap.size]? = some (.cells #[.int .u64 a, .int .u64 b] 24 (0, 0)) := by first | exact blk_below (Ra.out) h5 | exact blk_below (blk_drew (Ra.out)) h5 | exact blk_below (blk_alloc (Ra.out) _) h5 | exact blk_below (blk_drew (blk_alloc (Ra.out) _)) h5 | exact blk_below (blk_alloc (blk_alloc (Ra.out) _) _) h5 | exact blk_below (blk_drew (blk_alloc (blk_alloc (Ra.out) _) _)) h5 | exact blk_below (blk_alloc (blk_alloc (blk_alloc (Ra.out) _) _) _) h5 | exact blk_below (blk_drew (blk_alloc (blk_alloc (blk_alloc (Ra.out) _) _) _)) h5 | exact blk_below (blk_alloc (blk_alloc (blk_alloc (blk_alloc (Ra.out) _) _) _) _) h5 | exact blk_below (blk_drew (blk_alloc (blk_alloc (blk_alloc (blk_alloc (Ra.out) _) _) _) _)) h5 | exact blk_below (blk_new rfl) h5 | exact blk_below (blk_drew (blk_new rfl)) h5 | exact blk_below (blk_alloc (blk_new rfl) _) h5 | exact blk_below (blk_drew (blk_alloc (blk_new rfl) _)) h5 | exact blk_below (blk_alloc (blk_alloc (blk_new rfl) _) _) h5 | exact blk_below (blk_drew (blk_alloc (blk_alloc (blk_new rfl) _) _)) h5 | exact blk_below (blk_alloc (blk_alloc (blk_alloc (blk_new rfl) _) _) _) h5 | exact blk_below (blk_drew (blk_alloc (blk_alloc (blk_alloc (blk_new rfl) _) _) _)) h5 | exact blk_below (blk_alloc (blk_alloc (blk_alloc (blk_alloc (blk_new rfl) _) _) _) _) h5 | exact blk_below (blk_drew (blk_alloc (blk_alloc (blk_alloc (blk_alloc (blk_new rfl) _) _) _) _)) h5 | exact blk_below (blk_new (by simp)) h5 | exact blk_below (blk_drew (blk_new (by simp))) h5 | exact blk_below (blk_alloc (blk_new (by simp)) _) h5 | exact blk_below (blk_drew (blk_alloc (blk_new (by simp)) _)) h5 | exact blk_below (blk_alloc (blk_alloc (blk_new (by simp)) _) _) h5 | exact blk_below (blk_drew (blk_alloc (blk_alloc (blk_new (by simp)) _) _)) h5 | exact blk_below (blk_alloc (blk_alloc (blk_alloc (blk_new (by simp)) _) _) _) h5 | exact blk_below (blk_drew (blk_alloc (blk_alloc (blk_alloc (blk_new (by simp)) _) _) _)) h5 | exact blk_below (blk_alloc (blk_alloc (blk_alloc (blk_alloc (blk_new (by simp)) _) _) _) _) h5 | exact blk_below (blk_drew (blk_alloc (blk_alloc (blk_alloc (blk_alloc (blk_new (by simp)) _) _) _) _)) h5
  have rb : w5.heap[(w.heap.size + 1)]? = some (.cells #[.int .u64 c, .int .u64 d] 24 (0, 0)) := by first | exact blk_below (Rb.out) h5 | exact blk_below (blk_drew (Rb.out)) h5 | exact blk_below (blk_alloc (Rb.out) _) h5 | exact blk_below (blk_drew (blk_alloc (Rb.out) _)) h5 | exact blk_below (blk_alloc (blk_alloc (Rb.out) _) _) h5 | exact blk_below (blk_drew (blk_alloc (blk_alloc (Rb.out) _) _)) h5 | exact blk_below (blk_alloc (blk_alloc (blk_alloc (Rb.out) _) _) _) h5 | exact blk_below (blk_drew (blk_alloc (blk_alloc (blk_alloc (Rb.out) _) _) _)) h5 | exact blk_below (blk_alloc (blk_alloc (blk_alloc (blk_alloc (Rb.out) _) _) _) _) h5 | exact blk_below (blk_drew (blk_alloc (blk_alloc (blk_alloc (blk_alloc (Rb.out) _) _) _) _)) h5 | exact blk_below (blk_new rfl) h5 | exact blk_below (blk_drew (blk_new rfl)) h5 | exact blk_below (blk_alloc (blk_new rfl) _) h5 | exact blk_below (blk_drew (blk_alloc (blk_new rfl) _)) h5 | exact blk_below (blk_alloc (blk_alloc (blk_new rfl) _) _) h5 | exact blk_below (blk_drew (blk_alloc (blk_alloc (blk_new rfl) _) _)) h5 | exact blk_below (blk_alloc (blk_alloc (blk_alloc (blk_new rfl) _) _) _) h5 | exact blk_below (blk_drew (blk_alloc (blk_alloc (blk_alloc (blk_new rfl) _) _) _)) h5 | exact blk_below (blk_alloc (blk_alloc (blk_alloc (blk_alloc (blk_new rfl) _) _) _) _) h5 | exact blk_below (blk_drew (blk_alloc (blk_alloc (blk_alloc (blk_alloc (blk_new rfl) _) _) _) _)) h5 | exact blk_below (blk_new (by simp)) h5 | exact blk_below (blk_drew (blk_new (by simp))) h5 | exact blk_below (blk_alloc (blk_new (by simp)) _) h5 | exact blk_below (blk_drew (blk_alloc (blk_new (by simp)) _)) h5 | exact blk_below (blk_alloc (blk_alloc (blk_new (by simp)) _) _) h5 | exact blk_below (blk_drew (blk_alloc (blk_alloc (blk_new (by simp)) _) _)) h5 | exact blk_below (blk_alloc (blk_alloc (blk_alloc (blk_new (by simp)) _) _) _) h5 | exact blk_below (blk_drew (blk_alloc (blk_alloc (blk_alloc (blk_new (by simp)) _) _) _)) h5 | exact blk_below (blk_alloc (blk_alloc (blk_alloc (blk_alloc (blk_new (by simp)) _) _) _) _) h5 | exact blk_below (blk_drew (blk_alloc (blk_alloc (blk_alloc (blk_alloc (blk_new (by simp)) _) _) _) _)) h5
  clear fac0 faz0 fac1 faz1 fal fbc0 fbz0 fbc1 fbz1 fbl
  clear Ra Rb
  have fac0 : w5.cell? ⟨w.heap.size, 0, none⟩ = some (.int .u64 a) := (cell_of_row _ _ _ _ _ _ ra).trans rfl
  have faz0 := frozen_of_row _ _ 0 _ _ ra
  have fac1 : w5.cell? ⟨w.heap.size, 1, none⟩ = some (.int .u64 b) := (cell_of_row _ _ _ _ _ _ ra).trans rfl
  have faz1 := frozen_of_row _ _ 1 _ _ ra
  have fal := blk_lt ra
  have Ra := Lib.hid ra
  clear ra
  have fbc0 : w5.cell? ⟨(w.heap.size + 1), 0, none⟩ = some (.int .u64 c) := (cell_of_row _ _ _ _ _ _ rb).trans rfl
  have fbz0 := frozen_of_row _ _ 0 _ _ rb
  have fbc1 : w5.cell? ⟨(w.heap.size + 1), 1, none⟩ = some (.int .u64 d) := (cell_of_row _ _ _ _ _ _ rb).trans rfl
  have fbz1 := frozen_of_row _ _ 1 _ _ rb
  have fbl := blk_lt rb
  have Rb := Lib.hid rb
  clear rb
  clear B4
  clear h5
  go_wp2_with fail
  refine (right_any _ a b K HA.out HB.out (by omega) (by omega)).mono ?_
  rintro e w6 ⟨rfl, h6⟩
  rw [Hz1.out]
  have B6 := Lib.hid (b_then (by first | exact (B5.out) | exact b_drew (B5.out) | exact (b_alloc (B5.out) _) | exact b_drew (b_alloc (B5.out) _) | exact (b_alloc (b_alloc (B5.out) _) _) | exact b_drew (b_alloc (b_alloc (B5.out) _) _) | exact (b_alloc (b_alloc (b_alloc (B5.out) _) _) _) | exact b_drew (b_alloc (b_alloc (b_alloc (B5.out) _) _) _) | exact (b_alloc (b_alloc (b_alloc (b_alloc (B5.out) _) _) _) _) | exact b_drew (b_alloc (b_alloc (b_alloc (b_alloc (B5.out) _) _) _) _) | exact (b_alloc (b_alloc (b_alloc (b_alloc (b_alloc (B5.out) _) _) _) _) _) | exact b_drew (b_alloc (b_alloc (b_alloc (b_alloc (b_alloc (B5.out) _) _) _) _) _)) h6)
  have ra : w6.heap[w.heap.size]? = some (.cells #[.int .u64 a, .int .u64 b] 24 (0, 0)) := by first | exact blk_below (Ra.out) h6 | exact blk_below (blk_drew (Ra.out)) h6 | exact blk_below (blk_alloc (Ra.out) _) h6 | exact blk_below (blk_drew (blk_alloc (Ra.out) _)) h6 | exact blk_below (blk_alloc (blk_alloc (Ra.out) _) _) h6 | exact blk_below (blk_drew (blk_alloc (blk_alloc (Ra.out) _) _)) h6 | exact blk_below (blk_alloc (blk_alloc (blk_alloc (Ra.out) _) _) _) h6 | exact blk_below (blk_drew (blk_alloc (blk_alloc (blk_alloc (Ra.out) _) _) _)) h6 | exact blk_below (blk_alloc (blk_alloc (blk_alloc (blk_alloc (Ra.out) _) _) _) _) h6 | exact blk_below (blk_drew (blk_alloc (blk_alloc (blk_alloc (blk_alloc (Ra.out) _) _) _) _)) h6 | exact blk_below (blk_new rfl) h6 | exact blk_below (blk_drew (blk_new rfl)) h6 | exact blk_below (blk_alloc (blk_new rfl) _) h6 | exact blk_below (blk_drew (blk_alloc (blk_new rfl) _)) h6 | exact blk_below (blk_alloc (blk_alloc (blk_new rfl) _) _) h6 | exact blk_below (blk_drew (blk_alloc (blk_alloc (blk_new rfl) _) _)) h6 | exact blk_below (blk_alloc (blk_alloc (blk_alloc (blk_new rfl) _) _) _) h6 | exact blk_below (blk_drew (blk_alloc (blk_alloc (blk_alloc (blk_new rfl) _) _) _)) h6 | exact blk_below (blk_alloc (blk_alloc (blk_alloc (blk_alloc (blk_new rfl) _) _) _) _) h6 | exact blk_below (blk_drew (blk_alloc (blk_alloc (blk_alloc (blk_alloc (blk_new rfl) _) _) _) _)) h6 | exact blk_below (blk_new (by simp)) h6 | exact blk_below (blk_drew (blk_new (by simp))) h6 | exact blk_below (blk_alloc (blk_new (by simp)) _) h6 | exact blk_below (blk_drew (blk_alloc (blk_new (by simp)) _)) h6 | exact blk_below (blk_alloc (blk_alloc (blk_new (by simp)) _) _) h6 | exact blk_below (blk_drew (blk_alloc (blk_alloc (blk_new (by simp)) _) _)) h6 | exact blk_below (blk_alloc (blk_alloc (blk_alloc (blk_new (by simp)) _) _) _) h6 | exact blk_below (blk_drew (blk_alloc (blk_alloc (blk_alloc (blk_new (by simp)) _) _) _)) h6 | exact blk_below (blk_alloc (blk_alloc (blk_alloc (blk_alloc (blk_new (by simp)) _) _) _) _) h6 | exact blk_below (blk_drew (blk_alloc (blk_alloc (blk_alloc (blk_alloc (blk_new (by simp)) _) _) _) _)) h6
  have rb : w6.heap[(w.heap.size + 1)]? = some (.cells #[.int .u64 c, .int .u64 d] 24 (0, 0)) := by first | exact blk_below (Rb.out) h6 | exact blk_below (blk_drew (Rb.out)) h6 | exact blk_below (blk_alloc (Rb.out) _) h6 | exact blk_below (blk_drew (blk_alloc (Rb.out) _)) h6 | exact blk_below (blk_alloc (blk_alloc (Rb.out) _) _) h6 | exact blk_below (blk_drew (blk_alloc (blk_alloc (Rb.out) _) _)) h6 | exact blk_below (blk_alloc (blk_alloc (blk_alloc (Rb.out) _) _) _) h6 | exact blk_below (blk_drew (blk_alloc (blk_alloc (blk_alloc (Rb.out) _) _) _)) h6 | exact blk_below (blk_alloc (blk_alloc (blk_alloc (blk_alloc (Rb.out) _) _) _) _) h6 | exact blk_below (blk_drew (blk_alloc (blk_alloc (blk_alloc (blk_alloc (Rb.out) _) _) _) _)) h6 | exact blk_below (blk_new rfl) h6 | exact blk_below (blk_drew (blk_new rfl)) h6 | exact blk_below (blk_alloc (blk_new rfl) _) h6 | exact blk_below (blk_drew (blk_alloc (blk_new rfl) _)) h6 | exact blk_below (blk_alloc (blk_alloc (blk_new rfl) _) _) h6 | exact blk_below (blk_drew (blk_alloc (blk_alloc (blk_new rfl) _) _)) h6 | exact blk_below (blk_alloc (blk_alloc (blk_alloc (blk_new rfl) _) _) _) h6 | exact blk_below (blk_drew (blk_alloc (blk_alloc (blk_alloc (blk_new rfl) _) _) _)) h6 | exact blk_below (blk_alloc (blk_alloc (blk_alloc (blk_alloc (blk_new rfl) _) _) _) _) h6 | exact blk_below (blk_drew (blk_alloc (blk_alloc (blk_alloc (blk_alloc (blk_new rfl) _) _) _) _)) h6 | exact blk_below (blk_new (by simp)) h6 | exact blk_below (blk_drew (blk_new (by simp))) h6 | exact blk_below (blk_alloc (blk_new (by simp)) _) h6 | exact blk_below (blk_drew (blk_alloc (blk_new (by simp)) _)) h6 | exact blk_below (blk_alloc (blk_alloc (blk_new (by simp)) _) _) h6 | exact blk_below (blk_drew (blk_alloc (blk_alloc (blk_new (by simp)) _) _)) h6 | exact blk_below (blk_alloc (blk_alloc (blk_alloc (blk_new (by simp)) _) _) _) h6 | exact blk_below (blk_drew (blk_alloc (blk_alloc (blk_alloc (blk_new (by simp)) _) _) _)) h6 | exact blk_below (blk_alloc (blk_alloc (blk_alloc (blk_alloc (blk_new (by simp)) _) _) _) _) h6 | exact blk_below (blk_drew (blk_alloc (blk_alloc (blk_alloc (blk_alloc (blk_new (by simp)) _) _) _) _)) h6
  clear fac0 faz0 fac1 faz1 fal fbc0 fbz0 fbc1 fbz1 fbl
  clear Ra Rb
  have fac0 : w6.cell? ⟨w.heap.size, 0, none⟩ = some (.int .u64 a) := (cell_of_row _ _ _ _ _ _ ra).trans rfl
  have faz0 := frozen_of_row _ _ 0 _ _ ra
  have fac1 : w6.cell? ⟨w.heap.size, 1, none⟩ = some (.int .u64 b) := (cell_of_row _ _ _ _ _ _ ra).trans rfl
  have faz1 := frozen_of_row _ _ 1 _ _ ra
  have fal := blk_lt ra
  have Ra := Lib.hid ra
  clear ra
  have fbc0 : w6.cell? ⟨(w.heap.size + 1), 0, none⟩ = some (.int .u64 c) := (cell_of_row _ _ _ _ _ _ rb).trans rfl
  have fbz0 := frozen_of_row _ _ 0 _ _ rb
  have fbc1 : w6.cell? ⟨(w.heap.size + 1), 1, none⟩ = some (.int .u64 d) := (cell_of_row _ _ _ _ _ _ rb).trans rfl
  have fbz1 := frozen_of_row _ _ 1 _ _ rb
  have fbl := blk_lt rb
  have Rb := Lib.hid rb
  clear rb
  clear B5
  clear h6
  go_wp2_with fail
  refine (right_any _ a b (K - 1) HA.out HB.out (by omega) (by omega)).mono ?_
  rintro e w7 ⟨rfl, h7⟩
  rw [Hz2.out]
  have B7 := Lib.hid (b_then (by first | exact (B6.out) | exact b_drew (B6.out) | exact (b_alloc (B6.out) _) | exact b_drew (b_alloc (B6.out) _) | exact (b_alloc (b_alloc (B6.out) _) _) | exact b_drew (b_alloc (b_alloc (B6.out) _) _) | exact (b_alloc (b_alloc (b_alloc (B6.out) _) _) _) | exact b_drew (b_alloc (b_alloc (b_alloc (B6.out) _) _) _) | exact (b_alloc (b_alloc (b_alloc (b_alloc (B6.out) _) _) _) _) | exact b_drew (b_alloc (b_alloc (b_alloc (b_alloc (B6.out) _) _) _) _) | exact (b_alloc (b_alloc (b_alloc (b_alloc (b_alloc (B6.out) _) _) _) _) _) | exact b_drew (b_alloc (b_alloc (b_alloc (b_alloc (b_alloc (B6.out) _) _) _) _) _)) h7)
  have ra : w7.heap[w.heap.size]? = some (.cells #[.int .u64 a, .int .u64 b] 24 (0, 0)) := by first | exact blk_below (Ra.out) h7 | exact blk_below (blk_drew (Ra.out)) h7 | exact blk_below (blk_alloc (Ra.out) _) h7 | exact blk_below (blk_drew (blk_alloc (Ra.out) _)) h7 | exact blk_below (blk_alloc (blk_alloc (Ra.out) _) _) h7 | exact blk_below (blk_drew (blk_alloc (blk_alloc (Ra.out) _) _)) h7 | exact blk_below (blk_alloc (blk_alloc (blk_alloc (Ra.out) _) _) _) h7 | exact blk_below (blk_drew (blk_alloc (blk_alloc (blk_alloc (Ra.out) _) _) _)) h7 | exact blk_below (blk_alloc (blk_alloc (blk_alloc (blk_alloc (Ra.out) _) _) _) _) h7 | exact blk_below (blk_drew (blk_alloc (blk_alloc (blk_alloc (blk_alloc (Ra.out) _) _) _) _)) h7 | exact blk_below (blk_new rfl) h7 | exact blk_below (blk_drew (blk_new rfl)) h7 | exact blk_below (blk_alloc (blk_new rfl) _) h7 | exact blk_below (blk_drew (blk_alloc (blk_new rfl) _)) h7 | exact blk_below (blk_alloc (blk_alloc (blk_new rfl) _) _) h7 | exact blk_below (blk_drew (blk_alloc (blk_alloc (blk_new rfl) _) _)) h7 | exact blk_below (blk_alloc (blk_alloc (blk_alloc (blk_new rfl) _) _) _) h7 | exact blk_below (blk_drew (blk_alloc (blk_alloc (blk_alloc (blk_new rfl) _) _) _)) h7 | exact blk_below (blk_alloc (blk_alloc (blk_alloc (blk_alloc (blk_new rfl) _) _) _) _) h7 | exact blk_below (blk_drew (blk_alloc (blk_alloc (blk_alloc (blk_alloc (blk_new rfl) _) _) _) _)) h7 | exact blk_below (blk_new (by simp)) h7 | exact blk_below (blk_drew (blk_new (by simp))) h7 | exact blk_below (blk_alloc (blk_new (by simp)) _) h7 | exact blk_below (blk_drew (blk_alloc (blk_new (by simp)) _)) h7 | exact blk_below (blk_alloc (blk_alloc (blk_new (by simp)) _) _) h7 | exact blk_below (blk_drew (blk_alloc (blk_alloc (blk_new (by simp)) _) _)) h7 | exact blk_below (blk_alloc (blk_alloc (blk_alloc (blk_new (by simp)) _) _) _) h7 | exact blk_below (blk_drew (blk_alloc (blk_alloc (blk_alloc (blk_new (by simp)) _) _) _)) h7 | exact blk_below (blk_alloc (blk_alloc (blk_alloc (blk_alloc (blk_new (by simp)) _) _) _) _) h7 | exact blk_below (blk_drew (blk_alloc (blk_alloc (blk_alloc (blk_alloc (blk_new (by simp)) _) _) _) _)) h7
  have rb : w7.heap[(w.heap.size + 1)]? = some (.cells #[.int .u64 c, .int .u64 d] 24 (0, 0)) := by first | exact blk_below (Rb.out) h7 | exact blk_below (blk_drew (Rb.out)) h7 | exact blk_below (blk_alloc (Rb.out) _) h7 | exact blk_below (blk_drew (blk_alloc (Rb.out) _)) h7 | exact blk_below (blk_alloc (blk_alloc (Rb.out) _) _) h7 | exact blk_below (blk_drew (blk_alloc (blk_alloc (Rb.out) _) _)) h7 | exact blk_below (blk_alloc (blk_alloc (blk_alloc (Rb.out) _) _) _) h7 | exact blk_below (blk_drew (blk_alloc (blk_alloc (blk_alloc (Rb.out) _) _) _)) h7 | exact blk_below (blk_alloc (blk_alloc (blk_alloc (blk_alloc (Rb.out) _) _) _) _) h7 | exact blk_below (blk_drew (blk_alloc (blk_alloc (blk_alloc (blk_alloc (Rb.out) _) _) _) _)) h7 | exact blk_below (blk_new rfl) h7 | exact blk_below (blk_drew (blk_new rfl)) h7 | exact blk_below (blk_alloc (blk_new rfl) _) h7 | exact blk_below (blk_drew (blk_alloc (blk_new rfl) _)) h7 | exact blk_below (blk_alloc (blk_alloc (blk_new rfl) _) _) h7 | exact blk_below (blk_drew (blk_alloc (blk_alloc (blk_new rfl) _) _)) h7 | exact blk_below (blk_alloc (blk_alloc (blk_alloc (blk_new rfl) _) _) _) h7 | exact blk_below (blk_drew (blk_alloc (blk_alloc (blk_alloc (blk_new rfl) _) _) _)) h7 | exact blk_below (blk_alloc (blk_alloc (blk_alloc (blk_alloc (blk_new rfl) _) _) _) _) h7 | exact blk_below (blk_drew (blk_alloc (blk_alloc (blk_alloc (blk_alloc (blk_new rfl) _) _) _) _)) h7 | exact blk_below (blk_new (by simp)) h7 | exact blk_below (blk_drew (blk_new (by simp))) h7 | exact blk_below (blk_alloc (blk_new (by simp)) _) h7 | exact blk_below (blk_drew (blk_alloc (blk_new (by simp)) _)) h7 | exact blk_below (blk_alloc (blk_alloc (blk_new (by simp)) _) _) h7 | exact blk_below (blk_drew (blk_alloc (blk_alloc (blk_new (by simp)) _) _)) h7 | exact blk_below (blk_alloc (blk_alloc (blk_alloc (blk_new (by simp)) _) _) _) h7 | exact blk_below (blk_drew (blk_alloc (blk_alloc (blk_alloc (blk_new (by simp)) _) _) _)) h7 | exact blk_below (blk_alloc (blk_alloc (blk_alloc (blk_alloc (blk_new (by simp)) _) _) _) _) h7 | exact blk_below (blk_drew (blk_alloc (blk_alloc (blk_alloc (blk_alloc (blk_new (by simp)) _) _) _) _)) h7
  clear fac0 faz0 fac1 faz1 fal fbc0 fbz0 fbc1 fbz1 fbl
  clear Ra Rb
  have fac0 : w7.cell? ⟨w.heap.size, 0, none⟩ = some (.int .u64 a) := (cell_of_row _ _ _ _ _ _ ra).trans rfl
  have faz0 := frozen_of_row _ _ 0 _ _ ra
  have fac1 : w7.cell? ⟨w.heap.size, 1, none⟩ = some (.int .u64 b) := (cell_of_row _ _ _ _ _ _ ra).trans rfl
  have faz1 := frozen_of_row _ _ 1 _ _ ra
  have fal := blk_lt ra
  have Ra := Lib.hid ra
  clear ra
  have fbc0 : w7.cell? ⟨(w.heap.size + 1), 0, none⟩ = some (.int .u64 c) := (cell_of_row _ _ _ _ _ _ rb).trans rfl
  have fbz0 := frozen_of_row _ _ 0 _ _ rb
  have fbc1 : w7.cell? ⟨(w.heap.size + 1), 1, none⟩ = some (.int .u64 d) := (cell_of_row _ _ _ _ _ _ rb).trans rfl
  have fbz1 := frozen_of_row _ _ 1 _ _ rb
  have fbl := blk_lt rb
  have Rb := Lib.hid rb
  clear rb
  clear B6
  clear h7
  go_wp2_with fail
  refine (of1_any _ 1).mono ?_
  rintro e w8 ⟨rfl, h8⟩
  have B8 := Lib.hid (b_then (by first | exact (B7.out) | exact b_drew (B7.out) | exact (b_alloc (B7.out) _) | exact b_drew (b_alloc (B7.out) _) | exact (b_alloc (b_alloc (B7.out) _) _) | exact b_drew (b_alloc (b_alloc (B7.out) _) _) | exact (b_alloc (b_alloc (b_alloc (B7.out) _) _) _) | exact b_drew (b_alloc (b_alloc (b_alloc (B7.out) _) _) _) | exact (b_alloc (b_alloc (b_alloc (b_alloc (B7.out) _) _) _) _) | exact b_drew (b_alloc (b_alloc (b_alloc (b_alloc (B7.out) _) _) _) _) | exact (b_alloc (b_alloc (b_alloc (b_alloc (b_alloc (B7.out) _) _) _) _) _) | exact b_drew (b_alloc (b_alloc (b_alloc (b_alloc (b_alloc (B7.out) _) _) _) _) _)) h8)
  have ra : w8.heap[w.heap.size]? = some (.cells #[.int .u64 a, .int .u64 b] 24 (0, 0)) := by first | exact blk_below (Ra.out) h8 | exact blk_below (blk_drew (Ra.out)) h8 | exact blk_below (blk_alloc (Ra.out) _) h8 | exact blk_below (blk_drew (blk_alloc (Ra.out) _)) h8 | exact blk_below (blk_alloc (blk_alloc (Ra.out) _) _) h8 | exact blk_below (blk_drew (blk_alloc (blk_alloc (Ra.out) _) _)) h8 | exact blk_below (blk_alloc (blk_alloc (blk_alloc (Ra.out) _) _) _) h8 | exact blk_below (blk_drew (blk_alloc (blk_alloc (blk_alloc (Ra.out) _) _) _)) h8 | exact blk_below (blk_alloc (blk_alloc (blk_alloc (blk_alloc (Ra.out) _) _) _) _) h8 | exact blk_below (blk_drew (blk_alloc (blk_alloc (blk_alloc (blk_alloc (Ra.out) _) _) _) _)) h8 | exact blk_below (blk_new rfl) h8 | exact blk_below (blk_drew (blk_new rfl)) h8 | exact blk_below (blk_alloc (blk_new rfl) _) h8 | exact blk_below (blk_drew (blk_alloc (blk_new rfl) _)) h8 | exact blk_below (blk_alloc (blk_alloc (blk_new rfl) _) _) h8 | exact blk_below (blk_drew (blk_alloc (blk_alloc (blk_new rfl) _) _)) h8 | exact blk_below (blk_alloc (blk_alloc (blk_alloc (blk_new rfl) _) _) _) h8 | exact blk_below (blk_drew (blk_alloc (blk_alloc (blk_alloc (blk_new rfl) _) _) _)) h8 | exact blk_below (blk_alloc (blk_alloc (blk_alloc (blk_alloc (blk_new rfl) _) _) _) _) h8 | exact blk_below (blk_drew (blk_alloc (blk_alloc (blk_alloc (blk_alloc (blk_new rfl) _) _) _) _)) h8 | exact blk_below (blk_new (by simp)) h8 | exact blk_below (blk_drew (blk_new (by simp))) h8 | exact blk_below (blk_alloc (blk_new (by simp)) _) h8 | exact blk_below (blk_drew (blk_alloc (blk_new (by simp)) _)) h8 | exact blk_below (blk_alloc (blk_alloc (blk_new (by simp)) _) _) h8 | exact blk_below (blk_drew (blk_alloc (blk_alloc (blk_new (by simp)) _) _)) h8 | exact blk_below (blk_alloc (blk_alloc (blk_alloc (blk_new (by simp)) _) _) _) h8 | exact blk_below (blk_drew (blk_alloc (blk_alloc (blk_alloc (blk_new (by simp)) _) _) _)) h8 | exact blk_below (blk_alloc (blk_alloc (blk_alloc (blk_alloc (blk_new (by simp)) _) _) _) _) h8 | exact blk_below (blk_drew (blk_alloc (blk_alloc (blk_alloc (blk_alloc (blk_new (by simp)) _) _) _) _)) h8
  have rb : w8.heap[(w.heap.size + 1)]? = some (.cells #[.int .u64 c, .int .u64 d] 24 (0, 0)) := by first | exact blk_below (Rb.out) h8 | exact blk_below (blk_drew (Rb.out)) h8 | exact blk_below (blk_alloc (Rb.out) _) h8 | exact blk_below (blk_drew (blk_alloc (Rb.out) _)) h8 | exact blk_below (blk_alloc (blk_alloc (Rb.out) _) _) h8 | exact blk_below (blk_drew (blk_alloc (blk_alloc (Rb.out) _) _)) h8 | exact blk_below (blk_alloc (blk_alloc (blk_alloc (Rb.out) _) _) _) h8 | exact blk_below (blk_drew (blk_alloc (blk_alloc (blk_alloc (Rb.out) _) _) _)) h8 | exact blk_below (blk_alloc (blk_alloc (blk_alloc (blk_alloc (Rb.out) _) _) _) _) h8 | exact blk_below (blk_drew (blk_alloc (blk_alloc (blk_alloc (blk_alloc (Rb.out) _) _) _) _)) h8 | exact blk_below (blk_new rfl) h8 | exact blk_below (blk_drew (blk_new rfl)) h8 | exact blk_below (blk_alloc (blk_new rfl) _) h8 | exact blk_below (blk_drew (blk_alloc (blk_new rfl) _)) h8 | exact blk_below (blk_alloc (blk_alloc (blk_new rfl) _) _) h8 | exact blk_below (blk_drew (blk_alloc (blk_alloc (blk_new rfl) _) _)) h8 | exact blk_below (blk_alloc (blk_alloc (blk_alloc (blk_new rfl) _) _) _) h8 | exact blk_below (blk_drew (blk_alloc (blk_alloc (blk_alloc (blk_new rfl) _) _) _)) h8 | exact blk_below (blk_alloc (blk_alloc (blk_alloc (blk_alloc (blk_new rfl) _) _) _) _) h8 | exact blk_below (blk_drew (blk_alloc (blk_alloc (blk_alloc (blk_alloc (blk_new rfl) _) _) _) _)) h8 | exact blk_below (blk_new (by simp)) h8 | exact blk_below (blk_drew (blk_new (by simp))) h8 | exact blk_below (blk_alloc (blk_new (by simp)) _) h8 | exact blk_below (blk_drew (blk_alloc (blk_new (by simp)) _)) h8 | exact blk_below (blk_alloc (blk_alloc (blk_new (by simp)) _) _) h8 | exact blk_below (blk_drew (blk_alloc (blk_alloc (blk_new (by simp)) _) _)) h8 | exact blk_below (blk_alloc (blk_alloc (blk_alloc (blk_new (by simp)) _) _) _) h8 | exact blk_below (blk_drew (blk_alloc (blk_alloc (blk_alloc (blk_new (by simp)) _) _) _)) h8 | exact blk_below (blk_alloc (blk_alloc (blk_alloc (blk_alloc (blk_new (by simp)) _) _) _) _) h8 | exact blk_below (blk_drew (blk_alloc (blk_alloc (blk_alloc (blk_alloc (blk_new (by simp)) _) _) _) _)) h8
  clear fac0 faz0 fac1 faz1 fal fbc0 fbz0 fbc1 fbz1 fbl
  clear Ra Rb
  have fac0 : w8.cell? ⟨w.heap.size, 0, none⟩ = some (.int .u64 a) := (cell_of_row _ _ _ _ _ _ ra).trans rfl
  have faz0 := frozen_of_row _ _ 0 _ _ ra
  have fac1 : w8.cell? ⟨w.heap.size, 1, none⟩ = some (.int .u64 b) := (cell_of_row _ _ _ _ _ _ ra).trans rfl
  have faz1 := frozen_of_row _ _ 1 _ _ ra
  have fal := blk_lt ra
  have Ra := Lib.hid ra
  clear ra
  have fbc0 : w8.cell? ⟨(w.heap.size + 1), 0, none⟩ = some (.int .u64 c) := (cell_of_row _ _ _ _ _ _ rb).trans rfl
  have fbz0 := frozen_of_row _ _ 0 _ _ rb
  have fbc1 : w8.cell? ⟨(w.heap.size + 1), 1, none⟩ = some (.int .u64 d) := (cell_of_row _ _ _ _ _ _ rb).trans rfl
  have fbz1 := frozen_of_row _ _ 1 _ _ rb
  have fbl := blk_lt rb
  have Rb := Lib.hid rb
  clear rb
  clear B7
  clear h8
  unfold wv
  go_wp2_with fail
  by_cases hq : KB ≤ K
  · have hqd : decide (KB ≤ K) = true := by simp; omega
    refine region_quiet (C := C7 w a b c d) (by kernel_rfl) (by kernel_rfl) ⟨⟨fac0, fac1, fbc0, fbc1⟩, fbl, b_drew B8.out⟩ ?_
    repeat
      first
        | (refine q_skip rfl ?_
           simp only [Act.put, List.setIfInBounds_toArray, List.set_cons_zero, List.set_cons_succ])
        | (refine q_step rfl ?_ (fun w' hC => ?_) ?_
           rotate_left
           · have hC' := Lib.hid hC
             obtain ⟨⟨c1, c2, c3, c4⟩, hlt, hbel⟩ := hC
             have hbel' := Lib.hid hbel
             clear hbel
             go_simp
             first
               | done
               | rfl
               | (go_at_call 16; refine (right_any _ a b n HA.out HB.out (by omega) (by omega)).mono ?_; rintro e w2 ⟨rfl, hb⟩; rw [Hz3.out]; refine ⟨?_, c7_below hb hC'.out⟩; rfl)
               | (go_at_call 21; refine (compare_any _ R S a b HR.out HS.out HA.out HB.out).mono ?_; rintro e w2 ⟨rfl, hb⟩; rw [Hz5.out]; refine ⟨?_, c7_below hb hC'.out⟩; rfl)
               | (go_at_call 22; refine (bits_any _ c d HC.out HD.out).mono ?_; rintro e w2 ⟨rfl, hb⟩; rw [HKB.out]; refine ⟨?_, c7_below hb hC'.out⟩; rfl)
           simp only [Act.put, List.setIfInBounds_toArray, List.set_cons_zero, List.set_cons_succ])
    refine wpQuiet_nil ?_
    intro w9 hC9
    have HL2 := Lib.hid hC9.2.2
    clear hC9
    go_wp2_with fail
    refine bodyPost_ret (v := .bool true) (by simp [results, Try.results7, go_sem]) rfl ⟨rfl, HL2.out⟩
  · have hqd : decide (KB ≤ K) = false := by simp; omega
    refine region_quiet (C := C7 w a b c d) (by kernel_rfl) (by kernel_rfl) ⟨⟨fac0, fac1, fbc0, fbc1⟩, fbl, b_drew B8.out⟩ ?_
    repeat
      first
        | (refine q_skip rfl ?_
           simp only [Act.put, List.setIfInBounds_toArray, List.set_cons_zero, List.set_cons_succ])
        | (refine q_step rfl ?_ (fun w' hC => ?_) ?_
           rotate_left
           · have hC' := Lib.hid hC
             obtain ⟨⟨c1, c2, c3, c4⟩, hlt, hbel⟩ := hC
             have hbel' := Lib.hid hbel
             clear hbel
             go_simp
             first
               | done
               | rfl
               | (go_at_call 16; refine (right_any _ a b n HA.out HB.out (by omega) (by omega)).mono ?_; rintro e w2 ⟨rfl, hb⟩; rw [Hz3.out]; refine ⟨?_, c7_below hb hC'.out⟩; rfl)
               | (go_at_call 21; refine (compare_any _ R S a b HR.out HS.out HA.out HB.out).mono ?_; rintro e w2 ⟨rfl, hb⟩; rw [Hz5.out]; refine ⟨?_, c7_below hb hC'.out⟩; rfl)
               | (go_at_call 22; refine (bits_any _ c d HC.out HD.out).mono ?_; rintro e w2 ⟨rfl, hb⟩; rw [HKB.out]; refine ⟨?_, c7_below hb hC'.out⟩; rfl)
           simp only [Act.put, List.setIfInBounds_toArray, List.set_cons_zero, List.set_cons_succ])
    refine wpQuiet_nil ?_
    intro w9 hC9
    have HL2 := Lib.hid hC9.2.2
    clear hC9
    go_wp2_with fail
    refine bodyPost_ret (v := .bool true) (by simp [results, Try.results7, go_sem]) rfl ⟨rfl, HL2.out⟩
set_option maxHeartbeats 4000000 in
set_option maxRecDepth 100000 in
theorem orders_ltz (w : World) (a b c d n : Int) (ha : U a) (hb : U b) (hc : U c) (hd : U d) (hn : 0 ≤ n) (hn' : n < 256) (hs : wval a b < wval c d) (hz : wval a b = 0) : Calls Try.prog 7 #[wv a b, wv c d, .int .u8 n] w (Ret w (.bool true)) := by
  have HA := Lib.hid ha
  have HB := Lib.hid hb
  have HC := Lib.hid hc
  have HD := Lib.hid hd
  have rA := wval_range ha hb
  have rB := wval_range hc hd
  have k1 : cmpI (wval a b) (wval c d) = -1 := by unfold cmpI; rw [if_pos hs]
  have k2 : cmpI (wval c d) (wval a b) = 1 := by unfold cmpI; rw [if_neg (by omega), if_pos hs]
  have e1 : (decide (a = c) && decide (b = d)) = false := by
    have := wval_eq ha hb hc hd
    simp; omega
  have e2 : (decide (a = 0) && decide (b = 0)) = true := by
    have := wval_eq ha hb (show U 0 by unfold U; decide) (show U 0 by unfold U; decide)
    have h0 : wval 0 0 = 0 := rfl
    simp; exact this.1 (by omega)
  have s1 : ∃ P Q : Int, optV (wval a b - wval c d) (wval c d ≤ wval a b) = .tuple #[.agg #[.int .u64 P, .int .u64 Q], .bool false] := by
    unfold optV
    rw [if_neg (by omega)]
    exact ⟨_, _, rfl⟩
  obtain ⟨P, Q, s1⟩ := s1
  obtain ⟨K, hK⟩ : ∃ K : Int, (bitLen (wval a b).toNat : Int) = K := ⟨_, rfl⟩
  obtain ⟨KB, hKB⟩ : ∃ KB : Int, (bitLen (wval c d).toNat : Int) = KB := ⟨_, rfl⟩
  have hK0 : K = 0 := by
    have := bit_zero (n := (wval a b).toNat)
    omega
  have hK1 : K ≤ 128 := by
    have := bitLen_lt (wval a b).toNat 128 (by omega)
    omega
  have hKK : 0 ≤ KB := by omega
  have z1 := right_zero rA.1
  rw [hK] at z1
  have z2 : True := trivial
  have rl := right_low rA.1 n.toNat
  obtain ⟨R, S, z3, z4, hR, hS⟩ := wn_pq rl.1 (by omega)
  obtain ⟨y, z5, z6⟩ := cmp_low (show wval R S ≤ wval a b by omega)
  have HR := Lib.hid hR
  have HS := Lib.hid hS
  have Hk1 := Lib.hid k1
  have Hk2 := Lib.hid k2
  have Hs1 := Lib.hid s1
  have Hz1 := Lib.hid z1
  have Hz2 := Lib.hid z2
  have Hz3 := Lib.hid z3
  have Hz5 := Lib.hid z5
  have HK := Lib.hid hK
  have HKB := Lib.hid hKB
  have ew : IntKind.i64.wrap (K - 1) = K - 1 := by simp [IntKind.wrap, IntKind.signed, IntKind.bits]; omega
  have ew2 : wrap64 (K - 1) = K - 1 := by unfold wrap64; omega
  have ew3 : IntKind.i64.wrap n = n := by simp [IntKind.wrap, IntKind.signed, IntKind.bits]; omega
  have ew4 : wrap64 n = n := by unfold wrap64; omega
  clear ha hb hc hd rA rB k1 k2 s1 z1 z2 z3 z4 z5 hR hS hs hz rl hK hKB
  subst hK0
  have hye : decide (y ≤ 0) = true := by simp; omega
  unfold wv
  go_enter Try.func7, Try.ntmps7
  go_wp2_with fail
  refine (first_any _).mono ?_
  rintro e w1 ⟨rfl, h1⟩
  have B1 := Lib.hid (b_then (by first | exact (Below.refl w.heap.size w) | exact b_drew (Below.refl w.heap.size w) | exact (b_alloc (Below.refl w.heap.size w) _) | exact b_drew (b_alloc (Below.refl w.heap.size w) _) | exact (b_alloc (b_alloc (Below.refl w.heap.size w) _) _) | exact b_drew (b_alloc (b_alloc (Below.refl w.heap.size w) _) _) | exact (b_alloc (b_alloc (b_alloc (Below.refl w.heap.size w) _) _) _) | exact b_drew (b_alloc (b_alloc (b_alloc (Below.refl w.heap.size w) _) _) _) | exact (b_alloc (b_alloc (b_alloc (b_alloc (Below.refl w.heap.size w) _) _) _) _) | exact b_drew (b_alloc (b_alloc (b_alloc (b_alloc (Below.refl w.heap.size w) _) _) _) _) | exact (b_alloc (b_alloc (b_alloc (b_alloc (b_alloc (Below.refl w.heap.size w) _) _) _) _) _) | exact b_drew (b_alloc (b_alloc (b_alloc (b_alloc (b_alloc (Below.refl w.heap.size w) _) _) _) _) _)) h1)
  have ra : w1.heap[w.heap.size]? = some (.cells #[.int .u64 a, .int .u64 b] 24 (0, 0)) := by first | exact blk_below (blk_new rfl) h1 | exact blk_below (blk_drew (blk_new rfl)) h1 | exact blk_below (blk_alloc (blk_new rfl) _) h1 | exact blk_below (blk_drew (blk_alloc (blk_new rfl) _)) h1 | exact blk_below (blk_alloc (blk_alloc (blk_new rfl) _) _) h1 | exact blk_below (blk_drew (blk_alloc (blk_alloc (blk_new rfl) _) _)) h1 | exact blk_below (blk_alloc (blk_alloc (blk_alloc (blk_new rfl) _) _) _) h1 | exact blk_below (blk_drew (blk_alloc (blk_alloc (blk_alloc (blk_new rfl) _) _) _)) h1 | exact blk_below (blk_alloc (blk_alloc (blk_alloc (blk_alloc (blk_new rfl) _) _) _) _) h1 | exact blk_below (blk_drew (blk_alloc (blk_alloc (blk_alloc (blk_alloc (blk_new rfl) _) _) _) _)) h1 | exact blk_below (blk_new (by simp)) h1 | exact blk_below (blk_drew (blk_new (by simp))) h1 | exact blk_below (blk_alloc (blk_new (by simp)) _) h1 | exact blk_below (blk_drew (blk_alloc (blk_new (by simp)) _)) h1 | exact blk_below (blk_alloc (blk_alloc (blk_new (by simp)) _) _) h1 | exact blk_below (blk_drew (blk_alloc (blk_alloc (blk_new (by simp)) _) _)) h1 | exact blk_below (blk_alloc (blk_alloc (blk_alloc (blk_new (by simp)) _) _) _) h1 | exact blk_below (blk_drew (blk_alloc (blk_alloc (blk_alloc (blk_new (by simp)) _) _) _)) h1 | exact blk_below (blk_alloc (blk_alloc (blk_alloc (blk_alloc (blk_new (by simp)) _) _) _) _) h1 | exact blk_below (blk_drew (blk_alloc (blk_alloc (blk_alloc (blk_alloc (blk_new (by simp)) _) _) _) _)) h1
  have rb : w1.heap[(w.heap.size + 1)]? = some (.cells #[.int .u64 c, .int .u64 d] 24 (0, 0)) := by first | exact blk_below (blk_new rfl) h1 | exact blk_below (blk_drew (blk_new rfl)) h1 | exact blk_below (blk_alloc (blk_new rfl) _) h1 | exact blk_below (blk_drew (blk_alloc (blk_new rfl) _)) h1 | exact blk_below (blk_alloc (blk_alloc (blk_new rfl) _) _) h1 | exact blk_below (blk_drew (blk_alloc (blk_alloc (blk_new rfl) _) _)) h1 | exact blk_below (blk_alloc (blk_alloc (blk_alloc (blk_new rfl) _) _) _) h1 | exact blk_below (blk_drew (blk_alloc (blk_alloc (blk_alloc (blk_new rfl) _) _) _)) h1 | exact blk_below (blk_alloc (blk_alloc (blk_alloc (blk_alloc (blk_new rfl) _) _) _) _) h1 | exact blk_below (blk_drew (blk_alloc (blk_alloc (blk_alloc (blk_alloc (blk_new rfl) _) _) _) _)) h1 | exact blk_below (blk_new (by simp)) h1 | exact blk_below (blk_drew (blk_new (by simp))) h1 | exact blk_below (blk_alloc (blk_new (by simp)) _) h1 | exact blk_below (blk_drew (blk_alloc (blk_new (by simp)) _)) h1 | exact blk_below (blk_alloc (blk_alloc (blk_new (by simp)) _) _) h1 | exact blk_below (blk_drew (blk_alloc (blk_alloc (blk_new (by simp)) _) _)) h1 | exact blk_below (blk_alloc (blk_alloc (blk_alloc (blk_new (by simp)) _) _) _) h1 | exact blk_below (blk_drew (blk_alloc (blk_alloc (blk_alloc (blk_new (by simp)) _) _) _)) h1 | exact blk_below (blk_alloc (blk_alloc (blk_alloc (blk_alloc (blk_new (by simp)) _) _) _) _) h1 | exact blk_below (blk_drew (blk_alloc (blk_alloc (blk_alloc (blk_alloc (blk_new (by simp)) _) _) _) _)) h1
  have fac0 : w1.cell? ⟨w.heap.size, 0, none⟩ = some (.int .u64 a) := (cell_of_row _ _ _ _ _ _ ra).trans rfl
  have faz0 := frozen_of_row _ _ 0 _ _ ra
  have fac1 : w1.cell? ⟨w.heap.size, 1, none⟩ = some (.int .u64 b) := (cell_of_row _ _ _ _ _ _ ra).trans rfl
  have faz1 := frozen_of_row _ _ 1 _ _ ra
  have fal := blk_lt ra
  have Ra := Lib.hid ra
  clear ra
  have fbc0 : w1.cell? ⟨(w.heap.size + 1), 0, none⟩ = some (.int .u64 c) := (cell_of_row _ _ _ _ _ _ rb).trans rfl
  have fbz0 := frozen_of_row _ _ 0 _ _ rb
  have fbc1 : w1.cell? ⟨(w.heap.size + 1), 1, none⟩ = some (.int .u64 d) := (cell_of_row _ _ _ _ _ _ rb).trans rfl
  have fbz1 := frozen_of_row _ _ 1 _ _ rb
  have fbl := blk_lt rb
  have Rb := Lib.hid rb
  clear rb
  clear h1
  go_wp2_with fail
  refine (compare_any _ a b c d HA.out HB.out HC.out HD.out).mono ?_
  rintro e w2 ⟨rfl, h2⟩
  rw [Hk1.out]
  have B2 := Lib.hid (b_then (by first | exact (B1.out) | exact b_drew (B1.out) | exact (b_alloc (B1.out) _) | exact b_drew (b_alloc (B1.out) _) | exact (b_alloc (b_alloc (B1.out) _) _) | exact b_drew (b_alloc (b_alloc (B1.out) _) _) | exact (b_alloc (b_alloc (b_alloc (B1.out) _) _) _) | exact b_drew (b_alloc (b_alloc (b_alloc (B1.out) _) _) _) | exact (b_alloc (b_alloc (b_alloc (b_alloc (B1.out) _) _) _) _) | exact b_drew (b_alloc (b_alloc (b_alloc (b_alloc (B1.out) _) _) _) _) | exact (b_alloc (b_alloc (b_alloc (b_alloc (b_alloc (B1.out) _) _) _) _) _) | exact b_drew (b_alloc (b_alloc (b_alloc (b_alloc (b_alloc (B1.out) _) _) _) _) _)) h2)
  have ra : w2.heap[w.heap.size]? = some (.cells #[.int .u64 a, .int .u64 b] 24 (0, 0)) := by first | exact blk_below (Ra.out) h2 | exact blk_below (blk_drew (Ra.out)) h2 | exact blk_below (blk_alloc (Ra.out) _) h2 | exact blk_below (blk_drew (blk_alloc (Ra.out) _)) h2 | exact blk_below (blk_alloc (blk_alloc (Ra.out) _) _) h2 | exact blk_below (blk_drew (blk_alloc (blk_alloc (Ra.out) _) _)) h2 | exact blk_below (blk_alloc (blk_alloc (blk_alloc (Ra.out) _) _) _) h2 | exact blk_below (blk_drew (blk_alloc (blk_alloc (blk_alloc (Ra.out) _) _) _)) h2 | exact blk_below (blk_alloc (blk_alloc (blk_alloc (blk_alloc (Ra.out) _) _) _) _) h2 | exact blk_below (blk_drew (blk_alloc (blk_alloc (blk_alloc (blk_alloc (Ra.out) _) _) _) _)) h2 | exact blk_below (blk_new rfl) h2 | exact blk_below (blk_drew (blk_new rfl)) h2 | exact blk_below (blk_alloc (blk_new rfl) _) h2 | exact blk_below (blk_drew (blk_alloc (blk_new rfl) _)) h2 | exact blk_below (blk_alloc (blk_alloc (blk_new rfl) _) _) h2 | exact blk_below (blk_drew (blk_alloc (blk_alloc (blk_new rfl) _) _)) h2 | exact blk_below (blk_alloc (blk_alloc (blk_alloc (blk_new rfl) _) _) _) h2 | exact blk_below (blk_drew (blk_alloc (blk_alloc (blk_alloc (blk_new rfl) _) _) _)) h2 | exact blk_below (blk_alloc (blk_alloc (blk_alloc (blk_alloc (blk_new rfl) _) _) _) _) h2 | exact blk_below (blk_drew (blk_alloc (blk_alloc (blk_alloc (blk_alloc (blk_new rfl) _) _) _) _)) h2 | exact blk_below (blk_new (by simp)) h2 | exact blk_below (blk_drew (blk_new (by simp))) h2 | exact blk_below (blk_alloc (blk_new (by simp)) _) h2 | exact blk_below (blk_drew (blk_alloc (blk_new (by simp)) _)) h2 | exact blk_below (blk_alloc (blk_alloc (blk_new (by simp)) _) _) h2 | exact blk_below (blk_drew (blk_alloc (blk_alloc (blk_new (by simp)) _) _)) h2 | exact blk_below (blk_alloc (blk_alloc (blk_alloc (blk_new (by simp)) _) _) _) h2 | exact blk_below (blk_drew (blk_alloc (blk_alloc (blk_alloc (blk_new (by simp)) _) _) _)) h2 | exact blk_below (blk_alloc (blk_alloc (blk_alloc (blk_alloc (blk_new (by simp)) _) _) _) _) h2 | exact blk_below (blk_drew (blk_alloc (blk_alloc (blk_alloc (blk_alloc (blk_new (by simp)) _) _) _) _)) h2
  have rb : w2.heap[(w.heap.size + 1)]? = some (.cells #[.int .u64 c, .int .u64 d] 24 (0, 0)) := by first | exact blk_below (Rb.out) h2 | exact blk_below (blk_drew (Rb.out)) h2 | exact blk_below (blk_alloc (Rb.out) _) h2 | exact blk_below (blk_drew (blk_alloc (Rb.out) _)) h2 | exact blk_below (blk_alloc (blk_alloc (Rb.out) _) _) h2 | exact blk_below (blk_drew (blk_alloc (blk_alloc (Rb.out) _) _)) h2 | exact blk_below (blk_alloc (blk_alloc (blk_alloc (Rb.out) _) _) _) h2 | exact blk_below (blk_drew (blk_alloc (blk_alloc (blk_alloc (Rb.out) _) _) _)) h2 | exact blk_below (blk_alloc (blk_alloc (blk_alloc (blk_alloc (Rb.out) _) _) _) _) h2 | exact blk_below (blk_drew (blk_alloc (blk_alloc (blk_alloc (blk_alloc (Rb.out) _) _) _) _)) h2 | exact blk_below (blk_new rfl) h2 | exact blk_below (blk_drew (blk_new rfl)) h2 | exact blk_below (blk_alloc (blk_new rfl) _) h2 | exact blk_below (blk_drew (blk_alloc (blk_new rfl) _)) h2 | exact blk_below (blk_alloc (blk_alloc (blk_new rfl) _) _) h2 | exact blk_below (blk_drew (blk_alloc (blk_alloc (blk_new rfl) _) _)) h2 | exact blk_below (blk_alloc (blk_alloc (blk_alloc (blk_new rfl) _) _) _) h2 | exact blk_below (blk_drew (blk_alloc (blk_alloc (blk_alloc (blk_new rfl) _) _) _)) h2 | exact blk_below (blk_alloc (blk_alloc (blk_alloc (blk_alloc (blk_new rfl) _) _) _) _) h2 | exact blk_below (blk_drew (blk_alloc (blk_alloc (blk_alloc (blk_alloc (blk_new rfl) _) _) _) _)) h2 | exact blk_below (blk_new (by simp)) h2 | exact blk_below (blk_drew (blk_new (by simp))) h2 | exact blk_below (blk_alloc (blk_new (by simp)) _) h2 | exact blk_below (blk_drew (blk_alloc (blk_new (by simp)) _)) h2 | exact blk_below (blk_alloc (blk_alloc (blk_new (by simp)) _) _) h2 | exact blk_below (blk_drew (blk_alloc (blk_alloc (blk_new (by simp)) _) _)) h2 | exact blk_below (blk_alloc (blk_alloc (blk_alloc (blk_new (by simp)) _) _) _) h2 | exact blk_below (blk_drew (blk_alloc (blk_alloc (blk_alloc (blk_new (by simp)) _) _) _)) h2 | exact blk_below (blk_alloc (blk_alloc (blk_alloc (blk_alloc (blk_new (by simp)) _) _) _) _) h2 | exact blk_below (blk_drew (blk_alloc (blk_alloc (blk_alloc (blk_alloc (blk_new (by simp)) _) _) _) _)) h2
  clear fac0 faz0 fac1 faz1 fal fbc0 fbz0 fbc1 fbz1 fbl
  clear Ra Rb
  have fac0 : w2.cell? ⟨w.heap.size, 0, none⟩ = some (.int .u64 a) := (cell_of_row _ _ _ _ _ _ ra).trans rfl
  have faz0 := frozen_of_row _ _ 0 _ _ ra
  have fac1 : w2.cell? ⟨w.heap.size, 1, none⟩ = some (.int .u64 b) := (cell_of_row _ _ _ _ _ _ ra).trans rfl
  have faz1 := frozen_of_row _ _ 1 _ _ ra
  have fal := blk_lt ra
  have Ra := Lib.hid ra
  clear ra
  have fbc0 : w2.cell? ⟨(w.heap.size + 1), 0, none⟩ = some (.int .u64 c) := (cell_of_row _ _ _ _ _ _ rb).trans rfl
  have fbz0 := frozen_of_row _ _ 0 _ _ rb
  have fbc1 : w2.cell? ⟨(w.heap.size + 1), 1, none⟩ = some (.int .u64 d) := (cell_of_row _ _ _ _ _ _ rb).trans rfl
  have fbz1 := frozen_of_row _ _ 1 _ _ rb
  have fbl := blk_lt rb
  have Rb := Lib.hid rb
  clear rb
  clear B1
  clear h2
  go_wp2_with fail
  refine (sub_any _ a b c d HA.out HB.out HC.out HD.out).mono ?_
  rintro e w3 ⟨rfl, h3⟩
  rw [Hs1.out]
  have B3 := Lib.hid (b_then (by first | exact (B2.out) | exact b_drew (B2.out) | exact (b_alloc (B2.out) _) | exact b_drew (b_alloc (B2.out) _) | exact (b_alloc (b_alloc (B2.out) _) _) | exact b_drew (b_alloc (b_alloc (B2.out) _) _) | exact (b_alloc (b_alloc (b_alloc (B2.out) _) _) _) | exact b_drew (b_alloc (b_alloc (b_alloc (B2.out) _) _) _) | exact (b_alloc (b_alloc (b_alloc (b_alloc (B2.out) _) _) _) _) | exact b_drew (b_alloc (b_alloc (b_alloc (b_alloc (B2.out) _) _) _) _) | exact (b_alloc (b_alloc (b_alloc (b_alloc (b_alloc (B2.out) _) _) _) _) _) | exact b_drew (b_alloc (b_alloc (b_alloc (b_alloc (b_alloc (B2.out) _) _) _) _) _)) h3)
  have ra : w3.heap[w.heap.size]? = some (.cells #[.int .u64 a, .int .u64 b] 24 (0, 0)) := by first | exact blk_below (Ra.out) h3 | exact blk_below (blk_drew (Ra.out)) h3 | exact blk_below (blk_alloc (Ra.out) _) h3 | exact blk_below (blk_drew (blk_alloc (Ra.out) _)) h3 | exact blk_below (blk_alloc (blk_alloc (Ra.out) _) _) h3 | exact blk_below (blk_drew (blk_alloc (blk_alloc (Ra.out) _) _)) h3 | exact blk_below (blk_alloc (blk_alloc (blk_alloc (Ra.out) _) _) _) h3 | exact blk_below (blk_drew (blk_alloc (blk_alloc (blk_alloc (Ra.out) _) _) _)) h3 | exact blk_below (blk_alloc (blk_alloc (blk_alloc (blk_alloc (Ra.out) _) _) _) _) h3 | exact blk_below (blk_drew (blk_alloc (blk_alloc (blk_alloc (blk_alloc (Ra.out) _) _) _) _)) h3 | exact blk_below (blk_new rfl) h3 | exact blk_below (blk_drew (blk_new rfl)) h3 | exact blk_below (blk_alloc (blk_new rfl) _) h3 | exact blk_below (blk_drew (blk_alloc (blk_new rfl) _)) h3 | exact blk_below (blk_alloc (blk_alloc (blk_new rfl) _) _) h3 | exact blk_below (blk_drew (blk_alloc (blk_alloc (blk_new rfl) _) _)) h3 | exact blk_below (blk_alloc (blk_alloc (blk_alloc (blk_new rfl) _) _) _) h3 | exact blk_below (blk_drew (blk_alloc (blk_alloc (blk_alloc (blk_new rfl) _) _) _)) h3 | exact blk_below (blk_alloc (blk_alloc (blk_alloc (blk_alloc (blk_new rfl) _) _) _) _) h3 | exact blk_below (blk_drew (blk_alloc (blk_alloc (blk_alloc (blk_alloc (blk_new rfl) _) _) _) _)) h3 | exact blk_below (blk_new (by simp)) h3 | exact blk_below (blk_drew (blk_new (by simp))) h3 | exact blk_below (blk_alloc (blk_new (by simp)) _) h3 | exact blk_below (blk_drew (blk_alloc (blk_new (by simp)) _)) h3 | exact blk_below (blk_alloc (blk_alloc (blk_new (by simp)) _) _) h3 | exact blk_below (blk_drew (blk_alloc (blk_alloc (blk_new (by simp)) _) _)) h3 | exact blk_below (blk_alloc (blk_alloc (blk_alloc (blk_new (by simp)) _) _) _) h3 | exact blk_below (blk_drew (blk_alloc (blk_alloc (blk_alloc (blk_new (by simp)) _) _) _)) h3 | exact blk_below (blk_alloc (blk_alloc (blk_alloc (blk_alloc (blk_new (by simp)) _) _) _) _) h3 | exact blk_below (blk_drew (blk_alloc (blk_alloc (blk_alloc (blk_alloc (blk_new (by simp)) _) _) _) _)) h3
  have rb : w3.heap[(w.heap.size + 1)]? = some (.cells #[.int .u64 c, .int .u64 d] 24 (0, 0)) := by first | exact blk_below (Rb.out) h3 | exact blk_below (blk_drew (Rb.out)) h3 | exact blk_below (blk_alloc (Rb.out) _) h3 | exact blk_below (blk_drew (blk_alloc (Rb.out) _)) h3 | exact blk_below (blk_alloc (blk_alloc (Rb.out) _) _) h3 | exact blk_below (blk_drew (blk_alloc (blk_alloc (Rb.out) _) _)) h3 | exact blk_below (blk_alloc (blk_alloc (blk_alloc (Rb.out) _) _) _) h3 | exact blk_below (blk_drew (blk_alloc (blk_alloc (blk_alloc (Rb.out) _) _) _)) h3 | exact blk_below (blk_alloc (blk_alloc (blk_alloc (blk_alloc (Rb.out) _) _) _) _) h3 | exact blk_below (blk_drew (blk_alloc (blk_alloc (blk_alloc (blk_alloc (Rb.out) _) _) _) _)) h3 | exact blk_below (blk_new rfl) h3 | exact blk_below (blk_drew (blk_new rfl)) h3 | exact blk_below (blk_alloc (blk_new rfl) _) h3 | exact blk_below (blk_drew (blk_alloc (blk_new rfl) _)) h3 | exact blk_below (blk_alloc (blk_alloc (blk_new rfl) _) _) h3 | exact blk_below (blk_drew (blk_alloc (blk_alloc (blk_new rfl) _) _)) h3 | exact blk_below (blk_alloc (blk_alloc (blk_alloc (blk_new rfl) _) _) _) h3 | exact blk_below (blk_drew (blk_alloc (blk_alloc (blk_alloc (blk_new rfl) _) _) _)) h3 | exact blk_below (blk_alloc (blk_alloc (blk_alloc (blk_alloc (blk_new rfl) _) _) _) _) h3 | exact blk_below (blk_drew (blk_alloc (blk_alloc (blk_alloc (blk_alloc (blk_new rfl) _) _) _) _)) h3 | exact blk_below (blk_new (by simp)) h3 | exact blk_below (blk_drew (blk_new (by simp))) h3 | exact blk_below (blk_alloc (blk_new (by simp)) _) h3 | exact blk_below (blk_drew (blk_alloc (blk_new (by simp)) _)) h3 | exact blk_below (blk_alloc (blk_alloc (blk_new (by simp)) _) _) h3 | exact blk_below (blk_drew (blk_alloc (blk_alloc (blk_new (by simp)) _) _)) h3 | exact blk_below (blk_alloc (blk_alloc (blk_alloc (blk_new (by simp)) _) _) _) h3 | exact blk_below (blk_drew (blk_alloc (blk_alloc (blk_alloc (blk_new (by simp)) _) _) _)) h3 | exact blk_below (blk_alloc (blk_alloc (blk_alloc (blk_alloc (blk_new (by simp)) _) _) _) _) h3 | exact blk_below (blk_drew (blk_alloc (blk_alloc (blk_alloc (blk_alloc (blk_new (by simp)) _) _) _) _)) h3
  clear fac0 faz0 fac1 faz1 fal fbc0 fbz0 fbc1 fbz1 fbl
  clear Ra Rb
  have fac0 : w3.cell? ⟨w.heap.size, 0, none⟩ = some (.int .u64 a) := (cell_of_row _ _ _ _ _ _ ra).trans rfl
  have faz0 := frozen_of_row _ _ 0 _ _ ra
  have fac1 : w3.cell? ⟨w.heap.size, 1, none⟩ = some (.int .u64 b) := (cell_of_row _ _ _ _ _ _ ra).trans rfl
  have faz1 := frozen_of_row _ _ 1 _ _ ra
  have fal := blk_lt ra
  have Ra := Lib.hid ra
  clear ra
  have fbc0 : w3.cell? ⟨(w.heap.size + 1), 0, none⟩ = some (.int .u64 c) := (cell_of_row _ _ _ _ _ _ rb).trans rfl
  have fbz0 := frozen_of_row _ _ 0 _ _ rb
  have fbc1 : w3.cell? ⟨(w.heap.size + 1), 1, none⟩ = some (.int .u64 d) := (cell_of_row _ _ _ _ _ _ rb).trans rfl
  have fbz1 := frozen_of_row _ _ 1 _ _ rb
  have fbl := blk_lt rb
  have Rb := Lib.hid rb
  clear rb
  clear B2
  clear h3
  go_wp2_with fail
  refine (bits_any _ a b HA.out HB.out).mono ?_
  rintro e w4 ⟨rfl, h4⟩
  rw [HK.out]
  have B4 := Lib.hid (b_then (by first | exact (B3.out) | exact b_drew (B3.out) | exact (b_alloc (B3.out) _) | exact b_drew (b_alloc (B3.out) _) | exact (b_alloc (b_alloc (B3.out) _) _) | exact b_drew (b_alloc (b_alloc (B3.out) _) _) | exact (b_alloc (b_alloc (b_alloc (B3.out) _) _) _) | exact b_drew (b_alloc (b_alloc (b_alloc (B3.out) _) _) _) | exact (b_alloc (b_alloc (b_alloc (b_alloc (B3.out) _) _) _) _) | exact b_drew (b_alloc (b_alloc (b_alloc (b_alloc (B3.out) _) _) _) _) | exact (b_alloc (b_alloc (b_alloc (b_alloc (b_alloc (B3.out) _) _) _) _) _) | exact b_drew (b_alloc (b_alloc (b_alloc (b_alloc (b_alloc (B3.out) _) _) _) _) _)) h4)
  have ra : w4.heap[w.heap.size]? = some (.cells #[.int .u64 a, .int .u64 b] 24 (0, 0)) := by first | exact blk_below (Ra.out) h4 | exact blk_below (blk_drew (Ra.out)) h4 | exact blk_below (blk_alloc (Ra.out) _) h4 | exact blk_below (blk_drew (blk_alloc (Ra.out) _)) h4 | exact blk_below (blk_alloc (blk_alloc (Ra.out) _) _) h4 | exact blk_below (blk_drew (blk_alloc (blk_alloc (Ra.out) _) _)) h4 | exact blk_below (blk_alloc (blk_alloc (blk_alloc (Ra.out) _) _) _) h4 | exact blk_below (blk_drew (blk_alloc (blk_alloc (blk_alloc (Ra.out) _) _) _)) h4 | exact blk_below (blk_alloc (blk_alloc (blk_alloc (blk_alloc (Ra.out) _) _) _) _) h4 | exact blk_below (blk_drew (blk_alloc (blk_alloc (blk_alloc (blk_alloc (Ra.out) _) _) _) _)) h4 | exact blk_below (blk_new rfl) h4 | exact blk_below (blk_drew (blk_new rfl)) h4 | exact blk_below (blk_alloc (blk_new rfl) _) h4 | exact blk_below (blk_drew (blk_alloc (blk_new rfl) _)) h4 | exact blk_below (blk_alloc (blk_alloc (blk_new rfl) _) _) h4 | exact blk_below (blk_drew (blk_alloc (blk_alloc (blk_new rfl) _) _)) h4 | exact blk_below (blk_alloc (blk_alloc (blk_alloc (blk_new rfl) _) _) _) h4 | exact blk_below (blk_drew (blk_alloc (blk_alloc (blk_alloc (blk_new rfl) _) _) _)) h4 | exact blk_below (blk_alloc (blk_alloc (blk_alloc (blk_alloc (blk_new rfl) _) _) _) _) h4 | exact blk_below (blk_drew (blk_alloc (blk_alloc (blk_alloc (blk_alloc (blk_new rfl) _) _) _) _)) h4 | exact blk_below (blk_new (by simp)) h4 | exact blk_below (blk_drew (blk_new (by simp))) h4 | exact blk_below (blk_alloc (blk_new (by simp)) _) h4 | exact blk_below (blk_drew (blk_alloc (blk_new (by simp)) _)) h4 | exact blk_below (blk_alloc (blk_alloc (blk_new (by simp)) _) _) h4 | exact blk_below (blk_drew (blk_alloc (blk_alloc (blk_new (by simp)) _) _)) h4 | exact blk_below (blk_alloc (blk_alloc (blk_alloc (blk_new (by simp)) _) _) _) h4 | exact blk_below (blk_drew (blk_alloc (blk_alloc (blk_alloc (blk_new (by simp)) _) _) _)) h4 | exact blk_below (blk_alloc (blk_alloc (blk_alloc (blk_alloc (blk_new (by simp)) _) _) _) _) h4 | exact blk_below (blk_drew (blk_alloc (blk_alloc (blk_alloc (blk_alloc (blk_new (by simp)) _) _) _) _)) h4
  have rb : w4.heap[(w.heap.size + 1)]? = some (.cells #[.int .u64 c, .int .u64 d] 24 (0, 0)) := by first | exact blk_below (Rb.out) h4 | exact blk_below (blk_drew (Rb.out)) h4 | exact blk_below (blk_alloc (Rb.out) _) h4 | exact blk_below (blk_drew (blk_alloc (Rb.out) _)) h4 | exact blk_below (blk_alloc (blk_alloc (Rb.out) _) _) h4 | exact blk_below (blk_drew (blk_alloc (blk_alloc (Rb.out) _) _)) h4 | exact blk_below (blk_alloc (blk_alloc (blk_alloc (Rb.out) _) _) _) h4 | exact blk_below (blk_drew (blk_alloc (blk_alloc (blk_alloc (Rb.out) _) _) _)) h4 | exact blk_below (blk_alloc (blk_alloc (blk_alloc (blk_alloc (Rb.out) _) _) _) _) h4 | exact blk_below (blk_drew (blk_alloc (blk_alloc (blk_alloc (blk_alloc (Rb.out) _) _) _) _)) h4 | exact blk_below (blk_new rfl) h4 | exact blk_below (blk_drew (blk_new rfl)) h4 | exact blk_below (blk_alloc (blk_new rfl) _) h4 | exact blk_below (blk_drew (blk_alloc (blk_new rfl) _)) h4 | exact blk_below (blk_alloc (blk_alloc (blk_new rfl) _) _) h4 | exact blk_below (blk_drew (blk_alloc (blk_alloc (blk_new rfl) _) _)) h4 | exact blk_below (blk_alloc (blk_alloc (blk_alloc (blk_new rfl) _) _) _) h4 | exact blk_below (blk_drew (blk_alloc (blk_alloc (blk_alloc (blk_new rfl) _) _) _)) h4 | exact blk_below (blk_alloc (blk_alloc (blk_alloc (blk_alloc (blk_new rfl) _) _) _) _) h4 | exact blk_below (blk_drew (blk_alloc (blk_alloc (blk_alloc (blk_alloc (blk_new rfl) _) _) _) _)) h4 | exact blk_below (blk_new (by simp)) h4 | exact blk_below (blk_drew (blk_new (by simp))) h4 | exact blk_below (blk_alloc (blk_new (by simp)) _) h4 | exact blk_below (blk_drew (blk_alloc (blk_new (by simp)) _)) h4 | exact blk_below (blk_alloc (blk_alloc (blk_new (by simp)) _) _) h4 | exact blk_below (blk_drew (blk_alloc (blk_alloc (blk_new (by simp)) _) _)) h4 | exact blk_below (blk_alloc (blk_alloc (blk_alloc (blk_new (by simp)) _) _) _) h4 | exact blk_below (blk_drew (blk_alloc (blk_alloc (blk_alloc (blk_new (by simp)) _) _) _)) h4 | exact blk_below (blk_alloc (blk_alloc (blk_alloc (blk_alloc (blk_new (by simp)) _) _) _) _) h4 | exact blk_below (blk_drew (blk_alloc (blk_alloc (blk_alloc (blk_alloc (blk_new (by simp)) _) _) _) _)) h4
  clear fac0 faz0 fac1 faz1 fal fbc0 fbz0 fbc1 fbz1 fbl
  clear Ra Rb
  have fac0 : w4.cell? ⟨w.heap.size, 0, none⟩ = some (.int .u64 a) := (cell_of_row _ _ _ _ _ _ ra).trans rfl
  have faz0 := frozen_of_row _ _ 0 _ _ ra
  have fac1 : w4.cell? ⟨w.heap.size, 1, none⟩ = some (.int .u64 b) := (cell_of_row _ _ _ _ _ _ ra).trans rfl
  have faz1 := frozen_of_row _ _ 1 _ _ ra
  have fal := blk_lt ra
  have Ra := Lib.hid ra
  clear ra
  have fbc0 : w4.cell? ⟨(w.heap.size + 1), 0, none⟩ = some (.int .u64 c) := (cell_of_row _ _ _ _ _ _ rb).trans rfl
  have fbz0 := frozen_of_row _ _ 0 _ _ rb
  have fbc1 : w4.cell? ⟨(w.heap.size + 1), 1, none⟩ = some (.int .u64 d) := (cell_of_row _ _ _ _ _ _ rb).trans rfl
  have fbz1 := frozen_of_row _ _ 1 _ _ rb
  have fbl := blk_lt rb
  have Rb := Lib.hid rb
  clear rb
  clear B3
  clear h4
  go_wp2_with fail
  refine (compare_any _ c d a b HC.out HD.out HA.out HB.out).mono ?_
  rintro e w5 ⟨rfl, h5⟩
  rw [Hk2.out]
  have B5 := Lib.hid (b_then (by first | exact (B4.out) | exact b_drew (B4.out) | exact (b_alloc (B4.out) _) | exact b_drew (b_alloc (B4.out) _) | exact (b_alloc (b_alloc (B4.out) _) _) | exact b_drew (b_alloc (b_alloc (B4.out) _) _) | exact (b_alloc (b_alloc (b_alloc (B4.out) _) _) _) | exact b_drew (b_alloc (b_alloc (b_alloc (B4.out) _) _) _) | exact (b_alloc (b_alloc (b_alloc (b_alloc (B4.out) _) _) _) _) | exact b_drew (b_alloc (b_alloc (b_alloc (b_alloc (B4.out) _) _) _) _) | exact (b_alloc (b_alloc (b_alloc (b_alloc (b_alloc (B4.out) _) _) _) _) _) | exact b_drew (b_alloc (b_alloc (b_alloc (b_alloc (b_alloc (B4.out) _) _) _) _) _)) h5)
  have ra : w5.heap[w.heap.size]? = some (.cells #[.int .u64 a, .int .u64 b] 24 (0, 0)) := by first | exact blk_below (Ra.out) h5 | exact blk_below (blk_drew (Ra.out)) h5 | exact blk_below (blk_alloc (Ra.out) _) h5 | exact blk_below (blk_drew (blk_alloc (Ra.out) _)) h5 | exact blk_below (blk_alloc (blk_alloc (Ra.out) _) _) h5 | exact blk_below (blk_drew (blk_alloc (blk_alloc (Ra.out) _) _)) h5 | exact blk_below (blk_alloc (blk_alloc (blk_alloc (Ra.out) _) _) _) h5 | exact blk_below (blk_drew (blk_alloc (blk_alloc (blk_alloc (Ra.out) _) _) _)) h5 | exact blk_below (blk_alloc (blk_alloc (blk_alloc (blk_alloc (Ra.out) _) _) _) _) h5 | exact blk_below (blk_drew (blk_alloc (blk_alloc (blk_alloc (blk_alloc (Ra.out) _) _) _) _)) h5 | exact blk_below (blk_new rfl) h5 | exact blk_below (blk_drew (blk_new rfl)) h5 | exact blk_below (blk_alloc (blk_new rfl) _) h5 | exact blk_below (blk_drew (blk_alloc (blk_new rfl) _)) h5 | exact blk_below (blk_alloc (blk_alloc (blk_new rfl) _) _) h5 | exact blk_below (blk_drew (blk_alloc (blk_alloc (blk_new rfl) _) _)) h5 | exact blk_below (blk_alloc (blk_alloc (blk_alloc (blk_new rfl) _) _) _) h5 | exact blk_below (blk_drew (blk_alloc (blk_alloc (blk_alloc (blk_new rfl) _) _) _)) h5 | exact blk_below (blk_alloc (blk_alloc (blk_alloc (blk_alloc (blk_new rfl) _) _) _) _) h5 | exact blk_below (blk_drew (blk_alloc (blk_alloc (blk_alloc (blk_alloc (blk_new rfl) _) _) _) _)) h5 | exact blk_below (blk_new (by simp)) h5 | exact blk_below (blk_drew (blk_new (by simp))) h5 | exact blk_below (blk_alloc (blk_new (by simp)) _) h5 | exact blk_below (blk_drew (blk_alloc (blk_new (by simp)) _)) h5 | exact blk_below (blk_alloc (blk_alloc (blk_new (by simp)) _) _) h5 | exact blk_below (blk_drew (blk_alloc (blk_alloc (blk_new (by simp)) _) _)) h5 | exact blk_below (blk_alloc (blk_alloc (blk_alloc (blk_new (by simp)) _) _) _) h5 | exact blk_below (blk_drew (blk_alloc (blk_alloc (blk_alloc (blk_new (by simp)) _) _) _)) h5 | exact blk_below (blk_alloc (blk_alloc (blk_alloc (blk_alloc (blk_new (by simp)) _) _) _) _) h5 | exact blk_below (blk_drew (blk_alloc (blk_alloc (blk_alloc (blk_alloc (blk_new (by simp)) _) _) _) _)) h5
  have rb : w5.heap[(w.heap.size + 1)]? = some (.cells #[.int .u64 c, .int .u64 d] 24 (0, 0)) := by first | exact blk_below (Rb.out) h5 | exact blk_below (blk_drew (Rb.out)) h5 | exact blk_below (blk_alloc (Rb.out) _) h5 | exact blk_below (blk_drew (blk_alloc (Rb.out) _)) h5 | exact blk_below (blk_alloc (blk_alloc (Rb.out) _) _) h5 | exact blk_below (blk_drew (blk_alloc (blk_alloc (Rb.out) _) _)) h5 | exact blk_below (blk_alloc (blk_alloc (blk_alloc (Rb.out) _) _) _) h5 | exact blk_below (blk_drew (blk_alloc (blk_alloc (blk_alloc (Rb.out) _) _) _)) h5 | exact blk_below (blk_alloc (blk_alloc (blk_alloc (blk_alloc (Rb.out) _) _) _) _) h5 | exact blk_below (blk_drew (blk_alloc (blk_alloc (blk_alloc (blk_alloc (Rb.out) _) _) _) _)) h5 | exact blk_below (blk_new rfl) h5 | exact blk_below (blk_drew (blk_new rfl)) h5 | exact blk_below (blk_alloc (blk_new rfl) _) h5 | exact blk_below (blk_drew (blk_alloc (blk_new rfl) _)) h5 | exact blk_below (blk_alloc (blk_alloc (blk_new rfl) _) _) h5 | exact blk_below (blk_drew (blk_alloc (blk_alloc (blk_new rfl) _) _)) h5 | exact blk_below (blk_alloc (blk_alloc (blk_alloc (blk_new rfl) _) _) _) h5 | exact blk_below (blk_drew (blk_alloc (blk_alloc (blk_alloc (blk_new rfl) _) _) _)) h5 | exact blk_below (blk_alloc (blk_alloc (blk_alloc (blk_alloc (blk_new rfl) _) _) _) _) h5 | exact blk_below (blk_drew (blk_alloc (blk_alloc (blk_alloc (blk_alloc (blk_new rfl) _) _) _) _)) h5 | exact blk_below (blk_new (by simp)) h5 | exact blk_below (blk_drew (blk_new (by simp))) h5 | exact blk_below (blk_alloc (blk_new (by simp)) _) h5 | exact blk_below (blk_drew (blk_alloc (blk_new (by simp)) _)) h5 | exact blk_below (blk_alloc (blk_alloc (blk_new (by simp)) _) _) h5 | exact blk_below (blk_drew (blk_alloc (blk_alloc (blk_new (by simp)) _) _)) h5 | exact blk_below (blk_alloc (blk_alloc (blk_alloc (blk_new (by simp)) _) _) _) h5 | exact blk_below (blk_drew (blk_alloc (blk_alloc (blk_alloc (blk_new (by simp)) _) _) _)) h5 | exact blk_below (blk_alloc (blk_alloc (blk_alloc (blk_alloc (blk_new (by simp)) _) _) _) _) h5 | exact blk_below (blk_drew (blk_alloc (blk_alloc (blk_alloc (blk_alloc (blk_new (by simp)) _) _) _) _)) h5
  clear fac0 faz0 fac1 faz1 fal fbc0 fbz0 fbc1 fbz1 fbl
  clear Ra Rb
  have fac0 : w5.cell? ⟨w.heap.size, 0, none⟩ = some (.int .u64 a) := (cell_of_row _ _ _ _ _ _ ra).trans rfl
  have faz0 := frozen_of_row _ _ 0 _ _ ra
  have fac1 : w5.cell? ⟨w.heap.size, 1, none⟩ = some (.int .u64 b) := (cell_of_row _ _ _ _ _ _ ra).trans rfl
  have faz1 := frozen_of_row _ _ 1 _ _ ra
  have fal := blk_lt ra
  have Ra := Lib.hid ra
  clear ra
  have fbc0 : w5.cell? ⟨(w.heap.size + 1), 0, none⟩ = some (.int .u64 c) := (cell_of_row _ _ _ _ _ _ rb).trans rfl
  have fbz0 := frozen_of_row _ _ 0 _ _ rb
  have fbc1 : w5.cell? ⟨(w.heap.size + 1), 1, none⟩ = some (.int .u64 d) := (cell_of_row _ _ _ _ _ _ rb).trans rfl
  have fbz1 := frozen_of_row _ _ 1 _ _ rb
  have fbl := blk_lt rb
  have Rb := Lib.hid rb
  clear rb
  clear B4
  clear h5
  go_wp2_with fail
  refine (right_any _ a b 0 HA.out HB.out (by omega) (by omega)).mono ?_
  rintro e w6 ⟨rfl, h6⟩
  rw [Hz1.out]
  have B6 := Lib.hid (b_then (by first | exact (B5.out) | exact b_drew (B5.out) | exact (b_alloc (B5.out) _) | exact b_drew (b_alloc (B5.out) _) | exact (b_alloc (b_alloc (B5.out) _) _) | exact b_drew (b_alloc (b_alloc (B5.out) _) _) | exact (b_alloc (b_alloc (b_alloc (B5.out) _) _) _) | exact b_drew (b_alloc (b_alloc (b_alloc (B5.out) _) _) _) | exact (b_alloc (b_alloc (b_alloc (b_alloc (B5.out) _) _) _) _) | exact b_drew (b_alloc (b_alloc (b_alloc (b_alloc (B5.out) _) _) _) _) | exact (b_alloc (b_alloc (b_alloc (b_alloc (b_alloc (B5.out) _) _) _) _) _) | exact b_drew (b_alloc (b_alloc (b_alloc (b_alloc (b_alloc (B5.out) _) _) _) _) _)) h6)
  have ra : w6.heap[w.heap.size]? = some (.cells #[.int .u64 a, .int .u64 b] 24 (0, 0)) := by first | exact blk_below (Ra.out) h6 | exact blk_below (blk_drew (Ra.out)) h6 | exact blk_below (blk_alloc (Ra.out) _) h6 | exact blk_below (blk_drew (blk_alloc (Ra.out) _)) h6 | exact blk_below (blk_alloc (blk_alloc (Ra.out) _) _) h6 | exact blk_below (blk_drew (blk_alloc (blk_alloc (Ra.out) _) _)) h6 | exact blk_below (blk_alloc (blk_alloc (blk_alloc (Ra.out) _) _) _) h6 | exact blk_below (blk_drew (blk_alloc (blk_alloc (blk_alloc (Ra.out) _) _) _)) h6 | exact blk_below (blk_alloc (blk_alloc (blk_alloc (blk_alloc (Ra.out) _) _) _) _) h6 | exact blk_below (blk_drew (blk_alloc (blk_alloc (blk_alloc (blk_alloc (Ra.out) _) _) _) _)) h6 | exact blk_below (blk_new rfl) h6 | exact blk_below (blk_drew (blk_new rfl)) h6 | exact blk_below (blk_alloc (blk_new rfl) _) h6 | exact blk_below (blk_drew (blk_alloc (blk_new rfl) _)) h6 | exact blk_below (blk_alloc (blk_alloc (blk_new rfl) _) _) h6 | exact blk_below (blk_drew (blk_alloc (blk_alloc (blk_new rfl) _) _)) h6 | exact blk_below (blk_alloc (blk_alloc (blk_alloc (blk_new rfl) _) _) _) h6 | exact blk_below (blk_drew (blk_alloc (blk_alloc (blk_alloc (blk_new rfl) _) _) _)) h6 | exact blk_below (blk_alloc (blk_alloc (blk_alloc (blk_alloc (blk_new rfl) _) _) _) _) h6 | exact blk_below (blk_drew (blk_alloc (blk_alloc (blk_alloc (blk_alloc (blk_new rfl) _) _) _) _)) h6 | exact blk_below (blk_new (by simp)) h6 | exact blk_below (blk_drew (blk_new (by simp))) h6 | exact blk_below (blk_alloc (blk_new (by simp)) _) h6 | exact blk_below (blk_drew (blk_alloc (blk_new (by simp)) _)) h6 | exact blk_below (blk_alloc (blk_alloc (blk_new (by simp)) _) _) h6 | exact blk_below (blk_drew (blk_alloc (blk_alloc (blk_new (by simp)) _) _)) h6 | exact blk_below (blk_alloc (blk_alloc (blk_alloc (blk_new (by simp)) _) _) _) h6 | exact blk_below (blk_drew (blk_alloc (blk_alloc (blk_alloc (blk_new (by simp)) _) _) _)) h6 | exact blk_below (blk_alloc (blk_alloc (blk_alloc (blk_alloc (blk_new (by simp)) _) _) _) _) h6 | exact blk_below (blk_drew (blk_alloc (blk_alloc (blk_alloc (blk_alloc (blk_new (by simp)) _) _) _) _)) h6
  have rb : w6.heap[(w.heap.size + 1)]? = some (.cells #[.int .u64 c, .int .u64 d] 24 (0, 0)) := by first | exact blk_below (Rb.out) h6 | exact blk_below (blk_drew (Rb.out)) h6 | exact blk_below (blk_alloc (Rb.out) _) h6 | exact blk_below (blk_drew (blk_alloc (Rb.out) _)) h6 | exact blk_below (blk_alloc (blk_alloc (Rb.out) _) _) h6 | exact blk_below (blk_drew (blk_alloc (blk_alloc (Rb.out) _) _)) h6 | exact blk_below (blk_alloc (blk_alloc (blk_alloc (Rb.out) _) _) _) h6 | exact blk_below (blk_drew (blk_alloc (blk_alloc (blk_alloc (Rb.out) _) _) _)) h6 | exact blk_below (blk_alloc (blk_alloc (blk_alloc (blk_alloc (Rb.out) _) _) _) _) h6 | exact blk_below (blk_drew (blk_alloc (blk_alloc (blk_alloc (blk_alloc (Rb.out) _) _) _) _)) h6 | exact blk_below (blk_new rfl) h6 | exact blk_below (blk_drew (blk_new rfl)) h6 | exact blk_below (blk_alloc (blk_new rfl) _) h6 | exact blk_below (blk_drew (blk_alloc (blk_new rfl) _)) h6 | exact blk_below (blk_alloc (blk_alloc (blk_new rfl) _) _) h6 | exact blk_below (blk_drew (blk_alloc (blk_alloc (blk_new rfl) _) _)) h6 | exact blk_below (blk_alloc (blk_alloc (blk_alloc (blk_new rfl) _) _) _) h6 | exact blk_below (blk_drew (blk_alloc (blk_alloc (blk_alloc (blk_new rfl) _) _) _)) h6 | exact blk_below (blk_alloc (blk_alloc (blk_alloc (blk_alloc (blk_new rfl) _) _) _) _) h6 | exact blk_below (blk_drew (blk_alloc (blk_alloc (blk_alloc (blk_alloc (blk_new rfl) _) _) _) _)) h6 | exact blk_below (blk_new (by simp)) h6 | exact blk_below (blk_drew (blk_new (by simp))) h6 | exact blk_below (blk_alloc (blk_new (by simp)) _) h6 | exact blk_below (blk_drew (blk_alloc (blk_new (by simp)) _)) h6 | exact blk_below (blk_alloc (blk_alloc (blk_new (by simp)) _) _) h6 | exact blk_below (blk_drew (blk_alloc (blk_alloc (blk_new (by simp)) _) _)) h6 | exact blk_below (blk_alloc (blk_alloc (blk_alloc (blk_new (by simp)) _) _) _) h6 | exact blk_below (blk_drew (blk_alloc (blk_alloc (blk_alloc (blk_new (by simp)) _) _) _)) h6 | exact blk_below (blk_alloc (blk_alloc (blk_alloc (blk_alloc (blk_new (by simp)) _) _) _) _) h6 | exact blk_below (blk_drew (blk_alloc (blk_alloc (blk_alloc (blk_alloc (blk_new (by simp)) _) _) _) _)) h6
  clear fac0 faz0 fac1 faz1 fal fbc0 fbz0 fbc1 fbz1 fbl
  clear Ra Rb
  have fac0 : w6.cell? ⟨w.heap.size, 0, none⟩ = some (.int .u64 a) := (cell_of_row _ _ _ _ _ _ ra).trans rfl
  have faz0 := frozen_of_row _ _ 0 _ _ ra
  have fac1 : w6.cell? ⟨w.heap.size, 1, none⟩ = some (.int .u64 b) := (cell_of_row _ _ _ _ _ _ ra).trans rfl
  have faz1 := frozen_of_row _ _ 1 _ _ ra
  have fal := blk_lt ra
  have Ra := Lib.hid ra
  clear ra
  have fbc0 : w6.cell? ⟨(w.heap.size + 1), 0, none⟩ = some (.int .u64 c) := (cell_of_row _ _ _ _ _ _ rb).trans rfl
  have fbz0 := frozen_of_row _ _ 0 _ _ rb
  have fbc1 : w6.cell? ⟨(w.heap.size + 1), 1, none⟩ = some (.int .u64 d) := (cell_of_row _ _ _ _ _ _ rb).trans rfl
  have fbz1 := frozen_of_row _ _ 1 _ _ rb
  have fbl := blk_lt rb
  have Rb := Lib.hid rb
  clear rb
  clear B5
  clear h6
  go_wp2_with fail
  by_cases hq : KB ≤ 0
  · have hqd : decide (KB ≤ 0) = true := by simp; omega
    refine region_quiet (C := C7 w a b c d) (by kernel_rfl) (by kernel_rfl) ⟨⟨fac0, fac1, fbc0, fbc1⟩, fbl, b_drew B6.out⟩ ?_
    repeat
      first
        | (refine q_skip rfl ?_
           simp only [Act.put, List.setIfInBounds_toArray, List.set_cons_zero, List.set_cons_succ])
        | (refine q_step rfl ?_ (fun w' hC => ?_) ?_
           rotate_left
           · have hC' := Lib.hid hC
             obtain ⟨⟨c1, c2, c3, c4⟩, hlt, hbel⟩ := hC
             have hbel' := Lib.hid hbel
             clear hbel
             go_simp
             first
               | done
               | rfl
               | (go_at_call 16; refine (right_any _ a b n HA.out HB.out (by omega) (by omega)).mono ?_; rintro e w2 ⟨rfl, hb⟩; rw [Hz3.out]; refine ⟨?_, c7_below hb hC'.out⟩; rfl)
               | (go_at_call 21; refine (compare_any _ R S a b HR.out HS.out HA.out HB.out).mono ?_; rintro e w2 ⟨rfl, hb⟩; rw [Hz5.out]; refine ⟨?_, c7_below hb hC'.out⟩; rfl)
               | (go_at_call 22; refine (bits_any _ c d HC.out HD.out).mono ?_; rintro e w2 ⟨rfl, hb⟩; rw [HKB.out]; refine ⟨?_, c7_below hb hC'.out⟩; rfl)
           simp only [Act.put, List.setIfInBounds_toArray, List.set_cons_zero, List.set_cons_succ])
    refine wpQuiet_nil ?_
    intro w9 hC9
    have HL2 := Lib.hid hC9.2.2
    clear hC9
    go_wp2_with fail
    refine bodyPost_ret (v := .bool true) (by simp [results, Try.results7, go_sem]) rfl ⟨rfl, HL2.out⟩
  · have hqd : decide (KB ≤ 0) = false := by simp; omega
    refine region_quiet (C := C7 w a b c d) (by kernel_rfl) (by kernel_rfl) ⟨⟨fac0, fac1, fbc0, fbc1⟩, fbl, b_drew B6.out⟩ ?_
    repeat
      first
        | (refine q_skip rfl ?_
           simp only [Act.put, List.setIfInBounds_toArray, List.set_cons_zero, List.set_cons_succ])
        | (refine q_step rfl ?_ (fun w' hC => ?_) ?_
           rotate_left
           · have hC' := Lib.hid hC
             obtain ⟨⟨c1, c2, c3, c4⟩, hlt, hbel⟩ := hC
             have hbel' := Lib.hid hbel
             clear hbel
             go_simp
             first
               | done
               | rfl
               | (go_at_call 16; refine (right_any _ a b n HA.out HB.out (by omega) (by omega)).mono ?_; rintro e w2 ⟨rfl, hb⟩; rw [Hz3.out]; refine ⟨?_, c7_below hb hC'.out⟩; rfl)
               | (go_at_call 21; refine (compare_any _ R S a b HR.out HS.out HA.out HB.out).mono ?_; rintro e w2 ⟨rfl, hb⟩; rw [Hz5.out]; refine ⟨?_, c7_below hb hC'.out⟩; rfl)
               | (go_at_call 22; refine (bits_any _ c d HC.out HD.out).mono ?_; rintro e w2 ⟨rfl, hb⟩; rw [HKB.out]; refine ⟨?_, c7_below hb hC'.out⟩; rfl)
           simp only [Act.put, List.setIfInBounds_toArray, List.set_cons_zero, List.set_cons_succ])
    refine wpQuiet_nil ?_
    intro w9 hC9
    have HL2 := Lib.hid hC9.2.2
    clear hC9
    go_wp2_with fail
    refine bodyPost_ret (v := .bool true) (by simp [results, Try.results7, go_sem]) rfl ⟨rfl, HL2.out⟩
set_option maxHeartbeats 4000000 in
set_option maxRecDepth 100000 in
theorem orders_eqn (w : World) (a b c d n : Int) (ha : U a) (hb : U b) (hc : U c) (hd : U d) (hn : 0 ≤ n) (hn' : n < 256) (hs : wval a b = wval c d) (hz : 0 < wval a b) : Calls Try.prog 7 #[wv a b, wv c d, .int .u8 n] w (Ret w (.bool true)) := by
  have HA := Lib.hid ha
  have HB := Lib.hid hb
  have HC := Lib.hid hc
  have HD := Lib.hid hd
  have rA := wval_range ha hb
  have rB := wval_range hc hd
  have k1 : cmpI (wval a b) (wval c d) = 0 := by unfold cmpI; rw [if_neg (by omega), if_neg (by omega)]
  have k2 : cmpI (wval c d) (wval a b) = 0 := by unfold cmpI; rw [if_neg (by omega), if_neg (by omega)]
  have e1 : (decide (a = c) && decide (b = d)) = true := by
    have := wval_eq ha hb hc hd
    simp; exact this.1 hs
  have e2 : (decide (a = 0) && decide (b = 0)) = false := by
    have := wval_eq ha hb (show U 0 by unfold U; decide) (show U 0 by unfold U; decide)
    have h0 : wval 0 0 = 0 := rfl
    simp; omega
  have s1 : ∃ P Q : Int, optV (wval a b - wval c d) (wval c d ≤ wval a b) = .tuple #[.agg #[.int .u64 P, .int .u64 Q], .bool true] := by
    unfold optV
    rw [if_pos (by omega)]
    exact ⟨_, _, rfl⟩
  obtain ⟨P, Q, s1⟩ := s1
  obtain ⟨K, hK⟩ : ∃ K : Int, (bitLen (wval a b).toNat : Int) = K := ⟨_, rfl⟩
  obtain ⟨KB, hKB⟩ : ∃ KB : Int, (bitLen (wval c d).toNat : Int) = KB := ⟨_, rfl⟩
  have hK0 : 0 < K := by
    have := bit_zero (n := (wval a b).toNat)
    omega
  have hK1 : K ≤ 128 := by
    have := bitLen_lt (wval a b).toNat 128 (by omega)
    omega
  have hKK : KB ≤ K := by have := bit_mono (show (wval c d).toNat ≤ (wval a b).toNat by omega); omega
  have z1 := right_zero rA.1
  rw [hK] at z1
  have z2 := right_one hz hK
  have rl := right_low rA.1 n.toNat
  obtain ⟨R, S, z3, z4, hR, hS⟩ := wn_pq rl.1 (by omega)
  obtain ⟨y, z5, z6⟩ := cmp_low (show wval R S ≤ wval a b by omega)
  have HR := Lib.hid hR
  have HS := Lib.hid hS
  have Hk1 := Lib.hid k1
  have Hk2 := Lib.hid k2
  have Hs1 := Lib.hid s1
  have Hz1 := Lib.hid z1
  have Hz2 := Lib.hid z2
  have Hz3 := Lib.hid z3
  have Hz5 := Lib.hid z5
  have HK := Lib.hid hK
  have HKB := Lib.hid hKB
  have ew : IntKind.i64.wrap (K - 1) = K - 1 := by simp [IntKind.wrap, IntKind.signed, IntKind.bits]; omega
  have ew2 : wrap64 (K - 1) = K - 1 := by unfold wrap64; omega
  have ew3 : IntKind.i64.wrap n = n := by simp [IntKind.wrap, IntKind.signed, IntKind.bits]; omega
  have ew4 : wrap64 n = n := by unfold wrap64; omega
  clear ha hb hc hd rA rB k1 k2 s1 z1 z2 z3 z4 z5 hR hS hs hz rl hK hKB
  have hKe : (K == 0) = false := by simp; omega
  have hye : decide (y ≤ 0) = true := by simp; omega
  unfold wv
  go_enter Try.func7, Try.ntmps7
  go_wp2_with fail
  refine (first_any _).mono ?_
  rintro e w1 ⟨rfl, h1⟩
  have B1 := Lib.hid (b_then (by first | exact (Below.refl w.heap.size w) | exact b_drew (Below.refl w.heap.size w) | exact (b_alloc (Below.refl w.heap.size w) _) | exact b_drew (b_alloc (Below.refl w.heap.size w) _) | exact (b_alloc (b_alloc (Below.refl w.heap.size w) _) _) | exact b_drew (b_alloc (b_alloc (Below.refl w.heap.size w) _) _) | exact (b_alloc (b_alloc (b_alloc (Below.refl w.heap.size w) _) _) _) | exact b_drew (b_alloc (b_alloc (b_alloc (Below.refl w.heap.size w) _) _) _) | exact (b_alloc (b_alloc (b_alloc (b_alloc (Below.refl w.heap.size w) _) _) _) _) | exact b_drew (b_alloc (b_alloc (b_alloc (b_alloc (Below.refl w.heap.size w) _) _) _) _) | exact (b_alloc (b_alloc (b_alloc (b_alloc (b_alloc (Below.refl w.heap.size w) _) _) _) _) _) | exact b_drew (b_alloc (b_alloc (b_alloc (b_alloc (b_alloc (Below.refl w.heap.size w) _) _) _) _) _)) h1)
  have ra : w1.heap[w.heap.size]? = some (.cells #[.int .u64 a, .int .u64 b] 24 (0, 0)) := by first | exact blk_below (blk_new rfl) h1 | exact blk_below (blk_drew (blk_new rfl)) h1 | exact blk_below (blk_alloc (blk_new rfl) _) h1 | exact blk_below (blk_drew (blk_alloc (blk_new rfl) _)) h1 | exact blk_below (blk_alloc (blk_alloc (blk_new rfl) _) _) h1 | exact blk_below (blk_drew (blk_alloc (blk_alloc (blk_new rfl) _) _)) h1 | exact blk_below (blk_alloc (blk_alloc (blk_alloc (blk_new rfl) _) _) _) h1 | exact blk_below (blk_drew (blk_alloc (blk_alloc (blk_alloc (blk_new rfl) _) _) _)) h1 | exact blk_below (blk_alloc (blk_alloc (blk_alloc (blk_alloc (blk_new rfl) _) _) _) _) h1 | exact blk_below (blk_drew (blk_alloc (blk_alloc (blk_alloc (blk_alloc (blk_new rfl) _) _) _) _)) h1 | exact blk_below (blk_new (by simp)) h1 | exact blk_below (blk_drew (blk_new (by simp))) h1 | exact blk_below (blk_alloc (blk_new (by simp)) _) h1 | exact blk_below (blk_drew (blk_alloc (blk_new (by simp)) _)) h1 | exact blk_below (blk_alloc (blk_alloc (blk_new (by simp)) _) _) h1 | exact blk_below (blk_drew (blk_alloc (blk_alloc (blk_new (by simp)) _) _)) h1 | exact blk_below (blk_alloc (blk_alloc (blk_alloc (blk_new (by simp)) _) _) _) h1 | exact blk_below (blk_drew (blk_alloc (blk_alloc (blk_alloc (blk_new (by simp)) _) _) _)) h1 | exact blk_below (blk_alloc (blk_alloc (blk_alloc (blk_alloc (blk_new (by simp)) _) _) _) _) h1 | exact blk_below (blk_drew (blk_alloc (blk_alloc (blk_alloc (blk_alloc (blk_new (by simp)) _) _) _) _)) h1
  have rb : w1.heap[(w.heap.size + 1)]? = some (.cells #[.int .u64 c, .int .u64 d] 24 (0, 0)) := by first | exact blk_below (blk_new rfl) h1 | exact blk_below (blk_drew (blk_new rfl)) h1 | exact blk_below (blk_alloc (blk_new rfl) _) h1 | exact blk_below (blk_drew (blk_alloc (blk_new rfl) _)) h1 | exact blk_below (blk_alloc (blk_alloc (blk_new rfl) _) _) h1 | exact blk_below (blk_drew (blk_alloc (blk_alloc (blk_new rfl) _) _)) h1 | exact blk_below (blk_alloc (blk_alloc (blk_alloc (blk_new rfl) _) _) _) h1 | exact blk_below (blk_drew (blk_alloc (blk_alloc (blk_alloc (blk_new rfl) _) _) _)) h1 | exact blk_below (blk_alloc (blk_alloc (blk_alloc (blk_alloc (blk_new rfl) _) _) _) _) h1 | exact blk_below (blk_drew (blk_alloc (blk_alloc (blk_alloc (blk_alloc (blk_new rfl) _) _) _) _)) h1 | exact blk_below (blk_new (by simp)) h1 | exact blk_below (blk_drew (blk_new (by simp))) h1 | exact blk_below (blk_alloc (blk_new (by simp)) _) h1 | exact blk_below (blk_drew (blk_alloc (blk_new (by simp)) _)) h1 | exact blk_below (blk_alloc (blk_alloc (blk_new (by simp)) _) _) h1 | exact blk_below (blk_drew (blk_alloc (blk_alloc (blk_new (by simp)) _) _)) h1 | exact blk_below (blk_alloc (blk_alloc (blk_alloc (blk_new (by simp)) _) _) _) h1 | exact blk_below (blk_drew (blk_alloc (blk_alloc (blk_alloc (blk_new (by simp)) _) _) _)) h1 | exact blk_below (blk_alloc (blk_alloc (blk_alloc (blk_alloc (blk_new (by simp)) _) _) _) _) h1 | exact blk_below (blk_drew (blk_alloc (blk_alloc (blk_alloc (blk_alloc (blk_new (by simp)) _) _) _) _)) h1
  have fac0 : w1.cell? ⟨w.heap.size, 0, none⟩ = some (.int .u64 a) := (cell_of_row _ _ _ _ _ _ ra).trans rfl
  have faz0 := frozen_of_row _ _ 0 _ _ ra
  have fac1 : w1.cell? ⟨w.heap.size, 1, none⟩ = some (.int .u64 b) := (cell_of_row _ _ _ _ _ _ ra).trans rfl
  have faz1 := frozen_of_row _ _ 1 _ _ ra
  have fal := blk_lt ra
  have Ra := Lib.hid ra
  clear ra
  have fbc0 : w1.cell? ⟨(w.heap.size + 1), 0, none⟩ = some (.int .u64 c) := (cell_of_row _ _ _ _ _ _ rb).trans rfl
  have fbz0 := frozen_of_row _ _ 0 _ _ rb
  have fbc1 : w1.cell? ⟨(w.heap.size + 1), 1, none⟩ = some (.int .u64 d) := (cell_of_row _ _ _ _ _ _ rb).trans rfl
  have fbz1 := frozen_of_row _ _ 1 _ _ rb
  have fbl := blk_lt rb
  have Rb := Lib.hid rb
  clear rb
  clear h1
  go_wp2_with fail
  refine (compare_any _ a b c d HA.out HB.out HC.out HD.out).mono ?_
  rintro e w2 ⟨rfl, h2⟩
  rw [Hk1.out]
  have B2 := Lib.hid (b_then (by first | exact (B1.out) | exact b_drew (B1.out) | exact (b_alloc (B1.out) _) | exact b_drew (b_alloc (B1.out) _) | exact (b_alloc (b_alloc (B1.out) _) _) | exact b_drew (b_alloc (b_alloc (B1.out) _) _) | exact (b_alloc (b_alloc (b_alloc (B1.out) _) _) _) | exact b_drew (b_alloc (b_alloc (b_alloc (B1.out) _) _) _) | exact (b_alloc (b_alloc (b_alloc (b_alloc (B1.out) _) _) _) _) | exact b_drew (b_alloc (b_alloc (b_alloc (b_alloc (B1.out) _) _) _) _) | exact (b_alloc (b_alloc (b_alloc (b_alloc (b_alloc (B1.out) _) _) _) _) _) | exact b_drew (b_alloc (b_alloc (b_alloc (b_alloc (b_alloc (B1.out) _) _) _) _) _)) h2)
  have ra : w2.heap[w.heap.size]? = some (.cells #[.int .u64 a, .int .u64 b] 24 (0, 0)) := by first | exact blk_below (Ra.out) h2 | exact blk_below (blk_drew (Ra.out)) h2 | exact blk_below (blk_alloc (Ra.out) _) h2 | exact blk_below (blk_drew (blk_alloc (Ra.out) _)) h2 | exact blk_below (blk_alloc (blk_alloc (Ra.out) _) _) h2 | exact blk_below (blk_drew (blk_alloc (blk_alloc (Ra.out) _) _)) h2 | exact blk_below (blk_alloc (blk_alloc (blk_alloc (Ra.out) _) _) _) h2 | exact blk_below (blk_drew (blk_alloc (blk_alloc (blk_alloc (Ra.out) _) _) _)) h2 | exact blk_below (blk_alloc (blk_alloc (blk_alloc (blk_alloc (Ra.out) _) _) _) _) h2 | exact blk_below (blk_drew (blk_alloc (blk_alloc (blk_alloc (blk_alloc (Ra.out) _) _) _) _)) h2 | exact blk_below (blk_new rfl) h2 | exact blk_below (blk_drew (blk_new rfl)) h2 | exact blk_below (blk_alloc (blk_new rfl) _) h2 | exact blk_below (blk_drew (blk_alloc (blk_new rfl) _)) h2 | exact blk_below (blk_alloc (blk_alloc (blk_new rfl) _) _) h2 | exact blk_below (blk_drew (blk_alloc (blk_alloc (blk_new rfl) _) _)) h2 | exact blk_below (blk_alloc (blk_alloc (blk_alloc (blk_new rfl) _) _) _) h2 | exact blk_below (blk_drew (blk_alloc (blk_alloc (blk_alloc (blk_new rfl) _) _) _)) h2 | exact blk_below (blk_alloc (blk_alloc (blk_alloc (blk_alloc (blk_new rfl) _) _) _) _) h2 | exact blk_below (blk_drew (blk_alloc (blk_alloc (blk_alloc (blk_alloc (blk_new rfl) _) _) _) _)) h2 | exact blk_below (blk_new (by simp)) h2 | exact blk_below (blk_drew (blk_new (by simp))) h2 | exact blk_below (blk_alloc (blk_new (by simp)) _) h2 | exact blk_below (blk_drew (blk_alloc (blk_new (by simp)) _)) h2 | exact blk_below (blk_alloc (blk_alloc (blk_new (by simp)) _) _) h2 | exact blk_below (blk_drew (blk_alloc (blk_alloc (blk_new (by simp)) _) _)) h2 | exact blk_below (blk_alloc (blk_alloc (blk_alloc (blk_new (by simp)) _) _) _) h2 | exact blk_below (blk_drew (blk_alloc (blk_alloc (blk_alloc (blk_new (by simp)) _) _) _)) h2 | exact blk_below (blk_alloc (blk_alloc (blk_alloc (blk_alloc (blk_new (by simp)) _) _) _) _) h2 | exact blk_below (blk_drew (blk_alloc (blk_alloc (blk_alloc (blk_alloc (blk_new (by simp)) _) _) _) _)) h2
  have rb : w2.heap[(w.heap.size + 1)]? = some (.cells #[.int .u64 c, .int .u64 d] 24 (0, 0)) := by first | exact blk_below (Rb.out) h2 | exact blk_below (blk_drew (Rb.out)) h2 | exact blk_below (blk_alloc (Rb.out) _) h2 | exact blk_below (blk_drew (blk_alloc (Rb.out) _)) h2 | exact blk_below (blk_alloc (blk_alloc (Rb.out) _) _) h2 | exact blk_below (blk_drew (blk_alloc (blk_alloc (Rb.out) _) _)) h2 | exact blk_below (blk_alloc (blk_alloc (blk_alloc (Rb.out) _) _) _) h2 | exact blk_below (blk_drew (blk_alloc (blk_alloc (blk_alloc (Rb.out) _) _) _)) h2 | exact blk_below (blk_alloc (blk_alloc (blk_alloc (blk_alloc (Rb.out) _) _) _) _) h2 | exact blk_below (blk_drew (blk_alloc (blk_alloc (blk_alloc (blk_alloc (Rb.out) _) _) _) _)) h2 | exact blk_below (blk_new rfl) h2 | exact blk_below (blk_drew (blk_new rfl)) h2 | exact blk_below (blk_alloc (blk_new rfl) _) h2 | exact blk_below (blk_drew (blk_alloc (blk_new rfl) _)) h2 | exact blk_below (blk_alloc (blk_alloc (blk_new rfl) _) _) h2 | exact blk_below (blk_drew (blk_alloc (blk_alloc (blk_new rfl) _) _)) h2 | exact blk_below (blk_alloc (blk_alloc (blk_alloc (blk_new rfl) _) _) _) h2 | exact blk_below (blk_drew (blk_alloc (blk_alloc (blk_alloc (blk_new rfl) _) _) _)) h2 | exact blk_below (blk_alloc (blk_alloc (blk_alloc (blk_alloc (blk_new rfl) _) _) _) _) h2 | exact blk_below (blk_drew (blk_alloc (blk_alloc (blk_alloc (blk_alloc (blk_new rfl) _) _) _) _)) h2 | exact blk_below (blk_new (by simp)) h2 | exact blk_below (blk_drew (blk_new (by simp))) h2 | exact blk_below (blk_alloc (blk_new (by simp)) _) h2 | exact blk_below (blk_drew (blk_alloc (blk_new (by simp)) _)) h2 | exact blk_below (blk_alloc (blk_alloc (blk_new (by simp)) _) _) h2 | exact blk_below (blk_drew (blk_alloc (blk_alloc (blk_new (by simp)) _) _)) h2 | exact blk_below (blk_alloc (blk_alloc (blk_alloc (blk_new (by simp)) _) _) _) h2 | exact blk_below (blk_drew (blk_alloc (blk_alloc (blk_alloc (blk_new (by simp)) _) _) _)) h2 | exact blk_below (blk_alloc (blk_alloc (blk_alloc (blk_alloc (blk_new (by simp)) _) _) _) _) h2 | exact blk_below (blk_drew (blk_alloc (blk_alloc (blk_alloc (blk_alloc (blk_new (by simp)) _) _) _) _)) h2
  clear fac0 faz0 fac1 faz1 fal fbc0 fbz0 fbc1 fbz1 fbl
  clear Ra Rb
  have fac0 : w2.cell? ⟨w.heap.size, 0, none⟩ = some (.int .u64 a) := (cell_of_row _ _ _ _ _ _ ra).trans rfl
  have faz0 := frozen_of_row _ _ 0 _ _ ra
  have fac1 : w2.cell? ⟨w.heap.size, 1, none⟩ = some (.int .u64 b) := (cell_of_row _ _ _ _ _ _ ra).trans rfl
  have faz1 := frozen_of_row _ _ 1 _ _ ra
  have fal := blk_lt ra
  have Ra := Lib.hid ra
  clear ra
  have fbc0 : w2.cell? ⟨(w.heap.size + 1), 0, none⟩ = some (.int .u64 c) := (cell_of_row _ _ _ _ _ _ rb).trans rfl
  have fbz0 := frozen_of_row _ _ 0 _ _ rb
  have fbc1 : w2.cell? ⟨(w.heap.size + 1), 1, none⟩ = some (.int .u64 d) := (cell_of_row _ _ _ _ _ _ rb).trans rfl
  have fbz1 := frozen_of_row _ _ 1 _ _ rb
  have fbl := blk_lt rb
  have Rb := Lib.hid rb
  clear rb
  clear B1
  clear h2
  go_wp2_with fail
  refine (sub_any _ a b c d HA.out HB.out HC.out HD.out).mono ?_
  rintro e w3 ⟨rfl, h3⟩
  rw [Hs1.out]
  have B3 := Lib.hid (b_then (by first | exact (B2.out) | exact b_drew (B2.out) | exact (b_alloc (B2.out) _) | exact b_drew (b_alloc (B2.out) _) | exact (b_alloc (b_alloc (B2.out) _) _) | exact b_drew (b_alloc (b_alloc (B2.out) _) _) | exact (b_alloc (b_alloc (b_alloc (B2.out) _) _) _) | exact b_drew (b_alloc (b_alloc (b_alloc (B2.out) _) _) _) | exact (b_alloc (b_alloc (b_alloc (b_alloc (B2.out) _) _) _) _) | exact b_drew (b_alloc (b_alloc (b_alloc (b_alloc (B2.out) _) _) _) _) | exact (b_alloc (b_alloc (b_alloc (b_alloc (b_alloc (B2.out) _) _) _) _) _) | exact b_drew (b_alloc (b_alloc (b_alloc (b_alloc (b_alloc (B2.out) _) _) _) _) _)) h3)
  have ra : w3.heap[w.heap.size]? = some (.cells #[.int .u64 a, .int .u64 b] 24 (0, 0)) := by first | exact blk_below (Ra.out) h3 | exact blk_below (blk_drew (Ra.out)) h3 | exact blk_below (blk_alloc (Ra.out) _) h3 | exact blk_below (blk_drew (blk_alloc (Ra.out) _)) h3 | exact blk_below (blk_alloc (blk_alloc (Ra.out) _) _) h3 | exact blk_below (blk_drew (blk_alloc (blk_alloc (Ra.out) _) _)) h3 | exact blk_below (blk_alloc (blk_alloc (blk_alloc (Ra.out) _) _) _) h3 | exact blk_below (blk_drew (blk_alloc (blk_alloc (blk_alloc (Ra.out) _) _) _)) h3 | exact blk_below (blk_alloc (blk_alloc (blk_alloc (blk_alloc (Ra.out) _) _) _) _) h3 | exact blk_below (blk_drew (blk_alloc (blk_alloc (blk_alloc (blk_alloc (Ra.out) _) _) _) _)) h3 | exact blk_below (blk_new rfl) h3 | exact blk_below (blk_drew (blk_new rfl)) h3 | exact blk_below (blk_alloc (blk_new rfl) _) h3 | exact blk_below (blk_drew (blk_alloc (blk_new rfl) _)) h3 | exact blk_below (blk_alloc (blk_alloc (blk_new rfl) _) _) h3 | exact blk_below (blk_drew (blk_alloc (blk_alloc (blk_new rfl) _) _)) h3 | exact blk_below (blk_alloc (blk_alloc (blk_alloc (blk_new rfl) _) _) _) h3 | exact blk_below (blk_drew (blk_alloc (blk_alloc (blk_alloc (blk_new rfl) _) _) _)) h3 | exact blk_below (blk_alloc (blk_alloc (blk_alloc (blk_alloc (blk_new rfl) _) _) _) _) h3 | exact blk_below (blk_drew (blk_alloc (blk_alloc (blk_alloc (blk_alloc (blk_new rfl) _) _) _) _)) h3 | exact blk_below (blk_new (by simp)) h3 | exact blk_below (blk_drew (blk_new (by simp))) h3 | exact blk_below (blk_alloc (blk_new (by simp)) _) h3 | exact blk_below (blk_drew (blk_alloc (blk_new (by simp)) _)) h3 | exact blk_below (blk_alloc (blk_alloc (blk_new (by simp)) _) _) h3 | exact blk_below (blk_drew (blk_alloc (blk_alloc (blk_new (by simp)) _) _)) h3 | exact blk_below (blk_alloc (blk_alloc (blk_alloc (blk_new (by simp)) _) _) _) h3 | exact blk_below (blk_drew (blk_alloc (blk_alloc (blk_alloc (blk_new (by simp)) _) _) _)) h3 | exact blk_below (blk_alloc (blk_alloc (blk_alloc (blk_alloc (blk_new (by simp)) _) _) _) _) h3 | exact blk_below (blk_drew (blk_alloc (blk_alloc (blk_alloc (blk_alloc (blk_new (by simp)) _) _) _) _)) h3
  have rb : w3.heap[(w.heap.size + 1)]? = some (.cells #[.int .u64 c, .int .u64 d] 24 (0, 0)) := by first | exact blk_below (Rb.out) h3 | exact blk_below (blk_drew (Rb.out)) h3 | exact blk_below (blk_alloc (Rb.out) _) h3 | exact blk_below (blk_drew (blk_alloc (Rb.out) _)) h3 | exact blk_below (blk_alloc (blk_alloc (Rb.out) _) _) h3 | exact blk_below (blk_drew (blk_alloc (blk_alloc (Rb.out) _) _)) h3 | exact blk_below (blk_alloc (blk_alloc (blk_alloc (Rb.out) _) _) _) h3 | exact blk_below (blk_drew (blk_alloc (blk_alloc (blk_alloc (Rb.out) _) _) _)) h3 | exact blk_below (blk_alloc (blk_alloc (blk_alloc (blk_alloc (Rb.out) _) _) _) _) h3 | exact blk_below (blk_drew (blk_alloc (blk_alloc (blk_alloc (blk_alloc (Rb.out) _) _) _) _)) h3 | exact blk_below (blk_new rfl) h3 | exact blk_below (blk_drew (blk_new rfl)) h3 | exact blk_below (blk_alloc (blk_new rfl) _) h3 | exact blk_below (blk_drew (blk_alloc (blk_new rfl) _)) h3 | exact blk_below (blk_alloc (blk_alloc (blk_new rfl) _) _) h3 | exact blk_below (blk_drew (blk_alloc (blk_alloc (blk_new rfl) _) _)) h3 | exact blk_below (blk_alloc (blk_alloc (blk_alloc (blk_new rfl) _) _) _) h3 | exact blk_below (blk_drew (blk_alloc (blk_alloc (blk_alloc (blk_new rfl) _) _) _)) h3 | exact blk_below (blk_alloc (blk_alloc (blk_alloc (blk_alloc (blk_new rfl) _) _) _) _) h3 | exact blk_below (blk_drew (blk_alloc (blk_alloc (blk_alloc (blk_alloc (blk_new rfl) _) _) _) _)) h3 | exact blk_below (blk_new (by simp)) h3 | exact blk_below (blk_drew (blk_new (by simp))) h3 | exact blk_below (blk_alloc (blk_new (by simp)) _) h3 | exact blk_below (blk_drew (blk_alloc (blk_new (by simp)) _)) h3 | exact blk_below (blk_alloc (blk_alloc (blk_new (by simp)) _) _) h3 | exact blk_below (blk_drew (blk_alloc (blk_alloc (blk_new (by simp)) _) _)) h3 | exact blk_below (blk_alloc (blk_alloc (blk_alloc (blk_new (by simp)) _) _) _) h3 | exact blk_below (blk_drew (blk_alloc (blk_alloc (blk_alloc (blk_new (by simp)) _) _) _)) h3 | exact blk_below (blk_alloc (blk_alloc (blk_alloc (blk_alloc (blk_new (by simp)) _) _) _) _) h3 | exact blk_below (blk_drew (blk_alloc (blk_alloc (blk_alloc (blk_alloc (blk_new (by simp)) _) _) _) _)) h3
  clear fac0 faz0 fac1 faz1 fal fbc0 fbz0 fbc1 fbz1 fbl
  clear Ra Rb
  have fac0 : w3.cell? ⟨w.heap.size, 0, none⟩ = some (.int .u64 a) := (cell_of_row _ _ _ _ _ _ ra).trans rfl
  have faz0 := frozen_of_row _ _ 0 _ _ ra
  have fac1 : w3.cell? ⟨w.heap.size, 1, none⟩ = some (.int .u64 b) := (cell_of_row _ _ _ _ _ _ ra).trans rfl
  have faz1 := frozen_of_row _ _ 1 _ _ ra
  have fal := blk_lt ra
  have Ra := Lib.hid ra
  clear ra
  have fbc0 : w3.cell? ⟨(w.heap.size + 1), 0, none⟩ = some (.int .u64 c) := (cell_of_row _ _ _ _ _ _ rb).trans rfl
  have fbz0 := frozen_of_row _ _ 0 _ _ rb
  have fbc1 : w3.cell? ⟨(w.heap.size + 1), 1, none⟩ = some (.int .u64 d) := (cell_of_row _ _ _ _ _ _ rb).trans rfl
  have fbz1 := frozen_of_row _ _ 1 _ _ rb
  have fbl := blk_lt rb
  have Rb := Lib.hid rb
  clear rb
  clear B2
  clear h3
  go_wp2_with fail
  refine (bits_any _ a b HA.out HB.out).mono ?_
  rintro e w4 ⟨rfl, h4⟩
  rw [HK.out]
  have B4 := Lib.hid (b_then (by first | exact (B3.out) | exact b_drew (B3.out) | exact (b_alloc (B3.out) _) | exact b_drew (b_alloc (B3.out) _) | exact (b_alloc (b_alloc (B3.out) _) _) | exact b_drew (b_alloc (b_alloc (B3.out) _) _) | exact (b_alloc (b_alloc (b_alloc (B3.out) _) _) _) | exact b_drew (b_alloc (b_alloc (b_alloc (B3.out) _) _) _) | exact (b_alloc (b_alloc (b_alloc (b_alloc (B3.out) _) _) _) _) | exact b_drew (b_alloc (b_alloc (b_alloc (b_alloc (B3.out) _) _) _) _) | exact (b_alloc (b_alloc (b_alloc (b_alloc (b_alloc (B3.out) _) _) _) _) _) | exact b_drew (b_alloc (b_alloc (b_alloc (b_alloc (b_alloc (B3.out) _) _) _) _) _)) h4)
  have ra : w4.heap[w.heap.size]? = some (.cells #[.int .u64 a, .int .u64 b] 24 (0, 0)) := by first | exact blk_below (Ra.out) h4 | exact blk_below (blk_drew (Ra.out)) h4 | exact blk_below (blk_alloc (Ra.out) _) h4 | exact blk_below (blk_drew (blk_alloc (Ra.out) _)) h4 | exact blk_below (blk_alloc (blk_alloc (Ra.out) _) _) h4 | exact blk_below (blk_drew (blk_alloc (blk_alloc (Ra.out) _) _)) h4 | exact blk_below (blk_alloc (blk_alloc (blk_alloc (Ra.out) _) _) _) h4 | exact blk_below (blk_drew (blk_alloc (blk_alloc (blk_alloc (Ra.out) _) _) _)) h4 | exact blk_below (blk_alloc (blk_alloc (blk_alloc (blk_alloc (Ra.out) _) _) _) _) h4 | exact blk_below (blk_drew (blk_alloc (blk_alloc (blk_alloc (blk_alloc (Ra.out) _) _) _) _)) h4 | exact blk_below (blk_new rfl) h4 | exact blk_below (blk_drew (blk_new rfl)) h4 | exact blk_below (blk_alloc (blk_new rfl) _) h4 | exact blk_below (blk_drew (blk_alloc (blk_new rfl) _)) h4 | exact blk_below (blk_alloc (blk_alloc (blk_new rfl) _) _) h4 | exact blk_below (blk_drew (blk_alloc (blk_alloc (blk_new rfl) _) _)) h4 | exact blk_below (blk_alloc (blk_alloc (blk_alloc (blk_new rfl) _) _) _) h4 | exact blk_below (blk_drew (blk_alloc (blk_alloc (blk_alloc (blk_new rfl) _) _) _)) h4 | exact blk_below (blk_alloc (blk_alloc (blk_alloc (blk_alloc (blk_new rfl) _) _) _) _) h4 | exact blk_below (blk_drew (blk_alloc (blk_alloc (blk_alloc (blk_alloc (blk_new rfl) _) _) _) _)) h4 | exact blk_below (blk_new (by simp)) h4 | exact blk_below (blk_drew (blk_new (by simp))) h4 | exact blk_below (blk_alloc (blk_new (by simp)) _) h4 | exact blk_below (blk_drew (blk_alloc (blk_new (by simp)) _)) h4 | exact blk_below (blk_alloc (blk_alloc (blk_new (by simp)) _) _) h4 | exact blk_below (blk_drew (blk_alloc (blk_alloc (blk_new (by simp)) _) _)) h4 | exact blk_below (blk_alloc (blk_alloc (blk_alloc (blk_new (by simp)) _) _) _) h4 | exact blk_below (blk_drew (blk_alloc (blk_alloc (blk_alloc (blk_new (by simp)) _) _) _)) h4 | exact blk_below (blk_alloc (blk_alloc (blk_alloc (blk_alloc (blk_new (by simp)) _) _) _) _) h4 | exact blk_below (blk_drew (blk_alloc (blk_alloc (blk_alloc (blk_alloc (blk_new (by simp)) _) _) _) _)) h4
  have rb : w4.heap[(w.heap.size + 1)]? = some (.cells #[.int .u64 c, .int .u64 d] 24 (0, 0)) := by first | exact blk_below (Rb.out) h4 | exact blk_below (blk_drew (Rb.out)) h4 | exact blk_below (blk_alloc (Rb.out) _) h4 | exact blk_below (blk_drew (blk_alloc (Rb.out) _)) h4 | exact blk_below (blk_alloc (blk_alloc (Rb.out) _) _) h4 | exact blk_below (blk_drew (blk_alloc (blk_alloc (Rb.out) _) _)) h4 | exact blk_below (blk_alloc (blk_alloc (blk_alloc (Rb.out) _) _) _) h4 | exact blk_below (blk_drew (blk_alloc (blk_alloc (blk_alloc (Rb.out) _) _) _)) h4 | exact blk_below (blk_alloc (blk_alloc (blk_alloc (blk_alloc (Rb.out) _) _) _) _) h4 | exact blk_below (blk_drew (blk_alloc (blk_alloc (blk_alloc (blk_alloc (Rb.out) _) _) _) _)) h4 | exact blk_below (blk_new rfl) h4 | exact blk_below (blk_drew (blk_new rfl)) h4 | exact blk_below (blk_alloc (blk_new rfl) _) h4 | exact blk_below (blk_drew (blk_alloc (blk_new rfl) _)) h4 | exact blk_below (blk_alloc (blk_alloc (blk_new rfl) _) _) h4 | exact blk_below (blk_drew (blk_alloc (blk_alloc (blk_new rfl) _) _)) h4 | exact blk_below (blk_alloc (blk_alloc (blk_alloc (blk_new rfl) _) _) _) h4 | exact blk_below (blk_drew (blk_alloc (blk_alloc (blk_alloc (blk_new rfl) _) _) _)) h4 | exact blk_below (blk_alloc (blk_alloc (blk_alloc (blk_alloc (blk_new rfl) _) _) _) _) h4 | exact blk_below (blk_drew (blk_alloc (blk_alloc (blk_alloc (blk_alloc (blk_new rfl) _) _) _) _)) h4 | exact blk_below (blk_new (by simp)) h4 | exact blk_below (blk_drew (blk_new (by simp))) h4 | exact blk_below (blk_alloc (blk_new (by simp)) _) h4 | exact blk_below (blk_drew (blk_alloc (blk_new (by simp)) _)) h4 | exact blk_below (blk_alloc (blk_alloc (blk_new (by simp)) _) _) h4 | exact blk_below (blk_drew (blk_alloc (blk_alloc (blk_new (by simp)) _) _)) h4 | exact blk_below (blk_alloc (blk_alloc (blk_alloc (blk_new (by simp)) _) _) _) h4 | exact blk_below (blk_drew (blk_alloc (blk_alloc (blk_alloc (blk_new (by simp)) _) _) _)) h4 | exact blk_below (blk_alloc (blk_alloc (blk_alloc (blk_alloc (blk_new (by simp)) _) _) _) _) h4 | exact blk_below (blk_drew (blk_alloc (blk_alloc (blk_alloc (blk_alloc (blk_new (by simp)) _) _) _) _)) h4
  clear fac0 faz0 fac1 faz1 fal fbc0 fbz0 fbc1 fbz1 fbl
  clear Ra Rb
  have fac0 : w4.cell? ⟨w.heap.size, 0, none⟩ = some (.int .u64 a) := (cell_of_row _ _ _ _ _ _ ra).trans rfl
  have faz0 := frozen_of_row _ _ 0 _ _ ra
  have fac1 : w4.cell? ⟨w.heap.size, 1, none⟩ = some (.int .u64 b) := (cell_of_row _ _ _ _ _ _ ra).trans rfl
  have faz1 := frozen_of_row _ _ 1 _ _ ra
  have fal := blk_lt ra
  have Ra := Lib.hid ra
  clear ra
  have fbc0 : w4.cell? ⟨(w.heap.size + 1), 0, none⟩ = some (.int .u64 c) := (cell_of_row _ _ _ _ _ _ rb).trans rfl
  have fbz0 := frozen_of_row _ _ 0 _ _ rb
  have fbc1 : w4.cell? ⟨(w.heap.size + 1), 1, none⟩ = some (.int .u64 d) := (cell_of_row _ _ _ _ _ _ rb).trans rfl
  have fbz1 := frozen_of_row _ _ 1 _ _ rb
  have fbl := blk_lt rb
  have Rb := Lib.hid rb
  clear rb
  clear B3
  clear h4
  go_wp2_with fail
  refine (compare_any _ c d a b HC.out HD.out HA.out HB.out).mono ?_
  rintro e w5 ⟨rfl, h5⟩
  rw [Hk2.out]
  have B5 := Lib.hid (b_then (by first | exact (B4.out) | exact b_drew (B4.out) | exact (b_alloc (B4.out) _) | exact b_drew (b_alloc (B4.out) _) | exact (b_alloc (b_alloc (B4.out) _) _) | exact b_drew (b_alloc (b_alloc (B4.out) _) _) | exact (b_alloc (b_alloc (b_alloc (B4.out) _) _) _) | exact b_drew (b_alloc (b_alloc (b_alloc (B4.out) _) _) _) | exact (b_alloc (b_alloc (b_alloc (b_alloc (B4.out) _) _) _) _) | exact b_drew (b_alloc (b_alloc (b_alloc (b_alloc (B4.out) _) _) _) _) | exact (b_alloc (b_alloc (b_alloc (b_alloc (b_alloc (B4.out) _) _) _) _) _) | exact b_drew (b_alloc (b_alloc (b_alloc (b_alloc (b_alloc (B4.out) _) _) _) _) _)) h5)
  have ra : w5.heap[w.heap.size]? = some (.cells #[.int .u64 a, .int .u64 b] 24 (0, 0)) := by first | exact blk_below (Ra.out) h5 | exact blk_below (blk_drew (Ra.out)) h5 | exact blk_below (blk_alloc (Ra.out) _) h5 | exact blk_below (blk_drew (blk_alloc (Ra.out) _)) h5 | exact blk_below (blk_alloc (blk_alloc (Ra.out) _) _) h5 | exact blk_below (blk_drew (blk_alloc (blk_alloc (Ra.out) _) _)) h5 | exact blk_below (blk_alloc (blk_alloc (blk_alloc (Ra.out) _) _) _) h5 | exact blk_below (blk_drew (blk_alloc (blk_alloc (blk_alloc (Ra.out) _) _) _)) h5 | exact blk_below (blk_alloc (blk_alloc (blk_alloc (blk_alloc (Ra.out) _) _) _) _) h5 | exact blk_below (blk_drew (blk_alloc (blk_alloc (blk_alloc (blk_alloc (Ra.out) _) _) _) _)) h5 | exact blk_below (blk_new rfl) h5 | exact blk_below (blk_drew (blk_new rfl)) h5 | exact blk_below (blk_alloc (blk_new rfl) _) h5 | exact blk_below (blk_drew (blk_alloc (blk_new rfl) _)) h5 | exact blk_below (blk_alloc (blk_alloc (blk_new rfl) _) _) h5 | exact blk_below (blk_drew (blk_alloc (blk_alloc (blk_new rfl) _) _)) h5 | exact blk_below (blk_alloc (blk_alloc (blk_alloc (blk_new rfl) _) _) _) h5 | exact blk_below (blk_drew (blk_alloc (blk_alloc (blk_alloc (blk_new rfl) _) _) _)) h5 | exact blk_below (blk_alloc (blk_alloc (blk_alloc (blk_alloc (blk_new rfl) _) _) _) _) h5 | exact blk_below (blk_drew (blk_alloc (blk_alloc (blk_alloc (blk_alloc (blk_new rfl) _) _) _) _)) h5 | exact blk_below (blk_new (by simp)) h5 | exact blk_below (blk_drew (blk_new (by simp))) h5 | exact blk_below (blk_alloc (blk_new (by simp)) _) h5 | exact blk_below (blk_drew (blk_alloc (blk_new (by simp)) _)) h5 | exact blk_below (blk_alloc (blk_alloc (blk_new (by simp)) _) _) h5 | exact blk_below (blk_drew (blk_alloc (blk_alloc (blk_new (by simp)) _) _)) h5 | exact blk_below (blk_alloc (blk_alloc (blk_alloc (blk_new (by simp)) _) _) _) h5 | exact blk_below (blk_drew (blk_alloc (blk_alloc (blk_alloc (blk_new (by simp)) _) _) _)) h5 | exact blk_below (blk_alloc (blk_alloc (blk_alloc (blk_alloc (blk_new (by simp)) _) _) _) _) h5 | exact blk_below (blk_drew (blk_alloc (blk_alloc (blk_alloc (blk_alloc (blk_new (by simp)) _) _) _) _)) h5
  have rb : w5.heap[(w.heap.size + 1)]? = some (.cells #[.int .u64 c, .int .u64 d] 24 (0, 0)) := by first | exact blk_below (Rb.out) h5 | exact blk_below (blk_drew (Rb.out)) h5 | exact blk_below (blk_alloc (Rb.out) _) h5 | exact blk_below (blk_drew (blk_alloc (Rb.out) _)) h5 | exact blk_below (blk_alloc (blk_alloc (Rb.out) _) _) h5 | exact blk_below (blk_drew (blk_alloc (blk_alloc (Rb.out) _) _)) h5 | exact blk_below (blk_alloc (blk_alloc (blk_alloc (Rb.out) _) _) _) h5 | exact blk_below (blk_drew (blk_alloc (blk_alloc (blk_alloc (Rb.out) _) _) _)) h5 | exact blk_below (blk_alloc (blk_alloc (blk_alloc (blk_alloc (Rb.out) _) _) _) _) h5 | exact blk_below (blk_drew (blk_alloc (blk_alloc (blk_alloc (blk_alloc (Rb.out) _) _) _) _)) h5 | exact blk_below (blk_new rfl) h5 | exact blk_below (blk_drew (blk_new rfl)) h5 | exact blk_below (blk_alloc (blk_new rfl) _) h5 | exact blk_below (blk_drew (blk_alloc (blk_new rfl) _)) h5 | exact blk_below (blk_alloc (blk_alloc (blk_new rfl) _) _) h5 | exact blk_below (blk_drew (blk_alloc (blk_alloc (blk_new rfl) _) _)) h5 | exact blk_below (blk_alloc (blk_alloc (blk_alloc (blk_new rfl) _) _) _) h5 | exact blk_below (blk_drew (blk_alloc (blk_alloc (blk_alloc (blk_new rfl) _) _) _)) h5 | exact blk_below (blk_alloc (blk_alloc (blk_alloc (blk_alloc (blk_new rfl) _) _) _) _) h5 | exact blk_below (blk_drew (blk_alloc (blk_alloc (blk_alloc (blk_alloc (blk_new rfl) _) _) _) _)) h5 | exact blk_below (blk_new (by simp)) h5 | exact blk_below (blk_drew (blk_new (by simp))) h5 | exact blk_below (blk_alloc (blk_new (by simp)) _) h5 | exact blk_below (blk_drew (blk_alloc (blk_new (by simp)) _)) h5 | exact blk_below (blk_alloc (blk_alloc (blk_new (by simp)) _) _) h5 | exact blk_below (blk_drew (blk_alloc (blk_alloc (blk_new (by simp)) _) _)) h5 | exact blk_below (blk_alloc (blk_alloc (blk_alloc (blk_new (by simp)) _) _) _) h5 | exact blk_below (blk_drew (blk_alloc (blk_alloc (blk_alloc (blk_new (by simp)) _) _) _)) h5 | exact blk_below (blk_alloc (blk_alloc (blk_alloc (blk_alloc (blk_new (by simp)) _) _) _) _) h5 | exact blk_below (blk_drew (blk_alloc (blk_alloc (blk_alloc (blk_alloc (blk_new (by simp)) _) _) _) _)) h5
  clear fac0 faz0 fac1 faz1 fal fbc0 fbz0 fbc1 fbz1 fbl
  clear Ra Rb
  have fac0 : w5.cell? ⟨w.heap.size, 0, none⟩ = some (.int .u64 a) := (cell_of_row _ _ _ _ _ _ ra).trans rfl
  have faz0 := frozen_of_row _ _ 0 _ _ ra
  have fac1 : w5.cell? ⟨w.heap.size, 1, none⟩ = some (.int .u64 b) := (cell_of_row _ _ _ _ _ _ ra).trans rfl
  have faz1 := frozen_of_row _ _ 1 _ _ ra
  have fal := blk_lt ra
  have Ra := Lib.hid ra
  clear ra
  have fbc0 : w5.cell? ⟨(w.heap.size + 1), 0, none⟩ = some (.int .u64 c) := (cell_of_row _ _ _ _ _ _ rb).trans rfl
  have fbz0 := frozen_of_row _ _ 0 _ _ rb
  have fbc1 : w5.cell? ⟨(w.heap.size + 1), 1, none⟩ = some (.int .u64 d) := (cell_of_row _ _ _ _ _ _ rb).trans rfl
  have fbz1 := frozen_of_row _ _ 1 _ _ rb
  have fbl := blk_lt rb
  have Rb := Lib.hid rb
  clear rb
  clear B4
  clear h5
  go_wp2_with fail
  refine (right_any _ a b K HA.out HB.out (by omega) (by omega)).mono ?_
  rintro e w6 ⟨rfl, h6⟩
  rw [Hz1.out]
  have B6 := Lib.hid (b_then (by first | exact (B5.out) | exact b_drew (B5.out) | exact (b_alloc (B5.out) _) | exact b_drew (b_alloc (B5.out) _) | exact (b_alloc (b_alloc (B5.out) _) _) | exact b_drew (b_alloc (b_alloc (B5.out) _) _) | exact (b_alloc (b_alloc (b_alloc (B5.out) _) _) _) | exact b_drew (b_alloc (b_alloc (b_alloc (B5.out) _) _) _) | exact (b_alloc (b_alloc (b_alloc (b_alloc (B5.out) _) _) _) _) | exact b_drew (b_alloc (b_alloc (b_alloc (b_alloc (B5.out) _) _) _) _) | exact (b_alloc (b_alloc (b_alloc (b_alloc (b_alloc (B5.out) _) _) _) _) _) | exact b_drew (b_alloc (b_alloc (b_alloc (b_alloc (b_alloc (B5.out) _) _) _) _) _)) h6)
  have ra : w6.heap[w.heap.size]? = some (.cells #[.int .u64 a, .int .u64 b] 24 (0, 0)) := by first | exact blk_below (Ra.out) h6 | exact blk_below (blk_drew (Ra.out)) h6 | exact blk_below (blk_alloc (Ra.out) _) h6 | exact blk_below (blk_drew (blk_alloc (Ra.out) _)) h6 | exact blk_below (blk_alloc (blk_alloc (Ra.out) _) _) h6 | exact blk_below (blk_drew (blk_alloc (blk_alloc (Ra.out) _) _)) h6 | exact blk_below (blk_alloc (blk_alloc (blk_alloc (Ra.out) _) _) _) h6 | exact blk_below (blk_drew (blk_alloc (blk_alloc (blk_alloc (Ra.out) _) _) _)) h6 | exact blk_below (blk_alloc (blk_alloc (blk_alloc (blk_alloc (Ra.out) _) _) _) _) h6 | exact blk_below (blk_drew (blk_alloc (blk_alloc (blk_alloc (blk_alloc (Ra.out) _) _) _) _)) h6 | exact blk_below (blk_new rfl) h6 | exact blk_below (blk_drew (blk_new rfl)) h6 | exact blk_below (blk_alloc (blk_new rfl) _) h6 | exact blk_below (blk_drew (blk_alloc (blk_new rfl) _)) h6 | exact blk_below (blk_alloc (blk_alloc (blk_new rfl) _) _) h6 | exact blk_below (blk_drew (blk_alloc (blk_alloc (blk_new rfl) _) _)) h6 | exact blk_below (blk_alloc (blk_alloc (blk_alloc (blk_new rfl) _) _) _) h6 | exact blk_below (blk_drew (blk_alloc (blk_alloc (blk_alloc (blk_new rfl) _) _) _)) h6 | exact blk_below (blk_alloc (blk_alloc (blk_alloc (blk_alloc (blk_new rfl) _) _) _) _) h6 | exact blk_below (blk_drew (blk_alloc (blk_alloc (blk_alloc (blk_alloc (blk_new rfl) _) _) _) _)) h6 | exact blk_below (blk_new (by simp)) h6 | exact blk_below (blk_drew (blk_new (by simp))) h6 | exact blk_below (blk_alloc (blk_new (by simp)) _) h6 | exact blk_below (blk_drew (blk_alloc (blk_new (by simp)) _)) h6 | exact blk_below (blk_alloc (blk_alloc (blk_new (by simp)) _) _) h6 | exact blk_below (blk_drew (blk_alloc (blk_alloc (blk_new (by simp)) _) _)) h6 | exact blk_below (blk_alloc (blk_alloc (blk_alloc (blk_new (by simp)) _) _) _) h6 | exact blk_below (blk_drew (blk_alloc (blk_alloc (blk_alloc (blk_new (by simp)) _) _) _)) h6 | exact blk_below (blk_alloc (blk_alloc (blk_alloc (blk_alloc (blk_new (by simp)) _) _) _) _) h6 | exact blk_below (blk_drew (blk_alloc (blk_alloc (blk_alloc (blk_alloc (blk_new (by simp)) _) _) _) _)) h6
  have rb : w6.heap[(w.heap.size + 1)]? = some (.cells #[.int .u64 c, .int .u64 d] 24 (0, 0)) := by first | exact blk_below (Rb.out) h6 | exact blk_below (blk_drew (Rb.out)) h6 | exact blk_below (blk_alloc (Rb.out) _) h6 | exact blk_below (blk_drew (blk_alloc (Rb.out) _)) h6 | exact blk_below (blk_alloc (blk_alloc (Rb.out) _) _) h6 | exact blk_below (blk_drew (blk_alloc (blk_alloc (Rb.out) _) _)) h6 | exact blk_below (blk_alloc (blk_alloc (blk_alloc (Rb.out) _) _) _) h6 | exact blk_below (blk_drew (blk_alloc (blk_alloc (blk_alloc (Rb.out) _) _) _)) h6 | exact blk_below (blk_alloc (blk_alloc (blk_alloc (blk_alloc (Rb.out) _) _) _) _) h6 | exact blk_below (blk_drew (blk_alloc (blk_alloc (blk_alloc (blk_alloc (Rb.out) _) _) _) _)) h6 | exact blk_below (blk_new rfl) h6 | exact blk_below (blk_drew (blk_new rfl)) h6 | exact blk_below (blk_alloc (blk_new rfl) _) h6 | exact blk_below (blk_drew (blk_alloc (blk_new rfl) _)) h6 | exact blk_below (blk_alloc (blk_alloc (blk_new rfl) _) _) h6 | exact blk_below (blk_drew (blk_alloc (blk_alloc (blk_new rfl) _) _)) h6 | exact blk_below (blk_alloc (blk_alloc (blk_alloc (blk_new rfl) _) _) _) h6 | exact blk_below (blk_drew (blk_alloc (blk_alloc (blk_alloc (blk_new rfl) _) _) _)) h6 | exact blk_below (blk_alloc (blk_alloc (blk_alloc (blk_alloc (blk_new rfl) _) _) _) _) h6 | exact blk_below (blk_drew (blk_alloc (blk_alloc (blk_alloc (blk_alloc (blk_new rfl) _) _) _) _)) h6 | exact blk_below (blk_new (by simp)) h6 | exact blk_below (blk_drew (blk_new (by simp))) h6 | exact blk_below (blk_alloc (blk_new (by simp)) _) h6 | exact blk_below (blk_drew (blk_alloc (blk_new (by simp)) _)) h6 | exact blk_below (blk_alloc (blk_alloc (blk_new (by simp)) _) _) h6 | exact blk_below (blk_drew (blk_alloc (blk_alloc (blk_new (by simp)) _) _)) h6 | exact blk_below (blk_alloc (blk_alloc (blk_alloc (blk_new (by simp)) _) _) _) h6 | exact blk_below (blk_drew (blk_alloc (blk_alloc (blk_alloc (blk_new (by simp)) _) _) _)) h6 | exact blk_below (blk_alloc (blk_alloc (blk_alloc (blk_alloc (blk_new (by simp)) _) _) _) _) h6 | exact blk_below (blk_drew (blk_alloc (blk_alloc (blk_alloc (blk_alloc (blk_new (by simp)) _) _) _) _)) h6
  clear fac0 faz0 fac1 faz1 fal fbc0 fbz0 fbc1 fbz1 fbl
  clear Ra Rb
  have fac0 : w6.cell? ⟨w.heap.size, 0, none⟩ = some (.int .u64 a) := (cell_of_row _ _ _ _ _ _ ra).trans rfl
  have faz0 := frozen_of_row _ _ 0 _ _ ra
  have fac1 : w6.cell? ⟨w.heap.size, 1, none⟩ = some (.int .u64 b) := (cell_of_row _ _ _ _ _ _ ra).trans rfl
  have faz1 := frozen_of_row _ _ 1 _ _ ra
  have fal := blk_lt ra
  have Ra := Lib.hid ra
  clear ra
  have fbc0 : w6.cell? ⟨(w.heap.size + 1), 0, none⟩ = some (.int .u64 c) := (cell_of_row _ _ _ _ _ _ rb).trans rfl
  have fbz0 := frozen_of_row _ _ 0 _ _ rb
  have fbc1 : w6.cell? ⟨(w.heap.size + 1), 1, none⟩ = some (.int .u64 d) := (cell_of_row _ _ _ _ _ _ rb).trans rfl
  have fbz1 := frozen_of_row _ _ 1 _ _ rb
  have fbl := blk_lt rb
  have Rb := Lib.hid rb
  clear rb
  clear B5
  clear h6
  go_wp2_with fail
  refine (right_any _ a b (K - 1) HA.out HB.out (by omega) (by omega)).mono ?_
  rintro e w7 ⟨rfl, h7⟩
  rw [Hz2.out]
  have B7 := Lib.hid (b_then (by first | exact (B6.out) | exact b_drew (B6.out) | exact (b_alloc (B6.out) _) | exact b_drew (b_alloc (B6.out) _) | exact (b_alloc (b_alloc (B6.out) _) _) | exact b_drew (b_alloc (b_alloc (B6.out) _) _) | exact (b_alloc (b_alloc (b_alloc (B6.out) _) _) _) | exact b_drew (b_alloc (b_alloc (b_alloc (B6.out) _) _) _) | exact (b_alloc (b_alloc (b_alloc (b_alloc (B6.out) _) _) _) _) | exact b_drew (b_alloc (b_alloc (b_alloc (b_alloc (B6.out) _) _) _) _) | exact (b_alloc (b_alloc (b_alloc (b_alloc (b_alloc (B6.out) _) _) _) _) _) | exact b_drew (b_alloc (b_alloc (b_alloc (b_alloc (b_alloc (B6.out) _) _) _) _) _)) h7)
  have ra : w7.heap[w.heap.size]? = some (.cells #[.int .u64 a, .int .u64 b] 24 (0, 0)) := by first | exact blk_below (Ra.out) h7 | exact blk_below (blk_drew (Ra.out)) h7 | exact blk_below (blk_alloc (Ra.out) _) h7 | exact blk_below (blk_drew (blk_alloc (Ra.out) _)) h7 | exact blk_below (blk_alloc (blk_alloc (Ra.out) _) _) h7 | exact blk_below (blk_drew (blk_alloc (blk_alloc (Ra.out) _) _)) h7 | exact blk_below (blk_alloc (blk_alloc (blk_alloc (Ra.out) _) _) _) h7 | exact blk_below (blk_drew (blk_alloc (blk_alloc (blk_alloc (Ra.out) _) _) _)) h7 | exact blk_below (blk_alloc (blk_alloc (blk_alloc (blk_alloc (Ra.out) _) _) _) _) h7 | exact blk_below (blk_drew (blk_alloc (blk_alloc (blk_alloc (blk_alloc (Ra.out) _) _) _) _)) h7 | exact blk_below (blk_new rfl) h7 | exact blk_below (blk_drew (blk_new rfl)) h7 | exact blk_below (blk_alloc (blk_new rfl) _) h7 | exact blk_below (blk_drew (blk_alloc (blk_new rfl) _)) h7 | exact blk_below (blk_alloc (blk_alloc (blk_new rfl) _) _) h7 | exact blk_below (blk_drew (blk_alloc (blk_alloc (blk_new rfl) _) _)) h7 | exact blk_below (blk_alloc (blk_alloc (blk_alloc (blk_new rfl) _) _) _) h7 | exact blk_below (blk_drew (blk_alloc (blk_alloc (blk_alloc (blk_new rfl) _) _) _)) h7 | exact blk_below (blk_alloc (blk_alloc (blk_alloc (blk_alloc (blk_new rfl) _) _) _) _) h7 | exact blk_below (blk_drew (blk_alloc (blk_alloc (blk_alloc (blk_alloc (blk_new rfl) _) _) _) _)) h7 | exact blk_below (blk_new (by simp)) h7 | exact blk_below (blk_drew (blk_new (by simp))) h7 | exact blk_below (blk_alloc (blk_new (by simp)) _) h7 | exact blk_below (blk_drew (blk_alloc (blk_new (by simp)) _)) h7 | exact blk_below (blk_alloc (blk_alloc (blk_new (by simp)) _) _) h7 | exact blk_below (blk_drew (blk_alloc (blk_alloc (blk_new (by simp)) _) _)) h7 | exact blk_below (blk_alloc (blk_alloc (blk_alloc (blk_new (by simp)) _) _) _) h7 | exact blk_below (blk_drew (blk_alloc (blk_alloc (blk_alloc (blk_new (by simp)) _) _) _)) h7 | exact blk_below (blk_alloc (blk_alloc (blk_alloc (blk_alloc (blk_new (by simp)) _) _) _) _) h7 | exact blk_below (blk_drew (blk_alloc (blk_alloc (blk_alloc (blk_alloc (blk_new (by simp)) _) _) _) _)) h7
  have rb : w7.heap[(w.heap.size + 1)]? = some (.cells #[.int .u64 c, .int .u64 d] 24 (0, 0)) := by first | exact blk_below (Rb.out) h7 | exact blk_below (blk_drew (Rb.out)) h7 | exact blk_below (blk_alloc (Rb.out) _) h7 | exact blk_below (blk_drew (blk_alloc (Rb.out) _)) h7 | exact blk_below (blk_alloc (blk_alloc (Rb.out) _) _) h7 | exact blk_below (blk_drew (blk_alloc (blk_alloc (Rb.out) _) _)) h7 | exact blk_below (blk_alloc (blk_alloc (blk_alloc (Rb.out) _) _) _) h7 | exact blk_below (blk_drew (blk_alloc (blk_alloc (blk_alloc (Rb.out) _) _) _)) h7 | exact blk_below (blk_alloc (blk_alloc (blk_alloc (blk_alloc (Rb.out) _) _) _) _) h7 | exact blk_below (blk_drew (blk_alloc (blk_alloc (blk_alloc (blk_alloc (Rb.out) _) _) _) _)) h7 | exact blk_below (blk_new rfl) h7 | exact blk_below (blk_drew (blk_new rfl)) h7 | exact blk_below (blk_alloc (blk_new rfl) _) h7 | exact blk_below (blk_drew (blk_alloc (blk_new rfl) _)) h7 | exact blk_below (blk_alloc (blk_alloc (blk_new rfl) _) _) h7 | exact blk_below (blk_drew (blk_alloc (blk_alloc (blk_new rfl) _) _)) h7 | exact blk_below (blk_alloc (blk_alloc (blk_alloc (blk_new rfl) _) _) _) h7 | exact blk_below (blk_drew (blk_alloc (blk_alloc (blk_alloc (blk_new rfl) _) _) _)) h7 | exact blk_below (blk_alloc (blk_alloc (blk_alloc (blk_alloc (blk_new rfl) _) _) _) _) h7 | exact blk_below (blk_drew (blk_alloc (blk_alloc (blk_alloc (blk_alloc (blk_new rfl) _) _) _) _)) h7 | exact blk_below (blk_new (by simp)) h7 | exact blk_below (blk_drew (blk_new (by simp))) h7 | exact blk_below (blk_alloc (blk_new (by simp)) _) h7 | exact blk_below (blk_drew (blk_alloc (blk_new (by simp)) _)) h7 | exact blk_below (blk_alloc (blk_alloc (blk_new (by simp)) _) _) h7 | exact blk_below (blk_drew (blk_alloc (blk_alloc (blk_new (by simp)) _) _)) h7 | exact blk_below (blk_alloc (blk_alloc (blk_alloc (blk_new (by simp)) _) _) _) h7 | exact blk_below (blk_drew (blk_alloc (blk_alloc (blk_alloc (blk_new (by simp)) _) _) _)) h7 | exact blk_below (blk_alloc (blk_alloc (blk_alloc (blk_alloc (blk_new (by simp)) _) _) _) _) h7 | exact blk_below (blk_drew (blk_alloc (blk_alloc (blk_alloc (blk_alloc (blk_new (by simp)) _) _) _) _)) h7
  clear fac0 faz0 fac1 faz1 fal fbc0 fbz0 fbc1 fbz1 fbl
  clear Ra Rb
  have fac0 : w7.cell? ⟨w.heap.size, 0, none⟩ = some (.int .u64 a) := (cell_of_row _ _ _ _ _ _ ra).trans rfl
  have faz0 := frozen_of_row _ _ 0 _ _ ra
  have fac1 : w7.cell? ⟨w.heap.size, 1, none⟩ = some (.int .u64 b) := (cell_of_row _ _ _ _ _ _ ra).trans rfl
  have faz1 := frozen_of_row _ _ 1 _ _ ra
  have fal := blk_lt ra
  have Ra := Lib.hid ra
  clear ra
  have fbc0 : w7.cell? ⟨(w.heap.size + 1), 0, none⟩ = some (.int .u64 c) := (cell_of_row _ _ _ _ _ _ rb).trans rfl
  have fbz0 := frozen_of_row _ _ 0 _ _ rb
  have fbc1 : w7.cell? ⟨(w.heap.size + 1), 1, none⟩ = some (.int .u64 d) := (cell_of_row _ _ _ _ _ _ rb).trans rfl
  have fbz1 := frozen_of_row _ _ 1 _ _ rb
  have fbl := blk_lt rb
  have Rb := Lib.hid rb
  clear rb
  clear B6
  clear h7
  go_wp2_with fail
  refine (of1_any _ 1).mono ?_
  rintro e w8 ⟨rfl, h8⟩
  have B8 := Lib.hid (b_then (by first | exact (B7.out) | exact b_drew (B7.out) | exact (b_alloc (B7.out) _) | exact b_drew (b_alloc (B7.out) _) | exact (b_alloc (b_alloc (B7.out) _) _) | exact b_drew (b_alloc (b_alloc (B7.out) _) _) | exact (b_alloc (b_alloc (b_alloc (B7.out) _) _) _) | exact b_drew (b_alloc (b_alloc (b_alloc (B7.out) _) _) _) | exact (b_alloc (b_alloc (b_alloc (b_alloc (B7.out) _) _) _) _) | exact b_drew (b_alloc (b_alloc (b_alloc (b_alloc (B7.out) _) _) _) _) | exact (b_alloc (b_alloc (b_alloc (b_alloc (b_alloc (B7.out) _) _) _) _) _) | exact b_drew (b_alloc (b_alloc (b_alloc (b_alloc (b_alloc (B7.out) _) _) _) _) _)) h8)
  have ra : w8.heap[w.heap.size]? = some (.cells #[.int .u64 a, .int .u64 b] 24 (0, 0)) := by first | exact blk_below (Ra.out) h8 | exact blk_below (blk_drew (Ra.out)) h8 | exact blk_below (blk_alloc (Ra.out) _) h8 | exact blk_below (blk_drew (blk_alloc (Ra.out) _)) h8 | exact blk_below (blk_alloc (blk_alloc (Ra.out) _) _) h8 | exact blk_below (blk_drew (blk_alloc (blk_alloc (Ra.out) _) _)) h8 | exact blk_below (blk_alloc (blk_alloc (blk_alloc (Ra.out) _) _) _) h8 | exact blk_below (blk_drew (blk_alloc (blk_alloc (blk_alloc (Ra.out) _) _) _)) h8 | exact blk_below (blk_alloc (blk_alloc (blk_alloc (blk_alloc (Ra.out) _) _) _) _) h8 | exact blk_below (blk_drew (blk_alloc (blk_alloc (blk_alloc (blk_alloc (Ra.out) _) _) _) _)) h8 | exact blk_below (blk_new rfl) h8 | exact blk_below (blk_drew (blk_new rfl)) h8 | exact blk_below (blk_alloc (blk_new rfl) _) h8 | exact blk_below (blk_drew (blk_alloc (blk_new rfl) _)) h8 | exact blk_below (blk_alloc (blk_alloc (blk_new rfl) _) _) h8 | exact blk_below (blk_drew (blk_alloc (blk_alloc (blk_new rfl) _) _)) h8 | exact blk_below (blk_alloc (blk_alloc (blk_alloc (blk_new rfl) _) _) _) h8 | exact blk_below (blk_drew (blk_alloc (blk_alloc (blk_alloc (blk_new rfl) _) _) _)) h8 | exact blk_below (blk_alloc (blk_alloc (blk_alloc (blk_alloc (blk_new rfl) _) _) _) _) h8 | exact blk_below (blk_drew (blk_alloc (blk_alloc (blk_alloc (blk_alloc (blk_new rfl) _) _) _) _)) h8 | exact blk_below (blk_new (by simp)) h8 | exact blk_below (blk_drew (blk_new (by simp))) h8 | exact blk_below (blk_alloc (blk_new (by simp)) _) h8 | exact blk_below (blk_drew (blk_alloc (blk_new (by simp)) _)) h8 | exact blk_below (blk_alloc (blk_alloc (blk_new (by simp)) _) _) h8 | exact blk_below (blk_drew (blk_alloc (blk_alloc (blk_new (by simp)) _) _)) h8 | exact blk_below (blk_alloc (blk_alloc (blk_alloc (blk_new (by simp)) _) _) _) h8 | exact blk_below (blk_drew (blk_alloc (blk_alloc (blk_alloc (blk_new (by simp)) _) _) _)) h8 | exact blk_below (blk_alloc (blk_alloc (blk_alloc (blk_alloc (blk_new (by simp)) _) _) _) _) h8 | exact blk_below (blk_drew (blk_alloc (blk_alloc (blk_alloc (blk_alloc (blk_new (by simp)) _) _) _) _)) h8
  have rb : w8.heap[(w.heap.size + 1)]? = some (.cells #[.int .u64 c, .int .u64 d] 24 (0, 0)) := by first | exact blk_below (Rb.out) h8 | exact blk_below (blk_drew (Rb.out)) h8 | exact blk_below (blk_alloc (Rb.out) _) h8 | exact blk_below (blk_drew (blk_alloc (Rb.out) _)) h8 | exact blk_below (blk_alloc (blk_alloc (Rb.out) _) _) h8 | exact blk_below (blk_drew (blk_alloc (blk_alloc (Rb.out) _) _)) h8 | exact blk_below (blk_alloc (blk_alloc (blk_alloc (Rb.out) _) _) _) h8 | exact blk_below (blk_drew (blk_alloc (blk_alloc (blk_alloc (Rb.out) _) _) _)) h8 | exact blk_below (blk_alloc (blk_alloc (blk_alloc (blk_alloc (Rb.out) _) _) _) _) h8 | exact blk_below (blk_drew (blk_alloc (blk_alloc (blk_alloc (blk_alloc (Rb.out) _) _) _) _)) h8 | exact blk_below (blk_new rfl) h8 | exact blk_below (blk_drew (blk_new rfl)) h8 | exact blk_below (blk_alloc (blk_new rfl) _) h8 | exact blk_below (blk_drew (blk_alloc (blk_new rfl) _)) h8 | exact blk_below (blk_alloc (blk_alloc (blk_new rfl) _) _) h8 | exact blk_below (blk_drew (blk_alloc (blk_alloc (blk_new rfl) _) _)) h8 | exact blk_below (blk_alloc (blk_alloc (blk_alloc (blk_new rfl) _) _) _) h8 | exact blk_below (blk_drew (blk_alloc (blk_alloc (blk_alloc (blk_new rfl) _) _) _)) h8 | exact blk_below (blk_alloc (blk_alloc (blk_alloc (blk_alloc (blk_new rfl) _) _) _) _) h8 | exact blk_below (blk_drew (blk_alloc (blk_alloc (blk_alloc (blk_alloc (blk_new rfl) _) _) _) _)) h8 | exact blk_below (blk_new (by simp)) h8 | exact blk_below (blk_drew (blk_new (by simp))) h8 | exact blk_below (blk_alloc (blk_new (by simp)) _) h8 | exact blk_below (blk_drew (blk_alloc (blk_new (by simp)) _)) h8 | exact blk_below (blk_alloc (blk_alloc (blk_new (by simp)) _) _) h8 | exact blk_below (blk_drew (blk_alloc (blk_alloc (blk_new (by simp)) _) _)) h8 | exact blk_below (blk_alloc (blk_alloc (blk_alloc (blk_new (by simp)) _) _) _) h8 | exact blk_below (blk_drew (blk_alloc (blk_alloc (blk_alloc (blk_new (by simp)) _) _) _)) h8 | exact blk_below (blk_alloc (blk_alloc (blk_alloc (blk_alloc (blk_new (by simp)) _) _) _) _) h8 | exact blk_below (blk_drew (blk_alloc (blk_alloc (blk_alloc (blk_alloc (blk_new (by simp)) _) _) _) _)) h8
  clear fac0 faz0 fac1 faz1 fal fbc0 fbz0 fbc1 fbz1 fbl
  clear Ra Rb
  have fac0 : w8.cell? ⟨w.heap.size, 0, none⟩ = some (.int .u64 a) := (cell_of_row _ _ _ _ _ _ ra).trans rfl
  have faz0 := frozen_of_row _ _ 0 _ _ ra
  have fac1 : w8.cell? ⟨w.heap.size, 1, none⟩ = some (.int .u64 b) := (cell_of_row _ _ _ _ _ _ ra).trans rfl
  have faz1 := frozen_of_row _ _ 1 _ _ ra
  have fal := blk_lt ra
  have Ra := Lib.hid ra
  clear ra
  have fbc0 : w8.cell? ⟨(w.heap.size + 1), 0, none⟩ = some (.int .u64 c) := (cell_of_row _ _ _ _ _ _ rb).trans rfl
  have fbz0 := frozen_of_row _ _ 0 _ _ rb
  have fbc1 : w8.cell? ⟨(w.heap.size + 1), 1, none⟩ = some (.int .u64 d) := (cell_of_row _ _ _ _ _ _ rb).trans rfl
  have fbz1 := frozen_of_row _ _ 1 _ _ rb
  have fbl := blk_lt rb
  have Rb := Lib.hid rb
  clear rb
  clear B7
  clear h8
  unfold wv
  go_wp2_with fail
  have hqd : decide (KB ≤ K) = true := by simp; omega
  refine region_quiet (C := C7 w a b c d) (by kernel_rfl) (by kernel_rfl) ⟨⟨fac0, fac1, fbc0, fbc1⟩, fbl, b_drew B8.out⟩ ?_
  repeat
    first
      | (refine q_skip rfl ?_
         simp only [Act.put, List.setIfInBounds_toArray, List.set_cons_zero, List.set_cons_succ])
      | (refine q_step rfl ?_ (fun w' hC => ?_) ?_
         rotate_left
         · have hC' := Lib.hid hC
           obtain ⟨⟨c1, c2, c3, c4⟩, hlt, hbel⟩ := hC
           have hbel' := Lib.hid hbel
           clear hbel
           go_simp
           first
             | done
             | rfl
             | (go_at_call 16; refine (right_any _ a b n HA.out HB.out (by omega) (by omega)).mono ?_; rintro e w2 ⟨rfl, hb⟩; rw [Hz3.out]; refine ⟨?_, c7_below hb hC'.out⟩; rfl)
             | (go_at_call 21; refine (compare_any _ R S a b HR.out HS.out HA.out HB.out).mono ?_; rintro e w2 ⟨rfl, hb⟩; rw [Hz5.out]; refine ⟨?_, c7_below hb hC'.out⟩; rfl)
             | (go_at_call 22; refine (bits_any _ c d HC.out HD.out).mono ?_; rintro e w2 ⟨rfl, hb⟩; rw [HKB.out]; refine ⟨?_, c7_below hb hC'.out⟩; rfl)
         simp only [Act.put, List.setIfInBounds_toArray, List.set_cons_zero, List.set_cons_succ])
  refine wpQuiet_nil ?_
  intro w9 hC9
  have HL2 := Lib.hid hC9.2.2
  clear hC9
  go_wp2_with fail
  refine bodyPost_ret (v := .bool true) (by simp [results, Try.results7, go_sem]) rfl ⟨rfl, HL2.out⟩
set_option maxHeartbeats 4000000 in
set_option maxRecDepth 100000 in
theorem orders_eqz (w : World) (a b c d n : Int) (ha : U a) (hb : U b) (hc : U c) (hd : U d) (hn : 0 ≤ n) (hn' : n < 256) (hs : wval a b = wval c d) (hz : wval a b = 0) : Calls Try.prog 7 #[wv a b, wv c d, .int .u8 n] w (Ret w (.bool true)) := by
  have HA := Lib.hid ha
  have HB := Lib.hid hb
  have HC := Lib.hid hc
  have HD := Lib.hid hd
  have rA := wval_range ha hb
  have rB := wval_range hc hd
  have k1 : cmpI (wval a b) (wval c d) = 0 := by unfold cmpI; rw [if_neg (by omega), if_neg (by omega)]
  have k2 : cmpI (wval c d) (wval a b) = 0 := by unfold cmpI; rw [if_neg (by omega), if_neg (by omega)]
  have e1 : (decide (a = c) && decide (b = d)) = true := by
    have := wval_eq ha hb hc hd
    simp; exact this.1 hs
  have e2 : (decide (a = 0) && decide (b = 0)) = true := by
    have := wval_eq ha hb (show U 0 by unfold U; decide) (show U 0 by unfold U; decide)
    have h0 : wval 0 0 = 0 := rfl
    simp; exact this.1 (by omega)
  have s1 : ∃ P Q : Int, optV (wval a b - wval c d) (wval c d ≤ wval a b) = .tuple #[.agg #[.int .u64 P, .int .u64 Q], .bool true] := by
    unfold optV
    rw [if_pos (by omega)]
    exact ⟨_, _, rfl⟩
  obtain ⟨P, Q, s1⟩ := s1
  obtain ⟨K, hK⟩ : ∃ K : Int, (bitLen (wval a b).toNat : Int) = K := ⟨_, rfl⟩
  obtain ⟨KB, hKB⟩ : ∃ KB : Int, (bitLen (wval c d).toNat : Int) = KB := ⟨_, rfl⟩
  have hK0 : K = 0 := by
    have := bit_zero (n := (wval a b).toNat)
    omega
  have hK1 : K ≤ 128 := by
    have := bitLen_lt (wval a b).toNat 128 (by omega)
    omega
  have hKK : KB ≤ K := by have := bit_mono (show (wval c d).toNat ≤ (wval a b).toNat by omega); omega
  have z1 := right_zero rA.1
  rw [hK] at z1
  have z2 : True := trivial
  have rl := right_low rA.1 n.toNat
  obtain ⟨R, S, z3, z4, hR, hS⟩ := wn_pq rl.1 (by omega)
  obtain ⟨y, z5, z6⟩ := cmp_low (show wval R S ≤ wval a b by omega)
  have HR := Lib.hid hR
  have HS := Lib.hid hS
  have Hk1 := Lib.hid k1
  have Hk2 := Lib.hid k2
  have Hs1 := Lib.hid s1
  have Hz1 := Lib.hid z1
  have Hz2 := Lib.hid z2
  have Hz3 := Lib.hid z3
  have Hz5 := Lib.hid z5
  have HK := Lib.hid hK
  have HKB := Lib.hid hKB
  have ew : IntKind.i64.wrap (K - 1) = K - 1 := by simp [IntKind.wrap, IntKind.signed, IntKind.bits]; omega
  have ew2 : wrap64 (K - 1) = K - 1 := by unfold wrap64; omega
  have ew3 : IntKind.i64.wrap n = n := by simp [IntKind.wrap, IntKind.signed, IntKind.bits]; omega
  have ew4 : wrap64 n = n := by unfold wrap64; omega
  clear ha hb hc hd rA rB k1 k2 s1 z1 z2 z3 z4 z5 hR hS hs hz rl hK hKB
  subst hK0
  have hye : decide (y ≤ 0) = true := by simp; omega
  unfold wv
  go_enter Try.func7, Try.ntmps7
  go_wp2_with fail
  refine (first_any _).mono ?_
  rintro e w1 ⟨rfl, h1⟩
  have B1 := Lib.hid (b_then (by first | exact (Below.refl w.heap.size w) | exact b_drew (Below.refl w.heap.size w) | exact (b_alloc (Below.refl w.heap.size w) _) | exact b_drew (b_alloc (Below.refl w.heap.size w) _) | exact (b_alloc (b_alloc (Below.refl w.heap.size w) _) _) | exact b_drew (b_alloc (b_alloc (Below.refl w.heap.size w) _) _) | exact (b_alloc (b_alloc (b_alloc (Below.refl w.heap.size w) _) _) _) | exact b_drew (b_alloc (b_alloc (b_alloc (Below.refl w.heap.size w) _) _) _) | exact (b_alloc (b_alloc (b_alloc (b_alloc (Below.refl w.heap.size w) _) _) _) _) | exact b_drew (b_alloc (b_alloc (b_alloc (b_alloc (Below.refl w.heap.size w) _) _) _) _) | exact (b_alloc (b_alloc (b_alloc (b_alloc (b_alloc (Below.refl w.heap.size w) _) _) _) _) _) | exact b_drew (b_alloc (b_alloc (b_alloc (b_alloc (b_alloc (Below.refl w.heap.size w) _) _) _) _) _)) h1)
  have ra : w1.heap[w.heap.size]? = some (.cells #[.int .u64 a, .int .u64 b] 24 (0, 0)) := by first | exact blk_below (blk_new rfl) h1 | exact blk_below (blk_drew (blk_new rfl)) h1 | exact blk_below (blk_alloc (blk_new rfl) _) h1 | exact blk_below (blk_drew (blk_alloc (blk_new rfl) _)) h1 | exact blk_below (blk_alloc (blk_alloc (blk_new rfl) _) _) h1 | exact blk_below (blk_drew (blk_alloc (blk_alloc (blk_new rfl) _) _)) h1 | exact blk_below (blk_alloc (blk_alloc (blk_alloc (blk_new rfl) _) _) _) h1 | exact blk_below (blk_drew (blk_alloc (blk_alloc (blk_alloc (blk_new rfl) _) _) _)) h1 | exact blk_below (blk_alloc (blk_alloc (blk_alloc (blk_alloc (blk_new rfl) _) _) _) _) h1 | exact blk_below (blk_drew (blk_alloc (blk_alloc (blk_alloc (blk_alloc (blk_new rfl) _) _) _) _)) h1 | exact blk_below (blk_new (by simp)) h1 | exact blk_below (blk_drew (blk_new (by simp))) h1 | exact blk_below (blk_alloc (blk_new (by simp)) _) h1 | exact blk_below (blk_drew (blk_alloc (blk_new (by simp)) _)) h1 | exact blk_below (blk_alloc (blk_alloc (blk_new (by simp)) _) _) h1 | exact blk_below (blk_drew (blk_alloc (blk_alloc (blk_new (by simp)) _) _)) h1 | exact blk_below (blk_alloc (blk_alloc (blk_alloc (blk_new (by simp)) _) _) _) h1 | exact blk_below (blk_drew (blk_alloc (blk_alloc (blk_alloc (blk_new (by simp)) _) _) _)) h1 | exact blk_below (blk_alloc (blk_alloc (blk_alloc (blk_alloc (blk_new (by simp)) _) _) _) _) h1 | exact blk_below (blk_drew (blk_alloc (blk_alloc (blk_alloc (blk_alloc (blk_new (by simp)) _) _) _) _)) h1
  have rb : w1.heap[(w.heap.size + 1)]? = some (.cells #[.int .u64 c, .int .u64 d] 24 (0, 0)) := by first | exact blk_below (blk_new rfl) h1 | exact blk_below (blk_drew (blk_new rfl)) h1 | exact blk_below (blk_alloc (blk_new rfl) _) h1 | exact blk_below (blk_drew (blk_alloc (blk_new rfl) _)) h1 | exact blk_below (blk_alloc (blk_alloc (blk_new rfl) _) _) h1 | exact blk_below (blk_drew (blk_alloc (blk_alloc (blk_new rfl) _) _)) h1 | exact blk_below (blk_alloc (blk_alloc (blk_alloc (blk_new rfl) _) _) _) h1 | exact blk_below (blk_drew (blk_alloc (blk_alloc (blk_alloc (blk_new rfl) _) _) _)) h1 | exact blk_below (blk_alloc (blk_alloc (blk_alloc (blk_alloc (blk_new rfl) _) _) _) _) h1 | exact blk_below (blk_drew (blk_alloc (blk_alloc (blk_alloc (blk_alloc (blk_new rfl) _) _) _) _)) h1 | exact blk_below (blk_new (by simp)) h1 | exact blk_below (blk_drew (blk_new (by simp))) h1 | exact blk_below (blk_alloc (blk_new (by simp)) _) h1 | exact blk_below (blk_drew (blk_alloc (blk_new (by simp)) _)) h1 | exact blk_below (blk_alloc (blk_alloc (blk_new (by simp)) _) _) h1 | exact blk_below (blk_drew (blk_alloc (blk_alloc (blk_new (by simp)) _) _)) h1 | exact blk_below (blk_alloc (blk_alloc (blk_alloc (blk_new (by simp)) _) _) _) h1 | exact blk_below (blk_drew (blk_alloc (blk_alloc (blk_alloc (blk_new (by simp)) _) _) _)) h1 | exact blk_below (blk_alloc (blk_alloc (blk_alloc (blk_alloc (blk_new (by simp)) _) _) _) _) h1 | exact blk_below (blk_drew (blk_alloc (blk_alloc (blk_alloc (blk_alloc (blk_new (by simp)) _) _) _) _)) h1
  have fac0 : w1.cell? ⟨w.heap.size, 0, none⟩ = some (.int .u64 a) := (cell_of_row _ _ _ _ _ _ ra).trans rfl
  have faz0 := frozen_of_row _ _ 0 _ _ ra
  have fac1 : w1.cell? ⟨w.heap.size, 1, none⟩ = some (.int .u64 b) := (cell_of_row _ _ _ _ _ _ ra).trans rfl
  have faz1 := frozen_of_row _ _ 1 _ _ ra
  have fal := blk_lt ra
  have Ra := Lib.hid ra
  clear ra
  have fbc0 : w1.cell? ⟨(w.heap.size + 1), 0, none⟩ = some (.int .u64 c) := (cell_of_row _ _ _ _ _ _ rb).trans rfl
  have fbz0 := frozen_of_row _ _ 0 _ _ rb
  have fbc1 : w1.cell? ⟨(w.heap.size + 1), 1, none⟩ = some (.int .u64 d) := (cell_of_row _ _ _ _ _ _ rb).trans rfl
  have fbz1 := frozen_of_row _ _ 1 _ _ rb
  have fbl := blk_lt rb
  have Rb := Lib.hid rb
  clear rb
  clear h1
  go_wp2_with fail
  refine (compare_any _ a b c d HA.out HB.out HC.out HD.out).mono ?_
  rintro e w2 ⟨rfl, h2⟩
  rw [Hk1.out]
  have B2 := Lib.hid (b_then (by first | exact (B1.out) | exact b_drew (B1.out) | exact (b_alloc (B1.out) _) | exact b_drew (b_alloc (B1.out) _) | exact (b_alloc (b_alloc (B1.out) _) _) | exact b_drew (b_alloc (b_alloc (B1.out) _) _) | exact (b_alloc (b_alloc (b_alloc (B1.out) _) _) _) | exact b_drew (b_alloc (b_alloc (b_alloc (B1.out) _) _) _) | exact (b_alloc (b_alloc (b_alloc (b_alloc (B1.out) _) _) _) _) | exact b_drew (b_alloc (b_alloc (b_alloc (b_alloc (B1.out) _) _) _) _) | exact (b_alloc (b_alloc (b_alloc (b_alloc (b_alloc (B1.out) _) _) _) _) _) | exact b_drew (b_alloc (b_alloc (b_alloc (b_alloc (b_alloc (B1.out) _) _) _) _) _)) h2)
  have ra : w2.heap[w.heap.size]? = some (.cells #[.int .u64 a, .int .u64 b] 24 (0, 0)) := by first | exact blk_below (Ra.out) h2 | exact blk_below (blk_drew (Ra.out)) h2 | exact blk_below (blk_alloc (Ra.out) _) h2 | exact blk_below (blk_drew (blk_alloc (Ra.out) _)) h2 | exact blk_below (blk_alloc (blk_alloc (Ra.out) _) _) h2 | exact blk_below (blk_drew (blk_alloc (blk_alloc (Ra.out) _) _)) h2 | exact blk_below (blk_alloc (blk_alloc (blk_alloc (Ra.out) _) _) _) h2 | exact blk_below (blk_drew (blk_alloc (blk_alloc (blk_alloc (Ra.out) _) _) _)) h2 | exact blk_below (blk_alloc (blk_alloc (blk_alloc (blk_alloc (Ra.out) _) _) _) _) h2 | exact blk_below (blk_drew (blk_alloc (blk_alloc (blk_alloc (blk_alloc (Ra.out) _) _) _) _)) h2 | exact blk_below (blk_new rfl) h2 | exact blk_below (blk_drew (blk_new rfl)) h2 | exact blk_below (blk_alloc (blk_new rfl) _) h2 | exact blk_below (blk_drew (blk_alloc (blk_new rfl) _)) h2 | exact blk_below (blk_alloc (blk_alloc (blk_new rfl) _) _) h2 | exact blk_below (blk_drew (blk_alloc (blk_alloc (blk_new rfl) _) _)) h2 | exact blk_below (blk_alloc (blk_alloc (blk_alloc (blk_new rfl) _) _) _) h2 | exact blk_below (blk_drew (blk_alloc (blk_alloc (blk_alloc (blk_new rfl) _) _) _)) h2 | exact blk_below (blk_alloc (blk_alloc (blk_alloc (blk_alloc (blk_new rfl) _) _) _) _) h2 | exact blk_below (blk_drew (blk_alloc (blk_alloc (blk_alloc (blk_alloc (blk_new rfl) _) _) _) _)) h2 | exact blk_below (blk_new (by simp)) h2 | exact blk_below (blk_drew (blk_new (by simp))) h2 | exact blk_below (blk_alloc (blk_new (by simp)) _) h2 | exact blk_below (blk_drew (blk_alloc (blk_new (by simp)) _)) h2 | exact blk_below (blk_alloc (blk_alloc (blk_new (by simp)) _) _) h2 | exact blk_below (blk_drew (blk_alloc (blk_alloc (blk_new (by simp)) _) _)) h2 | exact blk_below (blk_alloc (blk_alloc (blk_alloc (blk_new (by simp)) _) _) _) h2 | exact blk_below (blk_drew (blk_alloc (blk_alloc (blk_alloc (blk_new (by simp)) _) _) _)) h2 | exact blk_below (blk_alloc (blk_alloc (blk_alloc (blk_alloc (blk_new (by simp)) _) _) _) _) h2 | exact blk_below (blk_drew (blk_alloc (blk_alloc (blk_alloc (blk_alloc (blk_new (by simp)) _) _) _) _)) h2
  have rb : w2.heap[(w.heap.size + 1)]? = some (.cells #[.int .u64 c, .int .u64 d] 24 (0, 0)) := by first | exact blk_below (Rb.out) h2 | exact blk_below (blk_drew (Rb.out)) h2 | exact blk_below (blk_alloc (Rb.out) _) h2 | exact blk_below (blk_drew (blk_alloc (Rb.out) _)) h2 | exact blk_below (blk_alloc (blk_alloc (Rb.out) _) _) h2 | exact blk_below (blk_drew (blk_alloc (blk_alloc (Rb.out) _) _)) h2 | exact blk_below (blk_alloc (blk_alloc (blk_alloc (Rb.out) _) _) _) h2 | exact blk_below (blk_drew (blk_alloc (blk_alloc (blk_alloc (Rb.out) _) _) _)) h2 | exact blk_below (blk_alloc (blk_alloc (blk_alloc (blk_alloc (Rb.out) _) _) _) _) h2 | exact blk_below (blk_drew (blk_alloc (blk_alloc (blk_alloc (blk_alloc (Rb.out) _) _) _) _)) h2 | exact blk_below (blk_new rfl) h2 | exact blk_below (blk_drew (blk_new rfl)) h2 | exact blk_below (blk_alloc (blk_new rfl) _) h2 | exact blk_below (blk_drew (blk_alloc (blk_new rfl) _)) h2 | exact blk_below (blk_alloc (blk_alloc (blk_new rfl) _) _) h2 | exact blk_below (blk_drew (blk_alloc (blk_alloc (blk_new rfl) _) _)) h2 | exact blk_below (blk_alloc (blk_alloc (blk_alloc (blk_new rfl) _) _) _) h2 | exact blk_below (blk_drew (blk_alloc (blk_alloc (blk_alloc (blk_new rfl) _) _) _)) h2 | exact blk_below (blk_alloc (blk_alloc (blk_alloc (blk_alloc (blk_new rfl) _) _) _) _) h2 | exact blk_below (blk_drew (blk_alloc (blk_alloc (blk_alloc (blk_alloc (blk_new rfl) _) _) _) _)) h2 | exact blk_below (blk_new (by simp)) h2 | exact blk_below (blk_drew (blk_new (by simp))) h2 | exact blk_below (blk_alloc (blk_new (by simp)) _) h2 | exact blk_below (blk_drew (blk_alloc (blk_new (by simp)) _)) h2 | exact blk_below (blk_alloc (blk_alloc (blk_new (by simp)) _) _) h2 | exact blk_below (blk_drew (blk_alloc (blk_alloc (blk_new (by simp)) _) _)) h2 | exact blk_below (blk_alloc (blk_alloc (blk_alloc (blk_new (by simp)) _) _) _) h2 | exact blk_below (blk_drew (blk_alloc (blk_alloc (blk_alloc (blk_new (by simp)) _) _) _)) h2 | exact blk_below (blk_alloc (blk_alloc (blk_alloc (blk_alloc (blk_new (by simp)) _) _) _) _) h2 | exact blk_below (blk_drew (blk_alloc (blk_alloc (blk_alloc (blk_alloc (blk_new (by simp)) _) _) _) _)) h2
  clear fac0 faz0 fac1 faz1 fal fbc0 fbz0 fbc1 fbz1 fbl
  clear Ra Rb
  have fac0 : w2.cell? ⟨w.heap.size, 0, none⟩ = some (.int .u64 a) := (cell_of_row _ _ _ _ _ _ ra).trans rfl
  have faz0 := frozen_of_row _ _ 0 _ _ ra
  have fac1 : w2.cell? ⟨w.heap.size, 1, none⟩ = some (.int .u64 b) := (cell_of_row _ _ _ _ _ _ ra).trans rfl
  have faz1 := frozen_of_row _ _ 1 _ _ ra
  have fal := blk_lt ra
  have Ra := Lib.hid ra
  clear ra
  have fbc0 : w2.cell? ⟨(w.heap.size + 1), 0, none⟩ = some (.int .u64 c) := (cell_of_row _ _ _ _ _ _ rb).trans rfl
  have fbz0 := frozen_of_row _ _ 0 _ _ rb
  have fbc1 : w2.cell? ⟨(w.heap.size + 1), 1, none⟩ = some (.int .u64 d) := (cell_of_row _ _ _ _ _ _ rb).trans rfl
  have fbz1 := frozen_of_row _ _ 1 _ _ rb
  have fbl := blk_lt rb
  have Rb := Lib.hid rb
  clear rb
  clear B1
  clear h2
  go_wp2_with fail
  refine (sub_any _ a b c d HA.out HB.out HC.out HD.out).mono ?_
  rintro e w3 ⟨rfl, h3⟩
  rw [Hs1.out]
  have B3 := Lib.hid (b_then (by first | exact (B2.out) | exact b_drew (B2.out) | exact (b_alloc (B2.out) _) | exact b_drew (b_alloc (B2.out) _) | exact (b_alloc (b_alloc (B2.out) _) _) | exact b_drew (b_alloc (b_alloc (B2.out) _) _) | exact (b_alloc (b_alloc (b_alloc (B2.out) _) _) _) | exact b_drew (b_alloc (b_alloc (b_alloc (B2.out) _) _) _) | exact (b_alloc (b_alloc (b_alloc (b_alloc (B2.out) _) _) _) _) | exact b_drew (b_alloc (b_alloc (b_alloc (b_alloc (B2.out) _) _) _) _) | exact (b_alloc (b_alloc (b_alloc (b_alloc (b_alloc (B2.out) _) _) _) _) _) | exact b_drew (b_alloc (b_alloc (b_alloc (b_alloc (b_alloc (B2.out) _) _) _) _) _)) h3)
  have ra : w3.heap[w.heap.size]? = some (.cells #[.int .u64 a, .int .u64 b] 24 (0, 0)) := by first | exact blk_below (Ra.out) h3 | exact blk_below (blk_drew (Ra.out)) h3 | exact blk_below (blk_alloc (Ra.out) _) h3 | exact blk_below (blk_drew (blk_alloc (Ra.out) _)) h3 | exact blk_below (blk_alloc (blk_alloc (Ra.out) _) _) h3 | exact blk_below (blk_drew (blk_alloc (blk_alloc (Ra.out) _) _)) h3 | exact blk_below (blk_alloc (blk_alloc (blk_alloc (Ra.out) _) _) _) h3 | exact blk_below (blk_drew (blk_alloc (blk_alloc (blk_alloc (Ra.out) _) _) _)) h3 | exact blk_below (blk_alloc (blk_alloc (blk_alloc (blk_alloc (Ra.out) _) _) _) _) h3 | exact blk_below (blk_drew (blk_alloc (blk_alloc (blk_alloc (blk_alloc (Ra.out) _) _) _) _)) h3 | exact blk_below (blk_new rfl) h3 | exact blk_below (blk_drew (blk_new rfl)) h3 | exact blk_below (blk_alloc (blk_new rfl) _) h3 | exact blk_below (blk_drew (blk_alloc (blk_new rfl) _)) h3 | exact blk_below (blk_alloc (blk_alloc (blk_new rfl) _) _) h3 | exact blk_below (blk_drew (blk_alloc (blk_alloc (blk_new rfl) _) _)) h3 | exact blk_below (blk_alloc (blk_alloc (blk_alloc (blk_new rfl) _) _) _) h3 | exact blk_below (blk_drew (blk_alloc (blk_alloc (blk_alloc (blk_new rfl) _) _) _)) h3 | exact blk_below (blk_alloc (blk_alloc (blk_alloc (blk_alloc (blk_new rfl) _) _) _) _) h3 | exact blk_below (blk_drew (blk_alloc (blk_alloc (blk_alloc (blk_alloc (blk_new rfl) _) _) _) _)) h3 | exact blk_below (blk_new (by simp)) h3 | exact blk_below (blk_drew (blk_new (by simp))) h3 | exact blk_below (blk_alloc (blk_new (by simp)) _) h3 | exact blk_below (blk_drew (blk_alloc (blk_new (by simp)) _)) h3 | exact blk_below (blk_alloc (blk_alloc (blk_new (by simp)) _) _) h3 | exact blk_below (blk_drew (blk_alloc (blk_alloc (blk_new (by simp)) _) _)) h3 | exact blk_below (blk_alloc (blk_alloc (blk_alloc (blk_new (by simp)) _) _) _) h3 | exact blk_below (blk_drew (blk_alloc (blk_alloc (blk_alloc (blk_new (by simp)) _) _) _)) h3 | exact blk_below (blk_alloc (blk_alloc (blk_alloc (blk_alloc (blk_new (by simp)) _) _) _) _) h3 | exact blk_below (blk_drew (blk_alloc (blk_alloc (blk_alloc (blk_alloc (blk_new (by simp)) _) _) _) _)) h3
  have rb : w3.heap[(w.heap.size + 1)]? = some (.cells #[.int .u64 c, .int .u64 d] 24 (0, 0)) := by first | exact blk_below (Rb.out) h3 | exact blk_below (blk_drew (Rb.out)) h3 | exact blk_below (blk_alloc (Rb.out) _) h3 | exact blk_below (blk_drew (blk_alloc (Rb.out) _)) h3 | exact blk_below (blk_alloc (blk_alloc (Rb.out) _) _) h3 | exact blk_below (blk_drew (blk_alloc (blk_alloc (Rb.out) _) _)) h3 | exact blk_below (blk_alloc (blk_alloc (blk_alloc (Rb.out) _) _) _) h3 | exact blk_below (blk_drew (blk_alloc (blk_alloc (blk_alloc (Rb.out) _) _) _)) h3 | exact blk_below (blk_alloc (blk_alloc (blk_alloc (blk_alloc (Rb.out) _) _) _) _) h3 | exact blk_below (blk_drew (blk_alloc (blk_alloc (blk_alloc (blk_alloc (Rb.out) _) _) _) _)) h3 | exact blk_below (blk_new rfl) h3 | exact blk_below (blk_drew (blk_new rfl)) h3 | exact blk_below (blk_alloc (blk_new rfl) _) h3 | exact blk_below (blk_drew (blk_alloc (blk_new rfl) _)) h3 | exact blk_below (blk_alloc (blk_alloc (blk_new rfl) _) _) h3 | exact blk_below (blk_drew (blk_alloc (blk_alloc (blk_new rfl) _) _)) h3 | exact blk_below (blk_alloc (blk_alloc (blk_alloc (blk_new rfl) _) _) _) h3 | exact blk_below (blk_drew (blk_alloc (blk_alloc (blk_alloc (blk_new rfl) _) _) _)) h3 | exact blk_below (blk_alloc (blk_alloc (blk_alloc (blk_alloc (blk_new rfl) _) _) _) _) h3 | exact blk_below (blk_drew (blk_alloc (blk_alloc (blk_alloc (blk_alloc (blk_new rfl) _) _) _) _)) h3 | exact blk_below (blk_new (by simp)) h3 | exact blk_below (blk_drew (blk_new (by simp))) h3 | exact blk_below (blk_alloc (blk_new (by simp)) _) h3 | exact blk_below (blk_drew (blk_alloc (blk_new (by simp)) _)) h3 | exact blk_below (blk_alloc (blk_alloc (blk_new (by simp)) _) _) h3 | exact blk_below (blk_drew (blk_alloc (blk_alloc (blk_new (by simp)) _) _)) h3 | exact blk_below (blk_alloc (blk_alloc (blk_alloc (blk_new (by simp)) _) _) _) h3 | exact blk_below (blk_drew (blk_alloc (blk_alloc (blk_alloc (blk_new (by simp)) _) _) _)) h3 | exact blk_below (blk_alloc (blk_alloc (blk_alloc (blk_alloc (blk_new (by simp)) _) _) _) _) h3 | exact blk_below (blk_drew (blk_alloc (blk_alloc (blk_alloc (blk_alloc (blk_new (by simp)) _) _) _) _)) h3
  clear fac0 faz0 fac1 faz1 fal fbc0 fbz0 fbc1 fbz1 fbl
  clear Ra Rb
  have fac0 : w3.cell? ⟨w.heap.size, 0, none⟩ = some (.int .u64 a) := (cell_of_row _ _ _ _ _ _ ra).trans rfl
  have faz0 := frozen_of_row _ _ 0 _ _ ra
  have fac1 : w3.cell? ⟨w.heap.size, 1, none⟩ = some (.int .u64 b) := (cell_of_row _ _ _ _ _ _ ra).trans rfl
  have faz1 := frozen_of_row _ _ 1 _ _ ra
  have fal := blk_lt ra
  have Ra := Lib.hid ra
  clear ra
  have fbc0 : w3.cell? ⟨(w.heap.size + 1), 0, none⟩ = some (.int .u64 c) := (cell_of_row _ _ _ _ _ _ rb).trans rfl
  have fbz0 := frozen_of_row _ _ 0 _ _ rb
  have fbc1 : w3.cell? ⟨(w.heap.size + 1), 1, none⟩ = some (.int .u64 d) := (cell_of_row _ _ _ _ _ _ rb).trans rfl
  have fbz1 := frozen_of_row _ _ 1 _ _ rb
  have fbl := blk_lt rb
  have Rb := Lib.hid rb
  clear rb
  clear B2
  clear h3
  go_wp2_with fail
  refine (bits_any _ a b HA.out HB.out).mono ?_
  rintro e w4 ⟨rfl, h4⟩
  rw [HK.out]
  have B4 := Lib.hid (b_then (by first | exact (B3.out) | exact b_drew (B3.out) | exact (b_alloc (B3.out) _) | exact b_drew (b_alloc (B3.out) _) | exact (b_alloc (b_alloc (B3.out) _) _) | exact b_drew (b_alloc (b_alloc (B3.out) _) _) | exact (b_alloc (b_alloc (b_alloc (B3.out) _) _) _) | exact b_drew (b_alloc (b_alloc (b_alloc (B3.out) _) _) _) | exact (b_alloc (b_alloc (b_alloc (b_alloc (B3.out) _) _) _) _) | exact b_drew (b_alloc (b_alloc (b_alloc (b_alloc (B3.out) _) _) _) _) | exact (b_alloc (b_alloc (b_alloc (b_alloc (b_alloc (B3.out) _) _) _) _) _) | exact b_drew (b_alloc (b_alloc (b_alloc (b_alloc (b_alloc (B3.out) _) _) _) _) _)) h4)
  have ra : w4.heap[w.heap.size]? = some (.cells #[.int .u64 a, .int .u64 b] 24 (0, 0)) := by first | exact blk_below (Ra.out) h4 | exact blk_below (blk_drew (Ra.out)) h4 | exact blk_below (blk_alloc (Ra.out) _) h4 | exact blk_below (blk_drew (blk_alloc (Ra.out) _)) h4 | exact blk_below (blk_alloc (blk_alloc (Ra.out) _) _) h4 | exact blk_below (blk_drew (blk_alloc (blk_alloc (Ra.out) _) _)) h4 | exact blk_below (blk_alloc (blk_alloc (blk_alloc (Ra.out) _) _) _) h4 | exact blk_below (blk_drew (blk_alloc (blk_alloc (blk_alloc (Ra.out) _) _) _)) h4 | exact blk_below (blk_alloc (blk_alloc (blk_alloc (blk_alloc (Ra.out) _) _) _) _) h4 | exact blk_below (blk_drew (blk_alloc (blk_alloc (blk_alloc (blk_alloc (Ra.out) _) _) _) _)) h4 | exact blk_below (blk_new rfl) h4 | exact blk_below (blk_drew (blk_new rfl)) h4 | exact blk_below (blk_alloc (blk_new rfl) _) h4 | exact blk_below (blk_drew (blk_alloc (blk_new rfl) _)) h4 | exact blk_below (blk_alloc (blk_alloc (blk_new rfl) _) _) h4 | exact blk_below (blk_drew (blk_alloc (blk_alloc (blk_new rfl) _) _)) h4 | exact blk_below (blk_alloc (blk_alloc (blk_alloc (blk_new rfl) _) _) _) h4 | exact blk_below (blk_drew (blk_alloc (blk_alloc (blk_alloc (blk_new rfl) _) _) _)) h4 | exact blk_below (blk_alloc (blk_alloc (blk_alloc (blk_alloc (blk_new rfl) _) _) _) _) h4 | exact blk_below (blk_drew (blk_alloc (blk_alloc (blk_alloc (blk_alloc (blk_new rfl) _) _) _) _)) h4 | exact blk_below (blk_new (by simp)) h4 | exact blk_below (blk_drew (blk_new (by simp))) h4 | exact blk_below (blk_alloc (blk_new (by simp)) _) h4 | exact blk_below (blk_drew (blk_alloc (blk_new (by simp)) _)) h4 | exact blk_below (blk_alloc (blk_alloc (blk_new (by simp)) _) _) h4 | exact blk_below (blk_drew (blk_alloc (blk_alloc (blk_new (by simp)) _) _)) h4 | exact blk_below (blk_alloc (blk_alloc (blk_alloc (blk_new (by simp)) _) _) _) h4 | exact blk_below (blk_drew (blk_alloc (blk_alloc (blk_alloc (blk_new (by simp)) _) _) _)) h4 | exact blk_below (blk_alloc (blk_alloc (blk_alloc (blk_alloc (blk_new (by simp)) _) _) _) _) h4 | exact blk_below (blk_drew (blk_alloc (blk_alloc (blk_alloc (blk_alloc (blk_new (by simp)) _) _) _) _)) h4
  have rb : w4.heap[(w.heap.size + 1)]? = some (.cells #[.int .u64 c, .int .u64 d] 24 (0, 0)) := by first | exact blk_below (Rb.out) h4 | exact blk_below (blk_drew (Rb.out)) h4 | exact blk_below (blk_alloc (Rb.out) _) h4 | exact blk_below (blk_drew (blk_alloc (Rb.out) _)) h4 | exact blk_below (blk_alloc (blk_alloc (Rb.out) _) _) h4 | exact blk_below (blk_drew (blk_alloc (blk_alloc (Rb.out) _) _)) h4 | exact blk_below (blk_alloc (blk_alloc (blk_alloc (Rb.out) _) _) _) h4 | exact blk_below (blk_drew (blk_alloc (blk_alloc (blk_alloc (Rb.out) _) _) _)) h4 | exact blk_below (blk_alloc (blk_alloc (blk_alloc (blk_alloc (Rb.out) _) _) _) _) h4 | exact blk_below (blk_drew (blk_alloc (blk_alloc (blk_alloc (blk_alloc (Rb.out) _) _) _) _)) h4 | exact blk_below (blk_new rfl) h4 | exact blk_below (blk_drew (blk_new rfl)) h4 | exact blk_below (blk_alloc (blk_new rfl) _) h4 | exact blk_below (blk_drew (blk_alloc (blk_new rfl) _)) h4 | exact blk_below (blk_alloc (blk_alloc (blk_new rfl) _) _) h4 | exact blk_below (blk_drew (blk_alloc (blk_alloc (blk_new rfl) _) _)) h4 | exact blk_below (blk_alloc (blk_alloc (blk_alloc (blk_new rfl) _) _) _) h4 | exact blk_below (blk_drew (blk_alloc (blk_alloc (blk_alloc (blk_new rfl) _) _) _)) h4 | exact blk_below (blk_alloc (blk_alloc (blk_alloc (blk_alloc (blk_new rfl) _) _) _) _) h4 | exact blk_below (blk_drew (blk_alloc (blk_alloc (blk_alloc (blk_alloc (blk_new rfl) _) _) _) _)) h4 | exact blk_below (blk_new (by simp)) h4 | exact blk_below (blk_drew (blk_new (by simp))) h4 | exact blk_below (blk_alloc (blk_new (by simp)) _) h4 | exact blk_below (blk_drew (blk_alloc (blk_new (by simp)) _)) h4 | exact blk_below (blk_alloc (blk_alloc (blk_new (by simp)) _) _) h4 | exact blk_below (blk_drew (blk_alloc (blk_alloc (blk_new (by simp)) _) _)) h4 | exact blk_below (blk_alloc (blk_alloc (blk_alloc (blk_new (by simp)) _) _) _) h4 | exact blk_below (blk_drew (blk_alloc (blk_alloc (blk_alloc (blk_new (by simp)) _) _) _)) h4 | exact blk_below (blk_alloc (blk_alloc (blk_alloc (blk_alloc (blk_new (by simp)) _) _) _) _) h4 | exact blk_below (blk_drew (blk_alloc (blk_alloc (blk_alloc (blk_alloc (blk_new (by simp)) _) _) _) _)) h4
  clear fac0 faz0 fac1 faz1 fal fbc0 fbz0 fbc1 fbz1 fbl
  clear Ra Rb
  have fac0 : w4.cell? ⟨w.heap.size, 0, none⟩ = some (.int .u64 a) := (cell_of_row _ _ _ _ _ _ ra).trans rfl
  have faz0 := frozen_of_row _ _ 0 _ _ ra
  have fac1 : w4.cell? ⟨w.heap.size, 1, none⟩ = some (.int .u64 b) := (cell_of_row _ _ _ _ _ _ ra).trans rfl
  have faz1 := frozen_of_row _ _ 1 _ _ ra
  have fal := blk_lt ra
  have Ra := Lib.hid ra
  clear ra
  have fbc0 : w4.cell? ⟨(w.heap.size + 1), 0, none⟩ = some (.int .u64 c) := (cell_of_row _ _ _ _ _ _ rb).trans rfl
  have fbz0 := frozen_of_row _ _ 0 _ _ rb
  have fbc1 : w4.cell? ⟨(w.heap.size + 1), 1, none⟩ = some (.int .u64 d) := (cell_of_row _ _ _ _ _ _ rb).trans rfl
  have fbz1 := frozen_of_row _ _ 1 _ _ rb
  have fbl := blk_lt rb
  have Rb := Lib.hid rb
  clear rb
  clear B3
  clear h4
  go_wp2_with fail
  refine (compare_any _ c d a b HC.out HD.out HA.out HB.out).mono ?_
  rintro e w5 ⟨rfl, h5⟩
  rw [Hk2.out]
  have B5 := Lib.hid (b_then (by first | exact (B4.out) | exact b_drew (B4.out) | exact (b_alloc (B4.out) _) | exact b_drew (b_alloc (B4.out) _) | exact (b_alloc (b_alloc (B4.out) _) _) | exact b_drew (b_alloc (b_alloc (B4.out) _) _) | exact (b_alloc (b_alloc (b_alloc (B4.out) _) _) _) | exact b_drew (b_alloc (b_alloc (b_alloc (B4.out) _) _) _) | exact (b_alloc (b_alloc (b_alloc (b_alloc (B4.out) _) _) _) _) | exact b_drew (b_alloc (b_alloc (b_alloc (b_alloc (B4.out) _) _) _) _) | exact (b_alloc (b_alloc (b_alloc (b_alloc (b_alloc (B4.out) _) _) _) _) _) | exact b_drew (b_alloc (b_alloc (b_alloc (b_alloc (b_alloc (B4.out) _) _) _) _) _)) h5)
  have ra : w5.heap[w.heap.size]? = some (.cells #[.int .u64 a, .int .u64 b] 24 (0, 0)) := by first | exact blk_below (Ra.out) h5 | exact blk_below (blk_drew (Ra.out)) h5 | exact blk_below (blk_alloc (Ra.out) _) h5 | exact blk_below (blk_drew (blk_alloc (Ra.out) _)) h5 | exact blk_below (blk_alloc (blk_alloc (Ra.out) _) _) h5 | exact blk_below (blk_drew (blk_alloc (blk_alloc (Ra.out) _) _)) h5 | exact blk_below (blk_alloc (blk_alloc (blk_alloc (Ra.out) _) _) _) h5 | exact blk_below (blk_drew (blk_alloc (blk_alloc (blk_alloc (Ra.out) _) _) _)) h5 | exact blk_below (blk_alloc (blk_alloc (blk_alloc (blk_alloc (Ra.out) _) _) _) _) h5 | exact blk_below (blk_drew (blk_alloc (blk_alloc (blk_alloc (blk_alloc (Ra.out) _) _) _) _)) h5 | exact blk_below (blk_new rfl) h5 | exact blk_below (blk_drew (blk_new rfl)) h5 | exact blk_below (blk_alloc (blk_new rfl) _) h5 | exact blk_below (blk_drew (blk_alloc (blk_new rfl) _)) h5 | exact blk_below (blk_alloc (blk_alloc (blk_new rfl) _) _) h5 | exact blk_below (blk_drew (blk_alloc (blk_alloc (blk_new rfl) _) _)) h5 | exact blk_below (blk_alloc (blk_alloc (blk_alloc (blk_new rfl) _) _) _) h5 | exact blk_below (blk_drew (blk_alloc (blk_alloc (blk_alloc (blk_new rfl) _) _) _)) h5 | exact blk_below (blk_alloc (blk_alloc (blk_alloc (blk_alloc (blk_new rfl) _) _) _) _) h5 | exact blk_below (blk_drew (blk_alloc (blk_alloc (blk_alloc (blk_alloc (blk_new rfl) _) _) _) _)) h5 | exact blk_below (blk_new (by simp)) h5 | exact blk_below (blk_drew (blk_new (by simp))) h5 | exact blk_below (blk_alloc (blk_new (by simp)) _) h5 | exact blk_below (blk_drew (blk_alloc (blk_new (by simp)) _)) h5 | exact blk_below (blk_alloc (blk_alloc (blk_new (by simp)) _) _) h5 | exact blk_below (blk_drew (blk_alloc (blk_alloc (blk_new (by simp)) _) _)) h5 | exact blk_below (blk_alloc (blk_alloc (blk_alloc (blk_new (by simp)) _) _) _) h5 | exact blk_below (blk_drew (blk_alloc (blk_alloc (blk_alloc (blk_new (by simp)) _) _) _)) h5 | exact blk_below (blk_alloc (blk_alloc (blk_alloc (blk_alloc (blk_new (by simp)) _) _) _) _) h5 | exact blk_below (blk_drew (blk_alloc (blk_alloc (blk_alloc (blk_alloc (blk_new (by simp)) _) _) _) _)) h5
  have rb : w5.heap[(w.heap.size + 1)]? = some (.cells #[.int .u64 c, .int .u64 d] 24 (0, 0)) := by first | exact blk_below (Rb.out) h5 | exact blk_below (blk_drew (Rb.out)) h5 | exact blk_below (blk_alloc (Rb.out) _) h5 | exact blk_below (blk_drew (blk_alloc (Rb.out) _)) h5 | exact blk_below (blk_alloc (blk_alloc (Rb.out) _) _) h5 | exact blk_below (blk_drew (blk_alloc (blk_alloc (Rb.out) _) _)) h5 | exact blk_below (blk_alloc (blk_alloc (blk_alloc (Rb.out) _) _) _) h5 | exact blk_below (blk_drew (blk_alloc (blk_alloc (blk_alloc (Rb.out) _) _) _)) h5 | exact blk_below (blk_alloc (blk_alloc (blk_alloc (blk_alloc (Rb.out) _) _) _) _) h5 | exact blk_below (blk_drew (blk_alloc (blk_alloc (blk_alloc (blk_alloc (Rb.out) _) _) _) _)) h5 | exact blk_below (blk_new rfl) h5 | exact blk_below (blk_drew (blk_new rfl)) h5 | exact blk_below (blk_alloc (blk_new rfl) _) h5 | exact blk_below (blk_drew (blk_alloc (blk_new rfl) _)) h5 | exact blk_below (blk_alloc (blk_alloc (blk_new rfl) _) _) h5 | exact blk_below (blk_drew (blk_alloc (blk_alloc (blk_new rfl) _) _)) h5 | exact blk_below (blk_alloc (blk_alloc (blk_alloc (blk_new rfl) _) _) _) h5 | exact blk_below (blk_drew (blk_alloc (blk_alloc (blk_alloc (blk_new rfl) _) _) _)) h5 | exact blk_below (blk_alloc (blk_alloc (blk_alloc (blk_alloc (blk_new rfl) _) _) _) _) h5 | exact blk_below (blk_drew (blk_alloc (blk_alloc (blk_alloc (blk_alloc (blk_new rfl) _) _) _) _)) h5 | exact blk_below (blk_new (by simp)) h5 | exact blk_below (blk_drew (blk_new (by simp))) h5 | exact blk_below (blk_alloc (blk_new (by simp)) _) h5 | exact blk_below (blk_drew (blk_alloc (blk_new (by simp)) _)) h5 | exact blk_below (blk_alloc (blk_alloc (blk_new (by simp)) _) _) h5 | exact blk_below (blk_drew (blk_alloc (blk_alloc (blk_new (by simp)) _) _)) h5 | exact blk_below (blk_alloc (blk_alloc (blk_alloc (blk_new (by simp)) _) _) _) h5 | exact blk_below (blk_drew (blk_alloc (blk_alloc (blk_alloc (blk_new (by simp)) _) _) _)) h5 | exact blk_below (blk_alloc (blk_alloc (blk_alloc (blk_alloc (blk_new (by simp)) _) _) _) _) h5 | exact blk_below (blk_drew (blk_alloc (blk_alloc (blk_alloc (blk_alloc (blk_new (by simp)) _) _) _) _)) h5
  clear fac0 faz0 fac1 faz1 fal fbc0 fbz0 fbc1 fbz1 fbl
  clear Ra Rb
  have fac0 : w5.cell? ⟨w.heap.size, 0, none⟩ = some (.int .u64 a) := (cell_of_row _ _ _ _ _ _ ra).trans rfl
  have faz0 := frozen_of_row _ _ 0 _ _ ra
  have fac1 : w5.cell? ⟨w.heap.size, 1, none⟩ = some (.int .u64 b) := (cell_of_row _ _ _ _ _ _ ra).trans rfl
  have faz1 := frozen_of_row _ _ 1 _ _ ra
  have fal := blk_lt ra
  have Ra := Lib.hid ra
  clear ra
  have fbc0 : w5.cell? ⟨(w.heap.size + 1), 0, none⟩ = some (.int .u64 c) := (cell_of_row _ _ _ _ _ _ rb).trans rfl
  have fbz0 := frozen_of_row _ _ 0 _ _ rb
  have fbc1 : w5.cell? ⟨(w.heap.size + 1), 1, none⟩ = some (.int .u64 d) := (cell_of_row _ _ _ _ _ _ rb).trans rfl
  have fbz1 := frozen_of_row _ _ 1 _ _ rb
  have fbl := blk_lt rb
  have Rb := Lib.hid rb
  clear rb
  clear B4
  clear h5
  go_wp2_with fail
  refine (right_any _ a b 0 HA.out HB.out (by omega) (by omega)).mono ?_
  rintro e w6 ⟨rfl, h6⟩
  rw [Hz1.out]
  have B6 := Lib.hid (b_then (by first | exact (B5.out) | exact b_drew (B5.out) | exact (b_alloc (B5.out) _) | exact b_drew (b_alloc (B5.out) _) | exact (b_alloc (b_alloc (B5.out) _) _) | exact b_drew (b_alloc (b_alloc (B5.out) _) _) | exact (b_alloc (b_alloc (b_alloc (B5.out) _) _) _) | exact b_drew (b_alloc (b_alloc (b_alloc (B5.out) _) _) _) | exact (b_alloc (b_alloc (b_alloc (b_alloc (B5.out) _) _) _) _) | exact b_drew (b_alloc (b_alloc (b_alloc (b_alloc (B5.out) _) _) _) _) | exact (b_alloc (b_alloc (b_alloc (b_alloc (b_alloc (B5.out) _) _) _) _) _) | exact b_drew (b_alloc (b_alloc (b_alloc (b_alloc (b_alloc (B5.out) _) _) _) _) _)) h6)
  have ra : w6.heap[w.heap.size]? = some (.cells #[.int .u64 a, .int .u64 b] 24 (0, 0)) := by first | exact blk_below (Ra.out) h6 | exact blk_below (blk_drew (Ra.out)) h6 | exact blk_below (blk_alloc (Ra.out) _) h6 | exact blk_below (blk_drew (blk_alloc (Ra.out) _)) h6 | exact blk_below (blk_alloc (blk_alloc (Ra.out) _) _) h6 | exact blk_below (blk_drew (blk_alloc (blk_alloc (Ra.out) _) _)) h6 | exact blk_below (blk_alloc (blk_alloc (blk_alloc (Ra.out) _) _) _) h6 | exact blk_below (blk_drew (blk_alloc (blk_alloc (blk_alloc (Ra.out) _) _) _)) h6 | exact blk_below (blk_alloc (blk_alloc (blk_alloc (blk_alloc (Ra.out) _) _) _) _) h6 | exact blk_below (blk_drew (blk_alloc (blk_alloc (blk_alloc (blk_alloc (Ra.out) _) _) _) _)) h6 | exact blk_below (blk_new rfl) h6 | exact blk_below (blk_drew (blk_new rfl)) h6 | exact blk_below (blk_alloc (blk_new rfl) _) h6 | exact blk_below (blk_drew (blk_alloc (blk_new rfl) _)) h6 | exact blk_below (blk_alloc (blk_alloc (blk_new rfl) _) _) h6 | exact blk_below (blk_drew (blk_alloc (blk_alloc (blk_new rfl) _) _)) h6 | exact blk_below (blk_alloc (blk_alloc (blk_alloc (blk_new rfl) _) _) _) h6 | exact blk_below (blk_drew (blk_alloc (blk_alloc (blk_alloc (blk_new rfl) _) _) _)) h6 | exact blk_below (blk_alloc (blk_alloc (blk_alloc (blk_alloc (blk_new rfl) _) _) _) _) h6 | exact blk_below (blk_drew (blk_alloc (blk_alloc (blk_alloc (blk_alloc (blk_new rfl) _) _) _) _)) h6 | exact blk_below (blk_new (by simp)) h6 | exact blk_below (blk_drew (blk_new (by simp))) h6 | exact blk_below (blk_alloc (blk_new (by simp)) _) h6 | exact blk_below (blk_drew (blk_alloc (blk_new (by simp)) _)) h6 | exact blk_below (blk_alloc (blk_alloc (blk_new (by simp)) _) _) h6 | exact blk_below (blk_drew (blk_alloc (blk_alloc (blk_new (by simp)) _) _)) h6 | exact blk_below (blk_alloc (blk_alloc (blk_alloc (blk_new (by simp)) _) _) _) h6 | exact blk_below (blk_drew (blk_alloc (blk_alloc (blk_alloc (blk_new (by simp)) _) _) _)) h6 | exact blk_below (blk_alloc (blk_alloc (blk_alloc (blk_alloc (blk_new (by simp)) _) _) _) _) h6 | exact blk_below (blk_drew (blk_alloc (blk_alloc (blk_alloc (blk_alloc (blk_new (by simp)) _) _) _) _)) h6
  have rb : w6.heap[(w.heap.size + 1)]? = some (.cells #[.int .u64 c, .int .u64 d] 24 (0, 0)) := by first | exact blk_below (Rb.out) h6 | exact blk_below (blk_drew (Rb.out)) h6 | exact blk_below (blk_alloc (Rb.out) _) h6 | exact blk_below (blk_drew (blk_alloc (Rb.out) _)) h6 | exact blk_below (blk_alloc (blk_alloc (Rb.out) _) _) h6 | exact blk_below (blk_drew (blk_alloc (blk_alloc (Rb.out) _) _)) h6 | exact blk_below (blk_alloc (blk_alloc (blk_alloc (Rb.out) _) _) _) h6 | exact blk_below (blk_drew (blk_alloc (blk_alloc (blk_alloc (Rb.out) _) _) _)) h6 | exact blk_below (blk_alloc (blk_alloc (blk_alloc (blk_alloc (Rb.out) _) _) _) _) h6 | exact blk_below (blk_drew (blk_alloc (blk_alloc (blk_alloc (blk_alloc (Rb.out) _) _) _) _)) h6 | exact blk_below (blk_new rfl) h6 | exact blk_below (blk_drew (blk_new rfl)) h6 | exact blk_below (blk_alloc (blk_new rfl) _) h6 | exact blk_below (blk_drew (blk_alloc (blk_new rfl) _)) h6 | exact blk_below (blk_alloc (blk_alloc (blk_new rfl) _) _) h6 | exact blk_below (blk_drew (blk_alloc (blk_alloc (blk_new rfl) _) _)) h6 | exact blk_below (blk_alloc (blk_alloc (blk_alloc (blk_new rfl) _) _) _) h6 | exact blk_below (blk_drew (blk_alloc (blk_alloc (blk_alloc (blk_new rfl) _) _) _)) h6 | exact blk_below (blk_alloc (blk_alloc (blk_alloc (blk_alloc (blk_new rfl) _) _) _) _) h6 | exact blk_below (blk_drew (blk_alloc (blk_alloc (blk_alloc (blk_alloc (blk_new rfl) _) _) _) _)) h6 | exact blk_below (blk_new (by simp)) h6 | exact blk_below (blk_drew (blk_new (by simp))) h6 | exact blk_below (blk_alloc (blk_new (by simp)) _) h6 | exact blk_below (blk_drew (blk_alloc (blk_new (by simp)) _)) h6 | exact blk_below (blk_alloc (blk_alloc (blk_new (by simp)) _) _) h6 | exact blk_below (blk_drew (blk_alloc (blk_alloc (blk_new (by simp)) _) _)) h6 | exact blk_below (blk_alloc (blk_alloc (blk_alloc (blk_new (by simp)) _) _) _) h6 | exact blk_below (blk_drew (blk_alloc (blk_alloc (blk_alloc (blk_new (by simp)) _) _) _)) h6 | exact blk_below (blk_alloc (blk_alloc (blk_alloc (blk_alloc (blk_new (by simp)) _) _) _) _) h6 | exact blk_below (blk_drew (blk_alloc (blk_alloc (blk_alloc (blk_alloc (blk_new (by simp)) _) _) _) _)) h6
  clear fac0 faz0 fac1 faz1 fal fbc0 fbz0 fbc1 fbz1 fbl
  clear Ra Rb
  have fac0 : w6.cell? ⟨w.heap.size, 0, none⟩ = some (.int .u64 a) := (cell_of_row _ _ _ _ _ _ ra).trans rfl
  have faz0 := frozen_of_row _ _ 0 _ _ ra
  have fac1 : w6.cell? ⟨w.heap.size, 1, none⟩ = some (.int .u64 b) := (cell_of_row _ _ _ _ _ _ ra).trans rfl
  have faz1 := frozen_of_row _ _ 1 _ _ ra
  have fal := blk_lt ra
  have Ra := Lib.hid ra
  clear ra
  have fbc0 : w6.cell? ⟨(w.heap.size + 1), 0, none⟩ = some (.int .u64 c) := (cell_of_row _ _ _ _ _ _ rb).trans rfl
  have fbz0 := frozen_of_row _ _ 0 _ _ rb
  have fbc1 : w6.cell? ⟨(w.heap.size + 1), 1, none⟩ = some (.int .u64 d) := (cell_of_row _ _ _ _ _ _ rb).trans rfl
  have fbz1 := frozen_of_row _ _ 1 _ _ rb
  have fbl := blk_lt rb
  have Rb := Lib.hid rb
  clear rb
  clear B5
  clear h6
  go_wp2_with fail
  have hqd : decide (KB ≤ 0) = true := by simp; omega
  refine region_quiet (C := C7 w a b c d) (by kernel_rfl) (by kernel_rfl) ⟨⟨fac0, fac1, fbc0, fbc1⟩, fbl, b_drew B6.out⟩ ?_
  repeat
    first
      | (refine q_skip rfl ?_
         simp only [Act.put, List.setIfInBounds_toArray, List.set_cons_zero, List.set_cons_succ])
      | (refine q_step rfl ?_ (fun w' hC => ?_) ?_
         rotate_left
         · have hC' := Lib.hid hC
           obtain ⟨⟨c1, c2, c3, c4⟩, hlt, hbel⟩ := hC
           have hbel' := Lib.hid hbel
           clear hbel
           go_simp
           first
             | done
             | rfl
             | (go_at_call 16; refine (right_any _ a b n HA.out HB.out (by omega) (by omega)).mono ?_; rintro e w2 ⟨rfl, hb⟩; rw [Hz3.out]; refine ⟨?_, c7_below hb hC'.out⟩; rfl)
             | (go_at_call 21; refine (compare_any _ R S a b HR.out HS.out HA.out HB.out).mono ?_; rintro e w2 ⟨rfl, hb⟩; rw [Hz5.out]; refine ⟨?_, c7_below hb hC'.out⟩; rfl)
             | (go_at_call 22; refine (bits_any _ c d HC.out HD.out).mono ?_; rintro e w2 ⟨rfl, hb⟩; rw [HKB.out]; refine ⟨?_, c7_below hb hC'.out⟩; rfl)
         simp only [Act.put, List.setIfInBounds_toArray, List.set_cons_zero, List.set_cons_succ])
  refine wpQuiet_nil ?_
  intro w9 hC9
  have HL2 := Lib.hid hC9.2.2
  clear hC9
  go_wp2_with fail
  refine bodyPost_ret (v := .bool true) (by simp [results, Try.results7, go_sem]) rfl ⟨rfl, HL2.out⟩
set_option maxHeartbeats 4000000 in
set_option maxRecDepth 100000 in
theorem orders_gtn (w : World) (a b c d n : Int) (ha : U a) (hb : U b) (hc : U c) (hd : U d) (hn : 0 ≤ n) (hn' : n < 256) (hs : wval c d < wval a b) (hz : 0 < wval a b) : Calls Try.prog 7 #[wv a b, wv c d, .int .u8 n] w (Ret w (.bool true)) := by
  have HA := Lib.hid ha
  have HB := Lib.hid hb
  have HC := Lib.hid hc
  have HD := Lib.hid hd
  have rA := wval_range ha hb
  have rB := wval_range hc hd
  have k1 : cmpI (wval a b) (wval c d) = 1 := by unfold cmpI; rw [if_neg (by omega), if_pos hs]
  have k2 : cmpI (wval c d) (wval a b) = -1 := by unfold cmpI; rw [if_pos hs]
  have e1 : (decide (a = c) && decide (b = d)) = false := by
    have := wval_eq ha hb hc hd
    simp; omega
  have e2 : (decide (a = 0) && decide (b = 0)) = false := by
    have := wval_eq ha hb (show U 0 by unfold U; decide) (show U 0 by unfold U; decide)
    have h0 : wval 0 0 = 0 := rfl
    simp; omega
  have s1 : ∃ P Q : Int, optV (wval a b - wval c d) (wval c d ≤ wval a b) = .tuple #[.agg #[.int .u64 P, .int .u64 Q], .bool true] := by
    unfold optV
    rw [if_pos (by omega)]
    exact ⟨_, _, rfl⟩
  obtain ⟨P, Q, s1⟩ := s1
  obtain ⟨K, hK⟩ : ∃ K : Int, (bitLen (wval a b).toNat : Int) = K := ⟨_, rfl⟩
  obtain ⟨KB, hKB⟩ : ∃ KB : Int, (bitLen (wval c d).toNat : Int) = KB := ⟨_, rfl⟩
  have hK0 : 0 < K := by
    have := bit_zero (n := (wval a b).toNat)
    omega
  have hK1 : K ≤ 128 := by
    have := bitLen_lt (wval a b).toNat 128 (by omega)
    omega
  have hKK : KB ≤ K := by have := bit_mono (show (wval c d).toNat ≤ (wval a b).toNat by omega); omega
  have z1 := right_zero rA.1
  rw [hK] at z1
  have z2 := right_one hz hK
  have rl := right_low rA.1 n.toNat
  obtain ⟨R, S, z3, z4, hR, hS⟩ := wn_pq rl.1 (by omega)
  obtain ⟨y, z5, z6⟩ := cmp_low (show wval R S ≤ wval a b by omega)
  have HR := Lib.hid hR
  have HS := Lib.hid hS
  have Hk1 := Lib.hid k1
  have Hk2 := Lib.hid k2
  have Hs1 := Lib.hid s1
  have Hz1 := Lib.hid z1
  have Hz2 := Lib.hid z2
  have Hz3 := Lib.hid z3
  have Hz5 := Lib.hid z5
  have HK := Lib.hid hK
  have HKB := Lib.hid hKB
  have ew : IntKind.i64.wrap (K - 1) = K - 1 := by simp [IntKind.wrap, IntKind.signed, IntKind.bits]; omega
  have ew2 : wrap64 (K - 1) = K - 1 := by unfold wrap64; omega
  have ew3 : IntKind.i64.wrap n = n := by simp [IntKind.wrap, IntKind.signed, IntKind.bits]; omega
  have ew4 : wrap64 n = n := by unfold wrap64; omega
  clear ha hb hc hd rA rB k1 k2 s1 z1 z2 z3 z4 z5 hR hS hs hz rl hK hKB
  have hKe : (K == 0) = false := by simp; omega
  have hye : decide (y ≤ 0) = true := by simp; omega
  unfold wv
  go_enter Try.func7, Try.ntmps7
  go_wp2_with fail
  refine (first_any _).mono ?_
  rintro e w1 ⟨rfl, h1⟩
  have B1 := Lib.hid (b_then (by first | exact (Below.refl w.heap.size w) | exact b_drew (Below.refl w.heap.size w) | exact (b_alloc (Below.refl w.heap.size w) _) | exact b_drew (b_alloc (Below.refl w.heap.size w) _) | exact (b_alloc (b_alloc (Below.refl w.heap.size w) _) _) | exact b_drew (b_alloc (b_alloc (Below.refl w.heap.size w) _) _) | exact (b_alloc (b_alloc (b_alloc (Below.refl w.heap.size w) _) _) _) | exact b_drew (b_alloc (b_alloc (b_alloc (Below.refl w.heap.size w) _) _) _) | exact (b_alloc (b_alloc (b_alloc (b_alloc (Below.refl w.heap.size w) _) _) _) _) | exact b_drew (b_alloc (b_alloc (b_alloc (b_alloc (Below.refl w.heap.size w) _) _) _) _) | exact (b_alloc (b_alloc (b_alloc (b_alloc (b_alloc (Below.refl w.heap.size w) _) _) _) _) _) | exact b_drew (b_alloc (b_alloc (b_alloc (b_alloc (b_alloc (Below.refl w.heap.size w) _) _) _) _) _)) h1)
  have ra : w1.heap[w.heap.size]? = some (.cells #[.int .u64 a, .int .u64 b] 24 (0, 0)) := by first | exact blk_below (blk_new rfl) h1 | exact blk_below (blk_drew (blk_new rfl)) h1 | exact blk_below (blk_alloc (blk_new rfl) _) h1 | exact blk_below (blk_drew (blk_alloc (blk_new rfl) _)) h1 | exact blk_below (blk_alloc (blk_alloc (blk_new rfl) _) _) h1 | exact blk_below (blk_drew (blk_alloc (blk_alloc (blk_new rfl) _) _)) h1 | exact blk_below (blk_alloc (blk_alloc (blk_alloc (blk_new rfl) _) _) _) h1 | exact blk_below (blk_drew (blk_alloc (blk_alloc (blk_alloc (blk_new rfl) _) _) _)) h1 | exact blk_below (blk_alloc (blk_alloc (blk_alloc (blk_alloc (blk_new rfl) _) _) _) _) h1 | exact blk_below (blk_drew (blk_alloc (blk_alloc (blk_alloc (blk_alloc (blk_new rfl) _) _) _) _)) h1 | exact blk_below (blk_new (by simp)) h1 | exact blk_below (blk_drew (blk_new (by simp))) h1 | exact blk_below (blk_alloc (blk_new (by simp)) _) h1 | exact blk_below (blk_drew (blk_alloc (blk_new (by simp)) _)) h1 | exact blk_below (blk_alloc (blk_alloc (blk_new (by simp)) _) _) h1 | exact blk_below (blk_drew (blk_alloc (blk_alloc (blk_new (by simp)) _) _)) h1 | exact blk_below (blk_alloc (blk_alloc (blk_alloc (blk_new (by simp)) _) _) _) h1 | exact blk_below (blk_drew (blk_alloc (blk_alloc (blk_alloc (blk_new (by simp)) _) _) _)) h1 | exact blk_below (blk_alloc (blk_alloc (blk_alloc (blk_alloc (blk_new (by simp)) _) _) _) _) h1 | exact blk_below (blk_drew (blk_alloc (blk_alloc (blk_alloc (blk_alloc (blk_new (by simp)) _) _) _) _)) h1
  have rb : w1.heap[(w.heap.size + 1)]? = some (.cells #[.int .u64 c, .int .u64 d] 24 (0, 0)) := by first | exact blk_below (blk_new rfl) h1 | exact blk_below (blk_drew (blk_new rfl)) h1 | exact blk_below (blk_alloc (blk_new rfl) _) h1 | exact blk_below (blk_drew (blk_alloc (blk_new rfl) _)) h1 | exact blk_below (blk_alloc (blk_alloc (blk_new rfl) _) _) h1 | exact blk_below (blk_drew (blk_alloc (blk_alloc (blk_new rfl) _) _)) h1 | exact blk_below (blk_alloc (blk_alloc (blk_alloc (blk_new rfl) _) _) _) h1 | exact blk_below (blk_drew (blk_alloc (blk_alloc (blk_alloc (blk_new rfl) _) _) _)) h1 | exact blk_below (blk_alloc (blk_alloc (blk_alloc (blk_alloc (blk_new rfl) _) _) _) _) h1 | exact blk_below (blk_drew (blk_alloc (blk_alloc (blk_alloc (blk_alloc (blk_new rfl) _) _) _) _)) h1 | exact blk_below (blk_new (by simp)) h1 | exact blk_below (blk_drew (blk_new (by simp))) h1 | exact blk_below (blk_alloc (blk_new (by simp)) _) h1 | exact blk_below (blk_drew (blk_alloc (blk_new (by simp)) _)) h1 | exact blk_below (blk_alloc (blk_alloc (blk_new (by simp)) _) _) h1 | exact blk_below (blk_drew (blk_alloc (blk_alloc (blk_new (by simp)) _) _)) h1 | exact blk_below (blk_alloc (blk_alloc (blk_alloc (blk_new (by simp)) _) _) _) h1 | exact blk_below (blk_drew (blk_alloc (blk_alloc (blk_alloc (blk_new (by simp)) _) _) _)) h1 | exact blk_below (blk_alloc (blk_alloc (blk_alloc (blk_alloc (blk_new (by simp)) _) _) _) _) h1 | exact blk_below (blk_drew (blk_alloc (blk_alloc (blk_alloc (blk_alloc (blk_new (by simp)) _) _) _) _)) h1
  have fac0 : w1.cell? ⟨w.heap.size, 0, none⟩ = some (.int .u64 a) := (cell_of_row _ _ _ _ _ _ ra).trans rfl
  have faz0 := frozen_of_row _ _ 0 _ _ ra
  have fac1 : w1.cell? ⟨w.heap.size, 1, none⟩ = some (.int .u64 b) := (cell_of_row _ _ _ _ _ _ ra).trans rfl
  have faz1 := frozen_of_row _ _ 1 _ _ ra
  have fal := blk_lt ra
  have Ra := Lib.hid ra
  clear ra
  have fbc0 : w1.cell? ⟨(w.heap.size + 1), 0, none⟩ = some (.int .u64 c) := (cell_of_row _ _ _ _ _ _ rb).trans rfl
  have fbz0 := frozen_of_row _ _ 0 _ _ rb
  have fbc1 : w1.cell? ⟨(w.heap.size + 1), 1, none⟩ = some (.int .u64 d) := (cell_of_row _ _ _ _ _ _ rb).trans rfl
  have fbz1 := frozen_of_row _ _ 1 _ _ rb
  have fbl := blk_lt rb
  have Rb := Lib.hid rb
  clear rb
  clear h1
  go_wp2_with fail
  refine (compare_any _ a b c d HA.out HB.out HC.out HD.out).mono ?_
  rintro e w2 ⟨rfl, h2⟩
  rw [Hk1.out]
  have B2 := Lib.hid (b_then (by first | exact (B1.out) | exact b_drew (B1.out) | exact (b_alloc (B1.out) _) | exact b_drew (b_alloc (B1.out) _) | exact (b_alloc (b_alloc (B1.out) _) _) | exact b_drew (b_alloc (b_alloc (B1.out) _) _) | exact (b_alloc (b_alloc (b_alloc (B1.out) _) _) _) | exact b_drew (b_alloc (b_alloc (b_alloc (B1.out) _) _) _) | exact (b_alloc (b_alloc (b_alloc (b_alloc (B1.out) _) _) _) _) | exact b_drew (b_alloc (b_alloc (b_alloc (b_alloc (B1.out) _) _) _) _) | exact (b_alloc (b_alloc (b_alloc (b_alloc (b_alloc (B1.out) _) _) _) _) _) | exact b_drew (b_alloc (b_alloc (b_alloc (b_alloc (b_alloc (B1.out) _) _) _) _) _)) h2)
  have ra : w2.heap[w.heap.size]? = some (.cells #[.int .u64 a, .int .u64 b] 24 (0, 0)) := by first | exact blk_below (Ra.out) h2 | exact blk_below (blk_drew (Ra.out)) h2 | exact blk_below (blk_alloc (Ra.out) _) h2 | exact blk_below (blk_drew (blk_alloc (Ra.out) _)) h2 | exact blk_below (blk_alloc (blk_alloc (Ra.out) _) _) h2 | exact blk_below (blk_drew (blk_alloc (blk_alloc (Ra.out) _) _)) h2 | exact blk_below (blk_alloc (blk_alloc (blk_alloc (Ra.out) _) _) _) h2 | exact blk_below (blk_drew (blk_alloc (blk_alloc (blk_alloc (Ra.out) _) _) _)) h2 | exact blk_below (blk_alloc (blk_alloc (blk_alloc (blk_alloc (Ra.out) _) _) _) _) h2 | exact blk_below (blk_drew (blk_alloc (blk_alloc (blk_alloc (blk_alloc (Ra.out) _) _) _) _)) h2 | exact blk_below (blk_new rfl) h2 | exact blk_below (blk_drew (blk_new rfl)) h2 | exact blk_below (blk_alloc (blk_new rfl) _) h2 | exact blk_below (blk_drew (blk_alloc (blk_new rfl) _)) h2 | exact blk_below (blk_alloc (blk_alloc (blk_new rfl) _) _) h2 | exact blk_below (blk_drew (blk_alloc (blk_alloc (blk_new rfl) _) _)) h2 | exact blk_below (blk_alloc (blk_alloc (blk_alloc (blk_new rfl) _) _) _) h2 | exact blk_below (blk_drew (blk_alloc (blk_alloc (blk_alloc (blk_new rfl) _) _) _)) h2 | exact blk_below (blk_alloc (blk_alloc (blk_alloc (blk_alloc (blk_new rfl) _) _) _) _) h2 | exact blk_below (blk_drew (blk_alloc (blk_alloc (blk_alloc (blk_alloc (blk_new rfl) _) _) _) _)) h2 | exact blk_below (blk_new (by simp)) h2 | exact blk_below (blk_drew (blk_new (by simp))) h2 | exact blk_below (blk_alloc (blk_new (by simp)) _) h2 | exact blk_below (blk_drew (blk_alloc (blk_new (by simp)) _)) h2 | exact blk_below (blk_alloc (blk_alloc (blk_new (by simp)) _) _) h2 | exact blk_below (blk_drew (blk_alloc (blk_alloc (blk_new (by simp)) _) _)) h2 | exact blk_below (blk_alloc (blk_alloc (blk_alloc (blk_new (by simp)) _) _) _) h2 | exact blk_below (blk_drew (blk_alloc (blk_alloc (blk_alloc (blk_new (by simp)) _) _) _)) h2 | exact blk_below (blk_alloc (blk_alloc (blk_alloc (blk_alloc (blk_new (by simp)) _) _) _) _) h2 | exact blk_below (blk_drew (blk_alloc (blk_alloc (blk_alloc (blk_alloc (blk_new (by simp)) _) _) _) _)) h2
  have rb : w2.heap[(w.heap.size + 1)]? = some (.cells #[.int .u64 c, .int .u64 d] 24 (0, 0)) := by first | exact blk_below (Rb.out) h2 | exact blk_below (blk_drew (Rb.out)) h2 | exact blk_below (blk_alloc (Rb.out) _) h2 | exact blk_below (blk_drew (blk_alloc (Rb.out) _)) h2 | exact blk_below (blk_alloc (blk_alloc (Rb.out) _) _) h2 | exact blk_below (blk_drew (blk_alloc (blk_alloc (Rb.out) _) _)) h2 | exact blk_below (blk_alloc (blk_alloc (blk_alloc (Rb.out) _) _) _) h2 | exact blk_below (blk_drew (blk_alloc (blk_alloc (blk_alloc (Rb.out) _) _) _)) h2 | exact blk_below (blk_alloc (blk_alloc (blk_alloc (blk_alloc (Rb.out) _) _) _) _) h2 | exact blk_below (blk_drew (blk_alloc (blk_alloc (blk_alloc (blk_alloc (Rb.out) _) _) _) _)) h2 | exact blk_below (blk_new rfl) h2 | exact blk_below (blk_drew (blk_new rfl)) h2 | exact blk_below (blk_alloc (blk_new rfl) _) h2 | exact blk_below (blk_drew (blk_alloc (blk_new rfl) _)) h2 | exact blk_below (blk_alloc (blk_alloc (blk_new rfl) _) _) h2 | exact blk_below (blk_drew (blk_alloc (blk_alloc (blk_new rfl) _) _)) h2 | exact blk_below (blk_alloc (blk_alloc (blk_alloc (blk_new rfl) _) _) _) h2 | exact blk_below (blk_drew (blk_alloc (blk_alloc (blk_alloc (blk_new rfl) _) _) _)) h2 | exact blk_below (blk_alloc (blk_alloc (blk_alloc (blk_alloc (blk_new rfl) _) _) _) _) h2 | exact blk_below (blk_drew (blk_alloc (blk_alloc (blk_alloc (blk_alloc (blk_new rfl) _) _) _) _)) h2 | exact blk_below (blk_new (by simp)) h2 | exact blk_below (blk_drew (blk_new (by simp))) h2 | exact blk_below (blk_alloc (blk_new (by simp)) _) h2 | exact blk_below (blk_drew (blk_alloc (blk_new (by simp)) _)) h2 | exact blk_below (blk_alloc (blk_alloc (blk_new (by simp)) _) _) h2 | exact blk_below (blk_drew (blk_alloc (blk_alloc (blk_new (by simp)) _) _)) h2 | exact blk_below (blk_alloc (blk_alloc (blk_alloc (blk_new (by simp)) _) _) _) h2 | exact blk_below (blk_drew (blk_alloc (blk_alloc (blk_alloc (blk_new (by simp)) _) _) _)) h2 | exact blk_below (blk_alloc (blk_alloc (blk_alloc (blk_alloc (blk_new (by simp)) _) _) _) _) h2 | exact blk_below (blk_drew (blk_alloc (blk_alloc (blk_alloc (blk_alloc (blk_new (by simp)) _) _) _) _)) h2
  clear fac0 faz0 fac1 faz1 fal fbc0 fbz0 fbc1 fbz1 fbl
  clear Ra Rb
  have fac0 : w2.cell? ⟨w.heap.size, 0, none⟩ = some (.int .u64 a) := (cell_of_row _ _ _ _ _ _ ra).trans rfl
  have faz0 := frozen_of_row _ _ 0 _ _ ra
  have fac1 : w2.cell? ⟨w.heap.size, 1, none⟩ = some (.int .u64 b) := (cell_of_row _ _ _ _ _ _ ra).trans rfl
  have faz1 := frozen_of_row _ _ 1 _ _ ra
  have fal := blk_lt ra
  have Ra := Lib.hid ra
  clear ra
  have fbc0 : w2.cell? ⟨(w.heap.size + 1), 0, none⟩ = some (.int .u64 c) := (cell_of_row _ _ _ _ _ _ rb).trans rfl
  have fbz0 := frozen_of_row _ _ 0 _ _ rb
  have fbc1 : w2.cell? ⟨(w.heap.size + 1), 1, none⟩ = some (.int .u64 d) := (cell_of_row _ _ _ _ _ _ rb).trans rfl
  have fbz1 := frozen_of_row _ _ 1 _ _ rb
  have fbl := blk_lt rb
  have Rb := Lib.hid rb
  clear rb
  clear B1
  clear h2
  go_wp2_with fail
  refine (sub_any _ a b c d HA.out HB.out HC.out HD.out).mono ?_
  rintro e w3 ⟨rfl, h3⟩
  rw [Hs1.out]
  have B3 := Lib.hid (b_then (by first | exact (B2.out) | exact b_drew (B2.out) | exact (b_alloc (B2.out) _) | exact b_drew (b_alloc (B2.out) _) | exact (b_alloc (b_alloc (B2.out) _) _) | exact b_drew (b_alloc (b_alloc (B2.out) _) _) | exact (b_alloc (b_alloc (b_alloc (B2.out) _) _) _) | exact b_drew (b_alloc (b_alloc (b_alloc (B2.out) _) _) _) | exact (b_alloc (b_alloc (b_alloc (b_alloc (B2.out) _) _) _) _) | exact b_drew (b_alloc (b_alloc (b_alloc (b_alloc (B2.out) _) _) _) _) | exact (b_alloc (b_alloc (b_alloc (b_alloc (b_alloc (B2.out) _) _) _) _) _) | exact b_drew (b_alloc (b_alloc (b_alloc (b_alloc (b_alloc (B2.out) _) _) _) _) _)) h3)
  have ra : w3.heap[w.heap.size]? = some (.cells #[.int .u64 a, .int .u64 b] 24 (0, 0)) := by first | exact blk_below (Ra.out) h3 | exact blk_below (blk_drew (Ra.out)) h3 | exact blk_below (blk_alloc (Ra.out) _) h3 | exact blk_below (blk_drew (blk_alloc (Ra.out) _)) h3 | exact blk_below (blk_alloc (blk_alloc (Ra.out) _) _) h3 | exact blk_below (blk_drew (blk_alloc (blk_alloc (Ra.out) _) _)) h3 | exact blk_below (blk_alloc (blk_alloc (blk_alloc (Ra.out) _) _) _) h3 | exact blk_below (blk_drew (blk_alloc (blk_alloc (blk_alloc (Ra.out) _) _) _)) h3 | exact blk_below (blk_alloc (blk_alloc (blk_alloc (blk_alloc (Ra.out) _) _) _) _) h3 | exact blk_below (blk_drew (blk_alloc (blk_alloc (blk_alloc (blk_alloc (Ra.out) _) _) _) _)) h3 | exact blk_below (blk_new rfl) h3 | exact blk_below (blk_drew (blk_new rfl)) h3 | exact blk_below (blk_alloc (blk_new rfl) _) h3 | exact blk_below (blk_drew (blk_alloc (blk_new rfl) _)) h3 | exact blk_below (blk_alloc (blk_alloc (blk_new rfl) _) _) h3 | exact blk_below (blk_drew (blk_alloc (blk_alloc (blk_new rfl) _) _)) h3 | exact blk_below (blk_alloc (blk_alloc (blk_alloc (blk_new rfl) _) _) _) h3 | exact blk_below (blk_drew (blk_alloc (blk_alloc (blk_alloc (blk_new rfl) _) _) _)) h3 | exact blk_below (blk_alloc (blk_alloc (blk_alloc (blk_alloc (blk_new rfl) _) _) _) _) h3 | exact blk_below (blk_drew (blk_alloc (blk_alloc (blk_alloc (blk_alloc (blk_new rfl) _) _) _) _)) h3 | exact blk_below (blk_new (by simp)) h3 | exact blk_below (blk_drew (blk_new (by simp))) h3 | exact blk_below (blk_alloc (blk_new (by simp)) _) h3 | exact blk_below (blk_drew (blk_alloc (blk_new (by simp)) _)) h3 | exact blk_below (blk_alloc (blk_alloc (blk_new (by simp)) _) _) h3 | exact blk_below (blk_drew (blk_alloc (blk_alloc (blk_new (by simp)) _) _)) h3 | exact blk_below (blk_alloc (blk_alloc (blk_alloc (blk_new (by simp)) _) _) _) h3 | exact blk_below (blk_drew (blk_alloc (blk_alloc (blk_alloc (blk_new (by simp)) _) _) _)) h3 | exact blk_below (blk_alloc (blk_alloc (blk_alloc (blk_alloc (blk_new (by simp)) _) _) _) _) h3 | exact blk_below (blk_drew (blk_alloc (blk_alloc (blk_alloc (blk_alloc (blk_new (by simp)) _) _) _) _)) h3
  have rb : w3.heap[(w.heap.size + 1)]? = some (.cells #[.int .u64 c, .int .u64 d] 24 (0, 0)) := by first | exact blk_below (Rb.out) h3 | exact blk_below (blk_drew (Rb.out)) h3 | exact blk_below (blk_alloc (Rb.out) _) h3 | exact blk_below (blk_drew (blk_alloc (Rb.out) _)) h3 | exact blk_below (blk_alloc (blk_alloc (Rb.out) _) _) h3 | exact blk_below (blk_drew (blk_alloc (blk_alloc (Rb.out) _) _)) h3 | exact blk_below (blk_alloc (blk_alloc (blk_alloc (Rb.out) _) _) _) h3 | exact blk_below (blk_drew (blk_alloc (blk_alloc (blk_alloc (Rb.out) _) _) _)) h3 | exact blk_below (blk_alloc (blk_alloc (blk_alloc (blk_alloc (Rb.out) _) _) _) _) h3 | exact blk_below (blk_drew (blk_alloc (blk_alloc (blk_alloc (blk_alloc (Rb.out) _) _) _) _)) h3 | exact blk_below (blk_new rfl) h3 | exact blk_below (blk_drew (blk_new rfl)) h3 | exact blk_below (blk_alloc (blk_new rfl) _) h3 | exact blk_below (blk_drew (blk_alloc (blk_new rfl) _)) h3 | exact blk_below (blk_alloc (blk_alloc (blk_new rfl) _) _) h3 | exact blk_below (blk_drew (blk_alloc (blk_alloc (blk_new rfl) _) _)) h3 | exact blk_below (blk_alloc (blk_alloc (blk_alloc (blk_new rfl) _) _) _) h3 | exact blk_below (blk_drew (blk_alloc (blk_alloc (blk_alloc (blk_new rfl) _) _) _)) h3 | exact blk_below (blk_alloc (blk_alloc (blk_alloc (blk_alloc (blk_new rfl) _) _) _) _) h3 | exact blk_below (blk_drew (blk_alloc (blk_alloc (blk_alloc (blk_alloc (blk_new rfl) _) _) _) _)) h3 | exact blk_below (blk_new (by simp)) h3 | exact blk_below (blk_drew (blk_new (by simp))) h3 | exact blk_below (blk_alloc (blk_new (by simp)) _) h3 | exact blk_below (blk_drew (blk_alloc (blk_new (by simp)) _)) h3 | exact blk_below (blk_alloc (blk_alloc (blk_new (by simp)) _) _) h3 | exact blk_below (blk_drew (blk_alloc (blk_alloc (blk_new (by simp)) _) _)) h3 | exact blk_below (blk_alloc (blk_alloc (blk_alloc (blk_new (by simp)) _) _) _) h3 | exact blk_below (blk_drew (blk_alloc (blk_alloc (blk_alloc (blk_new (by simp)) _) _) _)) h3 | exact blk_below (blk_alloc (blk_alloc (blk_alloc (blk_alloc (blk_new (by simp)) _) _) _) _) h3 | exact blk_below (blk_drew (blk_alloc (blk_alloc (blk_alloc (blk_alloc (blk_new (by simp)) _) _) _) _)) h3
  clear fac0 faz0 fac1 faz1 fal fbc0 fbz0 fbc1 fbz1 fbl
  clear Ra Rb
  have fac0 : w3.cell? ⟨w.heap.size, 0, none⟩ = some (.int .u64 a) := (cell_of_row _ _ _ _ _ _ ra).trans rfl
  have faz0 := frozen_of_row _ _ 0 _ _ ra
  have fac1 : w3.cell? ⟨w.heap.size, 1, none⟩ = some (.int .u64 b) := (cell_of_row _ _ _ _ _ _ ra).trans rfl
  have faz1 := frozen_of_row _ _ 1 _ _ ra
  have fal := blk_lt ra
  have Ra := Lib.hid ra
  clear ra
  have fbc0 : w3.cell? ⟨(w.heap.size + 1), 0, none⟩ = some (.int .u64 c) := (cell_of_row _ _ _ _ _ _ rb).trans rfl
  have fbz0 := frozen_of_row _ _ 0 _ _ rb
  have fbc1 : w3.cell? ⟨(w.heap.size + 1), 1, none⟩ = some (.int .u64 d) := (cell_of_row _ _ _ _ _ _ rb).trans rfl
  have fbz1 := frozen_of_row _ _ 1 _ _ rb
  have fbl := blk_lt rb
  have Rb := Lib.hid rb
  clear rb
  clear B2
  clear h3
  go_wp2_with fail
  refine (bits_any _ a b HA.out HB.out).mono ?_
  rintro e w4 ⟨rfl, h4⟩
  rw [HK.out]
  have B4 := Lib.hid (b_then (by first | exact (B3.out) | exact b_drew (B3.out) | exact (b_alloc (B3.out) _) | exact b_drew (b_alloc (B3.out) _) | exact (b_alloc (b_alloc (B3.out) _) _) | exact b_drew (b_alloc (b_alloc (B3.out) _) _) | exact (b_alloc (b_alloc (b_alloc (B3.out) _) _) _) | exact b_drew (b_alloc (b_alloc (b_alloc (B3.out) _) _) _) | exact (b_alloc (b_alloc (b_alloc (b_alloc (B3.out) _) _) _) _) | exact b_drew (b_alloc (b_alloc (b_alloc (b_alloc (B3.out) _) _) _) _) | exact (b_alloc (b_alloc (b_alloc (b_alloc (b_alloc (B3.out) _) _) _) _) _) | exact b_drew (b_alloc (b_alloc (b_alloc (b_alloc (b_alloc (B3.out) _) _) _) _) _)) h4)
  have ra : w4.heap[w.heap.size]? = some (.cells #[.int .u64 a, .int .u64 b] 24 (0, 0)) := by first | exact blk_below (Ra.out) h4 | exact blk_below (blk_drew (Ra.out)) h4 | exact blk_below (blk_alloc (Ra.out) _) h4 | exact blk_below (blk_drew (blk_alloc (Ra.out) _)) h4 | exact blk_below (blk_alloc (blk_alloc (Ra.out) _) _) h4 | exact blk_below (blk_drew (blk_alloc (blk_alloc (Ra.out) _) _)) h4 | exact blk_below (blk_alloc (blk_alloc (blk_alloc (Ra.out) _) _) _) h4 | exact blk_below (blk_drew (blk_alloc (blk_alloc (blk_alloc (Ra.out) _) _) _)) h4 | exact blk_below (blk_alloc (blk_alloc (blk_alloc (blk_alloc (Ra.out) _) _) _) _) h4 | exact blk_below (blk_drew (blk_alloc (blk_alloc (blk_alloc (blk_alloc (Ra.out) _) _) _) _)) h4 | exact blk_below (blk_new rfl) h4 | exact blk_below (blk_drew (blk_new rfl)) h4 | exact blk_below (blk_alloc (blk_new rfl) _) h4 | exact blk_below (blk_drew (blk_alloc (blk_new rfl) _)) h4 | exact blk_below (blk_alloc (blk_alloc (blk_new rfl) _) _) h4 | exact blk_below (blk_drew (blk_alloc (blk_alloc (blk_new rfl) _) _)) h4 | exact blk_below (blk_alloc (blk_alloc (blk_alloc (blk_new rfl) _) _) _) h4 | exact blk_below (blk_drew (blk_alloc (blk_alloc (blk_alloc (blk_new rfl) _) _) _)) h4 | exact blk_below (blk_alloc (blk_alloc (blk_alloc (blk_alloc (blk_new rfl) _) _) _) _) h4 | exact blk_below (blk_drew (blk_alloc (blk_alloc (blk_alloc (blk_alloc (blk_new rfl) _) _) _) _)) h4 | exact blk_below (blk_new (by simp)) h4 | exact blk_below (blk_drew (blk_new (by simp))) h4 | exact blk_below (blk_alloc (blk_new (by simp)) _) h4 | exact blk_below (blk_drew (blk_alloc (blk_new (by simp)) _)) h4 | exact blk_below (blk_alloc (blk_alloc (blk_new (by simp)) _) _) h4 | exact blk_below (blk_drew (blk_alloc (blk_alloc (blk_new (by simp)) _) _)) h4 | exact blk_below (blk_alloc (blk_alloc (blk_alloc (blk_new (by simp)) _) _) _) h4 | exact blk_below (blk_drew (blk_alloc (blk_alloc (blk_alloc (blk_new (by simp)) _) _) _)) h4 | exact blk_below (blk_alloc (blk_alloc (blk_alloc (blk_alloc (blk_new (by simp)) _) _) _) _) h4 | exact blk_below (blk_drew (blk_alloc (blk_alloc (blk_alloc (blk_alloc (blk_new (by simp)) _) _) _) _)) h4
  have rb : w4.heap[(w.heap.size + 1)]? = some (.cells #[.int .u64 c, .int .u64 d] 24 (0, 0)) := by first | exact blk_below (Rb.out) h4 | exact blk_below (blk_drew (Rb.out)) h4 | exact blk_below (blk_alloc (Rb.out) _) h4 | exact blk_below (blk_drew (blk_alloc (Rb.out) _)) h4 | exact blk_below (blk_alloc (blk_alloc (Rb.out) _) _) h4 | exact blk_below (blk_drew (blk_alloc (blk_alloc (Rb.out) _) _)) h4 | exact blk_below (blk_alloc (blk_alloc (blk_alloc (Rb.out) _) _) _) h4 | exact blk_below (blk_drew (blk_alloc (blk_alloc (blk_alloc (Rb.out) _) _) _)) h4 | exact blk_below (blk_alloc (blk_alloc (blk_alloc (blk_alloc (Rb.out) _) _) _) _) h4 | exact blk_below (blk_drew (blk_alloc (blk_alloc (blk_alloc (blk_alloc (Rb.out) _) _) _) _)) h4 | exact blk_below (blk_new rfl) h4 | exact blk_below (blk_drew (blk_new rfl)) h4 | exact blk_below (blk_alloc (blk_new rfl) _) h4 | exact blk_below (blk_drew (blk_alloc (blk_new rfl) _)) h4 | exact blk_below (blk_alloc (blk_alloc (blk_new rfl) _) _) h4 | exact blk_below (blk_drew (blk_alloc (blk_alloc (blk_new rfl) _) _)) h4 | exact blk_below (blk_alloc (blk_alloc (blk_alloc (blk_new rfl) _) _) _) h4 | exact blk_below (blk_drew (blk_alloc (blk_alloc (blk_alloc (blk_new rfl) _) _) _)) h4 | exact blk_below (blk_alloc (blk_alloc (blk_alloc (blk_alloc (blk_new rfl) _) _) _) _) h4 | exact blk_below (blk_drew (blk_alloc (blk_alloc (blk_alloc (blk_alloc (blk_new rfl) _) _) _) _)) h4 | exact blk_below (blk_new (by simp)) h4 | exact blk_below (blk_drew (blk_new (by simp))) h4 | exact blk_below (blk_alloc (blk_new (by simp)) _) h4 | exact blk_below (blk_drew (blk_alloc (blk_new (by simp)) _)) h4 | exact blk_below (blk_alloc (blk_alloc (blk_new (by simp)) _) _) h4 | exact blk_below (blk_drew (blk_alloc (blk_alloc (blk_new (by simp)) _) _)) h4 | exact blk_below (blk_alloc (blk_alloc (blk_alloc (blk_new (by simp)) _) _) _) h4 | exact blk_below (blk_drew (blk_alloc (blk_alloc (blk_alloc (blk_new (by simp)) _) _) _)) h4 | exact blk_below (blk_alloc (blk_alloc (blk_alloc (blk_alloc (blk_new (by simp)) _) _) _) _) h4 | exact blk_below (blk_drew (blk_alloc (blk_alloc (blk_alloc (blk_alloc (blk_new (by simp)) _) _) _) _)) h4
  clear fac0 faz0 fac1 faz1 fal fbc0 fbz0 fbc1 fbz1 fbl
  clear Ra Rb
  have fac0 : w4.cell? ⟨w.heap.size, 0, none⟩ = some (.int .u64 a) := (cell_of_row _ _ _ _ _ _ ra).trans rfl
  have faz0 := frozen_of_row _ _ 0 _ _ ra
  have fac1 : w4.cell? ⟨w.heap.size, 1, none⟩ = some (.int .u64 b) := (cell_of_row _ _ _ _ _ _ ra).trans rfl
  have faz1 := frozen_of_row _ _ 1 _ _ ra
  have fal := blk_lt ra
  have Ra := Lib.hid ra
  clear ra
  have fbc0 : w4.cell? ⟨(w.heap.size + 1), 0, none⟩ = some (.int .u64 c) := (cell_of_row _ _ _ _ _ _ rb).trans rfl
  have fbz0 := frozen_of_row _ _ 0 _ _ rb
  have fbc1 : w4.cell? ⟨(w.heap.size + 1), 1, none⟩ = some (.int .u64 d) := (cell_of_row _ _ _ _ _ _ rb).trans rfl
  have fbz1 := frozen_of_row _ _ 1 _ _ rb
  have fbl := blk_lt rb
  have Rb := Lib.hid rb
  clear rb
  clear B3
  clear h4
  go_wp2_with fail
  refine (compare_any _ c d a b HC.out HD.out HA.out HB.out).mono ?_
  rintro e w5 ⟨rfl, h5⟩
  rw [Hk2.out]
  have B5 := Lib.hid (b_then (by first | exact (B4.out) | exact b_drew (B4.out) | exact (b_alloc (B4.out) _) | exact b_drew (b_alloc (B4.out) _) | exact (b_alloc (b_alloc (B4.out) _) _) | exact b_drew (b_alloc (b_alloc (B4.out) _) _) | exact (b_alloc (b_alloc (b_alloc (B4.out) _) _) _) | exact b_drew (b_alloc (b_alloc (b_alloc (B4.out) _) _) _) | exact (b_alloc (b_alloc (b_alloc (b_alloc (B4.out) _) _) _) _) | exact b_drew (b_alloc (b_alloc (b_alloc (b_alloc (B4.out) _) _) _) _) | exact (b_alloc (b_alloc (b_alloc (b_alloc (b_alloc (B4.out) _) _) _) _) _) | exact b_drew (b_alloc (b_alloc (b_alloc (b_alloc (b_alloc (B4.out) _) _) _) _) _)) h5)
  have ra : w5.heap[w.heap.size]? = some (.cells #[.int .u64 a, .int .u64 b] 24 (0, 0)) := by first | exact blk_below (Ra.out) h5 | exact blk_below (blk_drew (Ra.out)) h5 | exact blk_below (blk_alloc (Ra.out) _) h5 | exact blk_below (blk_drew (blk_alloc (Ra.out) _)) h5 | exact blk_below (blk_alloc (blk_alloc (Ra.out) _) _) h5 | exact blk_below (blk_drew (blk_alloc (blk_alloc (Ra.out) _) _)) h5 | exact blk_below (blk_alloc (blk_alloc (blk_alloc (Ra.out) _) _) _) h5 | exact blk_below (blk_drew (blk_alloc (blk_alloc (blk_alloc (Ra.out) _) _) _)) h5 | exact blk_below (blk_alloc (blk_alloc (blk_alloc (blk_alloc (Ra.out) _) _) _) _) h5 | exact blk_below (blk_drew (blk_alloc (blk_alloc (blk_alloc (blk_alloc (Ra.out) _) _) _) _)) h5 | exact blk_below (blk_new rfl) h5 | exact blk_below (blk_drew (blk_new rfl)) h5 | exact blk_below (blk_alloc (blk_new rfl) _) h5 | exact blk_below (blk_drew (blk_alloc (blk_new rfl) _)) h5 | exact blk_below (blk_alloc (blk_alloc (blk_new rfl) _) _) h5 | exact blk_below (blk_drew (blk_alloc (blk_alloc (blk_new rfl) _) _)) h5 | exact blk_below (blk_alloc (blk_alloc (blk_alloc (blk_new rfl) _) _) _) h5 | exact blk_below (blk_drew (blk_alloc (blk_alloc (blk_alloc (blk_new rfl) _) _) _)) h5 | exact blk_below (blk_alloc (blk_alloc (blk_alloc (blk_alloc (blk_new rfl) _) _) _) _) h5 | exact blk_below (blk_drew (blk_alloc (blk_alloc (blk_alloc (blk_alloc (blk_new rfl) _) _) _) _)) h5 | exact blk_below (blk_new (by simp)) h5 | exact blk_below (blk_drew (blk_new (by simp))) h5 | exact blk_below (blk_alloc (blk_new (by simp)) _) h5 | exact blk_below (blk_drew (blk_alloc (blk_new (by simp)) _)) h5 | exact blk_below (blk_alloc (blk_alloc (blk_new (by simp)) _) _) h5 | exact blk_below (blk_drew (blk_alloc (blk_alloc (blk_new (by simp)) _) _)) h5 | exact blk_below (blk_alloc (blk_alloc (blk_alloc (blk_new (by simp)) _) _) _) h5 | exact blk_below (blk_drew (blk_alloc (blk_alloc (blk_alloc (blk_new (by simp)) _) _) _)) h5 | exact blk_below (blk_alloc (blk_alloc (blk_alloc (blk_alloc (blk_new (by simp)) _) _) _) _) h5 | exact blk_below (blk_drew (blk_alloc (blk_alloc (blk_alloc (blk_alloc (blk_new (by simp)) _) _) _) _)) h5
  have rb : w5.heap[(w.heap.size + 1)]? = some (.cells #[.int .u64 c, .int .u64 d] 24 (0, 0)) := by first | exact blk_below (Rb.out) h5 | exact blk_below (blk_drew (Rb.out)) h5 | exact blk_below (blk_alloc (Rb.out) _) h5 | exact blk_below (blk_drew (blk_alloc (Rb.out) _)) h5 | exact blk_below (blk_alloc (blk_alloc (Rb.out) _) _) h5 | exact blk_below (blk_drew (blk_alloc (blk_alloc (Rb.out) _) _)) h5 | exact blk_below (blk_alloc (blk_alloc (blk_alloc (Rb.out) _) _) _) h5 | exact blk_below (blk_drew (blk_alloc (blk_alloc (blk_alloc (Rb.out) _) _) _)) h5 | exact blk_below (blk_alloc (blk_alloc (blk_alloc (blk_alloc (Rb.out) _) _) _) _) h5 | exact blk_below (blk_drew (blk_alloc (blk_alloc (blk_alloc (blk_alloc (Rb.out) _) _) _) _)) h5 | exact blk_below (blk_new rfl) h5 | exact blk_below (blk_drew (blk_new rfl)) h5 | exact blk_below (blk_alloc (blk_new rfl) _) h5 | exact blk_below (blk_drew (blk_alloc (blk_new rfl) _)) h5 | exact blk_below (blk_alloc (blk_alloc (blk_new rfl) _) _) h5 | exact blk_below (blk_drew (blk_alloc (blk_alloc (blk_new rfl) _) _)) h5 | exact blk_below (blk_alloc (blk_alloc (blk_alloc (blk_new rfl) _) _) _) h5 | exact blk_below (blk_drew (blk_alloc (blk_alloc (blk_alloc (blk_new rfl) _) _) _)) h5 | exact blk_below (blk_alloc (blk_alloc (blk_alloc (blk_alloc (blk_new rfl) _) _) _) _) h5 | exact blk_below (blk_drew (blk_alloc (blk_alloc (blk_alloc (blk_alloc (blk_new rfl) _) _) _) _)) h5 | exact blk_below (blk_new (by simp)) h5 | exact blk_below (blk_drew (blk_new (by simp))) h5 | exact blk_below (blk_alloc (blk_new (by simp)) _) h5 | exact blk_below (blk_drew (blk_alloc (blk_new (by simp)) _)) h5 | exact blk_below (blk_alloc (blk_alloc (blk_new (by simp)) _) _) h5 | exact blk_below (blk_drew (blk_alloc (blk_alloc (blk_new (by simp)) _) _)) h5 | exact blk_below (blk_alloc (blk_alloc (blk_alloc (blk_new (by simp)) _) _) _) h5 | exact blk_below (blk_drew (blk_alloc (blk_alloc (blk_alloc (blk_new (by simp)) _) _) _)) h5 | exact blk_below (blk_alloc (blk_alloc (blk_alloc (blk_alloc (blk_new (by simp)) _) _) _) _) h5 | exact blk_below (blk_drew (blk_alloc (blk_alloc (blk_alloc (blk_alloc (blk_new (by simp)) _) _) _) _)) h5
  clear fac0 faz0 fac1 faz1 fal fbc0 fbz0 fbc1 fbz1 fbl
  clear Ra Rb
  have fac0 : w5.cell? ⟨w.heap.size, 0, none⟩ = some (.int .u64 a) := (cell_of_row _ _ _ _ _ _ ra).trans rfl
  have faz0 := frozen_of_row _ _ 0 _ _ ra
  have fac1 : w5.cell? ⟨w.heap.size, 1, none⟩ = some (.int .u64 b) := (cell_of_row _ _ _ _ _ _ ra).trans rfl
  have faz1 := frozen_of_row _ _ 1 _ _ ra
  have fal := blk_lt ra
  have Ra := Lib.hid ra
  clear ra
  have fbc0 : w5.cell? ⟨(w.heap.size + 1), 0, none⟩ = some (.int .u64 c) := (cell_of_row _ _ _ _ _ _ rb).trans rfl
  have fbz0 := frozen_of_row _ _ 0 _ _ rb
  have fbc1 : w5.cell? ⟨(w.heap.size + 1), 1, none⟩ = some (.int .u64 d) := (cell_of_row _ _ _ _ _ _ rb).trans rfl
  have fbz1 := frozen_of_row _ _ 1 _ _ rb
  have fbl := blk_lt rb
  have Rb := Lib.hid rb
  clear rb
  clear B4
  clear h5
  go_wp2_with fail
  refine (right_any _ a b K HA.out HB.out (by omega) (by omega)).mono ?_
  rintro e w6 ⟨rfl, h6⟩
  rw [Hz1.out]
  have B6 := Lib.hid (b_then (by first | exact (B5.out) | exact b_drew (B5.out) | exact (b_alloc (B5.out) _) | exact b_drew (b_alloc (B5.out) _) | exact (b_alloc (b_alloc (B5.out) _) _) | exact b_drew (b_alloc (b_alloc (B5.out) _) _) | exact (b_alloc (b_alloc (b_alloc (B5.out) _) _) _) | exact b_drew (b_alloc (b_alloc (b_alloc (B5.out) _) _) _) | exact (b_alloc (b_alloc (b_alloc (b_alloc (B5.out) _) _) _) _) | exact b_drew (b_alloc (b_alloc (b_alloc (b_alloc (B5.out) _) _) _) _) | exact (b_alloc (b_alloc (b_alloc (b_alloc (b_alloc (B5.out) _) _) _) _) _) | exact b_drew (b_alloc (b_alloc (b_alloc (b_alloc (b_alloc (B5.out) _) _) _) _) _)) h6)
  have ra : w6.heap[w.heap.size]? = some (.cells #[.int .u64 a, .int .u64 b] 24 (0, 0)) := by first | exact blk_below (Ra.out) h6 | exact blk_below (blk_drew (Ra.out)) h6 | exact blk_below (blk_alloc (Ra.out) _) h6 | exact blk_below (blk_drew (blk_alloc (Ra.out) _)) h6 | exact blk_below (blk_alloc (blk_alloc (Ra.out) _) _) h6 | exact blk_below (blk_drew (blk_alloc (blk_alloc (Ra.out) _) _)) h6 | exact blk_below (blk_alloc (blk_alloc (blk_alloc (Ra.out) _) _) _) h6 | exact blk_below (blk_drew (blk_alloc (blk_alloc (blk_alloc (Ra.out) _) _) _)) h6 | exact blk_below (blk_alloc (blk_alloc (blk_alloc (blk_alloc (Ra.out) _) _) _) _) h6 | exact blk_below (blk_drew (blk_alloc (blk_alloc (blk_alloc (blk_alloc (Ra.out) _) _) _) _)) h6 | exact blk_below (blk_new rfl) h6 | exact blk_below (blk_drew (blk_new rfl)) h6 | exact blk_below (blk_alloc (blk_new rfl) _) h6 | exact blk_below (blk_drew (blk_alloc (blk_new rfl) _)) h6 | exact blk_below (blk_alloc (blk_alloc (blk_new rfl) _) _) h6 | exact blk_below (blk_drew (blk_alloc (blk_alloc (blk_new rfl) _) _)) h6 | exact blk_below (blk_alloc (blk_alloc (blk_alloc (blk_new rfl) _) _) _) h6 | exact blk_below (blk_drew (blk_alloc (blk_alloc (blk_alloc (blk_new rfl) _) _) _)) h6 | exact blk_below (blk_alloc (blk_alloc (blk_alloc (blk_alloc (blk_new rfl) _) _) _) _) h6 | exact blk_below (blk_drew (blk_alloc (blk_alloc (blk_alloc (blk_alloc (blk_new rfl) _) _) _) _)) h6 | exact blk_below (blk_new (by simp)) h6 | exact blk_below (blk_drew (blk_new (by simp))) h6 | exact blk_below (blk_alloc (blk_new (by simp)) _) h6 | exact blk_below (blk_drew (blk_alloc (blk_new (by simp)) _)) h6 | exact blk_below (blk_alloc (blk_alloc (blk_new (by simp)) _) _) h6 | exact blk_below (blk_drew (blk_alloc (blk_alloc (blk_new (by simp)) _) _)) h6 | exact blk_below (blk_alloc (blk_alloc (blk_alloc (blk_new (by simp)) _) _) _) h6 | exact blk_below (blk_drew (blk_alloc (blk_alloc (blk_alloc (blk_new (by simp)) _) _) _)) h6 | exact blk_below (blk_alloc (blk_alloc (blk_alloc (blk_alloc (blk_new (by simp)) _) _) _) _) h6 | exact blk_below (blk_drew (blk_alloc (blk_alloc (blk_alloc (blk_alloc (blk_new (by simp)) _) _) _) _)) h6
  have rb : w6.heap[(w.heap.size + 1)]? = some (.cells #[.int .u64 c, .int .u64 d] 24 (0, 0)) := by first | exact blk_below (Rb.out) h6 | exact blk_below (blk_drew (Rb.out)) h6 | exact blk_below (blk_alloc (Rb.out) _) h6 | exact blk_below (blk_drew (blk_alloc (Rb.out) _)) h6 | exact blk_below (blk_alloc (blk_alloc (Rb.out) _) _) h6 | exact blk_below (blk_drew (blk_alloc (blk_alloc (Rb.out) _) _)) h6 | exact blk_below (blk_alloc (blk_alloc (blk_alloc (Rb.out) _) _) _) h6 | exact blk_below (blk_drew (blk_alloc (blk_alloc (blk_alloc (Rb.out) _) _) _)) h6 | exact blk_below (blk_alloc (blk_alloc (blk_alloc (blk_alloc (Rb.out) _) _) _) _) h6 | exact blk_below (blk_drew (blk_alloc (blk_alloc (blk_alloc (blk_alloc (Rb.out) _) _) _) _)) h6 | exact blk_below (blk_new rfl) h6 | exact blk_below (blk_drew (blk_new rfl)) h6 | exact blk_below (blk_alloc (blk_new rfl) _) h6 | exact blk_below (blk_drew (blk_alloc (blk_new rfl) _)) h6 | exact blk_below (blk_alloc (blk_alloc (blk_new rfl) _) _) h6 | exact blk_below (blk_drew (blk_alloc (blk_alloc (blk_new rfl) _) _)) h6 | exact blk_below (blk_alloc (blk_alloc (blk_alloc (blk_new rfl) _) _) _) h6 | exact blk_below (blk_drew (blk_alloc (blk_alloc (blk_alloc (blk_new rfl) _) _) _)) h6 | exact blk_below (blk_alloc (blk_alloc (blk_alloc (blk_alloc (blk_new rfl) _) _) _) _) h6 | exact blk_below (blk_drew (blk_alloc (blk_alloc (blk_alloc (blk_alloc (blk_new rfl) _) _) _) _)) h6 | exact blk_below (blk_new (by simp)) h6 | exact blk_below (blk_drew (blk_new (by simp))) h6 | exact blk_below (blk_alloc (blk_new (by simp)) _) h6 | exact blk_below (blk_drew (blk_alloc (blk_new (by simp)) _)) h6 | exact blk_below (blk_alloc (blk_alloc (blk_new (by simp)) _) _) h6 | exact blk_below (blk_drew (blk_alloc (blk_alloc (blk_new (by simp)) _) _)) h6 | exact blk_below (blk_alloc (blk_alloc (blk_alloc (blk_new (by simp)) _) _) _) h6 | exact blk_below (blk_drew (blk_alloc (blk_alloc (blk_alloc (blk_new (by simp)) _) _) _)) h6 | exact blk_below (blk_alloc (blk_alloc (blk_alloc (blk_alloc (blk_new (by simp)) _) _) _) _) h6 | exact blk_below (blk_drew (blk_alloc (blk_alloc (blk_alloc (blk_alloc (blk_new (by simp)) _) _) _) _)) h6
  clear fac0 faz0 fac1 faz1 fal fbc0 fbz0 fbc1 fbz1 fbl
  clear Ra Rb
  have fac0 : w6.cell? ⟨w.heap.size, 0, none⟩ = some (.int .u64 a) := (cell_of_row _ _ _ _ _ _ ra).trans rfl
  have faz0 := frozen_of_row _ _ 0 _ _ ra
  have fac1 : w6.cell? ⟨w.heap.size, 1, none⟩ = some (.int .u64 b) := (cell_of_row _ _ _ _ _ _ ra).trans rfl
  have faz1 := frozen_of_row _ _ 1 _ _ ra
  have fal := blk_lt ra
  have Ra := Lib.hid ra
  clear ra
  have fbc0 : w6.cell? ⟨(w.heap.size + 1), 0, none⟩ = some (.int .u64 c) := (cell_of_row _ _ _ _ _ _ rb).trans rfl
  have fbz0 := frozen_of_row _ _ 0 _ _ rb
  have fbc1 : w6.cell? ⟨(w.heap.size + 1), 1, none⟩ = some (.int .u64 d) := (cell_of_row _ _ _ _ _ _ rb).trans rfl
  have fbz1 := frozen_of_row _ _ 1 _ _ rb
  have fbl := blk_lt rb
  have Rb := Lib.hid rb
  clear rb
  clear B5
  clear h6
  go_wp2_with fail
  refine (right_any _ a b (K - 1) HA.out HB.out (by omega) (by omega)).mono ?_
  rintro e w7 ⟨rfl, h7⟩
  rw [Hz2.out]
  have B7 := Lib.hid (b_then (by first | exact (B6.out) | exact b_drew (B6.out) | exact (b_alloc (B6.out) _) | exact b_drew (b_alloc (B6.out) _) | exact (b_alloc (b_alloc (B6.out) _) _) | exact b_drew (b_alloc (b_alloc (B6.out) _) _) | exact (b_alloc (b_alloc (b_alloc (B6.out) _) _) _) | exact b_drew (b_alloc (b_alloc (b_alloc (B6.out) _) _) _) | exact (b_alloc (b_alloc (b_alloc (b_alloc (B6.out) _) _) _) _) | exact b_drew (b_alloc (b_alloc (b_alloc (b_alloc (B6.out) _) _) _) _) | exact (b_alloc (b_alloc (b_alloc (b_alloc (b_alloc (B6.out) _) _) _) _) _) | exact b_drew (b_alloc (b_alloc (b_alloc (b_alloc (b_alloc (B6.out) _) _) _) _) _)) h7)
  have ra : w7.heap[w.heap.size]? = some (.cells #[.int .u64 a, .int .u64 b] 24 (0, 0)) := by first | exact blk_below (Ra.out) h7 | exact blk_below (blk_drew (Ra.out)) h7 | exact blk_below (blk_alloc (Ra.out) _) h7 | exact blk_below (blk_drew (blk_alloc (Ra.out) _)) h7 | exact blk_below (blk_alloc (blk_alloc (Ra.out) _) _) h7 | exact blk_below (blk_drew (blk_alloc (blk_alloc (Ra.out) _) _)) h7 | exact blk_below (blk_alloc (blk_alloc (blk_alloc (Ra.out) _) _) _) h7 | exact blk_below (blk_drew (blk_alloc (blk_alloc (blk_alloc (Ra.out) _) _) _)) h7 | exact blk_below (blk_alloc (blk_alloc (blk_alloc (blk_alloc (Ra.out) _) _) _) _) h7 | exact blk_below (blk_drew (blk_alloc (blk_alloc (blk_alloc (blk_alloc (Ra.out) _) _) _) _)) h7 | exact blk_below (blk_new rfl) h7 | exact blk_below (blk_drew (blk_new rfl)) h7 | exact blk_below (blk_alloc (blk_new rfl) _) h7 | exact blk_below (blk_drew (blk_alloc (blk_new rfl) _)) h7 | exact blk_below (blk_alloc (blk_alloc (blk_new rfl) _) _) h7 | exact blk_below (blk_drew (blk_alloc (blk_alloc (blk_new rfl) _) _)) h7 | exact blk_below (blk_alloc (blk_alloc (blk_alloc (blk_new rfl) _) _) _) h7 | exact blk_below (blk_drew (blk_alloc (blk_alloc (blk_alloc (blk_new rfl) _) _) _)) h7 | exact blk_below (blk_alloc (blk_alloc (blk_alloc (blk_alloc (blk_new rfl) _) _) _) _) h7 | exact blk_below (blk_drew (blk_alloc (blk_alloc (blk_alloc (blk_alloc (blk_new rfl) _) _) _) _)) h7 | exact blk_below (blk_new (by simp)) h7 | exact blk_below (blk_drew (blk_new (by simp))) h7 | exact blk_below (blk_alloc (blk_new (by simp)) _) h7 | exact blk_below (blk_drew (blk_alloc (blk_new (by simp)) _)) h7 | exact blk_below (blk_alloc (blk_alloc (blk_new (by simp)) _) _) h7 | exact blk_below (blk_drew (blk_alloc (blk_alloc (blk_new (by simp)) _) _)) h7 | exact blk_below (blk_alloc (blk_alloc (blk_alloc (blk_new (by simp)) _) _) _) h7 | exact blk_below (blk_drew (blk_alloc (blk_alloc (blk_alloc (blk_new (by simp)) _) _) _)) h7 | exact blk_below (blk_alloc (blk_alloc (blk_alloc (blk_alloc (blk_new (by simp)) _) _) _) _) h7 | exact blk_below (blk_drew (blk_alloc (blk_alloc (blk_alloc (blk_alloc (blk_new (by simp)) _) _) _) _)) h7
  have rb : w7.heap[(w.heap.size + 1)]? = some (.cells #[.int .u64 c, .int .u64 d] 24 (0, 0)) := by first | exact blk_below (Rb.out) h7 | exact blk_below (blk_drew (Rb.out)) h7 | exact blk_below (blk_alloc (Rb.out) _) h7 | exact blk_below (blk_drew (blk_alloc (Rb.out) _)) h7 | exact blk_below (blk_alloc (blk_alloc (Rb.out) _) _) h7 | exact blk_below (blk_drew (blk_alloc (blk_alloc (Rb.out) _) _)) h7 | exact blk_below (blk_alloc (blk_alloc (blk_alloc (Rb.out) _) _) _) h7 | exact blk_below (blk_drew (blk_alloc (blk_alloc (blk_alloc (Rb.out) _) _) _)) h7 | exact blk_below (blk_alloc (blk_alloc (blk_alloc (blk_alloc (Rb.out) _) _) _) _) h7 | exact blk_below (blk_drew (blk_alloc (blk_alloc (blk_alloc (blk_alloc (Rb.out) _) _) _) _)) h7 | exact blk_below (blk_new rfl) h7 | exact blk_below (blk_drew (blk_new rfl)) h7 | exact blk_below (blk_alloc (blk_new rfl) _) h7 | exact blk_below (blk_drew (blk_alloc (blk_new rfl) _)) h7 | exact blk_below (blk_alloc (blk_alloc (blk_new rfl) _) _) h7 | exact blk_below (blk_drew (blk_alloc (blk_alloc (blk_new rfl) _) _)) h7 | exact blk_below (blk_alloc (blk_alloc (blk_alloc (blk_new rfl) _) _) _) h7 | exact blk_below (blk_drew (blk_alloc (blk_alloc (blk_alloc (blk_new rfl) _) _) _)) h7 | exact blk_below (blk_alloc (blk_alloc (blk_alloc (blk_alloc (blk_new rfl) _) _) _) _) h7 | exact blk_below (blk_drew (blk_alloc (blk_alloc (blk_alloc (blk_alloc (blk_new rfl) _) _) _) _)) h7 | exact blk_below (blk_new (by simp)) h7 | exact blk_below (blk_drew (blk_new (by simp))) h7 | exact blk_below (blk_alloc (blk_new (by simp)) _) h7 | exact blk_below (blk_drew (blk_alloc (blk_new (by simp)) _)) h7 | exact blk_below (blk_alloc (blk_alloc (blk_new (by simp)) _) _) h7 | exact blk_below (blk_drew (blk_alloc (blk_alloc (blk_new (by simp)) _) _)) h7 | exact blk_below (blk_alloc (blk_alloc (blk_alloc (blk_new (by simp)) _) _) _) h7 | exact blk_below (blk_drew (blk_alloc (blk_alloc (blk_alloc (blk_new (by simp)) _) _) _)) h7 | exact blk_below (blk_alloc (blk_alloc (blk_alloc (blk_alloc (blk_new (by simp)) _) _) _) _) h7 | exact blk_below (blk_drew (blk_alloc (blk_alloc (blk_alloc (blk_alloc (blk_new (by simp)) _) _) _) _)) h7
  clear fac0 faz0 fac1 faz1 fal fbc0 fbz0 fbc1 fbz1 fbl
  clear Ra Rb
  have fac0 : w7.cell? ⟨w.heap.size, 0, none⟩ = some (.int .u64 a) := (cell_of_row _ _ _ _ _ _ ra).trans rfl
  have faz0 := frozen_of_row _ _ 0 _ _ ra
  have fac1 : w7.cell? ⟨w.heap.size, 1, none⟩ = some (.int .u64 b) := (cell_of_row _ _ _ _ _ _ ra).trans rfl
  have faz1 := frozen_of_row _ _ 1 _ _ ra
  have fal := blk_lt ra
  have Ra := Lib.hid ra
  clear ra
  have fbc0 : w7.cell? ⟨(w.heap.size + 1), 0, none⟩ = some (.int .u64 c) := (cell_of_row _ _ _ _ _ _ rb).trans rfl
  have fbz0 := frozen_of_row _ _ 0 _ _ rb
  have fbc1 : w7.cell? ⟨(w.heap.size + 1), 1, none⟩ = some (.int .u64 d) := (cell_of_row _ _ _ _ _ _ rb).trans rfl
  have fbz1 := frozen_of_row _ _ 1 _ _ rb
  have fbl := blk_lt rb
  have Rb := Lib.hid rb
  clear rb
  clear B6
  clear h7
  go_wp2_with fail
  refine (of1_any _ 1).mono ?_
  rintro e w8 ⟨rfl, h8⟩
  have B8 := Lib.hid (b_then (by first | exact (B7.out) | exact b_drew (B7.out) | exact (b_alloc (B7.out) _) | exact b_drew (b_alloc (B7.out) _) | exact (b_alloc (b_alloc (B7.out) _) _) | exact b_drew (b_alloc (b_alloc (B7.out) _) _) | exact (b_alloc (b_alloc (b_alloc (B7.out) _) _) _) | exact b_drew (b_alloc (b_alloc (b_alloc (B7.out) _) _) _) | exact (b_alloc (b_alloc (b_alloc (b_alloc (B7.out) _) _) _) _) | exact b_drew (b_alloc (b_alloc (b_alloc (b_alloc (B7.out) _) _) _) _) | exact (b_alloc (b_alloc (b_alloc (b_alloc (b_alloc (B7.out) _) _) _) _) _) | exact b_drew (b_alloc (b_alloc (b_alloc (b_alloc (b_alloc (B7.out) _) _) _) _) _)) h8)
  have ra : w8.heap[w.heap.size]? = some (.cells #[.int .u64 a, .int .u64 b] 24 (0, 0)) := by first | exact blk_below (Ra.out) h8 | exact blk_below (blk_drew (Ra.out)) h8 | exact blk_below (blk_alloc (Ra.out) _) h8 | exact blk_below (blk_drew (blk_alloc (Ra.out) _)) h8 | exact blk_below (blk_alloc (blk_alloc (Ra.out) _) _) h8 | exact blk_below (blk_drew (blk_alloc (blk_alloc (Ra.out) _) _)) h8 | exact blk_below (blk_alloc (blk_alloc (blk_alloc (Ra.out) _) _) _) h8 | exact blk_below (blk_drew (blk_alloc (blk_alloc (blk_alloc (Ra.out) _) _) _)) h8 | exact blk_below (blk_alloc (blk_alloc (blk_alloc (blk_alloc (Ra.out) _) _) _) _) h8 | exact blk_below (blk_drew (blk_alloc (blk_alloc (blk_alloc (blk_alloc (Ra.out) _) _) _) _)) h8 | exact blk_below (blk_new rfl) h8 | exact blk_below (blk_drew (blk_new rfl)) h8 | exact blk_below (blk_alloc (blk_new rfl) _) h8 | exact blk_below (blk_drew (blk_alloc (blk_new rfl) _)) h8 | exact blk_below (blk_alloc (blk_alloc (blk_new rfl) _) _) h8 | exact blk_below (blk_drew (blk_alloc (blk_alloc (blk_new rfl) _) _)) h8 | exact blk_below (blk_alloc (blk_alloc (blk_alloc (blk_new rfl) _) _) _) h8 | exact blk_below (blk_drew (blk_alloc (blk_alloc (blk_alloc (blk_new rfl) _) _) _)) h8 | exact blk_below (blk_alloc (blk_alloc (blk_alloc (blk_alloc (blk_new rfl) _) _) _) _) h8 | exact blk_below (blk_drew (blk_alloc (blk_alloc (blk_alloc (blk_alloc (blk_new rfl) _) _) _) _)) h8 | exact blk_below (blk_new (by simp)) h8 | exact blk_below (blk_drew (blk_new (by simp))) h8 | exact blk_below (blk_alloc (blk_new (by simp)) _) h8 | exact blk_below (blk_drew (blk_alloc (blk_new (by simp)) _)) h8 | exact blk_below (blk_alloc (blk_alloc (blk_new (by simp)) _) _) h8 | exact blk_below (blk_drew (blk_alloc (blk_alloc (blk_new (by simp)) _) _)) h8 | exact blk_below (blk_alloc (blk_alloc (blk_alloc (blk_new (by simp)) _) _) _) h8 | exact blk_below (blk_drew (blk_alloc (blk_alloc (blk_alloc (blk_new (by simp)) _) _) _)) h8 | exact blk_below (blk_alloc (blk_alloc (blk_alloc (blk_alloc (blk_new (by simp)) _) _) _) _) h8 | exact blk_below (blk_drew (blk_alloc (blk_alloc (blk_alloc (blk_alloc (blk_new (by simp)) _) _) _) _)) h8
  have rb : w8.heap[(w.heap.size + 1)]? = some (.cells #[.int .u64 c, .int .u64 d] 24 (0, 0)) := by first | exact blk_below (Rb.out) h8 | exact blk_below (blk_drew (Rb.out)) h8 | exact blk_below (blk_alloc (Rb.out) _) h8 | exact blk_below (blk_drew (blk_alloc (Rb.out) _)) h8 | exact blk_below (blk_alloc (blk_alloc (Rb.out) _) _) h8 | exact blk_below (blk_drew (blk_alloc (blk_alloc (Rb.out) _) _)) h8 | exact blk_below (blk_alloc (blk_alloc (blk_alloc (Rb.out) _) _) _) h8 | exact blk_below (blk_drew (blk_alloc (blk_alloc (blk_alloc (Rb.out) _) _) _)) h8 | exact blk_below (blk_alloc (blk_alloc (blk_alloc (blk_alloc (Rb.out) _) _) _) _) h8 | exact blk_below (blk_drew (blk_alloc (blk_alloc (blk_alloc (blk_alloc (Rb.out) _) _) _) _)) h8 | exact blk_below (blk_new rfl) h8 | exact blk_below (blk_drew (blk_new rfl)) h8 | exact blk_below (blk_alloc (blk_new rfl) _) h8 | exact blk_below (blk_drew (blk_alloc (blk_new rfl) _)) h8 | exact blk_below (blk_alloc (blk_alloc (blk_new rfl) _) _) h8 | exact blk_below (blk_drew (blk_alloc (blk_alloc (blk_new rfl) _) _)) h8 | exact blk_below (blk_alloc (blk_alloc (blk_alloc (blk_new rfl) _) _) _) h8 | exact blk_below (blk_drew (blk_alloc (blk_alloc (blk_alloc (blk_new rfl) _) _) _)) h8 | exact blk_below (blk_alloc (blk_alloc (blk_alloc (blk_alloc (blk_new rfl) _) _) _) _) h8 | exact blk_below (blk_drew (blk_alloc (blk_alloc (blk_alloc (blk_alloc (blk_new rfl) _) _) _) _)) h8 | exact blk_below (blk_new (by simp)) h8 | exact blk_below (blk_drew (blk_new (by simp))) h8 | exact blk_below (blk_alloc (blk_new (by simp)) _) h8 | exact blk_below (blk_drew (blk_alloc (blk_new (by simp)) _)) h8 | exact blk_below (blk_alloc (blk_alloc (blk_new (by simp)) _) _) h8 | exact blk_below (blk_drew (blk_alloc (blk_alloc (blk_new (by simp)) _) _)) h8 | exact blk_below (blk_alloc (blk_alloc (blk_alloc (blk_new (by simp)) _) _) _) h8 | exact blk_below (blk_drew (blk_alloc (blk_alloc (blk_alloc (blk_new (by simp)) _) _) _)) h8 | exact blk_below (blk_alloc (blk_alloc (blk_alloc (blk_alloc (blk_new (by simp)) _) _) _) _) h8 | exact blk_below (blk_drew (blk_alloc (blk_alloc (blk_alloc (blk_alloc (blk_new (by simp)) _) _) _) _)) h8
  clear fac0 faz0 fac1 faz1 fal fbc0 fbz0 fbc1 fbz1 fbl
  clear Ra Rb
  have fac0 : w8.cell? ⟨w.heap.size, 0, none⟩ = some (.int .u64 a) := (cell_of_row _ _ _ _ _ _ ra).trans rfl
  have faz0 := frozen_of_row _ _ 0 _ _ ra
  have fac1 : w8.cell? ⟨w.heap.size, 1, none⟩ = some (.int .u64 b) := (cell_of_row _ _ _ _ _ _ ra).trans rfl
  have faz1 := frozen_of_row _ _ 1 _ _ ra
  have fal := blk_lt ra
  have Ra := Lib.hid ra
  clear ra
  have fbc0 : w8.cell? ⟨(w.heap.size + 1), 0, none⟩ = some (.int .u64 c) := (cell_of_row _ _ _ _ _ _ rb).trans rfl
  have fbz0 := frozen_of_row _ _ 0 _ _ rb
  have fbc1 : w8.cell? ⟨(w.heap.size + 1), 1, none⟩ = some (.int .u64 d) := (cell_of_row _ _ _ _ _ _ rb).trans rfl
  have fbz1 := frozen_of_row _ _ 1 _ _ rb
  have fbl := blk_lt rb
  have Rb := Lib.hid rb
  clear rb
  clear B7
  clear h8
  unfold wv
  go_wp2_with fail
  have hqd : decide (KB ≤ K) = true := by simp; omega
  refine region_quiet (C := C7 w a b c d) (by kernel_rfl) (by kernel_rfl) ⟨⟨fac0, fac1, fbc0, fbc1⟩, fbl, b_drew B8.out⟩ ?_
  repeat
    first
      | (refine q_skip rfl ?_
         simp only [Act.put, List.setIfInBounds_toArray, List.set_cons_zero, List.set_cons_succ])
      | (refine q_step rfl ?_ (fun w' hC => ?_) ?_
         rotate_left
         · have hC' := Lib.hid hC
           obtain ⟨⟨c1, c2, c3, c4⟩, hlt, hbel⟩ := hC
           have hbel' := Lib.hid hbel
           clear hbel
           go_simp
           first
             | done
             | rfl
             | (go_at_call 16; refine (right_any _ a b n HA.out HB.out (by omega) (by omega)).mono ?_; rintro e w2 ⟨rfl, hb⟩; rw [Hz3.out]; refine ⟨?_, c7_below hb hC'.out⟩; rfl)
             | (go_at_call 21; refine (compare_any _ R S a b HR.out HS.out HA.out HB.out).mono ?_; rintro e w2 ⟨rfl, hb⟩; rw [Hz5.out]; refine ⟨?_, c7_below hb hC'.out⟩; rfl)
             | (go_at_call 22; refine (bits_any _ c d HC.out HD.out).mono ?_; rintro e w2 ⟨rfl, hb⟩; rw [HKB.out]; refine ⟨?_, c7_below hb hC'.out⟩; rfl)
         simp only [Act.put, List.setIfInBounds_toArray, List.set_cons_zero, List.set_cons_succ])
  refine wpQuiet_nil ?_
  intro w9 hC9
  have HL2 := Lib.hid hC9.2.2
  clear hC9
  go_wp2_with fail
  refine bodyPost_ret (v := .bool true) (by simp [results, Try.results7, go_sem]) rfl ⟨rfl, HL2.out⟩
theorem orders_any (w : World) (a b c d n : Int) (ha : U a) (hb : U b) (hc : U c) (hd : U d) (hn : 0 ≤ n) (hn' : n < 256) : Calls Try.prog 7 #[wv a b, wv c d, .int .u8 n] w (Ret w (.bool true)) := by
  have rA := wval_range ha hb
  have rB := wval_range hc hd
  by_cases h1 : wval a b < wval c d
  · by_cases h2 : wval a b = 0
    · exact orders_ltz w a b c d n ha hb hc hd hn hn' h1 h2
    · exact orders_ltn w a b c d n ha hb hc hd hn hn' h1 (by omega)
  · by_cases h3 : wval a b = wval c d
    · by_cases h2 : wval a b = 0
      · exact orders_eqz w a b c d n ha hb hc hd hn hn' h3 h2
      · exact orders_eqn w a b c d n ha hb hc hd hn hn' h3 (by omega)
    · exact orders_gtn w a b c d n ha hb hc hd hn hn' (by omega) (by omega)
end Go.Proofs.Ytfckignchmpeaaa.Wi
