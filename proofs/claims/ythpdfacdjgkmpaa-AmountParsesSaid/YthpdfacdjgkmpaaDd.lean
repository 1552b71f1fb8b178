/- Powers of two, numbers as digits and back, by walks. -/
import Derived.Test.YthpdfacdjgkmpaaDc
namespace Go.Proofs.Ythpdfacdjgkmpaa.Wi
open Go.RowKit K

theorem one20 : (#[.int .u64 1, .int .u64 0, .int .u64 0, .int .u64 0, .int .u64 0, .int .u64 0, .int .u64 0, .int .u64 0, .int .u64 0, .int .u64 0, .int .u64 0, .int .u64 0, .int .u64 0, .int .u64 0, .int .u64 0, .int .u64 0, .int .u64 0, .int .u64 0, .int .u64 0, .int .u64 0] : Array Value) = fc (dig 1) := rfl
theorem startN (w : World) {o : Obj} : Blk ((w.alloc o).alloc (.cells #[.int .u64 0, .int .u64 0, .int .u64 0, .int .u64 0, .int .u64 0, .int .u64 0, .int .u64 0, .int .u64 0, .int .u64 0, .int .u64 0, .int .u64 0, .int .u64 0, .int .u64 0, .int .u64 0, .int .u64 0, .int .u64 0, .int .u64 0, .int .u64 0, .int .u64 0, .int .u64 0] 41)) (w.heap.size + 1) (fun _ => 0) := by
  rw [zeros20]
  have := Blk.new (w.alloc o) (fun _ => 0)
  simp at this
  exact this
theorem startZ (w : World) : Blk (w.alloc (.cells #[.int .u64 0, .int .u64 0, .int .u64 0, .int .u64 0, .int .u64 0, .int .u64 0, .int .u64 0, .int .u64 0, .int .u64 0, .int .u64 0, .int .u64 0, .int .u64 0, .int .u64 0, .int .u64 0, .int .u64 0, .int .u64 0, .int .u64 0, .int .u64 0, .int .u64 0, .int .u64 0] 41)) w.heap.size (fun _ => 0) := by
  rw [zeros20]
  exact Blk.new w _
attribute [local irreducible] fc
set_option maxHeartbeats 1000000 in
set_option maxRecDepth 100000 in
theorem power_any (w : World) (n : Nat) (hn : n ≤ 1000) : Calls Try.prog 45 #[.int .i64 n] w (Ret w (dg (2 ^ n))) := by
  obtain ⟨Z, hZ⟩ : ∃ Z, 2 ^ n = Z := ⟨_, rfl⟩
  rw [hZ]
  have HZ := Lib.hid hZ
  clear hZ
  unfold dg
  go_enter Try.func45, Try.ntmps45
  go_wp2_with (first | (refine wpList_store_blk rfl 41 _ _ rfl (w.heap.size + 1) 41 (fc (fun _ => 0)) _ rfl rfl (startN w) (by rw [fc_size]; rfl) (by kernel_rfl) (by rw [one20]; exact fc_one _) ?_; intro w0 hw0 gw0))
  go_loopw [4] (fun i wr => ∃ k P : Nat, k ≤ n ∧ i = .int .i64 k ∧ Hid (2 ^ k = P) ∧ Hid (Blk wr w.heap.size (fun _ => 0)) ∧ Hid (Blk wr (w.heap.size + 1) (dig P)) ∧ Hid (Below w.heap.size w wr)) (fun i _ => n - (intOf i).toNat)
  case atStart => exact ⟨0, 1, by omega, rfl, Nat.pow_zero 2, ((startZ w).alloc _).grown gw0 (by simp), by rw [one20] at hw0; exact hw0, b_grown1 (b_alloc (b_alloc (Below.refl _ _) _) _) gw0 (by omega)⟩
  case round =>
    obtain ⟨k, P, hk, rfl, hP, hb0, hb1, hbel⟩ := hrel
    by_cases h : k < n
    · go_wp2_with (refine wpList_load_row rfl 41 _ rfl (w.heap.size + 1) rfl 41 _ (0, 0) _ hb1.out Try.underlying41 rfl (info27 _) ?_)
      refine (plus_any _ P P).mono ?_
      rintro e w5 ⟨rfl, hb5⟩
      have g0 := Lib.hid (hb0.out.below hb5)
      have g1 := Lib.hid (hb1.out.below hb5)
      have g2 := Lib.hid (b_then hbel.out hb5)
      clear hb0 hb1 hbel hb5
      have hP2 : Hid (2 ^ (k + 1) = P + P) := by
        have := hP.out
        show 2 ^ (k + 1) = P + P
        rw [Nat.pow_succ, this, Nat.mul_two]
      unfold dg
      go_wp2_with (first | (refine wpList_store_blk rfl 41 _ _ rfl (w.heap.size + 1) 41 (fc (dig P)) (fc (dig (P + P))) rfl rfl g1.out (by rw [fc_size, fc_size]) (info27 _) (fc_one _) ?_; intro w9 hw9 gw9))
      go_roundw
      case rel => exact ⟨k + 1, P + P, by omega, by go_num, hP2, g0.out.grown gw9 (by simp), hw9, b_grown1 g2.out gw9 (by omega)⟩
      case measure => simp [intOf]; omega
    · obtain rfl : k = n := by omega
      obtain rfl : P = Z := hP.out.symm.trans HZ.out
      go_wp2_with (first | (refine wpList_load_row rfl 41 _ rfl (w.heap.size + 1) rfl 41 _ (0, 0) _ hb1.out Try.underlying41 rfl (info27 _) ?_) | (refine wpList_store_blk rfl 41 _ _ rfl w.heap.size 41 (fc (fun _ => 0)) _ rfl rfl hb0.out (by rw [fc_size, fc_size]) (info27 _) (fc_one _) ?_; intro w9 hw9 gw9))
      refine bodyPost_ret (results_cell_row Try.results45 _ _ w.heap.size 41 (fc (dig P)) (0, 0) _ rfl hw9 Try.underlying41 rfl (info27 _)) rfl ⟨rfl, b_grown1 hbel.out gw9 (by omega)⟩


def wv (h l : Int) : Value := .agg #[.int .u64 h, .int .u64 l]
/-- Digits of both words, as many as were laid. -/
def ofD (h l i j : Nat) : Nat := if j < i then dig l j else if 4 ≤ j ∧ j < 4 + i then dig h (j - 4) else 0
theorem ofD_lo (h l i : Nat) (hi : i < 4) : ∀ j, j < 20 → (if j = i then dig l i else ofD h l i j) = if j < i + 1 then dig l j else if 4 ≤ j ∧ j < 4 + i then dig h (j - 4) else 0 := by
  intro j _
  unfold ofD
  by_cases e : j = i
  · subst e
    rw [if_pos rfl, if_pos (by omega)]
  · rw [if_neg e]
    by_cases h1 : j < i
    · rw [if_pos h1, if_pos (by omega)]
    · rw [if_neg h1, if_neg (show ¬ j < i + 1 by omega)]
theorem ofD_hi (h l i : Nat) (hi : i < 4) : ∀ j, j < 20 → (if j = 4 + i then dig h i else if j < i + 1 then dig l j else if 4 ≤ j ∧ j < 4 + i then dig h (j - 4) else 0) = ofD h l (i + 1) j := by
  intro j _
  unfold ofD
  by_cases e : j = 4 + i
  · subst e
    rw [if_pos rfl, if_neg (by omega), if_pos (by omega), Nat.add_sub_cancel_left]
  · rw [if_neg e]
    by_cases h1 : j < i + 1
    · rw [if_pos h1, if_pos h1]
    · rw [if_neg h1, if_neg h1]
      by_cases h2 : 4 ≤ j ∧ j < 4 + i
      · rw [if_pos h2, if_pos (by omega)]
      · rw [if_neg h2, if_neg (by omega)]
theorem ofD_all {h l : Nat} (hh : h < 65536 ^ 4) (hl : l < 65536 ^ 4) : ∀ j, j < 20 → ofD h l 4 j = dig (h * 65536 ^ 4 + l) j := by
  intro j _
  unfold ofD
  by_cases h1 : j < 4
  · rw [if_pos h1]
    unfold dig
    obtain ⟨d, hd⟩ : ∃ d, 4 = j + 1 + d := ⟨4 - j - 1, by omega⟩
    rw [hd, show h * 65536 ^ (j + 1 + d) + l = l + (h * 65536 ^ d * 65536) * 65536 ^ j by rw [Nat.pow_add, pow_step, Nat.add_comm]; simp only [Nat.mul_assoc, Nat.mul_left_comm, Nat.mul_comm], Nat.add_mul_div_right _ _ (pow_pos j), Nat.add_mul_mod_self_right]
  · rw [if_neg h1]
    have e : dig (h * 65536 ^ 4 + l) j = dig h (j - 4) := by
      unfold dig
      obtain ⟨d, rfl⟩ : ∃ d, j = 4 + d := ⟨j - 4, by omega⟩
      rw [Nat.add_sub_cancel_left, Nat.pow_add, ← Nat.div_div_eq_div_mul, Nat.add_comm, Nat.add_mul_div_right _ _ (pow_pos 4), Nat.div_eq_of_lt hl, Nat.zero_add]
    rw [e]
    by_cases h2 : 4 ≤ j ∧ j < 4 + 4
    · rw [if_pos h2]
    · rw [if_neg h2, dig_small (Nat.lt_of_lt_of_le hh (Nat.pow_le_pow_right (by omega) (by omega)))]
theorem of_step (h k : Nat) (hh : h < 65536 ^ 4) : ∃ x : Int, ((h / 65536 ^ k : Nat) : Int) = x ∧ 0 ≤ x ∧ x < 18446744073709551616 ∧ x % 65536 = ((dig h k : Nat) : Int) ∧ x / 65536 = ((h / 65536 ^ (k + 1) : Nat) : Int) := by
  have e0 : h / 65536 ^ k / 65536 = h / 65536 ^ (k + 1) := by rw [Nat.div_div_eq_div_mul, pow_step]
  have d0 : dig h k = h / 65536 ^ k % 65536 := rfl
  have hx : h / 65536 ^ k < 18446744073709551616 := Nat.lt_of_le_of_lt (Nat.div_le_self _ _) hh
  rw [d0, ← e0]
  generalize h / 65536 ^ k = A at *
  exact ⟨_, rfl, by omega, by omega, by omega, by omega⟩
theorem blk24 (w : World) (a b : Value) {o o' : Obj} : (((w.alloc (.cells #[a, b] 25)).alloc o).alloc o').heap[w.heap.size]? = some (.cells #[a, b] 25 (0, 0)) := blk_alloc (blk_alloc (heap_alloc_new w _) _) _
set_option maxHeartbeats 2000000 in
set_option maxRecDepth 100000 in
theorem of_any (w : World) (h l : Nat) (hh : h < 65536 ^ 4) (hl : l < 65536 ^ 4) : Calls Try.prog 20 #[wv h l] w (Ret w (dg (h * 65536 ^ 4 + l))) := by
  have HH := Lib.hid hh
  have HL := Lib.hid hl
  clear hh hl
  unfold dg wv
  go_enter Try.func20, Try.ntmps20
  go_wp2
  go_loopw [4] (fun i wr => ∃ k : Nat, k ≤ 4 ∧ i = .int .i64 k ∧ Hid (wr.heap[w.heap.size]? = some (.cells #[.int .u64 ((h / 65536 ^ k : Nat) : Int), .int .u64 ((l / 65536 ^ k : Nat) : Int)] 25 (0, 0))) ∧ Hid (Blk wr (w.heap.size + 1) (fun _ => 0)) ∧ Hid (Blk wr (w.heap.size + 1 + 1) (ofD h l k)) ∧ Hid (Below w.heap.size w wr)) (fun i _ => 4 - (intOf i).toNat)
  case atStart => exact ⟨0, by omega, rfl, by rw [Nat.pow_zero, Nat.div_one, Nat.div_one]; exact blk24 w _ _, startZ1 w, startZ2 w (fun i hi => by unfold ofD; rw [if_neg (by omega), if_neg (by omega)]), b_alloc (b_alloc (b_alloc (Below.refl _ _) _) _) _⟩
  case round =>
    obtain ⟨k, hk, rfl, ha, hb1, hb2, hbel⟩ := hrel
    by_cases h4 : k < 4
    · have ca0 : wr.cell? ⟨w.heap.size, 0, none⟩ = some (.int .u64 ((h / 65536 ^ k : Nat) : Int)) := (cell_of_row _ _ _ _ _ _ ha.out).trans rfl
      have ca1 : wr.cell? ⟨w.heap.size, 1, none⟩ = some (.int .u64 ((l / 65536 ^ k : Nat) : Int)) := (cell_of_row _ _ _ _ _ _ ha.out).trans rfl
      have fa0 := frozen_of_row _ _ 0 _ _ ha.out
      have fa1 := frozen_of_row _ _ 1 _ _ ha.out
      have cd0 := hb2.out.cell (show k < 20 by omega)
      have cd1 := hb2.out.cell (show 4 + k < 20 by omega)
      have fd0 := hb2.out.free k
      have fd1 := hb2.out.free (4 + k)
      have la := blk_lt ha.out
      have lb := hb2.out.lt
      have hk1 : (0 : Int) ≤ (k : Int) := by omega
      have hk2 : (k : Int) < 4 := by omega
      have hs3 : ((4 : Int) + k) < 20 := by omega
      have hs4 : ((4 : Int) + k).toNat = 4 + k := by omega
      obtain ⟨x, hX, x0, x1, Xa, Xb⟩ := of_step h k HH.out
      obtain ⟨y, hY, y0, y1, Ya, Yb⟩ := of_step l k HL.out
      have X1 := Lib.hid Xa
      have X2 := Lib.hid Xb
      have Y1 := Lib.hid Ya
      have Y2 := Lib.hid Yb
      rw [hX] at ca0
      rw [hY] at ca1
      clear hX hY Xa Xb Ya Yb
      go_wp2_with fail
      rw [X1.out, X2.out, Y1.out, Y2.out]
      go_roundw
      case rel => exact ⟨k + 1, by omega, by go_num, ofA ha.out, ofB hb1.out, ((hb2.out.set _ (show k < 20 by omega)).congr (ofD_lo h l k h4) |>.set _ (show 4 + k < 20 by omega) |>.congr (ofD_hi h l k h4) |>.far (show w.heap.size + 1 + 1 ≠ w.heap.size by omega) _ |>.far (show w.heap.size + 1 + 1 ≠ w.heap.size by omega) _), b_set (b_set (b_set (b_set hbel.out (show w.heap.size ≤ w.heap.size + 1 + 1 by omega) _) (show w.heap.size ≤ w.heap.size + 1 + 1 by omega) _) (Nat.le_refl _) _) (Nat.le_refl _) _⟩
      case measure => simp [intOf]; omega
    · obtain rfl : k = 4 := by omega
      go_wp2_with (first | (refine wpList_load_row rfl 41 _ rfl (w.heap.size + 1 + 1) rfl 41 _ (0, 0) _ hb2.out Try.underlying41 rfl (info27 _) ?_) | (refine wpList_store_blk rfl 41 _ _ rfl (w.heap.size + 1) 41 (fc (fun _ => 0)) _ rfl rfl hb1.out (by rw [fc_size, fc_size]) (info27 _) (fc_one _) ?_; intro w9 hw9 gw9))
      refine bodyPost_ret (results_cell_row Try.results20 _ _ (w.heap.size + 1) 41 (fc (dig (h * 65536 ^ 4 + l))) (0, 0) _ rfl (Blk.congr hw9 (ofD_all HH.out HL.out)) Try.underlying41 rfl (info27 _)) rfl ⟨rfl, b_grown1 hbel.out gw9 (by omega)⟩

end Go.Proofs.Ythpdfacdjgkmpaa.Wi
