/- Digits as a wide number, and digits by digits, by walks. -/
import Derived.Test.YthpdfacdjgkmpaaDd
namespace Go.Proofs.Ythpdfacdjgkmpaa.Wi
open Go.RowKit K

theorem dig_eq (N k : Nat) : dig N k = N % 65536 ^ (k + 1) / 65536 ^ k := by
  rw [mod_step, Nat.add_mul_div_right _ _ (pow_pos k), Nat.div_eq_of_lt (Nat.mod_lt _ (pow_pos k)), Nat.zero_add]
theorem dig_mod {N k n : Nat} (h : k < n) : dig (N % 65536 ^ n) k = dig N k := by
  rw [dig_eq, dig_eq, Nat.mod_mod_of_dvd _ (Nat.pow_dvd_pow 65536 (by omega))]
theorem hi_step (X k : Nat) (h : k < 4) : X % 65536 ^ 4 / 65536 ^ k = X % 65536 ^ 4 / 65536 ^ (k + 1) * 65536 + dig X k := by
  rw [← dig_mod h]
  generalize X % 65536 ^ 4 = Y
  have e : Y / 65536 ^ k / 65536 = Y / 65536 ^ (k + 1) := by rw [Nat.div_div_eq_div_mul, pow_step]
  rw [← e]
  unfold dig
  omega
theorem dig_up (X k : Nat) : dig X (4 + k) = dig (X / 65536 ^ 4) k := by
  unfold dig
  rw [Nat.pow_add, ← Nat.div_div_eq_div_mul]
theorem wide_step (X k : Nat) (h : k < 4) : ∃ x y d : Int, ((X % 65536 ^ 4 / 65536 ^ (k + 1) : Nat) : Int) = x ∧ ((dig X k : Nat) : Int) = d ∧ 0 ≤ x ∧ x < 281474976710656 ∧ 0 ≤ d ∧ d < 65536 ∧ x * 65536 + d = y ∧ ((X % 65536 ^ 4 / 65536 ^ k : Nat) : Int) = y := by
  have e := hi_step X k h
  have hd := dig_lt X k
  have hx : X % 65536 ^ 4 / 65536 ^ (k + 1) < 281474976710656 := by
    rw [Nat.div_lt_iff_lt_mul (pow_pos _)]
    have := Nat.mod_lt X (pow_pos 4)
    have h1 : 65536 ^ 1 ≤ 65536 ^ (k + 1) := Nat.pow_le_pow_right (by omega) (by omega)
    have h2 : 281474976710656 * 65536 ^ 1 ≤ 281474976710656 * 65536 ^ (k + 1) := Nat.mul_le_mul_left _ h1
    omega
  rw [e]
  generalize X % 65536 ^ 4 / 65536 ^ (k + 1) = A at *
  exact ⟨_, _, _, rfl, rfl, by omega, by omega, by omega, by omega, rfl, by omega⟩
theorem high_zero {X : Nat} (hX : X < 65536 ^ 20) : (∀ j, 8 ≤ j → j < 20 → dig X j = 0) ↔ X < 65536 ^ 8 := by
  constructor
  · intro h
    have key : ∀ n, n ≤ 12 → X % 65536 ^ (8 + n) = X % 65536 ^ 8 := by
      intro n
      induction n with
      | zero => intro _; rfl
      | succ n ih =>
        intro hn
        rw [← Nat.add_assoc, mod_step, h (8 + n) (by omega) (by omega), Nat.zero_mul, Nat.add_zero]
        exact ih (by omega)
    have := key 12 (by omega)
    rw [Nat.mod_eq_of_lt hX] at this
    rw [this]
    exact Nat.mod_lt _ (pow_pos 8)
  · intro h j h8 _
    exact dig_small (Nat.lt_of_lt_of_le h (Nat.pow_le_pow_right (by omega) h8))
/-- What digits are as a wide number. -/
def wideV (X : Nat) : Value := if X < 65536 ^ 8 then .tuple #[wv ((X / 65536 ^ 4 % 65536 ^ 4 : Nat) : Int) ((X % 65536 ^ 4 : Nat) : Int), .bool true] else .tuple #[wv 0 0, .bool false]
theorem wblk (w : World) {a b : Value} {o o' : Obj} : (((w.alloc o).alloc o').alloc (.cells #[a, b] 25)).heap[w.heap.size + 1 + 1]? = some (.cells #[a, b] 25 (0, 0)) := blk_new (by simp)
theorem rblk (w : World) {a b : Value} {o o' : Obj} : (((w.alloc o).alloc (.cells #[a, b] 25)).alloc o').heap[w.heap.size + 1]? = some (.cells #[a, b] 25 (0, 0)) := blk_alloc (blk_new (by simp)) _
theorem set24_1 {w : World} {g : Nat} {a b x : Value} (h : w.heap[g]? = some (.cells #[a, b] 25 (0, 0))) : (w.setCell ⟨g, 1, none⟩ x).heap[g]? = some (.cells #[a, x] 25 (0, 0)) := by
  rw [heap_setCell_same _ _ _ _ _ _ h]; rfl
theorem set24_0 {w : World} {g : Nat} {a b x : Value} (h : w.heap[g]? = some (.cells #[a, b] 25 (0, 0))) : (w.setCell ⟨g, 0, none⟩ x).heap[g]? = some (.cells #[x, b] 25 (0, 0)) := by
  rw [heap_setCell_same _ _ _ _ _ _ h]; rfl
attribute [local irreducible] fc
set_option maxHeartbeats 2000000 in
set_option maxRecDepth 100000 in
theorem wide_any (w : World) (X : Nat) (hX : X < 65536 ^ 20) : Calls Try.prog 22 #[dg X] w (Ret w (wideV X)) := by
  have HX := Lib.hid hX
  clear hX
  obtain ⟨V, hV⟩ : ∃ V, wideV X = V := ⟨_, rfl⟩
  rw [hV]
  have HV := Lib.hid hV
  clear hV
  unfold dg
  go_enter Try.func22, Try.ntmps22
  go_wp2
  go_loopw [5] (fun i wr => ∃ k : Nat, k ≤ 4 ∧ i = .int .i64 ((k : Int) - 1) ∧ Hid (Blk wr w.heap.size (dig X)) ∧ Hid (∃ a b : Int, wr.heap[w.heap.size + 1]? = some (.cells #[.int .u64 a, .int .u64 b] 25 (0, 0))) ∧ Hid (wr.heap[w.heap.size + 1 + 1]? = some (.cells #[.int .u64 ((X / 65536 ^ 4 % 65536 ^ 4 / 65536 ^ k : Nat) : Int), .int .u64 ((X % 65536 ^ 4 / 65536 ^ k : Nat) : Int)] 25 (0, 0))) ∧ Hid (Below w.heap.size w wr)) (fun i _ => (intOf i + 1).toNat)
  case atStart =>
    refine ⟨4, by omega, rfl, ((Blk.new w _).alloc _).alloc _, ⟨0, 0, rblk w⟩, ?_, b_alloc (b_alloc (b_alloc (Below.refl _ _) _) _) _⟩
    rw [Nat.div_eq_of_lt (Nat.mod_lt _ (pow_pos 4)), Nat.div_eq_of_lt (Nat.mod_lt _ (pow_pos 4))]
    exact wblk w
  case round =>
    obtain ⟨k, hk, rfl, hb0, hr, ha, hbel⟩ := hrel
    by_cases h : 0 < k
    · obtain ⟨m, rfl⟩ : ∃ m, k = m + 1 := ⟨k - 1, by omega⟩
      have em : (((m + 1 : Nat) : Int) - 1) = (m : Int) := by omega
      rw [em]
      clear em
      have h20 : m < 4 := by omega
      have ca0 : wr.cell? ⟨w.heap.size + 1 + 1, 0, none⟩ = some (.int .u64 ((X / 65536 ^ 4 % 65536 ^ 4 / 65536 ^ (m + 1) : Nat) : Int)) := (cell_of_row _ _ _ _ _ _ ha.out).trans rfl
      have ca1 : wr.cell? ⟨w.heap.size + 1 + 1, 1, none⟩ = some (.int .u64 ((X % 65536 ^ 4 / 65536 ^ (m + 1) : Nat) : Int)) := (cell_of_row _ _ _ _ _ _ ha.out).trans rfl
      have fa0 := frozen_of_row _ _ 0 _ _ ha.out
      have fa1 := frozen_of_row _ _ 1 _ _ ha.out
      have c0 := hb0.out.cell (show m < 20 by omega)
      have c1 := hb0.out.cell (show 4 + m < 20 by omega)
      have l0 := hb0.out.lt
      have la := blk_lt ha.out
      rw [dig_up] at c1
      obtain ⟨x, y, d, hx, hd, x0, x1, d0, d1, hxy, hy⟩ := wide_step X m h20
      obtain ⟨x', y', d', hx', hd', x0', x1', d0', d1', hxy', hy'⟩ := wide_step (X / 65536 ^ 4) m h20
      rw [hx] at ca1
      rw [hx'] at ca0
      rw [hd] at c0
      rw [hd'] at c1
      have HY := Lib.hid hy
      have HY' := Lib.hid hy'
      clear hx hx' hd hd' hy hy'
      have hk1 : (0 : Int) ≤ (m : Int) := by omega
      have hk2 : (m : Int) < 4 := by omega
      have hs3 : ((4 : Int) + m) < 20 := by omega
      have hs4 : ((4 : Int) + m).toNat = 4 + m := by omega
      have w1 : IntKind.u64.wrap (x * 65536) = x * 65536 := wu_small (by omega) (by omega)
      have w2 : IntKind.u64.wrap (x * 65536 + d) = x * 65536 + d := wu_small (by omega) (by omega)
      have w3 : IntKind.u64.wrap (x' * 65536) = x' * 65536 := wu_small (by omega) (by omega)
      have w4 : IntKind.u64.wrap (x' * 65536 + d') = x' * 65536 + d' := wu_small (by omega) (by omega)
      go_wp2_with fail
      go_region
      go_wp2_with fail
      go_region
      go_wp2_with fail
      rw [← HY.out, ← HY'.out]
      go_roundw
      case rel => exact ⟨m, by omega, rfl, (hb0.out.far (show w.heap.size ≠ w.heap.size + 1 + 1 by omega) _ |>.far (show w.heap.size ≠ w.heap.size + 1 + 1 by omega) _), (by
        obtain ⟨a, b, hab⟩ := hr.out
        exact ⟨a, b, blk_far (blk_far hab (show w.heap.size + 1 ≠ w.heap.size + 1 + 1 by omega) _) (show w.heap.size + 1 ≠ w.heap.size + 1 + 1 by omega) _⟩), set24_0 (set24_1 ha.out), b_drew (b_drew (b_set (b_set hbel.out (show w.heap.size ≤ w.heap.size + 1 + 1 by omega) _) (show w.heap.size ≤ w.heap.size + 1 + 1 by omega) _))⟩
      case measure => simp [intOf]
    · obtain rfl : k = 0 := by omega
      obtain ⟨ra, rb, hrb⟩ := hr.out
      have HRB := Lib.hid hrb
      clear hr hrb
      obtain ⟨wo, rfl⟩ : ∃ wo : World, wo = wr := ⟨_, rfl⟩
      rw [Nat.pow_zero, Nat.div_one, Nat.div_one] at ha
      go_wp2_with fail
      go_loopw [6] (fun i wr => ∃ j : Nat, 8 ≤ j ∧ j ≤ 20 ∧ i = .int .i64 j ∧ Hid (wo = wr) ∧ Hid (∀ q, 8 ≤ q → q < j → dig X q = 0)) (fun i _ => 20 - (intOf i).toNat)
      case atStart => exact ⟨8, by omega, by omega, rfl, rfl, fun q h1 h2 => absurd h1 (by omega)⟩
      case round =>
        obtain ⟨j, hj8, hj20, rfl, hwo, hz⟩ := hrel
        obtain rfl := hwo.out
        clear hwo
        have r0 : wo.cell? ⟨w.heap.size + 1, 0, none⟩ = some (.int .u64 ra) := (cell_of_row _ _ _ _ _ _ HRB.out).trans rfl
        have r1 : wo.cell? ⟨w.heap.size + 1, 1, none⟩ = some (.int .u64 rb) := (cell_of_row _ _ _ _ _ _ HRB.out).trans rfl
        have f0 := frozen_of_row _ _ 0 _ _ HRB.out
        have f1 := frozen_of_row _ _ 1 _ _ HRB.out
        have lr := blk_lt HRB.out
        by_cases hj : j < 20
        · have c0 := hb0.out.cell hj
          have hk1 : (0 : Int) ≤ (j : Int) := by omega
          have hk2 : (j : Int) < 20 := by omega
          by_cases hd : dig X j = 0
          · rw [hd] at c0
            have HD := Lib.hid hd
            clear hd
            go_wp2_with fail
            go_roundw
            case rel => exact ⟨j + 1, by omega, by omega, by go_num, (show True from trivial), fun q h1 h2 => by
              by_cases e : q = j
              · rw [e]; exact HD.out
              · exact hz.out q h1 (by omega)⟩
            case measure => simp [intOf]; omega
          · have hne : (((dig X j : Nat) : Int) != 0) = true := by simpa using hd
            have hres : wideV X = .tuple #[wv 0 0, .bool false] := by
              unfold wideV
              rw [if_neg]
              intro hlt
              exact hd ((high_zero HX.out).2 hlt j hj8 hj)
            have HRES := Lib.hid (HV.out.symm.trans hres)
            clear hres hd
            go_wp2_with fail
            exact bodyPost_ret (v := .tuple #[.agg #[.int .u64 0, .int .u64 0], .bool false]) (by simp [results, Try.results22, go_sem, r0, r1]) rfl ⟨congrArg Ending.returned HRES.out.symm, b_set (b_set hbel.out (show w.heap.size ≤ w.heap.size + 1 by omega) _) (show w.heap.size ≤ w.heap.size + 1 by omega) _⟩
        · obtain rfl : j = 20 := by omega
          have hres : wideV X = .tuple #[wv ((X / 65536 ^ 4 % 65536 ^ 4 : Nat) : Int) ((X % 65536 ^ 4 : Nat) : Int), .bool true] := by
            unfold wideV
            rw [if_pos ((high_zero HX.out).1 hz.out)]
          have hres := HV.out.symm.trans hres
          have ca0 : wo.cell? ⟨w.heap.size + 1 + 1, 0, none⟩ = some (.int .u64 ((X / 65536 ^ 4 % 65536 ^ 4 : Nat) : Int)) := (cell_of_row _ _ _ _ _ _ ha.out).trans rfl
          have ca1 : wo.cell? ⟨w.heap.size + 1 + 1, 1, none⟩ = some (.int .u64 ((X % 65536 ^ 4 : Nat) : Int)) := (cell_of_row _ _ _ _ _ _ ha.out).trans rfl
          clear ha
          generalize ((X / 65536 ^ 4 % 65536 ^ 4 : Nat) : Int) = A at *
          generalize ((X % 65536 ^ 4 : Nat) : Int) = B at *
          have HRES := Lib.hid hres
          clear hres
          go_wp2_with fail
          exact bodyPost_ret (v := .tuple #[.agg #[.int .u64 A, .int .u64 B], .bool true]) (by simp [results, Try.results22, go_sem, r0, r1]) rfl ⟨congrArg Ending.returned HRES.out.symm, b_set (b_set hbel.out (show w.heap.size ≤ w.heap.size + 1 by omega) _) (show w.heap.size ≤ w.heap.size + 1 by omega) _⟩
end Go.Proofs.Ythpdfacdjgkmpaa.Wi
