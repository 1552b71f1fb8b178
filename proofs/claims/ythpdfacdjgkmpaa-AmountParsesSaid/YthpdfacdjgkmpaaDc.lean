/- Products, powers, order of the reference's digits; numbers as digits and back: by walks. -/
import Derived.Test.YthpdfacdjgkmpaaDb
namespace Go.Proofs.Ythpdfacdjgkmpaa.Wi
open Go.RowKit K
attribute [local irreducible] fc
set_option maxHeartbeats 1000000 in
set_option maxRecDepth 100000 in
theorem less_any (w : World) (N M : Nat) (hN : N < 65536 ^ 20) (hM : M < 65536 ^ 20) : Calls Try.prog 40 #[dg N, dg M] w (Ret w (.bool (decide (N < M)))) := by
  have HN := Lib.hid hN
  have HM := Lib.hid hM
  clear hN hM
  obtain ⟨r, hr⟩ : ∃ r, decide (N < M) = r := ⟨_, rfl⟩
  rw [hr]
  have HR := Lib.hid hr
  clear hr
  unfold dg
  go_enter Try.func40, Try.ntmps40
  go_wp2
  go_loopw [5] (fun i wr => ∃ k : Nat, k ≤ 20 ∧ i = .int .i64 ((k : Int) - 1) ∧ Hid (∀ j, k ≤ j → j < 20 → dig N j = dig M j) ∧ Hid (Blk wr w.heap.size (dig N)) ∧ Hid (Blk wr (w.heap.size + 1) (dig M)) ∧ Hid (Below w.heap.size w wr)) (fun i _ => (intOf i + 1).toNat)
  case atStart => exact ⟨20, by omega, rfl, fun j h1 h2 => absurd h1 (by omega), (Blk.new w (dig N)).alloc _, start1b w (dig N) (dig M), b_alloc (b_alloc (Below.refl _ _) _) _⟩
  case round =>
    obtain ⟨k, hk, rfl, heq, hb0, hb1, hbel⟩ := hrel
    by_cases h : 0 < k
    · obtain ⟨m, rfl⟩ : ∃ m, k = m + 1 := ⟨k - 1, by omega⟩
      have em : (((m + 1 : Nat) : Int) - 1) = (m : Int) := by omega
      rw [em]
      clear em
      have h20 : m < 20 := by omega
      have c0 := hb0.out.cell h20
      have c1 := hb1.out.cell h20
      have l0 := hb0.out.lt
      have l1 := hb1.out.lt
      have b0 := dig_lt N m
      have b1 := dig_lt M m
      have hk1 : (0 : Int) ≤ (m : Int) := by omega
      have hk2 : (m : Int) < 20 := by omega
      obtain ⟨a, hA, a0, a1⟩ : ∃ a : Int, ((dig N m : Nat) : Int) = a ∧ 0 ≤ a ∧ a < 65536 := ⟨_, rfl, by omega, by omega⟩
      obtain ⟨b, hB, b0, b1⟩ : ∃ b : Int, ((dig M m : Nat) : Int) = b ∧ 0 ≤ b ∧ b < 65536 := ⟨_, rfl, by omega, by omega⟩
      rw [hA] at c0
      rw [hB] at c1
      have EA := Lib.hid hA
      have EB := Lib.hid hB
      clear hA hB
      by_cases e : a = b
      · subst e
        have hne : (a != a) = false := by simp
        go_wp2_with fail
        go_quiet (fail)
        go_wp2_with fail
        go_roundw
        case rel => exact ⟨m, by omega, rfl, fun j h1 h2 => by
          by_cases hj : j = m
          · subst hj
            have e1 := EA.out
            have e2 := EB.out
            omega
          · exact heq.out j (by omega) h2, hb0.out.drewN _, hb1.out.drewN _, b_drewN hbel.out _⟩
        case measure => simp [intOf]
      · have hne : (a != b) = true := by simpa using e
        have hres : decide (a < b) = r := by
          rw [← HR.out]
          have ea := EA.out
          have eb := EB.out
          have hN := Nat.mod_eq_of_lt HN.out
          have hM := Nat.mod_eq_of_lt HM.out
          by_cases hab : a < b
          · have := mod_lt_of h20 (fun j h1 h2 => heq.out j (by omega) h2) (show dig N m < dig M m by omega)
            rw [hN, hM] at this
            simp [hab, this]
          · have := mod_lt_of h20 (fun j h1 h2 => (heq.out j (by omega) h2).symm) (show dig M m < dig N m by omega)
            rw [hN, hM] at this
            have h3 : ¬ N < M := by omega
            simp [hab, h3]
        have HRES := Lib.hid hres
        clear hres
        clear e
        go_wp2_with fail
        go_quiet (fail)
        go_wp2_with fail
        go_quiet (fail)
        go_wp2_with fail
        go_ret
        exact ⟨congrArg (fun x => Ending.returned (Value.bool x)) HRES.out, b_drewN (b_drewN hbel.out _) _⟩
    · obtain rfl : k = 0 := by omega
      have hres : false = r := by
        rw [← HR.out]
        have hN := Nat.mod_eq_of_lt HN.out
        have hM := Nat.mod_eq_of_lt HM.out
        have := mod_eq_of (N := N) (M := M) (i := 20) (fun j hj => heq.out j (by omega) hj)
        rw [hN, hM] at this
        have h3 : ¬ N < M := by omega
        simp [h3]
      have HRES := Lib.hid hres
      clear hres
      go_wp2_with fail
      go_ret
      exact ⟨congrArg (fun x => Ending.returned (Value.bool x)) HRES.out, hbel.out⟩
set_option maxHeartbeats 4000000 in
set_option maxRecDepth 100000 in
theorem times_any (w : World) (N M : Nat) (hN : N < 65536 ^ 8) (hM : M < 65536 ^ 8) : Calls Try.prog 21 #[dg N, dg M] w (Ret w (dg (N * M))) := by
  have HN := Lib.hid hN
  have HM := Lib.hid hM
  clear hN hM
  unfold dg
  go_enter Try.func21, Try.ntmps21
  go_wp2
  go_loopw [6] (fun i wr => ∃ q : Nat, q ≤ 8 ∧ i = .int .i64 q ∧ Hid (Blk wr w.heap.size (dig N)) ∧ Hid (Blk wr (w.heap.size + 1) (dig M)) ∧ Hid (Blk wr (w.heap.size + 1 + 1) (fun _ => 0)) ∧ Hid (Blk wr (w.heap.size + 1 + 1 + 1) (dig (row N M q))) ∧ Hid (Below w.heap.size w wr)) (fun i _ => 8 - (intOf i).toNat)
  case atStart => exact ⟨0, by omega, rfl, (start0 w (dig N) (dig M)).alloc _, (start1 w (dig N) (dig M)).alloc _, (start2 w (dig N) (dig M)).alloc _, start3 w (dig N) (dig M) (row_zero N M), b_alloc (b_alloc (b_alloc (b_alloc (Below.refl _ _) _) _) _) _⟩
  case round =>
    obtain ⟨q, hq, rfl, hb0, hb1, hb2, hb3, hbel⟩ := hrel
    obtain ⟨wo, rfl⟩ : ∃ wo : World, wo = wr := ⟨_, rfl⟩
    by_cases h8 : q < 8
    · go_wp2_with fail
      go_loopw [7, 8] (fun c k wr => ∃ j : Nat, j ≤ 12 ∧ k = .int .i64 j ∧ c = .int .u64 (tcar N M q j) ∧ Hid (Blk wr w.heap.size (dig N)) ∧ Hid (Blk wr (w.heap.size + 1) (dig M)) ∧ Hid (Blk wr (w.heap.size + 1 + 1) (fun _ => 0)) ∧ Hid (Blk wr (w.heap.size + 1 + 1 + 1) (fun x => if x < q + j then dig (row N M (q + 1)) x else dig (row N M q) x)) ∧ Hid (Below w.heap.size w wr)) (fun _ k _ => 12 - (intOf k).toNat)
      case atStart => exact ⟨0, by omega, rfl, by rw [tcar_zero]; rfl, hb0, hb1, hb2, hb3.out.congr (row_start N M q), hbel⟩
      case round =>
        obtain ⟨j, hj, rfl, rfl, gb0, gb1, gb2, gb3, gbel⟩ := hrel
        clear hb0 hb1 hb2 hb3 hbel
        by_cases h12 : j < 12
        · have hqj : q + j < 20 := by omega
          have c3 := gb3.out.cell hqj
          rw [if_neg (by omega)] at c3
          have z3 := gb3.out.free (q + j)
          have l0 := gb0.out.lt
          have l1 := gb1.out.lt
          have l3 := gb3.out.lt
          have t0 := dig_lt (row N M q) (q + j)
          have t1 := tcar_le N M q j
          have ts := tcar_sum N M q j
          have hk1 : (0 : Int) ≤ (j : Int) := by omega
          have hk2 : (j : Int) < 12 := by omega
          have hq0 : (0 : Int) ≤ (q : Int) := by omega
          have hq1 : (q : Int) < 8 := by omega
          have hs1 : ((q : Int) + j) = ((q + j : Nat) : Int) := by omega
          have hs2 : ((q : Int) + j) < 20 := by omega
          have hs3 : (0 : Int) ≤ ((q : Int) + j) := by omega
          have hs4 : ((q : Int) + j).toNat = q + j := by omega
          clear hs1
          obtain ⟨a, hA, a0, a1⟩ : ∃ a : Int, ((dig (row N M q) (q + j) : Nat) : Int) = a ∧ 0 ≤ a ∧ a < 65536 := ⟨_, rfl, by omega, by omega⟩
          obtain ⟨c, hC, c0', c1'⟩ : ∃ c : Int, ((tcar N M q j : Nat) : Int) = c ∧ 0 ≤ c ∧ c ≤ 65536 := ⟨_, rfl, by omega, by omega⟩
          rw [hA] at c3
          by_cases h8j : j < 8
          · have c0 := gb0.out.cell (show q < 20 by omega)
            have c1 := gb1.out.cell (show j < 20 by omega)
            have d0 := dig_lt N q
            have d1 := dig_lt M j
            have dp : dig N q * dig M j ≤ 65535 * 65535 := Nat.mul_le_mul (by omega) (by omega)
            obtain ⟨x, hX, x0, x1⟩ : ∃ x : Int, ((dig N q : Nat) : Int) = x ∧ 0 ≤ x ∧ x < 65536 := ⟨_, rfl, by omega, by omega⟩
            obtain ⟨y, hY, y0, y1⟩ : ∃ y : Int, ((dig M j : Nat) : Int) = y ∧ 0 ≤ y ∧ y < 65536 := ⟨_, rfl, by omega, by omega⟩
            have hXY : ((dig N q * dig M j : Nat) : Int) = x * y := by rw [← hX, ← hY]; push_cast; rfl
            obtain ⟨m, hm, m0, m1⟩ : ∃ m : Int, x * y = m ∧ 0 ≤ m ∧ m ≤ 4294836225 := ⟨_, rfl, by omega, by omega⟩
            rw [hm] at hXY
            have E1 := Lib.hid (show (a + c + m) % 65536 = ((dig (row N M (q + 1)) (q + j) : Nat) : Int) by omega)
            have E2 := Lib.hid (show (a + c + m) / 65536 = ((tcar N M q (j + 1) : Nat) : Int) by omega)
            rw [hX] at c0
            rw [hY] at c1
            rw [hC]
            clear hA hC hX hY hXY ts dp
            have w1 : IntKind.u64.wrap (a + c) = a + c := wu_small (by omega) (by omega)
            have w2 : IntKind.u64.wrap m = m := wu_small (by omega) (by omega)
            have w3 : IntKind.u64.wrap (a + c + m) = a + c + m := wu_small (by omega) (by omega)
            go_wp2_with fail
            go_quiet (fail)
            have q0 := Lib.hid (gb0.out.drewN nq)
            have q1 := Lib.hid (gb1.out.drewN nq)
            have q2 := Lib.hid (gb2.out.drewN nq)
            have q3 := Lib.hid (gb3.out.drewN nq)
            have q4 := Lib.hid (b_drewN gbel.out nq)
            clear gb0 gb1 gb2 gb3 gbel c0 c1 c3 z3 l0 l1 l3 w1 w2 w3
            generalize wr.drewN nq = wq at *
            have c3 := q3.out.cell hqj
            have z3 := q3.out.free (q + j)
            go_wp2_with fail
            rw [E1.out, E2.out]
            go_roundw
            case rel => exact ⟨j + 1, by omega, by go_num, rfl, q0.out.far (show w.heap.size ≠ w.heap.size + 1 + 1 + 1 by omega) _, q1.out.far (show w.heap.size + 1 ≠ w.heap.size + 1 + 1 + 1 by omega) _, q2.out.far (show w.heap.size + 1 + 1 ≠ w.heap.size + 1 + 1 + 1 by omega) _, (q3.out.set _ hqj).congr (upd_step _ _ (q + j)), b_set q4.out (show w.heap.size ≤ w.heap.size + 1 + 1 + 1 by omega) _⟩
            case measure => simp [intOf]; omega
          · have hdz : dig M j = 0 := dig_small (Nat.lt_of_lt_of_le HM.out (Nat.pow_le_pow_right (by omega) (by omega)))
            rw [hdz, Nat.mul_zero, Nat.add_zero] at ts
            have E1 := Lib.hid (show (a + c) % 65536 = ((dig (row N M (q + 1)) (q + j) : Nat) : Int) by omega)
            have E2 := Lib.hid (show (a + c) / 65536 = ((tcar N M q (j + 1) : Nat) : Int) by omega)
            rw [hC]
            clear hA hC hdz ts
            have w1 : IntKind.u64.wrap (a + c) = a + c := wu_small (by omega) (by omega)
            go_wp2_with fail
            rw [E1.out, E2.out]
            go_roundw
            case rel => exact ⟨j + 1, by omega, by go_num, rfl, gb0.out.far (show w.heap.size ≠ w.heap.size + 1 + 1 + 1 by omega) _, gb1.out.far (show w.heap.size + 1 ≠ w.heap.size + 1 + 1 + 1 by omega) _, gb2.out.far (show w.heap.size + 1 + 1 ≠ w.heap.size + 1 + 1 + 1 by omega) _, (gb3.out.set _ hqj).congr (upd_step _ _ (q + j)), b_set gbel.out (show w.heap.size ≤ w.heap.size + 1 + 1 + 1 by omega) _⟩
            case measure => simp [intOf]; omega
        · obtain rfl : j = 12 := by omega
          go_wp2_with fail
          go_roundw
          case rel => exact ⟨q + 1, by omega, by go_num, gb0, gb1, gb2, gb3.out.congr (row_end HM.out q), gbel⟩
          case measure => simp [intOf]; omega
    · obtain rfl : q = 8 := by omega
      go_wp2_with (first | (refine wpList_load_row rfl 41 _ rfl (w.heap.size + 1 + 1 + 1) rfl 41 _ (0, 0) _ hb3.out Try.underlying41 rfl (info27 _) ?_) | (refine wpList_store_blk rfl 41 _ _ rfl (w.heap.size + 1 + 1) 41 (fc (fun _ => 0)) _ rfl rfl hb2.out (by rw [fc_size, fc_size]) (info27 _) (fc_one _) ?_; intro w9 hw9 gw9))
      refine bodyPost_ret (results_cell_row Try.results21 _ _ (w.heap.size + 1 + 1) 41 (fc (dig (N * M))) (0, 0) _ rfl (Blk.congr hw9 (by intro i hi; rw [row_full HN.out])) Try.underlying41 rfl (info27 _)) rfl ⟨rfl, b_grown1 hbel.out gw9 (by omega)⟩

end Go.Proofs.Ythpdfacdjgkmpaa.Wi
