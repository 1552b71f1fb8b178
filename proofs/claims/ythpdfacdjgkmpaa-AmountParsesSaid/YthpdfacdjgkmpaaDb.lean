/- Sums, differences, products and the order of the reference's digits, by walks. -/
import Derived.Test.YthpdfacdjgkmpaaDa
namespace Go.Proofs.Ythpdfacdjgkmpaa.Wi
open Go.RowKit K
attribute [local irreducible] fc
set_option maxHeartbeats 1000000 in
set_option maxRecDepth 100000 in
theorem plus_any (w : World) (N M : Nat) : Calls Try.prog 44 #[dg N, dg M] w (Ret w (dg (N + M))) := by
  unfold dg
  go_enter Try.func44, Try.ntmps44
  go_wp2
  go_loopw [5, 6] (fun c i wr => ∃ k : Nat, k ≤ 20 ∧ i = .int .i64 k ∧ c = .int .u64 (car N M k) ∧ Hid (Blk wr w.heap.size (fun j => if j < k then dig (N + M) j else dig N j)) ∧ Hid (Blk wr (w.heap.size + 1) (dig M)) ∧ Hid (Blk wr (w.heap.size + 1 + 1) (fun _ => 0)) ∧ Hid (Below w.heap.size w wr)) (fun _ i _ => 20 - (intOf i).toNat)
  case atStart => exact ⟨0, by omega, rfl, by rw [car_zero]; rfl, start0 w (dig N) (dig M), start1 w (dig N) (dig M), start2 w (dig N) (dig M), b_alloc (b_alloc (b_alloc (Below.refl _ _) _) _) _⟩
  case round =>
    obtain ⟨k, hk, rfl, rfl, hb0, hb1, hb2, hbel⟩ := hrel
    by_cases h : k < 20
    · have c0 := hb0.out.cell h
      rw [if_neg (by omega)] at c0
      have c1 := hb1.out.cell h
      have z0 := hb0.out.free k
      have l0 := hb0.out.lt
      have l1 := hb1.out.lt
      have b0 := dig_lt N k
      have b1 := dig_lt M k
      have b2 := car_le N M k
      have hk1 : (0 : Int) ≤ (k : Int) := by omega
      have hk2 : (k : Int) < 20 := by omega
      have cs := car_sum N M k
      obtain ⟨a, hA, a0, a1⟩ : ∃ a : Int, ((dig N k : Nat) : Int) = a ∧ 0 ≤ a ∧ a < 65536 := ⟨_, rfl, by omega, by omega⟩
      obtain ⟨b, hB, b0, b1⟩ : ∃ b : Int, ((dig M k : Nat) : Int) = b ∧ 0 ≤ b ∧ b < 65536 := ⟨_, rfl, by omega, by omega⟩
      obtain ⟨c, hC, c0', c1'⟩ : ∃ c : Int, ((car N M k : Nat) : Int) = c ∧ 0 ≤ c ∧ c ≤ 1 := ⟨_, rfl, by omega, by omega⟩
      have E1 := Lib.hid (show (c + a + b) % 65536 = ((dig (N + M) k : Nat) : Int) by omega)
      have E2 := Lib.hid (show (c + a + b) / 65536 = ((car N M (k + 1) : Nat) : Int) by omega)
      rw [hA] at c0
      rw [hB] at c1
      rw [hC]
      clear hA hB hC cs
      have w1 : IntKind.u64.wrap (c + a) = c + a := wu_small (by omega) (by omega)
      have w2 : IntKind.u64.wrap (c + a + b) = c + a + b := wu_small (by omega) (by omega)
      go_wp2_with fail
      go_quiet (fail)
      have q0 := Lib.hid (hb0.out.drewN nq)
      have q1 := Lib.hid (hb1.out.drewN nq)
      have q2 := Lib.hid (hb2.out.drewN nq)
      have q3 := Lib.hid (b_drewN hbel.out nq)
      clear hb0 hb1 hb2 hbel c0 c1 z0 l0 l1 w1 w2
      generalize wr.drewN nq = wq at *
      have c0 := q0.out.cell h
      have z0 := q0.out.free k
      go_wp2_with fail
      rw [E1.out, E2.out]
      go_roundw
      case rel => exact ⟨k + 1, by omega, by go_num, rfl, (q0.out.set _ h).congr (upd_step _ _ k), q1.out.far (show w.heap.size + 1 ≠ w.heap.size by omega) _, q2.out.far (show w.heap.size + 1 + 1 ≠ w.heap.size by omega) _, b_set q3.out (Nat.le_refl _) _⟩
      case measure => simp [intOf]; omega
    · obtain rfl : k = 20 := by omega
      go_wp2_with (first | (refine wpList_load_row rfl 41 _ rfl w.heap.size rfl 41 _ (0, 0) _ hb0.out Try.underlying41 rfl (info27 _) ?_) | (refine wpList_store_blk rfl 41 _ _ rfl (w.heap.size + 1 + 1) 41 (fc (fun _ => 0)) _ rfl rfl hb2.out (by rw [fc_size, fc_size]) (info27 _) (fc_one _) ?_; intro w9 hw9 gw9))
      refine bodyPost_ret (results_cell_row Try.results44 _ _ (w.heap.size + 1 + 1) 41 (fc (dig (N + M))) (0, 0) _ rfl (Blk.congr hw9 (by intro i hi; rw [if_pos hi])) Try.underlying41 rfl (info27 _)) rfl ⟨rfl, b_grown1 hbel.out gw9 (by omega)⟩

set_option maxHeartbeats 1000000 in
set_option maxRecDepth 100000 in
theorem minus_any (w : World) (N M : Nat) (hMN : M ≤ N) : Calls Try.prog 59 #[dg N, dg M] w (Ret w (dg (N - M))) := by
  have HM := Lib.hid hMN
  clear hMN
  unfold dg
  go_enter Try.func59, Try.ntmps59
  go_wp2
  go_loopw [5, 6] (fun c i wr => ∃ k : Nat, k ≤ 20 ∧ i = .int .i64 k ∧ c = .int .u64 (car (N - M) M k) ∧ Hid (Blk wr w.heap.size (fun j => if j < k then dig (N - M) j else dig N j)) ∧ Hid (Blk wr (w.heap.size + 1) (dig M)) ∧ Hid (Blk wr (w.heap.size + 1 + 1) (fun _ => 0)) ∧ Hid (Below w.heap.size w wr)) (fun _ i _ => 20 - (intOf i).toNat)
  case atStart => exact ⟨0, by omega, rfl, by rw [car_zero]; rfl, start0 w (dig N) (dig M), start1 w (dig N) (dig M), start2 w (dig N) (dig M), b_alloc (b_alloc (b_alloc (Below.refl _ _) _) _) _⟩
  case round =>
    obtain ⟨k, hk, rfl, rfl, hb0, hb1, hb2, hbel⟩ := hrel
    by_cases h : k < 20
    · have c0 := hb0.out.cell h
      rw [if_neg (by omega)] at c0
      have c1 := hb1.out.cell h
      have z0 := hb0.out.free k
      have l0 := hb0.out.lt
      have l1 := hb1.out.lt
      have b0 := dig_lt N k
      have b1 := dig_lt M k
      have b2 := car_le (N - M) M k
      have hk1 : (0 : Int) ≤ (k : Int) := by omega
      have hk2 : (k : Int) < 20 := by omega
      have cs := bor_step HM.out k
      obtain ⟨a, hA, a0, a1⟩ : ∃ a : Int, ((dig N k : Nat) : Int) = a ∧ 0 ≤ a ∧ a < 65536 := ⟨_, rfl, by omega, by omega⟩
      obtain ⟨b, hB, b0, b1⟩ : ∃ b : Int, ((dig M k : Nat) : Int) = b ∧ 0 ≤ b ∧ b < 65536 := ⟨_, rfl, by omega, by omega⟩
      obtain ⟨c, hC, c0', c1'⟩ : ∃ c : Int, ((car (N - M) M k : Nat) : Int) = c ∧ 0 ≤ c ∧ c ≤ 1 := ⟨_, rfl, by omega, by omega⟩
      have E1 := Lib.hid (show (a + 65536 - b - c) % 65536 = ((dig (N - M) k : Nat) : Int) by omega)
      have E2 := Lib.hid (show 1 - (a + 65536 - b - c) / 65536 = ((car (N - M) M (k + 1) : Nat) : Int) by omega)
      have hle : b + c ≤ a + 65536 := by omega
      rw [hA] at c0
      rw [hB] at c1
      rw [hC]
      clear hA hB hC cs
      have w1 : IntKind.u64.wrap (a + 65536) = a + 65536 := wu_small (by omega) (by omega)
      have w2 : IntKind.u64.wrap (a + 65536 - b) = a + 65536 - b := wu_small (by omega) (by omega)
      have w3 : IntKind.u64.wrap (a + 65536 - b - c) = a + 65536 - b - c := wu_small (by omega) (by omega)
      go_wp2_with fail
      go_quiet (fail)
      have q0 := Lib.hid (hb0.out.drewN nq)
      have q1 := Lib.hid (hb1.out.drewN nq)
      have q2 := Lib.hid (hb2.out.drewN nq)
      have q3 := Lib.hid (b_drewN hbel.out nq)
      clear hb0 hb1 hb2 hbel c0 c1 z0 l0 l1 w1 w2 w3
      generalize wr.drewN nq = wq at *
      have c0 := q0.out.cell h
      have z0 := q0.out.free k
      go_wp2_with fail
      rw [E1.out, E2.out]
      go_roundw
      case rel => exact ⟨k + 1, by omega, by go_num, rfl, (q0.out.set _ h).congr (upd_step _ _ k), q1.out.far (show w.heap.size + 1 ≠ w.heap.size by omega) _, q2.out.far (show w.heap.size + 1 + 1 ≠ w.heap.size by omega) _, b_set q3.out (Nat.le_refl _) _⟩
      case measure => simp [intOf]; omega
    · obtain rfl : k = 20 := by omega
      go_wp2_with (first | (refine wpList_load_row rfl 41 _ rfl w.heap.size rfl 41 _ (0, 0) _ hb0.out Try.underlying41 rfl (info27 _) ?_) | (refine wpList_store_blk rfl 41 _ _ rfl (w.heap.size + 1 + 1) 41 (fc (fun _ => 0)) _ rfl rfl hb2.out (by rw [fc_size, fc_size]) (info27 _) (fc_one _) ?_; intro w9 hw9 gw9))
      refine bodyPost_ret (results_cell_row Try.results59 _ _ (w.heap.size + 1 + 1) 41 (fc (dig (N - M))) (0, 0) _ rfl (Blk.congr hw9 (by intro i hi; rw [if_pos hi])) Try.underlying41 rfl (info27 _)) rfl ⟨rfl, b_grown1 hbel.out gw9 (by omega)⟩

end Go.Proofs.Ythpdfacdjgkmpaa.Wi
