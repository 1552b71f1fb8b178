/- Digits by digits, by a walk. -/
import Derived.Test.YthpdfacdjgkmpaaDe
import Derived.Test.YthpdfacdjgkmpaaOrd
namespace Go.Proofs.Ythpdfacdjgkmpaa.Wi
open Go.RowKit K

theorem by_done {N M D Q : Nat} (h : N = Q * M + D) (hd : D < M) : Q = N / M ∧ D = N % M := by
  have hM : 0 < M := by omega
  have h1 : N / M = Q := by rw [h, Nat.mul_comm, Nat.mul_add_div hM, Nat.div_eq_of_lt hd, Nat.add_zero]
  have h2 : N % M = D := by rw [h, Nat.mul_comm, Nat.mul_add_mod, Nat.mod_eq_of_lt hd]
  exact ⟨h1.symm, h2.symm⟩
theorem by_small {M k : Nat} (hM : M ≤ 65536 ^ 8) (hk : k ≤ 129) : M * 2 ^ k < 65536 ^ 20 := by
  have h1 : 2 ^ k ≤ 2 ^ 129 := Nat.pow_le_pow_right (by omega) hk
  have h2 : M * 2 ^ k ≤ 65536 ^ 8 * 2 ^ 129 := Nat.mul_le_mul hM h1
  exact Nat.lt_of_le_of_lt h2 (by decide +kernel)
/-- How it stands ahead of bit k - 1. -/
def ByAt (N M k D Q : Nat) : Prop := N = Q * M + D ∧ D < M * 2 ^ k
theorem ByAt.yes {N M k D Q P : Nat} (h : ByAt N M (k + 1) D Q) (hP : M * 2 ^ k = P) (hd : P ≤ D) : ByAt N M k (D - P) (Q + 2 ^ k) := by
  obtain ⟨h1, h2⟩ := h
  refine ⟨?_, ?_⟩
  · rw [Nat.add_mul, Nat.mul_comm (2 ^ k), hP]; omega
  · rw [Nat.pow_succ, ← Nat.mul_assoc, hP] at h2; omega
theorem ByAt.no {N M k D Q P : Nat} (h : ByAt N M (k + 1) D Q) (hP : M * 2 ^ k = P) (hd : ¬ P ≤ D) : ByAt N M k D Q := ⟨h.1, by omega⟩
def byV (N M : Nat) : Value := .tuple #[dg (N / M), dg (N % M)]
theorem results_two {w : World} {f g : Nat → Nat} {a b : Nat} {tmps : Array Value} (h4 : Blk w a f) (h5 : Blk w b g) (e4 : tmps.getD 4 undef = .pointer (some ⟨a, 0, none⟩) := by rfl) (e5 : tmps.getD 5 undef = .pointer (some ⟨b, 0, none⟩) := by rfl) :
    (results Try.f42 tmps).run Try.prog w = .ok (.tuple #[.agg (fc f), .agg (fc g)]) w := by
  have h4' := run_loadVar_row (P := Try.prog) w a 41 41 _ (0, 0) _ h4 Try.underlying41 rfl (info27 f)
  have h5' := run_loadVar_row (P := Try.prog) w b 41 41 _ (0, 0) _ h5 Try.underlying41 rfl (info27 g)
  have e4' : tmps[4]?.getD undef = .pointer (some ⟨a, 0, none⟩) := by simpa using e4
  have e5' : tmps[5]?.getD undef = .pointer (some ⟨b, 0, none⟩) := by simpa using e5
  simp [results, Try.results42, e4', e5', asAddr, h4', h5', Sem.run_bind]
attribute [local irreducible] fc
set_option maxHeartbeats 4000000 in
set_option maxRecDepth 100000 in
theorem by_any (w : World) (N M : Nat) (hM : M ≤ 65536 ^ 8) (hN : N < M * 2 ^ 129) : Calls Try.prog 42 #[dg N, dg M] w (Ret w (byV N M)) := by
  have HM := Lib.hid hM
  have HN := Lib.hid hN
  clear hM hN
  obtain ⟨V, hV⟩ : ∃ V, byV N M = V := ⟨_, rfl⟩
  rw [hV]
  have HV := Lib.hid hV
  clear hV
  unfold dg
  go_enter Try.func42, Try.ntmps42
  go_wp2_with fail
  go_loopw [7] (fun i wr => ∃ k D Q : Nat, k ≤ 129 ∧ i = .int .i64 ((k : Int) - 1) ∧ Hid (ByAt N M k D Q) ∧ Hid (Blk wr w.heap.size (dig D)) ∧ Hid (Blk wr (w.heap.size + 1) (dig M)) ∧ Hid (Blk wr (w.heap.size + 1 + 1) (fun _ => 0)) ∧ Hid (Blk wr (w.heap.size + 1 + 1 + 1) (fun _ => 0)) ∧ Hid (Blk wr (w.heap.size + 1 + 1 + 1 + 1) (dig Q)) ∧ Hid (Below w.heap.size w wr)) (fun i _ => (intOf i + 1).toNat)
  case atStart =>
    refine ⟨129, N, 0, by omega, rfl, ⟨by omega, HN.out⟩, (((((Blk.new w _).alloc _).alloc _).alloc _).alloc _), (((start1b w _ _).alloc _).alloc _).alloc _, ((start2 w _ _).alloc _).alloc _, ?_, ?_, b_alloc (b_alloc (b_alloc (b_alloc (b_alloc (Below.refl _ _) _) _) _) _) _⟩
    · rw [zeros20]
      exact (show Blk _ _ _ from blk_alloc (blk_new (by simp)) _)
    · rw [zeros20]
      exact Blk.congr (show Blk _ _ (fun _ => 0) from blk_new (by simp)) (fun i _ => (dig_zero i).symm)
  case round =>
    obtain ⟨k, D, Q, hk, rfl, hQ, hb0, hb1, hb2, hb3, hb4, hbel⟩ := hrel
    obtain ⟨wo, rfl⟩ : ∃ wo : World, wo = wr := ⟨_, rfl⟩
    by_cases h : 0 < k
    · obtain ⟨m, rfl⟩ : ∃ m, k = m + 1 := ⟨k - 1, by omega⟩
      have em : (((m + 1 : Nat) : Int) - 1) = (m : Int) := by omega
      rw [em]
      clear em
      have hsz := hbel.out.size
      have l4 := hb4.out.lt
      go_wp2_with (first | (refine wpList_load_row rfl 41 _ rfl (w.heap.size + 1) rfl 41 _ (0, 0) _ hb1.out Try.underlying41 rfl (info27 _) ?_) | (refine wpList_store_blk rfl 41 _ _ rfl wo.heap.size 41 (fc (fun _ => 0)) (fc (dig M)) rfl rfl (startZ wo) (by rw [fc_size, fc_size]) (info27 _) (fc_one _) ?_; intro w0 hw0 gw0))
      have n0 : ∀ g, g < wo.heap.size → some g ≠ some wo.heap.size := fun g hg e => by injection e with e; omega
      have q0 := Lib.hid ((hb0.out.alloc _).grown gw0 (n0 _ (by omega)))
      have q1 := Lib.hid ((hb1.out.alloc _).grown gw0 (n0 _ (by omega)))
      have q2 := Lib.hid ((hb2.out.alloc _).grown gw0 (n0 _ (by omega)))
      have q3 := Lib.hid ((hb3.out.alloc _).grown gw0 (n0 _ (by omega)))
      have q4 := Lib.hid ((hb4.out.alloc _).grown gw0 (n0 _ (by omega)))
      have q5 := Lib.hid (b_grown1 (b_alloc hbel.out _) gw0 (by omega))
      have q6 : Hid (Blk w0 wo.heap.size (dig M)) := hw0
      clear hb0 hb1 hb2 hb3 hb4 hbel hw0 gw0
      go_loopw [9] (fun j wr => ∃ q P : Nat, q ≤ m ∧ j = .int .i64 q ∧ Hid (M * 2 ^ q = P) ∧ Hid (Blk wr w.heap.size (dig D)) ∧ Hid (Blk wr (w.heap.size + 1) (dig M)) ∧ Hid (Blk wr (w.heap.size + 1 + 1) (fun _ => 0)) ∧ Hid (Blk wr (w.heap.size + 1 + 1 + 1) (fun _ => 0)) ∧ Hid (Blk wr (w.heap.size + 1 + 1 + 1 + 1) (dig Q)) ∧ Hid (Below w.heap.size w wr) ∧ Hid (Blk wr wo.heap.size (dig P))) (fun j _ => m - (intOf j).toNat)
      case atStart => exact ⟨0, M, by omega, rfl, by show M * 2 ^ 0 = M; rw [Nat.pow_zero, Nat.mul_one], q0, q1, q2, q3, q4, q5, q6⟩
      case round =>
        obtain ⟨q, P, hqm, rfl, hP, g0, g1, g2, g3, g4, gbel, gP⟩ := hrel
        clear q0 q1 q2 q3 q4 q5 q6
        by_cases hq : q < m
        · go_wp2_with (first | (refine wpList_load_row rfl 41 _ rfl wo.heap.size rfl 41 _ (0, 0) _ gP.out Try.underlying41 rfl (info27 _) ?_))
          refine (plus_any _ P P).mono ?_
          rintro e w5 ⟨rfl, hb5⟩
          have e0 := Lib.hid (g0.out.below hb5)
          have e1 := Lib.hid (g1.out.below hb5)
          have e2 := Lib.hid (g2.out.below hb5)
          have e3 := Lib.hid (g3.out.below hb5)
          have e4 := Lib.hid (g4.out.below hb5)
          have eP := Lib.hid (gP.out.below hb5)
          have e5 := Lib.hid (b_then gbel.out hb5)
          have hP2 : Hid (M * 2 ^ (q + 1) = P + P) := by
            have := hP.out
            show M * 2 ^ (q + 1) = P + P
            rw [Nat.pow_succ, ← Nat.mul_assoc, this, Nat.mul_two]
          clear g0 g1 g2 g3 g4 gP gbel hb5 hP
          unfold dg
          go_wp2_with (first | (refine wpList_store_blk rfl 41 _ _ rfl wo.heap.size 41 (fc (dig P)) (fc (dig (P + P))) rfl rfl eP.out (by rw [fc_size, fc_size]) (info27 _) (fc_one _) ?_; intro w9 hw9 gw9))
          go_roundw
          case rel => exact ⟨q + 1, P + P, by omega, by go_num, hP2, e0.out.grown gw9 (n0 _ (by omega)), e1.out.grown gw9 (n0 _ (by omega)), e2.out.grown gw9 (n0 _ (by omega)), e3.out.grown gw9 (n0 _ (by omega)), e4.out.grown gw9 (n0 _ (by omega)), b_grown1 e5.out gw9 (by omega), hw9⟩
          case measure => simp [intOf]; omega
        · obtain rfl : q = m := by omega
          have hDs : D < 65536 ^ 20 := Nat.lt_of_lt_of_le hQ.out.2 (Nat.le_of_lt (by_small HM.out hk))
          have hPs : P < 65536 ^ 20 := by rw [← hP.out]; exact by_small HM.out (by omega)
          have HD := Lib.hid hDs
          have HP := Lib.hid hPs
          clear hDs hPs
          go_wp2_with (first | (refine wpList_load_row rfl 41 _ rfl w.heap.size rfl 41 _ (0, 0) _ g0.out Try.underlying41 rfl (info27 _) ?_) | (refine wpList_load_row rfl 41 _ rfl wo.heap.size rfl 41 _ (0, 0) _ gP.out Try.underlying41 rfl (info27 _) ?_))
          refine (less_any _ D P HD.out HP.out).mono ?_
          rintro e w5 ⟨rfl, hb5⟩
          have e0 := Lib.hid (g0.out.below hb5)
          have e1 := Lib.hid (g1.out.below hb5)
          have e2 := Lib.hid (g2.out.below hb5)
          have e3 := Lib.hid (g3.out.below hb5)
          have e4 := Lib.hid (g4.out.below hb5)
          have eP := Lib.hid (gP.out.below hb5)
          have e5 := Lib.hid (b_then gbel.out hb5)
          clear g0 g1 g2 g3 g4 gP gbel hb5
          by_cases hle : P ≤ D
          · have hdec : decide (D < P) = false := by simp; omega
            rw [hdec]
            have HLE := Lib.hid hle
            clear hdec hle
            go_wp2_with (first | (refine wpList_load_row rfl 41 _ rfl w.heap.size rfl 41 _ (0, 0) _ e0.out Try.underlying41 rfl (info27 _) ?_) | (refine wpList_load_row rfl 41 _ rfl wo.heap.size rfl 41 _ (0, 0) _ eP.out Try.underlying41 rfl (info27 _) ?_))
            refine (minus_any _ D P HLE.out).mono ?_
            rintro e w6 ⟨rfl, hb6⟩
            have f0 := Lib.hid (e0.out.below hb6)
            have f1 := Lib.hid (e1.out.below hb6)
            have f2 := Lib.hid (e2.out.below hb6)
            have f3 := Lib.hid (e3.out.below hb6)
            have f4 := Lib.hid (e4.out.below hb6)
            have f5 := Lib.hid (b_then e5.out hb6)
            clear e0 e1 e2 e3 e4 eP e5 hb6
            unfold dg
            go_wp2_with (first | (refine wpList_store_blk rfl 41 _ _ rfl w.heap.size 41 (fc (dig D)) (fc (dig (D - P))) rfl rfl f0.out (by rw [fc_size, fc_size]) (info27 _) (fc_one _) ?_; intro w7 hw7 gw7))
            have n7 : ∀ g, w.heap.size < g → some g ≠ some w.heap.size := fun g hg e => by injection e with e; omega
            have s0 : Hid (Blk w7 w.heap.size (dig (D - P))) := hw7
            have s1 := Lib.hid (f1.out.grown gw7 (n7 _ (by omega)))
            have s2 := Lib.hid (f2.out.grown gw7 (n7 _ (by omega)))
            have s3 := Lib.hid (f3.out.grown gw7 (n7 _ (by omega)))
            have s4 := Lib.hid (f4.out.grown gw7 (n7 _ (by omega)))
            have s5 := Lib.hid (b_grown1 f5.out gw7 (Nat.le_refl _))
            clear f0 f1 f2 f3 f4 f5 hw7 gw7
            refine wp_region_lists [[0, 1, 2, 3, 4], [1, 0, 2, 3, 4], [1, 2, 0, 3, 4]] (by kernel_rfl) (by kernel_rfl) ?_
            refine ⟨?_, ?_, ?_, trivial⟩
            all_goals simp only [List.filterMap_cons, List.filterMap_nil, List.getElem?_toArray, List.getElem?_cons_succ, List.getElem?_cons_zero]
            case' refine_1 =>
              refine wpList_load_row rfl 41 _ rfl (w.heap.size + 1 + 1 + 1 + 1) rfl 41 _ (0, 0) _ s4.out.drew Try.underlying41 rfl (info27 _) ?_
            case' refine_2 =>
              refine wpList_step (fun K hK => ?_)
              go_simp
              refine hK _ _ ?_
              clear hK K
              refine wpList_load_row rfl 41 _ rfl (w.heap.size + 1 + 1 + 1 + 1) rfl 41 _ (0, 0) _ s4.out.drew Try.underlying41 rfl (info27 _) ?_
            all_goals go_wp2_with fail
            all_goals refine (power_any _ q (by omega)).mono ?_
            all_goals rintro e w8 ⟨rfl, hb8⟩
            all_goals have t4 := Lib.hid (s4.out.drew.below hb8)
            all_goals unfold dg
            all_goals first | (rename_i K hK; go_simp; refine hK _ _ ?_; clear hK K; refine wpList_load_row rfl 41 _ rfl (w.heap.size + 1 + 1 + 1 + 1) rfl 41 _ (0, 0) _ t4.out Try.underlying41 rfl (info27 _) ?_; go_wp2_with fail) | go_wp2_with fail
            all_goals refine (plus_any _ Q (2 ^ q)).mono ?_
            all_goals rintro e w9 ⟨rfl, hb9⟩
            all_goals have u4 := Lib.hid (t4.out.below hb9)
            all_goals unfold dg
            all_goals (rename_i K hK; go_simp; refine hK _ _ ?_; clear hK K)
            all_goals (refine wpList_store_blk rfl 41 _ _ rfl (w.heap.size + 1 + 1 + 1 + 1) 41 (fc (dig Q)) (fc (dig (Q + 2 ^ q))) rfl rfl u4.out (by rw [fc_size, fc_size]) (info27 _) (fc_one _) ?_; intro wf hwf gwf)
            all_goals go_wp2_with fail
            all_goals go_roundw
            all_goals have n9 : ∀ g, g < w.heap.size + 1 + 1 + 1 + 1 → some g ≠ some (w.heap.size + 1 + 1 + 1 + 1) := fun g hg e => by injection e with e; omega
            all_goals first | exact ⟨q, D - P, Q + 2 ^ q, by omega, rfl, hQ.out.yes hP.out HLE.out, ((s0.out.drew.below hb8).below hb9).grown gwf (n9 _ (by omega)), ((s1.out.drew.below hb8).below hb9).grown gwf (n9 _ (by omega)), ((s2.out.drew.below hb8).below hb9).grown gwf (n9 _ (by omega)), ((s3.out.drew.below hb8).below hb9).grown gwf (n9 _ (by omega)), hwf, b_grown1 (b_then (b_then (b_drew s5.out) hb8) hb9) gwf (by omega)⟩ | (simp [intOf]; done) | (simp [intOf]; omega)
          · have hdec : decide (D < P) = true := by simp; omega
            rw [hdec]
            have HLE := Lib.hid hle
            clear hdec hle
            go_wp2_with fail
            go_roundw
            case rel => exact ⟨q, D, Q, by omega, rfl, hQ.out.no hP.out HLE.out, e0, e1, e2, e3, e4, e5⟩
            case measure => simp [intOf]
    · obtain rfl : k = 0 := by omega
      have hQ0 := hQ.out
      have hd : D < M := by have := hQ0.2; rwa [Nat.pow_zero, Nat.mul_one] at this
      have HF := Lib.hid (by_done hQ0.1 hd)
      clear hQ0 hd
      go_wp2_with fail
      refine wp_region_lists [[0, 1, 2, 3], [0, 2, 1, 3], [1, 0, 2, 3]] (by kernel_rfl) (by kernel_rfl) ?_
      refine ⟨?_, ?_, ?_, trivial⟩
      all_goals simp only [List.filterMap_cons, List.filterMap_nil, List.getElem?_toArray, List.getElem?_cons_succ, List.getElem?_cons_zero]
      · refine wpList_load_row rfl 41 _ rfl (w.heap.size + 1 + 1 + 1 + 1) rfl 41 _ (0, 0) _ hb4.out.drew Try.underlying41 rfl (info27 _) ?_
        refine wpList_load_row rfl 41 _ rfl w.heap.size rfl 41 _ (0, 0) _ hb0.out.drew Try.underlying41 rfl (info27 _) ?_
        refine wpList_store_blk rfl 41 _ _ rfl (w.heap.size + 1 + 1) 41 (fc (fun _ => 0)) (fc (dig Q)) rfl rfl hb2.out.drew (by rw [fc_size, fc_size]) (info27 _) (fc_one _) ?_
        intro w7 hw7 gw7
        refine wpList_store_blk rfl 41 _ _ rfl (w.heap.size + 1 + 1 + 1) 41 (fc (fun _ => 0)) (fc (dig D)) rfl rfl (Blk.grown hb3.out.drew gw7 (by simp)) (by rw [fc_size, fc_size]) (info27 _) (fc_one _) ?_
        intro w8 hw8 gw8
        go_wp2_with fail
        exact bodyPost_ret (v := .tuple #[.agg (fc (dig Q)), .agg (fc (dig D))]) (results_two (Blk.grown hw7 gw8 (by simp)) hw8) rfl ⟨by rw [← HV.out, byV, dg, dg, ← HF.out.1, ← HF.out.2], b_grown1 (b_grown1 hbel.out.drew gw7 (by omega)) gw8 (by omega)⟩
      · refine wpList_load_row rfl 41 _ rfl (w.heap.size + 1 + 1 + 1 + 1) rfl 41 _ (0, 0) _ hb4.out.drew Try.underlying41 rfl (info27 _) ?_
        refine wpList_store_blk rfl 41 _ _ rfl (w.heap.size + 1 + 1) 41 (fc (fun _ => 0)) (fc (dig Q)) rfl rfl hb2.out.drew (by rw [fc_size, fc_size]) (info27 _) (fc_one _) ?_
        intro w7 hw7 gw7
        refine wpList_load_row rfl 41 _ rfl w.heap.size rfl 41 _ (0, 0) _ (Blk.grown hb0.out.drew gw7 (by simp; omega)) Try.underlying41 rfl (info27 _) ?_
        refine wpList_store_blk rfl 41 _ _ rfl (w.heap.size + 1 + 1 + 1) 41 (fc (fun _ => 0)) (fc (dig D)) rfl rfl (Blk.grown hb3.out.drew gw7 (by simp)) (by rw [fc_size, fc_size]) (info27 _) (fc_one _) ?_
        intro w8 hw8 gw8
        go_wp2_with fail
        exact bodyPost_ret (v := .tuple #[.agg (fc (dig Q)), .agg (fc (dig D))]) (results_two (Blk.grown hw7 gw8 (by simp)) hw8) rfl ⟨by rw [← HV.out, byV, dg, dg, ← HF.out.1, ← HF.out.2], b_grown1 (b_grown1 hbel.out.drew gw7 (by omega)) gw8 (by omega)⟩
      · refine wpList_load_row rfl 41 _ rfl w.heap.size rfl 41 _ (0, 0) _ hb0.out.drew Try.underlying41 rfl (info27 _) ?_
        refine wpList_load_row rfl 41 _ rfl (w.heap.size + 1 + 1 + 1 + 1) rfl 41 _ (0, 0) _ hb4.out.drew Try.underlying41 rfl (info27 _) ?_
        refine wpList_store_blk rfl 41 _ _ rfl (w.heap.size + 1 + 1) 41 (fc (fun _ => 0)) (fc (dig Q)) rfl rfl hb2.out.drew (by rw [fc_size, fc_size]) (info27 _) (fc_one _) ?_
        intro w7 hw7 gw7
        refine wpList_store_blk rfl 41 _ _ rfl (w.heap.size + 1 + 1 + 1) 41 (fc (fun _ => 0)) (fc (dig D)) rfl rfl (Blk.grown hb3.out.drew gw7 (by simp)) (by rw [fc_size, fc_size]) (info27 _) (fc_one _) ?_
        intro w8 hw8 gw8
        go_wp2_with fail
        exact bodyPost_ret (v := .tuple #[.agg (fc (dig Q)), .agg (fc (dig D))]) (results_two (Blk.grown hw7 gw8 (by simp)) hw8) rfl ⟨by rw [← HV.out, byV, dg, dg, ← HF.out.1, ← HF.out.2], b_grown1 (b_grown1 hbel.out.drew gw7 (by omega)) gw8 (by omega)⟩
end Go.Proofs.Ythpdfacdjgkmpaa.Wi
