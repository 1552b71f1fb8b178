/- Amounts: times a power of ten and of two, by a walk. -/
import Derived.Test.YthpdfacdjgkmpaaEb
namespace Go.Proofs.Ythpdfacdjgkmpaa.Wi
open Go.RowKit K

attribute [local go_sem] lookTo stepTo Maker.step
theorem results_opt32 {W : World} {g : Nat} {x y : Value} {t : Bool} {tmps : Array Value} (h : W.heap[g]? = some (.cells #[x, y] 25 (0, 0))) (i24 : (Try.prog.info? 25).map (·.size) = some 2 := by rfl) (e4 : tmps.getD 6 undef = .pointer (some ⟨g, 0, none⟩) := by rfl) (e5 : tmps.getD 7 undef = .bool t := by rfl) :
    (results Try.f32 tmps).run Try.prog W = .ok (.tuple #[.agg #[x, y], .bool t]) W := by
  have h' := run_loadVar_row (P := Try.prog) W g 25 25 _ (0, 0) _ h Try.underlying25 rfl i24
  have e4' : tmps[6]?.getD undef = .pointer (some ⟨g, 0, none⟩) := by simpa using e4
  have e5' : tmps[7]?.getD undef = .bool t := by simpa using e5
  simp [results, Try.results32, e4', e5', asAddr, h']
theorem opt_open {X : Int} (h0 : 0 ≤ X) (h : X < Lim) : ∃ a b : Int, U a ∧ U b ∧ wval a b = X ∧ optV X (X < 340282366920938463463374607431768211456) = .tuple #[.agg #[.int .u64 a, .int .u64 b], .bool true] := by
  obtain ⟨a, b, ha, hb, hv, he⟩ := wn_open h0 h
  exact ⟨a, b, ha, hb, hv, by rw [opt_yes h, he]⟩
/-- Times a power of ten and of two: what it is, if it is below the limit. -/
def upV (X t z : Nat) : Value := optV ((X * 10 ^ t * 2 ^ z : Nat) : Int) (((X * 10 ^ t * 2 ^ z : Nat) : Int) < 340282366920938463463374607431768211456)
theorem big_up {X t z k : Nat} (hk : k ≤ t) (h : ¬ ((X * 10 ^ k : Nat) : Int) < Lim) : upV X t z = .tuple #[wv 0 0, .bool false] := by
  refine opt_no ?_
  have h1 : X * 10 ^ k ≤ X * 10 ^ t := Nat.mul_le_mul_left _ (Nat.pow_le_pow_right (by decide) hk)
  have h2 : X * 10 ^ t ≤ X * 10 ^ t * 2 ^ z := Nat.le_mul_of_pos_right _ (Nat.pow_pos (by decide))
  have h3 : ((X * 10 ^ k : Nat) : Int) ≤ ((X * 10 ^ t * 2 ^ z : Nat) : Int) := Int.ofNat_le.2 (Nat.le_trans h1 h2)
  omega
theorem end_up {X t z k : Nat} (hk : k = min t 60) (h : ((X * 10 ^ k : Nat) : Int) < Lim) : leftV ((X * 10 ^ k : Nat) : Int) (z : Int) = upV X t z := by
  have e1 : ((X * 10 ^ k : Nat) : Int) * 2 ^ ((z : Int).toNat) = ((X * 10 ^ k * 2 ^ z : Nat) : Int) := by simp
  have e2 : X * 10 ^ k * 2 ^ z = X * 10 ^ t * 2 ^ z := by
    by_cases ht : t ≤ 60
    · rw [hk, Nat.min_eq_left ht]
    · have h60 : k = 60 := by omega
      rw [h60] at h
      have hX : X = 0 := by
        unfold Lim at h
        rcases Nat.eq_zero_or_pos X with h0 | h0
        · exact h0
        · have h1 : 1 * 10 ^ 60 ≤ X * 10 ^ 60 := Nat.mul_le_mul_right _ h0
          have h2 : 340282366920938463463374607431768211456 ≤ 10 ^ 60 := Nat.le_of_ble_eq_true rfl
          generalize 10 ^ 60 = c at *
          generalize X * c = q at *
          omega
      rw [hX]
      simp
  unfold leftV upV
  rw [e1, e2]
  have h0 : (0 : Int) ≤ (z : Int) := by omega
  unfold optV
  simp [h0]
set_option maxHeartbeats 4000000 in
set_option maxRecDepth 100000 in
theorem tens_any (w : World) (a0 b0 : Int) (X t z : Nat) (hX : wval a0 b0 = (X : Int)) (ha : U a0) (hb : U b0) (ht : t ≤ 1000) (hz : z ≤ 1000) : Calls Try.prog 32 #[wv a0 b0, .int .i64 t, .int .i64 z] w (Ret w (upV X t z)) := by
  obtain ⟨V, hV⟩ : ∃ V, upV X t z = V := ⟨_, rfl⟩
  rw [hV]
  have HV := Lib.hid hV
  have HAB : Hid (U a0 ∧ U b0 ∧ wval a0 b0 = ((X * 10 ^ 0 : Nat) : Int)) := ⟨ha, hb, by simpa using hX⟩
  obtain ⟨n, hn⟩ : ∃ n, min t 60 = n := ⟨_, rfl⟩
  have m1 : (if (60 : Int) < (t : Int) then (60 : Int) else (t : Int)) = (n : Int) := by split <;> omega
  have hn6 : n ≤ t := by omega
  have HN := Lib.hid hn
  clear hV hX ha hb hn
  have S0 : Hid (Stays [] w w) := Lib.hid (stays_nil (Below.refl _ _))
  go_enter Try.func32, Try.ntmps32
  go_upto_region 0 with fail
  refine reg_plain (Stays [] w) (Turns [] w) (kdOf [(0, .make (fun _ => allocM (.cells #[.int .u64 a0, .int .u64 b0] 25))), (1, .make (fun _ => allocM (.cells #[.int .u64 0, .int .u64 0] 25)))]) none0 (stays_good _ _) (S0.out) (holds0 _) ?_
  refine g_alloc (stays_good _ _) (.cells #[.int .u64 a0, .int .u64 b0] 25) rfl rfl (fun w' hC => ?_) (fun gx tx nx => ?_)
  · clear hC
    go_simp
    first | done | rfl | exact ⟨rfl, rfl⟩
  clear nx
  replace tx := Lib.hid tx
  simp only [Act.put, List.setIfInBounds_toArray, List.set_cons_zero, List.set_cons_succ]
  refine g_alloc (stays_good _ _) (.cells #[.int .u64 0, .int .u64 0] 25) rfl rfl (fun w' hC => ?_) (fun gr tr nr => ?_)
  · clear hC
    go_simp
    first | done | rfl | exact ⟨rfl, rfl⟩
  obtain ⟨d_x_r, nr⟩ := own_none nr
  clear nr
  replace tr := Lib.hid tr
  simp only [Act.put, List.setIfInBounds_toArray, List.set_cons_zero, List.set_cons_succ]
  refine g_look rfl rfl ?_ (fun w' hC => ?_) ?_
  rotate_left
  · go_simp
    first | done | rfl
  simp only [Act.put, List.setIfInBounds_toArray, List.set_cons_zero, List.set_cons_succ]
  refine g_end ?_
  intro w1 hC1 hh1
  have S1 : Hid (Stays [(gx, Obj.cells #[.int .u64 a0, .int .u64 b0] 25 (0, 0)), (gr, Obj.cells #[.int .u64 0, .int .u64 0] 25 (0, 0))] w w1) := Lib.hid (stays_cons ((hh1 _ _ _ ((own_off _ (Ne.symm d_x_r)).trans (own_new _ _ _ _))).1) (stays_cons ((hh1 _ _ _ (own_new _ _ _ _)).1) (stays_nil (stays_below hC1))))
  clear hC1 hh1
  go_upto_region 1 with fail
  refine reg_plain (Stays [(gx, Obj.cells #[.int .u64 a0, .int .u64 b0] 25 (0, 0)), (gr, Obj.cells #[.int .u64 0, .int .u64 0] 25 (0, 0))] w) (Turns [(gx, Obj.cells #[.int .u64 a0, .int .u64 b0] 25 (0, 0)), (gr, Obj.cells #[.int .u64 0, .int .u64 0] 25 (0, 0))] w) (kdOf []) none0 (stays_good _ _) (S1.out) (holds0 _) ?_
  refine g_look rfl rfl ?_ (fun w' hC => ?_) ?_
  rotate_left
  · go_simp
    first | done | rfl
  simp only [Act.put, List.setIfInBounds_toArray, List.set_cons_zero, List.set_cons_succ]
  refine g_look rfl rfl (.int .i64 (n : Int)) (fun w' hC => ?_) ?_
  · clear hC
    go_simp
    first | done | rfl | exact m1
  simp only [Act.put, List.setIfInBounds_toArray, List.set_cons_zero, List.set_cons_succ]
  refine g_look rfl rfl ?_ (fun w' hC => ?_) ?_
  rotate_left
  · go_simp
    first | done | rfl
  simp only [Act.put, List.setIfInBounds_toArray, List.set_cons_zero, List.set_cons_succ]
  refine g_end ?_
  intro w2 hC2 hh2
  have S2 : Hid (Stays [(gx, Obj.cells #[.int .u64 a0, .int .u64 b0] 25 (0, 0)), (gr, Obj.cells #[.int .u64 0, .int .u64 0] 25 (0, 0))] w w2) := Lib.hid (stays_cons (stays_row hC2 (List.mem_cons_self ..)) (stays_cons (stays_row hC2 (List.mem_cons_of_mem _ (List.mem_cons_self ..))) (stays_nil (stays_below hC2))))
  clear S1
  clear hC2 hh2
  go_wp2_with fail
  go_loopw [12] (fun i wr => ∃ (k : Nat) (a b : Int), k ≤ n ∧ i = .int .i64 k ∧ Hid (U a ∧ U b ∧ wval a b = ((X * 10 ^ k : Nat) : Int)) ∧ Hid (Stays [(gx, Obj.cells #[.int .u64 a, .int .u64 b] 25 (0, 0)), (gr, Obj.cells #[.int .u64 0, .int .u64 0] 25 (0, 0))] w wr)) (fun i _ => n - (intOf i).toNat)
  case atStart => exact ⟨0, a0, b0, by omega, rfl, HAB, S2⟩
  case round =>
    obtain ⟨k, a, b, hk, rfl, HQ, S3⟩ := hrel
    clear S2 HAB
    by_cases hlt : k < n
    · have hlti : (k : Int) < (n : Int) := by omega
      have hwk : wrap64 ((k : Int) + 1) = (k : Int) + 1 := by
        simp only [wrap64]
        omega
      have hm : wval a b * 10 = ((X * 10 ^ (k + 1) : Nat) : Int) := by rw [HQ.out.2.2, Nat.pow_succ, ← Nat.mul_assoc]; omega
      by_cases hL : ((X * 10 ^ (k + 1) : Nat) : Int) < Lim
      · obtain ⟨q1, q2, u1, u2, hv, hw⟩ := opt_open (X := ((X * 10 ^ (k + 1) : Nat) : Int)) (Int.natCast_nonneg _) hL
        have HW : Hid (optV (wval a b * 10) (wval a b * 10 < 340282366920938463463374607431768211456) = .tuple #[.agg #[.int .u64 q1, .int .u64 q2], .bool true]) := Lib.hid (by rw [hm]; exact hw)
        have HQ2 : Hid (U q1 ∧ U q2 ∧ wval q1 q2 = ((X * 10 ^ (k + 1) : Nat) : Int)) := Lib.hid ⟨u1, u2, hv⟩
        clear hm hL u1 u2 hv hw
        go_upto_region 3 with fail
        refine reg_plain (Stays [(gx, Obj.cells #[.int .u64 a, .int .u64 b] 25 (0, 0)), (gr, Obj.cells #[.int .u64 0, .int .u64 0] 25 (0, 0))] w) (Turns [(gx, Obj.cells #[.int .u64 a, .int .u64 b] 25 (0, 0)), (gr, Obj.cells #[.int .u64 0, .int .u64 0] 25 (0, 0))] w) (kdOf [(1, .make (fun _ => callM (.tuple #[.agg #[.int .u64 q1, .int .u64 q2], .bool true]))), (5, .make (fun _ => allocM (.cells #[.int .u64 0, .int .u64 0] 25))), (6, .touch)]) none0 (stays_good _ _) (S3.out) (holds0 _) ?_
        (refine g_load 25 _ gx 25 #[.int .u64 a, .int .u64 b] (0, 0) _ rfl rfl rfl rfl (fun w' hC => stays_row hC (List.mem_cons_self ..)) Try.underlying25 rfl (rfl) ?_)
        simp only [Act.put, List.setIfInBounds_toArray, List.set_cons_zero, List.set_cons_succ]
        refine g_call (stays_good _ _) (.tuple #[.agg #[.int .u64 q1, .int .u64 q2], .bool true]) rfl rfl (fun w' hC => ?_) ?_
        · clear hC
          go_simp
          refine (times_word_any _ a b 10 HQ.out.1 HQ.out.2.1 (by unfold U; decide)).mono (fun e w2 h => ?_)
          obtain ⟨h1, h2⟩ := h
          rw [HW.out] at h1
          exact gives h1 h2
        simp only [Act.put, List.setIfInBounds_toArray, List.set_cons_zero, List.set_cons_succ]
        refine g_look rfl rfl ?_ (fun w' hC => ?_) ?_
        rotate_left
        · go_simp
          first | done | rfl
        simp only [Act.put, List.setIfInBounds_toArray, List.set_cons_zero, List.set_cons_succ]
        refine g_look rfl rfl ?_ (fun w' hC => ?_) ?_
        rotate_left
        · go_simp
          first | done | rfl
        simp only [Act.put, List.setIfInBounds_toArray, List.set_cons_zero, List.set_cons_succ]
        refine g_look rfl rfl ?_ (fun w' hC => ?_) ?_
        rotate_left
        · go_simp
          first | done | rfl
        simp only [Act.put, List.setIfInBounds_toArray, List.set_cons_zero, List.set_cons_succ]
        refine g_alloc (stays_good _ _) (.cells #[.int .u64 0, .int .u64 0] 25) rfl rfl (fun w' hC => ?_) (fun gq tq nq => ?_)
        · clear hC
          go_simp
          first | done | rfl | exact ⟨rfl, rfl⟩
        clear nq
        replace tq := Lib.hid tq
        simp only [Act.put, List.setIfInBounds_toArray, List.set_cons_zero, List.set_cons_succ]
        refine g_store gq (some 5) 25 25 _ _ #[.int .u64 0, .int .u64 0] #[.int .u64 q1, .int .u64 q2] rfl rfl rfl rfl rfl (own_new _ _ _ _) (by kernel_rfl) (rfl) (rfl) (one25 _ _) ?_
        simp only [Act.put]
        refine g_look rfl rfl ?_ (fun w' hC => ?_) ?_
        rotate_left
        · go_simp
          first | done | rfl
        simp only [Act.put, List.setIfInBounds_toArray, List.set_cons_zero, List.set_cons_succ]
        refine g_end ?_
        intro w4 hC4 hh4
        have S4 : Hid (Stays [(gx, Obj.cells #[.int .u64 a, .int .u64 b] 25 (0, 0)), (gr, Obj.cells #[.int .u64 0, .int .u64 0] 25 (0, 0)), (gq, Obj.cells #[.int .u64 q1, .int .u64 q2] 25 (0, 0))] w w4) := Lib.hid (stays_cons (stays_row hC4 (List.mem_cons_self ..)) (stays_cons (stays_row hC4 (List.mem_cons_of_mem _ (List.mem_cons_self ..))) (stays_cons ((hh4 _ _ _ (own_new _ _ _ _)).1) (stays_nil (stays_below hC4)))))
        clear S3
        clear hC4 hh4
        go_upto_region 6 with fail
        refine reg_plain (Stays [(gr, Obj.cells #[.int .u64 0, .int .u64 0] 25 (0, 0)), (gq, Obj.cells #[.int .u64 q1, .int .u64 q2] 25 (0, 0))] w) (Turns [(gr, Obj.cells #[.int .u64 0, .int .u64 0] 25 (0, 0)), (gq, Obj.cells #[.int .u64 q1, .int .u64 q2] 25 (0, 0))] w) (kdOf [(1, .touch)]) (Own.has none0 gx (Obj.cells #[.int .u64 a, .int .u64 b] 25 (0, 0))) (stays_good _ _) (stays_cons (stays_row S4.out (List.mem_cons_of_mem _ (List.mem_cons_self ..))) (stays_cons (stays_row S4.out (List.mem_cons_of_mem _ (List.mem_cons_of_mem _ (List.mem_cons_self ..)))) (stays_nil (stays_below S4.out)))) (holds_has (holds0 _) (stays_row S4.out (List.mem_cons_self ..)) (turns_cons (Ne.symm d_x_r) (turns_cons (turns_head tq.out).symm (turns_nil tx.out.2)))) ?_
        (refine g_load 25 _ gq 25 #[.int .u64 q1, .int .u64 q2] (0, 0) _ rfl rfl rfl rfl (fun w' hC => stays_row hC (List.mem_cons_of_mem _ (List.mem_cons_self ..))) Try.underlying25 rfl (rfl) ?_)
        simp only [Act.put, List.setIfInBounds_toArray, List.set_cons_zero, List.set_cons_succ]
        refine g_store gx none 25 25 _ _ #[.int .u64 a, .int .u64 b] #[.int .u64 q1, .int .u64 q2] rfl rfl rfl rfl rfl (has_same _ _ _) (by kernel_rfl) (rfl) (rfl) (one25 _ _) ?_
        simp only [Act.put]
        refine g_end ?_
        intro w5 hC5 hh5
        have S5 : Hid (Stays [(gx, Obj.cells #[.int .u64 q1, .int .u64 q2] 25 (0, 0)), (gr, Obj.cells #[.int .u64 0, .int .u64 0] 25 (0, 0))] w w5) := Lib.hid (stays_cons ((hh5 _ _ _ (own_new _ _ _ _)).1) (stays_cons (stays_row hC5 (List.mem_cons_self ..)) (stays_nil (stays_below hC5))))
        clear S4
        clear hC5 hh5
        go_wp2_with fail
        go_roundw
        case rel => exact ⟨k + 1, q1, q2, by omega, rfl, HQ2, S5⟩
        case measure =>
          show n - ((k : Int) + 1).toNat < n - (k : Int).toNat
          omega
      · have HW : Hid (optV (wval a b * 10) (wval a b * 10 < 340282366920938463463374607431768211456) = .tuple #[.agg #[.int .u64 0, .int .u64 0], .bool false]) := Lib.hid (by rw [hm]; exact opt_no hL)
        have HF : Hid (.tuple #[.agg #[.int .u64 0, .int .u64 0], .bool false] = V) := Lib.hid (by rw [← HV.out]; exact (big_up (k := k + 1) (by omega) hL).symm)
        clear hm hL
        go_upto_region 3 with fail
        refine reg_plain (Stays [(gx, Obj.cells #[.int .u64 a, .int .u64 b] 25 (0, 0)), (gr, Obj.cells #[.int .u64 0, .int .u64 0] 25 (0, 0))] w) (Turns [(gx, Obj.cells #[.int .u64 a, .int .u64 b] 25 (0, 0)), (gr, Obj.cells #[.int .u64 0, .int .u64 0] 25 (0, 0))] w) (kdOf [(1, .make (fun _ => callM (.tuple #[.agg #[.int .u64 0, .int .u64 0], .bool false]))), (5, .make (fun _ => allocM (.cells #[.int .u64 0, .int .u64 0] 25))), (6, .touch)]) none0 (stays_good _ _) (S3.out) (holds0 _) ?_
        (refine g_load 25 _ gx 25 #[.int .u64 a, .int .u64 b] (0, 0) _ rfl rfl rfl rfl (fun w' hC => stays_row hC (List.mem_cons_self ..)) Try.underlying25 rfl (rfl) ?_)
        simp only [Act.put, List.setIfInBounds_toArray, List.set_cons_zero, List.set_cons_succ]
        refine g_call (stays_good _ _) (.tuple #[.agg #[.int .u64 0, .int .u64 0], .bool false]) rfl rfl (fun w' hC => ?_) ?_
        · clear hC
          go_simp
          refine (times_word_any _ a b 10 HQ.out.1 HQ.out.2.1 (by unfold U; decide)).mono (fun e w2 h => ?_)
          obtain ⟨h1, h2⟩ := h
          rw [HW.out] at h1
          exact gives h1 h2
        simp only [Act.put, List.setIfInBounds_toArray, List.set_cons_zero, List.set_cons_succ]
        refine g_look rfl rfl ?_ (fun w' hC => ?_) ?_
        rotate_left
        · go_simp
          first | done | rfl
        simp only [Act.put, List.setIfInBounds_toArray, List.set_cons_zero, List.set_cons_succ]
        refine g_look rfl rfl ?_ (fun w' hC => ?_) ?_
        rotate_left
        · go_simp
          first | done | rfl
        simp only [Act.put, List.setIfInBounds_toArray, List.set_cons_zero, List.set_cons_succ]
        refine g_look rfl rfl ?_ (fun w' hC => ?_) ?_
        rotate_left
        · go_simp
          first | done | rfl
        simp only [Act.put, List.setIfInBounds_toArray, List.set_cons_zero, List.set_cons_succ]
        refine g_alloc (stays_good _ _) (.cells #[.int .u64 0, .int .u64 0] 25) rfl rfl (fun w' hC => ?_) (fun gq tq nq => ?_)
        · clear hC
          go_simp
          first | done | rfl | exact ⟨rfl, rfl⟩
        clear nq
        replace tq := Lib.hid tq
        simp only [Act.put, List.setIfInBounds_toArray, List.set_cons_zero, List.set_cons_succ]
        refine g_store gq (some 5) 25 25 _ _ #[.int .u64 0, .int .u64 0] #[.int .u64 0, .int .u64 0] rfl rfl rfl rfl rfl (own_new _ _ _ _) (by kernel_rfl) (rfl) (rfl) (one25 _ _) ?_
        simp only [Act.put]
        refine g_look rfl rfl ?_ (fun w' hC => ?_) ?_
        rotate_left
        · go_simp
          first | done | rfl
        simp only [Act.put, List.setIfInBounds_toArray, List.set_cons_zero, List.set_cons_succ]
        refine g_end ?_
        intro w4 hC4 hh4
        have S4 : Hid (Stays [(gx, Obj.cells #[.int .u64 a, .int .u64 b] 25 (0, 0)), (gr, Obj.cells #[.int .u64 0, .int .u64 0] 25 (0, 0))] w w4) := Lib.hid (stays_cons (stays_row hC4 (List.mem_cons_self ..)) (stays_cons (stays_row hC4 (List.mem_cons_of_mem _ (List.mem_cons_self ..))) (stays_nil (stays_below hC4))))
        clear S3
        clear hC4 hh4
        go_upto_region 5 with fail
        refine reg_plain (Stays [(gx, Obj.cells #[.int .u64 a, .int .u64 b] 25 (0, 0))] w) (Turns [(gx, Obj.cells #[.int .u64 a, .int .u64 b] 25 (0, 0))] w) (kdOf [(1, .touch)]) (Own.has none0 gr (Obj.cells #[.int .u64 0, .int .u64 0] 25 (0, 0))) (stays_good _ _) (stays_cons (stays_row S4.out (List.mem_cons_self ..)) (stays_nil (stays_below S4.out))) (holds_has (holds0 _) (stays_row S4.out (List.mem_cons_of_mem _ (List.mem_cons_self ..))) (turns_cons d_x_r (turns_nil tr.out.2))) ?_
        refine g_look rfl rfl ?_ (fun w' hC => ?_) ?_
        rotate_left
        · go_simp
          first | done | rfl
        simp only [Act.put, List.setIfInBounds_toArray, List.set_cons_zero, List.set_cons_succ]
        refine g_store gr none 25 25 _ _ #[.int .u64 0, .int .u64 0] #[.int .u64 0, .int .u64 0] rfl rfl rfl rfl rfl (has_same _ _ _) (by kernel_rfl) (rfl) (rfl) (one25 _ _) ?_
        simp only [Act.put]
        refine g_look rfl rfl ?_ (fun w' hC => ?_) ?_
        rotate_left
        · go_simp
          first | done | rfl
        simp only [Act.put, List.setIfInBounds_toArray, List.set_cons_zero, List.set_cons_succ]
        refine g_end ?_
        intro w5 hC5 hh5
        have S5 : Hid (Stays [(gx, Obj.cells #[.int .u64 a, .int .u64 b] 25 (0, 0)), (gr, Obj.cells #[.int .u64 0, .int .u64 0] 25 (0, 0))] w w5) := Lib.hid (stays_cons (stays_row hC5 (List.mem_cons_self ..)) (stays_cons ((hh5 _ _ _ (own_new _ _ _ _)).1) (stays_nil (stays_below hC5))))
        clear S4
        clear hC5 hh5
        go_wp2_with fail
        refine bodyPost_ret (v := .tuple #[.agg #[.int .u64 0, .int .u64 0], .bool false]) (results_opt32 (stays_head (stays_tail S5.out))) rfl ⟨congrArg Ending.returned HF.out, stays_below S5.out⟩
    · obtain rfl : k = n := by omega
      have hlti : ¬ (k : Int) < (k : Int) := by omega
      have hL : ((X * 10 ^ k : Nat) : Int) < Lim := by rw [← HQ.out.2.2]; exact (wval_lt HQ.out.1 HQ.out.2.1).2
      obtain ⟨q1, q2, tt, hw⟩ : ∃ (q1 q2 : Int) (tt : Bool), leftV (wval a b) (z : Int) = .tuple #[.agg #[.int .u64 q1, .int .u64 q2], .bool tt] := by
        unfold leftV optV
        split
        · exact ⟨_, _, _, rfl⟩
        · exact ⟨0, 0, false, rfl⟩
      have HF : Hid (.tuple #[.agg #[.int .u64 q1, .int .u64 q2], .bool tt] = V) := Lib.hid (by rw [← hw, HQ.out.2.2, end_up HN.out.symm hL, HV.out])
      have HW := Lib.hid hw
      clear hL hw
      go_upto_region 8 with fail
      refine reg_plain (Stays [(gx, Obj.cells #[.int .u64 a, .int .u64 b] 25 (0, 0))] w) (Turns [(gx, Obj.cells #[.int .u64 a, .int .u64 b] 25 (0, 0))] w) (kdOf [(2, .make (fun _ => callM (.tuple #[.agg #[.int .u64 q1, .int .u64 q2], .bool tt]))), (5, .touch)]) (Own.has none0 gr (Obj.cells #[.int .u64 0, .int .u64 0] 25 (0, 0))) (stays_good _ _) (stays_cons (stays_row S3.out (List.mem_cons_self ..)) (stays_nil (stays_below S3.out))) (holds_has (holds0 _) (stays_row S3.out (List.mem_cons_of_mem _ (List.mem_cons_self ..))) (turns_cons d_x_r (turns_nil tr.out.2))) ?_
      (refine g_load 25 _ gx 25 #[.int .u64 a, .int .u64 b] (0, 0) _ rfl rfl rfl rfl (fun w' hC => stays_row hC (List.mem_cons_self ..)) Try.underlying25 rfl (rfl) ?_)
      simp only [Act.put, List.setIfInBounds_toArray, List.set_cons_zero, List.set_cons_succ]
      refine g_look rfl rfl ?_ (fun w' hC => ?_) ?_
      rotate_left
      · go_simp
        first | done | rfl
      simp only [Act.put, List.setIfInBounds_toArray, List.set_cons_zero, List.set_cons_succ]
      refine g_call (stays_good _ _) (.tuple #[.agg #[.int .u64 q1, .int .u64 q2], .bool tt]) rfl rfl (fun w' hC => ?_) ?_
      · clear hC
        go_simp
        refine (left_any _ a b (z : Int) HQ.out.1 HQ.out.2.1 (by omega) (by omega)).mono (fun e w2 h => ?_)
        obtain ⟨h1, h2⟩ := h
        rw [HW.out] at h1
        exact gives h1 h2
      simp only [Act.put, List.setIfInBounds_toArray, List.set_cons_zero, List.set_cons_succ]
      refine g_look rfl rfl ?_ (fun w' hC => ?_) ?_
      rotate_left
      · go_simp
        first | done | rfl
      simp only [Act.put, List.setIfInBounds_toArray, List.set_cons_zero, List.set_cons_succ]
      refine g_look rfl rfl ?_ (fun w' hC => ?_) ?_
      rotate_left
      · go_simp
        first | done | rfl
      simp only [Act.put, List.setIfInBounds_toArray, List.set_cons_zero, List.set_cons_succ]
      refine g_store gr none 25 25 _ _ #[.int .u64 0, .int .u64 0] #[.int .u64 q1, .int .u64 q2] rfl rfl rfl rfl rfl (has_same _ _ _) (by kernel_rfl) (rfl) (rfl) (one25 _ _) ?_
      simp only [Act.put]
      refine g_look rfl rfl ?_ (fun w' hC => ?_) ?_
      rotate_left
      · go_simp
        first | done | rfl
      simp only [Act.put, List.setIfInBounds_toArray, List.set_cons_zero, List.set_cons_succ]
      refine g_end ?_
      intro w4 hC4 hh4
      have S4 : Hid (Stays [(gx, Obj.cells #[.int .u64 a, .int .u64 b] 25 (0, 0)), (gr, Obj.cells #[.int .u64 q1, .int .u64 q2] 25 (0, 0))] w w4) := Lib.hid (stays_cons (stays_row hC4 (List.mem_cons_self ..)) (stays_cons ((hh4 _ _ _ (own_new _ _ _ _)).1) (stays_nil (stays_below hC4))))
      clear S3
      clear hC4 hh4
      go_wp2_with fail
      refine bodyPost_ret (v := .tuple #[.agg #[.int .u64 q1, .int .u64 q2], .bool tt]) (results_opt32 (stays_head (stays_tail S4.out))) rfl ⟨congrArg Ending.returned HF.out, stays_below S4.out⟩
end Go.Proofs.Ythpdfacdjgkmpaa.Wi
