/- WideTells: a walk. -/
import Derived.Test.YtfckignchmpeaaaEc
import Derived.Test.YtfckignchmpeaaaDr
import Derived.Test.YtfckignchmpeaaaDp
namespace Go.Proofs.Ytfckignchmpeaaa.Wi
open Go.RowKit K

theorem bit_iff {n k : Nat} : k < bitLen n ↔ 2 ^ k ≤ n := by
  obtain ⟨h1, h2⟩ := bitLen_spec n
  constructor
  · intro h
    have hn : n ≠ 0 := by
      rintro rfl
      have : bitLen 0 = 0 := by unfold bitLen; simp
      omega
    exact Nat.le_trans (Nat.pow_le_pow_right (by decide) (by omega)) (h2 hn)
  · intro h
    by_cases hc : k < bitLen n
    · exact hc
    · have : 2 ^ bitLen n ≤ 2 ^ k := Nat.pow_le_pow_right (by decide) (by omega)
      omega
theorem bit_128 {n : Nat} (h : n < 65536 ^ 8) : bitLen n ≤ 128 := by
  have h' : n < 340282366920938463463374607431768211456 := h
  exact bitLen_lt _ _ (Nat.lt_of_lt_of_le h' (by decide))
theorem parse_pair (s : ByteArray) : ∃ (x y : Int) (t : Bool), parseV s = .tuple #[.agg #[.int .u64 x, .int .u64 y], .bool t] := by
  unfold parseV
  cases textN s.data.toList with
  | none => exact ⟨0, 0, false, rfl⟩
  | some n =>
    show ∃ x y t, wideV n = _
    unfold wideV
    split
    · exact ⟨_, _, _, rfl⟩
    · exact ⟨_, _, _, rfl⟩
theorem lt8_20' {X : Nat} (h : X < 65536 ^ 8) : X < 65536 ^ 20 := Nat.lt_of_lt_of_le h (by decide)
theorem pow20 {k : Nat} (h : k ≤ 128) : 2 ^ k < 65536 ^ 20 := Nat.lt_of_le_of_lt (Nat.pow_le_pow_right (by decide) h) (by decide)
attribute [local go_sem ↓] eqn24
attribute [local go_sem] lookTo stepTo Maker.step
attribute [local irreducible] fc
set_option maxHeartbeats 4000000 in
set_option maxRecDepth 100000 in
theorem tells_nat (w : World) (a b c d X Y : Nat) (s : ByteArray) (ha : a < 65536 ^ 4) (hb : b < 65536 ^ 4) (hcc : c < 65536 ^ 4) (hd : d < 65536 ^ 4) (hX : a * 65536 ^ 4 + b = X) (hY : c * 65536 ^ 4 + d = Y) (hs : s.size ≤ 300) : Calls Try.prog 4 #[wv a b, wv c d, .string s] w (Ret w (.bool true)) := by
  have ua : Hid (U a) := nat_u ha
  have ub : Hid (U b) := nat_u hb
  have uc : Hid (U c) := nat_u hcc
  have ud : Hid (U d) := nat_u hd
  have vX : Hid (wval a b = (X : Int)) := nat_wval hX
  have vY : Hid (wval c d = (Y : Int)) := nat_wval hY
  have kX : Hid (X < 65536 ^ 8) := nat_lt8 ha hb hX
  have kY : Hid (Y < 65536 ^ 8) := nat_lt8 hcc hd hY
  have HA := Lib.hid ha
  have HB := Lib.hid hb
  have HC := Lib.hid hcc
  have HD := Lib.hid hd
  have HX := Lib.hid hX
  have HY := Lib.hid hY
  have HSL : Hid (s.size ≤ maxLen) := Lib.hid (by unfold maxLen; omega)
  obtain ⟨cv, hcv⟩ : ∃ cv, cmpI (X : Int) (Y : Int) = cv := ⟨_, rfl⟩
  have HCM := Lib.hid hcv
  obtain ⟨p1, p2, tp, hp⟩ := parse_pair s
  have HP := Lib.hid hp
  obtain ⟨L, hL⟩ : ∃ L, bitLen X = L := ⟨_, rfl⟩
  have HL := Lib.hid hL
  have HBL : Hid (L ≤ 128) := Lib.hid (by rw [← hL]; exact bit_128 kX.out)
  obtain ⟨tx, htx⟩ : ∃ tx : ByteArray, (⟨(Lib.decDigits X).toArray⟩ : ByteArray) = tx := ⟨_, rfl⟩
  have HTX := Lib.hid htx
  have HBI : Hid ((bitLen (X : Int).toNat : Int) = (L : Int)) := Lib.hid (by rw [Int.toNat_natCast, hL])
  have hsi : ¬ (300 : Int) < (s.size : Int) := by omega
  clear ha hb hcc hd hX hY hp hL htx hs hcv
  unfold wv
  have S0 : Hid (Stays [] w w) := Lib.hid (stays_nil (Below.refl _ _))
  go_enter Try.func4, Try.ntmps4
  go_upto_region 0 with fail
  refine reg_plain (Stays [] w) (Turns [] w) (kdOf [(0, .make (allocM (.cells #[.int .u64 (a : Int), .int .u64 (b : Int)] 24))), (1, .make (allocM (.cells #[.int .u64 (c : Int), .int .u64 (d : Int)] 24)))]) none0 (stays_good _ _) (S0.out) (holds0 _) ?_
  refine g_alloc (stays_good _ _) (.cells #[.int .u64 (a : Int), .int .u64 (b : Int)] 24) rfl rfl (fun w' hC => ?_) (fun ga ta na => ?_)
  · clear hC
    go_simp
    first | done | rfl | exact ⟨rfl, rfl⟩
  clear na
  replace ta := Lib.hid ta
  simp only [Act.put, List.setIfInBounds_toArray, List.set_cons_zero, List.set_cons_succ]
  refine g_alloc (stays_good _ _) (.cells #[.int .u64 (c : Int), .int .u64 (d : Int)] 24) rfl rfl (fun w' hC => ?_) (fun gb tb nb => ?_)
  · clear hC
    go_simp
    first | done | rfl | exact ⟨rfl, rfl⟩
  obtain ⟨d_a_b, nb⟩ := own_none nb
  clear nb
  replace tb := Lib.hid tb
  simp only [Act.put, List.setIfInBounds_toArray, List.set_cons_zero, List.set_cons_succ]
  refine g_look rfl rfl ?_ (fun w' hC => ?_) ?_
  rotate_left
  · go_simp
    first | done | rfl
  simp only [Act.put, List.setIfInBounds_toArray, List.set_cons_zero, List.set_cons_succ]
  refine g_end ?_
  intro w1 hC1 hh1
  have S1 : Hid (Stays [(ga, Obj.cells #[.int .u64 (a : Int), .int .u64 (b : Int)] 24 (0, 0)), (gb, Obj.cells #[.int .u64 (c : Int), .int .u64 (d : Int)] 24 (0, 0))] w w1) := Lib.hid (stays_cons ((hh1 _ _ _ ((own_off _ (Ne.symm d_a_b)).trans (own_new _ _ _ _))).1) (stays_cons ((hh1 _ _ _ (own_new _ _ _ _)).1) (stays_nil (stays_below hC1))))
  clear hC1 hh1
  go_upto_region 1 with fail
  refine reg_plain (Stays [(ga, Obj.cells #[.int .u64 (a : Int), .int .u64 (b : Int)] 24 (0, 0)), (gb, Obj.cells #[.int .u64 (c : Int), .int .u64 (d : Int)] 24 (0, 0))] w) (Turns [(ga, Obj.cells #[.int .u64 (a : Int), .int .u64 (b : Int)] 24 (0, 0)), (gb, Obj.cells #[.int .u64 (c : Int), .int .u64 (d : Int)] 24 (0, 0))] w) (kdOf [(0, .make (callM (.bool true)))]) none0 (stays_good _ _) (S1.out) (holds0 _) ?_
  refine g_call (stays_good _ _) (.bool true) rfl rfl (fun w' hC => ?_) ?_
  · clear hC
    go_simp
    refine (first_any _).mono (fun e w2 h => ?_)
    obtain ⟨h1, h2⟩ := h
    exact gives h1 h2
  simp only [Act.put, List.setIfInBounds_toArray, List.set_cons_zero, List.set_cons_succ]
  refine g_look rfl rfl ?_ (fun w' hC => ?_) ?_
  rotate_left
  · go_simp
    first | done | rfl
  simp only [Act.put, List.setIfInBounds_toArray, List.set_cons_zero, List.set_cons_succ]
  refine g_end ?_
  intro w2 hC2 hh2
  have S2 : Hid (Stays [(ga, Obj.cells #[.int .u64 (a : Int), .int .u64 (b : Int)] 24 (0, 0)), (gb, Obj.cells #[.int .u64 (c : Int), .int .u64 (d : Int)] 24 (0, 0))] w w2) := Lib.hid (stays_cons (stays_row hC2 (List.mem_cons_self ..)) (stays_cons (stays_row hC2 (List.mem_cons_of_mem _ (List.mem_cons_self ..))) (stays_nil (stays_below hC2))))
  clear S1
  clear hC2 hh2
  go_upto_region 5 with fail
  refine reg (Stays [(ga, Obj.cells #[.int .u64 (a : Int), .int .u64 (b : Int)] 24 (0, 0)), (gb, Obj.cells #[.int .u64 (c : Int), .int .u64 (d : Int)] 24 (0, 0))] w) (Turns [(ga, Obj.cells #[.int .u64 (a : Int), .int .u64 (b : Int)] 24 (0, 0)), (gb, Obj.cells #[.int .u64 (c : Int), .int .u64 (d : Int)] 24 (0, 0))] w) (kdOf [(1, .make (callM (dg X))), (3, .make (callM (dg Y))), (4, .make (allocM (.cells z20 27))), (5, .make (allocM (.cells z20 27))), (6, .touch), (7, .touch)]) none0 (stays_good _ _) (by kernel_rfl) (by kernel_rfl) (stays_drew (S2.out)) (holds0 _) ?_
  (refine g_load 24 _ ga 24 #[.int .u64 (a : Int), .int .u64 (b : Int)] (0, 0) _ rfl rfl rfl rfl (fun w' hC => stays_row hC (List.mem_cons_self ..)) Try.underlying24 rfl (rfl) ?_)
  simp only [Act.put, List.setIfInBounds_toArray, List.set_cons_zero, List.set_cons_succ]
  refine g_call (stays_good _ _) (dg X) rfl rfl (fun w' hC => ?_) ?_
  · clear hC
    go_simp
    refine (of_any _ a b HA.out HB.out).mono (fun e w2 h => ?_)
    obtain ⟨h1, h2⟩ := h
    rw [HX.out] at h1
    exact gives h1 h2
  simp only [Act.put, List.setIfInBounds_toArray, List.set_cons_zero, List.set_cons_succ]
  (refine g_load 24 _ gb 24 #[.int .u64 (c : Int), .int .u64 (d : Int)] (0, 0) _ rfl rfl rfl rfl (fun w' hC => stays_row hC (List.mem_cons_of_mem _ (List.mem_cons_self ..))) Try.underlying24 rfl (rfl) ?_)
  simp only [Act.put, List.setIfInBounds_toArray, List.set_cons_zero, List.set_cons_succ]
  refine g_call (stays_good _ _) (dg Y) rfl rfl (fun w' hC => ?_) ?_
  · clear hC
    go_simp
    refine (of_any _ c d HC.out HD.out).mono (fun e w2 h => ?_)
    obtain ⟨h1, h2⟩ := h
    rw [HY.out] at h1
    exact gives h1 h2
  simp only [Act.put, List.setIfInBounds_toArray, List.set_cons_zero, List.set_cons_succ]
  refine g_alloc (stays_good _ _) (.cells z20 27) rfl rfl (fun w' hC => ?_) (fun gX tX nX => ?_)
  · clear hC
    go_simp
    first | done | rfl | exact ⟨rfl, rfl⟩
  clear nX
  replace tX := Lib.hid tX
  simp only [Act.put, List.setIfInBounds_toArray, List.set_cons_zero, List.set_cons_succ]
  refine g_alloc (stays_good _ _) (.cells z20 27) rfl rfl (fun w' hC => ?_) (fun gY tY nY => ?_)
  · clear hC
    go_simp
    first | done | rfl | exact ⟨rfl, rfl⟩
  obtain ⟨d_X_Y, nY⟩ := own_none nY
  clear nY
  replace tY := Lib.hid tY
  simp only [Act.put, List.setIfInBounds_toArray, List.set_cons_zero, List.set_cons_succ]
  refine g_store gX (some 4) 27 27 _ _ z20 (fc (dig X)) rfl rfl rfl rfl rfl ((own_off _ (Ne.symm d_X_Y)).trans (own_new _ _ _ _)) (by kernel_rfl) ((by first | exact fc_size _ | exact (fc_size _).trans (fc_size _).symm)) (info27 _) (fc_one _) ?_
  simp only [Act.put]
  refine g_store gY (some 5) 27 27 _ _ z20 (fc (dig Y)) rfl rfl rfl rfl rfl ((own_off _ d_X_Y).trans (own_new _ _ _ _)) (by kernel_rfl) ((by first | exact fc_size _ | exact (fc_size _).trans (fc_size _).symm)) (info27 _) (fc_one _) ?_
  simp only [Act.put]
  refine g_end ?_
  intro w3 hC3 hh3
  have S3 : Hid (Stays [(ga, Obj.cells #[.int .u64 (a : Int), .int .u64 (b : Int)] 24 (0, 0)), (gb, Obj.cells #[.int .u64 (c : Int), .int .u64 (d : Int)] 24 (0, 0)), (gX, Obj.cells (fc (dig X)) 27 (0, 0)), (gY, Obj.cells (fc (dig Y)) 27 (0, 0))] w w3) := Lib.hid (stays_cons (stays_row hC3 (List.mem_cons_self ..)) (stays_cons (stays_row hC3 (List.mem_cons_of_mem _ (List.mem_cons_self ..))) (stays_cons ((hh3 _ _ _ ((own_off _ (Ne.symm d_X_Y)).trans (own_new _ _ _ _))).1) (stays_cons ((hh3 _ _ _ (own_new _ _ _ _)).1) (stays_nil (stays_below hC3))))))
  clear S2
  clear hC3 hh3
  go_upto_region 7 with fail
  refine reg_plain (Stays [(ga, Obj.cells #[.int .u64 (a : Int), .int .u64 (b : Int)] 24 (0, 0)), (gb, Obj.cells #[.int .u64 (c : Int), .int .u64 (d : Int)] 24 (0, 0)), (gX, Obj.cells (fc (dig X)) 27 (0, 0)), (gY, Obj.cells (fc (dig Y)) 27 (0, 0))] w) (Turns [(ga, Obj.cells #[.int .u64 (a : Int), .int .u64 (b : Int)] 24 (0, 0)), (gb, Obj.cells #[.int .u64 (c : Int), .int .u64 (d : Int)] 24 (0, 0)), (gX, Obj.cells (fc (dig X)) 27 (0, 0)), (gY, Obj.cells (fc (dig Y)) 27 (0, 0))] w) (kdOf [(2, .make (callM (.bool (decide (X < Y)))))]) none0 (stays_good _ _) (S3.out) (holds0 _) ?_
  (refine g_load 27 _ gX 27 (fc (dig X)) (0, 0) _ rfl rfl rfl rfl (fun w' hC => stays_row hC (List.mem_cons_of_mem _ (List.mem_cons_of_mem _ (List.mem_cons_self ..)))) Try.underlying27 rfl (info27 _) ?_)
  simp only [Act.put, List.setIfInBounds_toArray, List.set_cons_zero, List.set_cons_succ]
  (refine g_load 27 _ gY 27 (fc (dig Y)) (0, 0) _ rfl rfl rfl rfl (fun w' hC => stays_row hC (List.mem_cons_of_mem _ (List.mem_cons_of_mem _ (List.mem_cons_of_mem _ (List.mem_cons_self ..))))) Try.underlying27 rfl (info27 _) ?_)
  simp only [Act.put, List.setIfInBounds_toArray, List.set_cons_zero, List.set_cons_succ]
  refine g_call (stays_good _ _) (.bool (decide (X < Y))) rfl rfl (fun w' hC => ?_) ?_
  · clear hC
    go_simp
    refine (less_any _ X Y (lt8_20 kX.out) (lt8_20 kY.out)).mono (fun e w2 h => ?_)
    obtain ⟨h1, h2⟩ := h
    exact gives h1 h2
  simp only [Act.put, List.setIfInBounds_toArray, List.set_cons_zero, List.set_cons_succ]
  refine g_end ?_
  intro w4 hC4 hh4
  have S4 : Hid (Stays [(ga, Obj.cells #[.int .u64 (a : Int), .int .u64 (b : Int)] 24 (0, 0)), (gb, Obj.cells #[.int .u64 (c : Int), .int .u64 (d : Int)] 24 (0, 0)), (gX, Obj.cells (fc (dig X)) 27 (0, 0)), (gY, Obj.cells (fc (dig Y)) 27 (0, 0))] w w4) := Lib.hid (stays_cons (stays_row hC4 (List.mem_cons_self ..)) (stays_cons (stays_row hC4 (List.mem_cons_of_mem _ (List.mem_cons_self ..))) (stays_cons (stays_row hC4 (List.mem_cons_of_mem _ (List.mem_cons_of_mem _ (List.mem_cons_self ..)))) (stays_cons (stays_row hC4 (List.mem_cons_of_mem _ (List.mem_cons_of_mem _ (List.mem_cons_of_mem _ (List.mem_cons_self ..))))) (stays_nil (stays_below hC4))))))
  clear S3
  clear hC4 hh4
  go_upto_if 28 with fail
  go_cut [9] (fun t wx => t = .int .i64 cv ∧ Hid (Stays [(ga, Obj.cells #[.int .u64 (a : Int), .int .u64 (b : Int)] 24 (0, 0)), (gb, Obj.cells #[.int .u64 (c : Int), .int .u64 (d : Int)] 24 (0, 0)), (gX, Obj.cells (fc (dig X)) 27 (0, 0)), (gY, Obj.cells (fc (dig Y)) 27 (0, 0))] w wx))
  case first =>
    by_cases h1 : X < Y
    · obtain rfl : cv = -1 := by rw [← HCM.out, cmpI, if_pos (by omega)]
      have e1 : decide (X < Y) = true := by simp; omega
      simp only [e1]
      clear e1 h1
      go_wp2_with fail
      go_meet
      exact ⟨rfl, S4⟩
    · have e1 : decide (X < Y) = false := by simp; omega
      simp only [e1]
      clear e1
      go_upto_region 9 with fail
      refine reg_plain (Stays [(ga, Obj.cells #[.int .u64 (a : Int), .int .u64 (b : Int)] 24 (0, 0)), (gb, Obj.cells #[.int .u64 (c : Int), .int .u64 (d : Int)] 24 (0, 0)), (gX, Obj.cells (fc (dig X)) 27 (0, 0)), (gY, Obj.cells (fc (dig Y)) 27 (0, 0))] w) (Turns [(ga, Obj.cells #[.int .u64 (a : Int), .int .u64 (b : Int)] 24 (0, 0)), (gb, Obj.cells #[.int .u64 (c : Int), .int .u64 (d : Int)] 24 (0, 0)), (gX, Obj.cells (fc (dig X)) 27 (0, 0)), (gY, Obj.cells (fc (dig Y)) 27 (0, 0))] w) (kdOf [(2, .make (callM (.bool (decide (Y < X)))))]) none0 (stays_good _ _) (S4.out) (holds0 _) ?_
      (refine g_load 27 _ gY 27 (fc (dig Y)) (0, 0) _ rfl rfl rfl rfl (fun w' hC => stays_row hC (List.mem_cons_of_mem _ (List.mem_cons_of_mem _ (List.mem_cons_of_mem _ (List.mem_cons_self ..))))) Try.underlying27 rfl (info27 _) ?_)
      simp only [Act.put, List.setIfInBounds_toArray, List.set_cons_zero, List.set_cons_succ]
      (refine g_load 27 _ gX 27 (fc (dig X)) (0, 0) _ rfl rfl rfl rfl (fun w' hC => stays_row hC (List.mem_cons_of_mem _ (List.mem_cons_of_mem _ (List.mem_cons_self ..)))) Try.underlying27 rfl (info27 _) ?_)
      simp only [Act.put, List.setIfInBounds_toArray, List.set_cons_zero, List.set_cons_succ]
      refine g_call (stays_good _ _) (.bool (decide (Y < X))) rfl rfl (fun w' hC => ?_) ?_
      · clear hC
        go_simp
        refine (less_any _ Y X (lt8_20 kY.out) (lt8_20 kX.out)).mono (fun e w2 h => ?_)
        obtain ⟨h1, h2⟩ := h
        exact gives h1 h2
      simp only [Act.put, List.setIfInBounds_toArray, List.set_cons_zero, List.set_cons_succ]
      refine g_end ?_
      intro w5 hC5 hh5
      have S5 : Hid (Stays [(ga, Obj.cells #[.int .u64 (a : Int), .int .u64 (b : Int)] 24 (0, 0)), (gb, Obj.cells #[.int .u64 (c : Int), .int .u64 (d : Int)] 24 (0, 0)), (gX, Obj.cells (fc (dig X)) 27 (0, 0)), (gY, Obj.cells (fc (dig Y)) 27 (0, 0))] w w5) := Lib.hid (stays_cons (stays_row hC5 (List.mem_cons_self ..)) (stays_cons (stays_row hC5 (List.mem_cons_of_mem _ (List.mem_cons_self ..))) (stays_cons (stays_row hC5 (List.mem_cons_of_mem _ (List.mem_cons_of_mem _ (List.mem_cons_self ..)))) (stays_cons (stays_row hC5 (List.mem_cons_of_mem _ (List.mem_cons_of_mem _ (List.mem_cons_of_mem _ (List.mem_cons_self ..))))) (stays_nil (stays_below hC5))))))
      clear S4
      clear hC5 hh5
      by_cases h2 : Y < X
      · obtain rfl : cv = 1 := by rw [← HCM.out, cmpI, if_neg (by omega), if_pos (by omega)]
        have e1 : decide (Y < X) = true := by simp; omega
        simp only [e1]
        clear e1 h1 h2
        go_wp2_with fail
        go_meet
        exact ⟨rfl, S5⟩
      · obtain rfl : cv = 0 := by rw [← HCM.out, cmpI, if_neg (by omega), if_neg (by omega)]
        have e1 : decide (Y < X) = false := by simp; omega
        simp only [e1]
        clear e1 h1 h2
        go_wp2_with fail
        go_meet
        exact ⟨rfl, S5⟩
  case rest =>
    clear S4
    obtain ⟨rfl, S80⟩ := hcut
    go_wp2_with fail
    go_loopw [10] (fun cc wr => ∃ k : Nat, cc = .int .i64 k ∧ k ≤ L ∧ Hid (Stays [(ga, Obj.cells #[.int .u64 (a : Int), .int .u64 (b : Int)] 24 (0, 0)), (gb, Obj.cells #[.int .u64 (c : Int), .int .u64 (d : Int)] 24 (0, 0)), (gX, Obj.cells (fc (dig X)) 27 (0, 0)), (gY, Obj.cells (fc (dig Y)) 27 (0, 0))] w wr)) (fun cc _ => L - (intOf cc).toNat)
    case atStart => exact ⟨0, rfl, Nat.zero_le _, S80⟩
    case round =>
      obtain ⟨k, rfl, hk, S90⟩ := hrel
      clear S80
      go_upto_region 12 with fail
      go_cut [40] (fun t wx => t = .bool (decide (k < L)) ∧ Hid (Stays [(ga, Obj.cells #[.int .u64 (a : Int), .int .u64 (b : Int)] 24 (0, 0)), (gb, Obj.cells #[.int .u64 (c : Int), .int .u64 (d : Int)] 24 (0, 0)), (gX, Obj.cells (fc (dig X)) 27 (0, 0)), (gY, Obj.cells (fc (dig Y)) 27 (0, 0))] w wx))
      case first =>
        by_cases hlt : k < L
        · have HK128 : Hid (k < 128) := Lib.hid (by have := HBL.out; omega)
          have hki : (k : Int) < 128 := by have := HK128.out; omega
          have HLP : Hid (decide (X < 2 ^ k) = false) := Lib.hid (by
            have := (bit_iff (n := X) (k := k)).1 (by rw [HL.out]; exact hlt)
            simp
            omega)
          have HLT := Lib.hid hlt
          clear hlt
          refine reg (Stays [(ga, Obj.cells #[.int .u64 (a : Int), .int .u64 (b : Int)] 24 (0, 0)), (gb, Obj.cells #[.int .u64 (c : Int), .int .u64 (d : Int)] 24 (0, 0)), (gX, Obj.cells (fc (dig X)) 27 (0, 0)), (gY, Obj.cells (fc (dig Y)) 27 (0, 0))] w) (Turns [(ga, Obj.cells #[.int .u64 (a : Int), .int .u64 (b : Int)] 24 (0, 0)), (gb, Obj.cells #[.int .u64 (c : Int), .int .u64 (d : Int)] 24 (0, 0)), (gX, Obj.cells (fc (dig X)) 27 (0, 0)), (gY, Obj.cells (fc (dig Y)) 27 (0, 0))] w) (kdOf [(5, .make (callM (dg (2 ^ k)))), (6, .make (callM (.bool false)))]) none0 (stays_good _ _) (by kernel_rfl) (by kernel_rfl) (stays_drew (S90.out)) (holds0 _) ?_
          refine g_look rfl rfl ?_ (fun w' hC => ?_) ?_
          rotate_left
          · go_simp
            first | done | rfl
          simp only [Act.put, List.setIfInBounds_toArray, List.set_cons_zero, List.set_cons_succ]
          refine g_look rfl rfl ?_ (fun w' hC => ?_) ?_
          rotate_left
          · go_simp
            first | done | rfl
          simp only [Act.put, List.setIfInBounds_toArray, List.set_cons_zero, List.set_cons_succ]
          refine g_look rfl rfl ?_ (fun w' hC => ?_) ?_
          rotate_left
          · go_simp
            first | done | rfl
          simp only [Act.put, List.setIfInBounds_toArray, List.set_cons_zero, List.set_cons_succ]
          first | (refine g_skip rfl ?_) | (refine g_load 27 _ gX 27 (fc (dig X)) (0, 0) _ rfl rfl rfl rfl (fun w' hC => stays_row hC (List.mem_cons_of_mem _ (List.mem_cons_of_mem _ (List.mem_cons_self ..)))) Try.underlying27 rfl (info27 _) ?_)
          simp only [Act.put, List.setIfInBounds_toArray, List.set_cons_zero, List.set_cons_succ]
          first
          | (refine g_skip rfl ?_)
          | (refine g_look rfl rfl ?_ (fun w' hC => ?_) ?_
             rotate_left
             · go_simp
               first | done | rfl)
          simp only [Act.put, List.setIfInBounds_toArray, List.set_cons_zero, List.set_cons_succ]
          refine g_call (stays_good _ _) (dg (2 ^ k)) rfl rfl (fun w' hC => ?_) ?_
          · clear hC
            go_simp
            refine (power_any _ k (by have := HK128.out; omega)).mono (fun e w2 h => ?_)
            obtain ⟨h1, h2⟩ := h
            exact gives h1 h2
          simp only [Act.put, List.setIfInBounds_toArray, List.set_cons_zero, List.set_cons_succ]
          refine g_call (stays_good _ _) (.bool false) rfl rfl (fun w' hC => ?_) ?_
          · clear hC
            go_simp
            refine (less_any _ X (2 ^ k) (lt8_20 kX.out) (pow20 (Nat.le_of_lt HK128.out))).mono (fun e w2 h => ?_)
            obtain ⟨h1, h2⟩ := h
            rw [HLP.out] at h1
            exact gives h1 h2
          simp only [Act.put, List.setIfInBounds_toArray, List.set_cons_zero, List.set_cons_succ]
          first
          | (refine g_skip rfl ?_)
          | (refine g_look rfl rfl ?_ (fun w' hC => ?_) ?_
             rotate_left
             · go_simp
               first | done | rfl)
          simp only [Act.put, List.setIfInBounds_toArray, List.set_cons_zero, List.set_cons_succ]
          refine g_look rfl rfl ?_ (fun w' hC => ?_) ?_
          rotate_left
          · go_simp
            first | done | rfl
          simp only [Act.put, List.setIfInBounds_toArray, List.set_cons_zero, List.set_cons_succ]
          refine g_end ?_
          intro w91 hC91 hh91
          have S91 : Hid (Stays [(ga, Obj.cells #[.int .u64 (a : Int), .int .u64 (b : Int)] 24 (0, 0)), (gb, Obj.cells #[.int .u64 (c : Int), .int .u64 (d : Int)] 24 (0, 0)), (gX, Obj.cells (fc (dig X)) 27 (0, 0)), (gY, Obj.cells (fc (dig Y)) 27 (0, 0))] w w91) := Lib.hid (stays_cons (stays_row hC91 (List.mem_cons_self ..)) (stays_cons (stays_row hC91 (List.mem_cons_of_mem _ (List.mem_cons_self ..))) (stays_cons (stays_row hC91 (List.mem_cons_of_mem _ (List.mem_cons_of_mem _ (List.mem_cons_self ..)))) (stays_cons (stays_row hC91 (List.mem_cons_of_mem _ (List.mem_cons_of_mem _ (List.mem_cons_of_mem _ (List.mem_cons_self ..))))) (stays_nil (stays_below hC91))))))
          clear S90
          clear hC91 hh91
          go_wp2_with fail
          go_meet
          exact ⟨by rw [decide_eq_true HLT.out], S91⟩
        · have HLT := Lib.hid hlt
          have HLL := HBL.out
          by_cases h128 : k < 128
          · have hki : (k : Int) < 128 := by omega
            have HLP : Hid (decide (X < 2 ^ k) = true) := Lib.hid (by
              have := (bit_iff (n := X) (k := k))
              rw [HL.out] at this
              simp
              omega)
            have HK128 := Lib.hid h128
            clear HLL h128 hlt
            refine reg (Stays [(ga, Obj.cells #[.int .u64 (a : Int), .int .u64 (b : Int)] 24 (0, 0)), (gb, Obj.cells #[.int .u64 (c : Int), .int .u64 (d : Int)] 24 (0, 0)), (gX, Obj.cells (fc (dig X)) 27 (0, 0)), (gY, Obj.cells (fc (dig Y)) 27 (0, 0))] w) (Turns [(ga, Obj.cells #[.int .u64 (a : Int), .int .u64 (b : Int)] 24 (0, 0)), (gb, Obj.cells #[.int .u64 (c : Int), .int .u64 (d : Int)] 24 (0, 0)), (gX, Obj.cells (fc (dig X)) 27 (0, 0)), (gY, Obj.cells (fc (dig Y)) 27 (0, 0))] w) (kdOf [(5, .make (callM (dg (2 ^ k)))), (6, .make (callM (.bool true)))]) none0 (stays_good _ _) (by kernel_rfl) (by kernel_rfl) (stays_drew (S90.out)) (holds0 _) ?_
            refine g_look rfl rfl ?_ (fun w' hC => ?_) ?_
            rotate_left
            · go_simp
              first | done | rfl
            simp only [Act.put, List.setIfInBounds_toArray, List.set_cons_zero, List.set_cons_succ]
            refine g_look rfl rfl ?_ (fun w' hC => ?_) ?_
            rotate_left
            · go_simp
              first | done | rfl
            simp only [Act.put, List.setIfInBounds_toArray, List.set_cons_zero, List.set_cons_succ]
            refine g_look rfl rfl ?_ (fun w' hC => ?_) ?_
            rotate_left
            · go_simp
              first | done | rfl
            simp only [Act.put, List.setIfInBounds_toArray, List.set_cons_zero, List.set_cons_succ]
            first | (refine g_skip rfl ?_) | (refine g_load 27 _ gX 27 (fc (dig X)) (0, 0) _ rfl rfl rfl rfl (fun w' hC => stays_row hC (List.mem_cons_of_mem _ (List.mem_cons_of_mem _ (List.mem_cons_self ..)))) Try.underlying27 rfl (info27 _) ?_)
            simp only [Act.put, List.setIfInBounds_toArray, List.set_cons_zero, List.set_cons_succ]
            first
            | (refine g_skip rfl ?_)
            | (refine g_look rfl rfl ?_ (fun w' hC => ?_) ?_
               rotate_left
               · go_simp
                 first | done | rfl)
            simp only [Act.put, List.setIfInBounds_toArray, List.set_cons_zero, List.set_cons_succ]
            refine g_call (stays_good _ _) (dg (2 ^ k)) rfl rfl (fun w' hC => ?_) ?_
            · clear hC
              go_simp
              refine (power_any _ k (by have := HK128.out; omega)).mono (fun e w2 h => ?_)
              obtain ⟨h1, h2⟩ := h
              exact gives h1 h2
            simp only [Act.put, List.setIfInBounds_toArray, List.set_cons_zero, List.set_cons_succ]
            refine g_call (stays_good _ _) (.bool true) rfl rfl (fun w' hC => ?_) ?_
            · clear hC
              go_simp
              refine (less_any _ X (2 ^ k) (lt8_20 kX.out) (pow20 (Nat.le_of_lt HK128.out))).mono (fun e w2 h => ?_)
              obtain ⟨h1, h2⟩ := h
              rw [HLP.out] at h1
              exact gives h1 h2
            simp only [Act.put, List.setIfInBounds_toArray, List.set_cons_zero, List.set_cons_succ]
            first
            | (refine g_skip rfl ?_)
            | (refine g_look rfl rfl ?_ (fun w' hC => ?_) ?_
               rotate_left
               · go_simp
                 first | done | rfl)
            simp only [Act.put, List.setIfInBounds_toArray, List.set_cons_zero, List.set_cons_succ]
            refine g_look rfl rfl ?_ (fun w' hC => ?_) ?_
            rotate_left
            · go_simp
              first | done | rfl
            simp only [Act.put, List.setIfInBounds_toArray, List.set_cons_zero, List.set_cons_succ]
            refine g_end ?_
            intro w91 hC91 hh91
            have S91 : Hid (Stays [(ga, Obj.cells #[.int .u64 (a : Int), .int .u64 (b : Int)] 24 (0, 0)), (gb, Obj.cells #[.int .u64 (c : Int), .int .u64 (d : Int)] 24 (0, 0)), (gX, Obj.cells (fc (dig X)) 27 (0, 0)), (gY, Obj.cells (fc (dig Y)) 27 (0, 0))] w w91) := Lib.hid (stays_cons (stays_row hC91 (List.mem_cons_self ..)) (stays_cons (stays_row hC91 (List.mem_cons_of_mem _ (List.mem_cons_self ..))) (stays_cons (stays_row hC91 (List.mem_cons_of_mem _ (List.mem_cons_of_mem _ (List.mem_cons_self ..)))) (stays_cons (stays_row hC91 (List.mem_cons_of_mem _ (List.mem_cons_of_mem _ (List.mem_cons_of_mem _ (List.mem_cons_self ..))))) (stays_nil (stays_below hC91))))))
            clear S90
            clear hC91 hh91
            go_wp2_with fail
            go_meet
            exact ⟨by rw [decide_eq_false HLT.out], S91⟩
          · have hki : ¬ (k : Int) < 128 := by omega
            clear HLL h128 hlt
            refine reg (Stays [(ga, Obj.cells #[.int .u64 (a : Int), .int .u64 (b : Int)] 24 (0, 0)), (gb, Obj.cells #[.int .u64 (c : Int), .int .u64 (d : Int)] 24 (0, 0)), (gX, Obj.cells (fc (dig X)) 27 (0, 0)), (gY, Obj.cells (fc (dig Y)) 27 (0, 0))] w) (Turns [(ga, Obj.cells #[.int .u64 (a : Int), .int .u64 (b : Int)] 24 (0, 0)), (gb, Obj.cells #[.int .u64 (c : Int), .int .u64 (d : Int)] 24 (0, 0)), (gX, Obj.cells (fc (dig X)) 27 (0, 0)), (gY, Obj.cells (fc (dig Y)) 27 (0, 0))] w) (kdOf []) none0 (stays_good _ _) (by kernel_rfl) (by kernel_rfl) (stays_drew (S90.out)) (holds0 _) ?_
            refine g_look rfl rfl ?_ (fun w' hC => ?_) ?_
            rotate_left
            · go_simp
              first | done | rfl
            simp only [Act.put, List.setIfInBounds_toArray, List.set_cons_zero, List.set_cons_succ]
            refine g_look rfl rfl ?_ (fun w' hC => ?_) ?_
            rotate_left
            · go_simp
              first | done | rfl
            simp only [Act.put, List.setIfInBounds_toArray, List.set_cons_zero, List.set_cons_succ]
            refine g_look rfl rfl ?_ (fun w' hC => ?_) ?_
            rotate_left
            · go_simp
              first | done | rfl
            simp only [Act.put, List.setIfInBounds_toArray, List.set_cons_zero, List.set_cons_succ]
            first | (refine g_skip rfl ?_) | (refine g_load 27 _ gX 27 (fc (dig X)) (0, 0) _ rfl rfl rfl rfl (fun w' hC => stays_row hC (List.mem_cons_of_mem _ (List.mem_cons_of_mem _ (List.mem_cons_self ..)))) Try.underlying27 rfl (info27 _) ?_)
            simp only [Act.put, List.setIfInBounds_toArray, List.set_cons_zero, List.set_cons_succ]
            first
            | (refine g_skip rfl ?_)
            | (refine g_look rfl rfl ?_ (fun w' hC => ?_) ?_
               rotate_left
               · go_simp
                 first | done | rfl)
            simp only [Act.put, List.setIfInBounds_toArray, List.set_cons_zero, List.set_cons_succ]
            refine g_skip rfl ?_
            simp only [Act.put, List.setIfInBounds_toArray, List.set_cons_zero, List.set_cons_succ]
            refine g_skip rfl ?_
            simp only [Act.put, List.setIfInBounds_toArray, List.set_cons_zero, List.set_cons_succ]
            first
            | (refine g_skip rfl ?_)
            | (refine g_look rfl rfl ?_ (fun w' hC => ?_) ?_
               rotate_left
               · go_simp
                 first | done | rfl)
            simp only [Act.put, List.setIfInBounds_toArray, List.set_cons_zero, List.set_cons_succ]
            refine g_look rfl rfl ?_ (fun w' hC => ?_) ?_
            rotate_left
            · go_simp
              first | done | rfl
            simp only [Act.put, List.setIfInBounds_toArray, List.set_cons_zero, List.set_cons_succ]
            refine g_end ?_
            intro w91 hC91 hh91
            have S91 : Hid (Stays [(ga, Obj.cells #[.int .u64 (a : Int), .int .u64 (b : Int)] 24 (0, 0)), (gb, Obj.cells #[.int .u64 (c : Int), .int .u64 (d : Int)] 24 (0, 0)), (gX, Obj.cells (fc (dig X)) 27 (0, 0)), (gY, Obj.cells (fc (dig Y)) 27 (0, 0))] w w91) := Lib.hid (stays_cons (stays_row hC91 (List.mem_cons_self ..)) (stays_cons (stays_row hC91 (List.mem_cons_of_mem _ (List.mem_cons_self ..))) (stays_cons (stays_row hC91 (List.mem_cons_of_mem _ (List.mem_cons_of_mem _ (List.mem_cons_self ..)))) (stays_cons (stays_row hC91 (List.mem_cons_of_mem _ (List.mem_cons_of_mem _ (List.mem_cons_of_mem _ (List.mem_cons_self ..))))) (stays_nil (stays_below hC91))))))
            clear S90
            clear hC91 hh91
            go_wp2_with fail
            go_meet
            exact ⟨by rw [decide_eq_false HLT.out], S91⟩
      case rest =>
        clear S90
        obtain ⟨rfl, S95⟩ := hcut
        by_cases hlt : k < L
        · have HLT := Lib.hid hlt
          have e1 : decide (k < L) = true := by simp; omega
          have hkw : wrap64 ((k : Int) + 1) = (k : Int) + 1 := by
            have := HBL.out
            simp only [wrap64]
            omega
          simp only [e1]
          have HKW := Lib.hid hkw
          clear hlt e1 hkw
          go_wp2_with fail
          go_roundw
          case rel => exact ⟨k + 1, by first | rfl | (rw [HKW.out]; rfl), HLT.out, S95⟩
          case measure =>
            first | rw [HKW.out] | skip
            have := HLT.out
            show L - ((k : Int) + 1).toNat < L - (k : Int).toNat
            omega
        · obtain rfl : k = L := by omega
          have e1 : decide (k < k) = false := by simp
          simp only [e1]
          clear hlt e1
          by_cases hz : a = 0
          · have HU : Hid (uintV (a : Int) b = .tuple #[.int .u64 (b : Int), .bool true]) := Lib.hid (by
              unfold uintV
              rw [if_pos (by omega)])
            have ez : ((a : Int) == 0) = true := by simp; omega
            have ez2 : decide (a = 0) = true := by simp; omega
            clear hz
            go_upto_region 14 with fail
            refine reg_plain (Stays [(ga, Obj.cells #[.int .u64 (a : Int), .int .u64 (b : Int)] 24 (0, 0)), (gb, Obj.cells #[.int .u64 (c : Int), .int .u64 (d : Int)] 24 (0, 0)), (gX, Obj.cells (fc (dig X)) 27 (0, 0)), (gY, Obj.cells (fc (dig Y)) 27 (0, 0))] w) (Turns [(ga, Obj.cells #[.int .u64 (a : Int), .int .u64 (b : Int)] 24 (0, 0)), (gb, Obj.cells #[.int .u64 (c : Int), .int .u64 (d : Int)] 24 (0, 0)), (gX, Obj.cells (fc (dig X)) 27 (0, 0)), (gY, Obj.cells (fc (dig Y)) 27 (0, 0))] w) (kdOf [(1, .make (callM (.tuple #[.int .u64 (b : Int), .bool true])))]) none0 (stays_good _ _) (S95.out) (holds0 _) ?_
            (refine g_load 24 _ ga 24 #[.int .u64 (a : Int), .int .u64 (b : Int)] (0, 0) _ rfl rfl rfl rfl (fun w' hC => stays_row hC (List.mem_cons_self ..)) Try.underlying24 rfl (rfl) ?_)
            simp only [Act.put, List.setIfInBounds_toArray, List.set_cons_zero, List.set_cons_succ]
            refine g_call (stays_good _ _) (.tuple #[.int .u64 (b : Int), .bool true]) rfl rfl (fun w' hC => ?_) ?_
            · clear hC
              go_simp
              refine (uint_any _ a b).mono (fun e w2 h => ?_)
              obtain ⟨h1, h2⟩ := h
              rw [HU.out] at h1
              exact gives h1 h2
            simp only [Act.put, List.setIfInBounds_toArray, List.set_cons_zero, List.set_cons_succ]
            refine g_look rfl rfl ?_ (fun w' hC => ?_) ?_
            rotate_left
            · go_simp
              first | done | rfl
            simp only [Act.put, List.setIfInBounds_toArray, List.set_cons_zero, List.set_cons_succ]
            refine g_look rfl rfl ?_ (fun w' hC => ?_) ?_
            rotate_left
            · go_simp
              first | done | rfl
            simp only [Act.put, List.setIfInBounds_toArray, List.set_cons_zero, List.set_cons_succ]
            refine g_look rfl rfl ?_ (fun w' hC => ?_) ?_
            rotate_left
            · go_simp
              first | done | rfl
            simp only [Act.put, List.setIfInBounds_toArray, List.set_cons_zero, List.set_cons_succ]
            refine g_look rfl rfl ?_ (fun w' hC => ?_) ?_
            rotate_left
            · go_simp
              first | done | rfl
            simp only [Act.put, List.setIfInBounds_toArray, List.set_cons_zero, List.set_cons_succ]
            refine g_look rfl rfl ?_ (fun w' hC => ?_) ?_
            rotate_left
            · go_simp
              first | done | rfl
            simp only [Act.put, List.setIfInBounds_toArray, List.set_cons_zero, List.set_cons_succ]
            refine g_end ?_
            intro w96 hC96 hh96
            have S96 : Hid (Stays [(ga, Obj.cells #[.int .u64 (a : Int), .int .u64 (b : Int)] 24 (0, 0)), (gb, Obj.cells #[.int .u64 (c : Int), .int .u64 (d : Int)] 24 (0, 0)), (gX, Obj.cells (fc (dig X)) 27 (0, 0)), (gY, Obj.cells (fc (dig Y)) 27 (0, 0))] w w96) := Lib.hid (stays_cons (stays_row hC96 (List.mem_cons_self ..)) (stays_cons (stays_row hC96 (List.mem_cons_of_mem _ (List.mem_cons_self ..))) (stays_cons (stays_row hC96 (List.mem_cons_of_mem _ (List.mem_cons_of_mem _ (List.mem_cons_self ..)))) (stays_cons (stays_row hC96 (List.mem_cons_of_mem _ (List.mem_cons_of_mem _ (List.mem_cons_of_mem _ (List.mem_cons_self ..))))) (stays_nil (stays_below hC96))))))
            clear S95
            clear hC96 hh96
            go_upto_region 15 with fail
            refine reg_plain (Stays [(ga, Obj.cells #[.int .u64 (a : Int), .int .u64 (b : Int)] 24 (0, 0)), (gb, Obj.cells #[.int .u64 (c : Int), .int .u64 (d : Int)] 24 (0, 0)), (gX, Obj.cells (fc (dig X)) 27 (0, 0)), (gY, Obj.cells (fc (dig Y)) 27 (0, 0))] w) (Turns [(ga, Obj.cells #[.int .u64 (a : Int), .int .u64 (b : Int)] 24 (0, 0)), (gb, Obj.cells #[.int .u64 (c : Int), .int .u64 (d : Int)] 24 (0, 0)), (gX, Obj.cells (fc (dig X)) 27 (0, 0)), (gY, Obj.cells (fc (dig Y)) 27 (0, 0))] w) (kdOf [(1, .make (callM (.tuple #[.agg #[.int .u64 p1, .int .u64 p2], .bool tp]))), (5, .make (allocM (.cells #[.int .u64 0, .int .u64 0] 24))), (6, .touch)]) none0 (stays_good _ _) (S96.out) (holds0 _) ?_
            refine g_look rfl rfl ?_ (fun w' hC => ?_) ?_
            rotate_left
            · go_simp
              first | done | rfl
            simp only [Act.put, List.setIfInBounds_toArray, List.set_cons_zero, List.set_cons_succ]
            refine g_call (stays_good _ _) (.tuple #[.agg #[.int .u64 p1, .int .u64 p2], .bool tp]) rfl rfl (fun w' hC => ?_) ?_
            · clear hC
              go_simp
              refine (parse_any _ s HSL.out).mono (fun e w2 h => ?_)
              obtain ⟨h1, h2⟩ := h
              rw [HP.out] at h1
              exact gives h1 h2
            simp only [Act.put, List.setIfInBounds_toArray, List.set_cons_zero, List.set_cons_succ]
            refine g_look rfl rfl ?_ (fun w' hC => ?_) ?_
            rotate_left
            · go_simp
              first | done | rfl
            simp only [Act.put, List.setIfInBounds_toArray, List.set_cons_zero, List.set_cons_succ]
            refine g_look rfl rfl ?_ (fun w' hC => ?_) ?_
            rotate_left
            · go_simp
              first | done | rfl
            simp only [Act.put, List.setIfInBounds_toArray, List.set_cons_zero, List.set_cons_succ]
            refine g_look rfl rfl ?_ (fun w' hC => ?_) ?_
            rotate_left
            · go_simp
              first | done | rfl
            simp only [Act.put, List.setIfInBounds_toArray, List.set_cons_zero, List.set_cons_succ]
            refine g_alloc (stays_good _ _) (.cells #[.int .u64 0, .int .u64 0] 24) rfl rfl (fun w' hC => ?_) (fun gpp tpp npp => ?_)
            · clear hC
              go_simp
              first | done | rfl | exact ⟨rfl, rfl⟩
            clear npp
            replace tpp := Lib.hid tpp
            simp only [Act.put, List.setIfInBounds_toArray, List.set_cons_zero, List.set_cons_succ]
            refine g_store gpp (some 5) 24 24 _ _ #[.int .u64 0, .int .u64 0] #[.int .u64 p1, .int .u64 p2] rfl rfl rfl rfl rfl (own_new _ _ _ _) (by kernel_rfl) (rfl) (rfl) (one24 _ _) ?_
            simp only [Act.put]
            refine g_look rfl rfl ?_ (fun w' hC => ?_) ?_
            rotate_left
            · go_simp
              first | done | rfl
            simp only [Act.put, List.setIfInBounds_toArray, List.set_cons_zero, List.set_cons_succ]
            refine g_end ?_
            intro w97 hC97 hh97
            have S97 : Hid (Stays [(ga, Obj.cells #[.int .u64 (a : Int), .int .u64 (b : Int)] 24 (0, 0)), (gb, Obj.cells #[.int .u64 (c : Int), .int .u64 (d : Int)] 24 (0, 0)), (gpp, Obj.cells #[.int .u64 p1, .int .u64 p2] 24 (0, 0))] w w97) := Lib.hid (stays_cons (stays_row hC97 (List.mem_cons_self ..)) (stays_cons (stays_row hC97 (List.mem_cons_of_mem _ (List.mem_cons_self ..))) (stays_cons ((hh97 _ _ _ (own_new _ _ _ _)).1) (stays_nil (stays_below hC97)))))
            clear S96
            clear hC97 hh97
            go_upto_region 16 with fail
            refine reg_plain (Stays [(ga, Obj.cells #[.int .u64 (a : Int), .int .u64 (b : Int)] 24 (0, 0)), (gb, Obj.cells #[.int .u64 (c : Int), .int .u64 (d : Int)] 24 (0, 0)), (gpp, Obj.cells #[.int .u64 p1, .int .u64 p2] 24 (0, 0))] w) (Turns [(ga, Obj.cells #[.int .u64 (a : Int), .int .u64 (b : Int)] 24 (0, 0)), (gb, Obj.cells #[.int .u64 (c : Int), .int .u64 (d : Int)] 24 (0, 0)), (gpp, Obj.cells #[.int .u64 p1, .int .u64 p2] 24 (0, 0))] w) (kdOf [(1, .make (callM (.tuple #[.agg #[.int .u64 p1, .int .u64 p2], .bool tp]))), (5, .make (allocM (.cells #[.int .u64 0, .int .u64 0] 24))), (6, .touch)]) none0 (stays_good _ _) (S97.out) (holds0 _) ?_
            refine g_look rfl rfl ?_ (fun w' hC => ?_) ?_
            rotate_left
            · go_simp
              first | done | rfl
            simp only [Act.put, List.setIfInBounds_toArray, List.set_cons_zero, List.set_cons_succ]
            refine g_call (stays_good _ _) (.tuple #[.agg #[.int .u64 p1, .int .u64 p2], .bool tp]) rfl rfl (fun w' hC => ?_) ?_
            · clear hC
              go_simp
              refine (rparse_any _ s HSL.out).mono (fun e w2 h => ?_)
              obtain ⟨h1, h2⟩ := h
              rw [HP.out] at h1
              exact gives h1 h2
            simp only [Act.put, List.setIfInBounds_toArray, List.set_cons_zero, List.set_cons_succ]
            refine g_look rfl rfl ?_ (fun w' hC => ?_) ?_
            rotate_left
            · go_simp
              first | done | rfl
            simp only [Act.put, List.setIfInBounds_toArray, List.set_cons_zero, List.set_cons_succ]
            refine g_look rfl rfl ?_ (fun w' hC => ?_) ?_
            rotate_left
            · go_simp
              first | done | rfl
            simp only [Act.put, List.setIfInBounds_toArray, List.set_cons_zero, List.set_cons_succ]
            refine g_look rfl rfl ?_ (fun w' hC => ?_) ?_
            rotate_left
            · go_simp
              first | done | rfl
            simp only [Act.put, List.setIfInBounds_toArray, List.set_cons_zero, List.set_cons_succ]
            refine g_alloc (stays_good _ _) (.cells #[.int .u64 0, .int .u64 0] 24) rfl rfl (fun w' hC => ?_) (fun gqq tqq nqq => ?_)
            · clear hC
              go_simp
              first | done | rfl | exact ⟨rfl, rfl⟩
            clear nqq
            replace tqq := Lib.hid tqq
            simp only [Act.put, List.setIfInBounds_toArray, List.set_cons_zero, List.set_cons_succ]
            refine g_store gqq (some 5) 24 24 _ _ #[.int .u64 0, .int .u64 0] #[.int .u64 p1, .int .u64 p2] rfl rfl rfl rfl rfl (own_new _ _ _ _) (by kernel_rfl) (rfl) (rfl) (one24 _ _) ?_
            simp only [Act.put]
            refine g_look rfl rfl ?_ (fun w' hC => ?_) ?_
            rotate_left
            · go_simp
              first | done | rfl
            simp only [Act.put, List.setIfInBounds_toArray, List.set_cons_zero, List.set_cons_succ]
            refine g_end ?_
            intro w98 hC98 hh98
            have S98 : Hid (Stays [(ga, Obj.cells #[.int .u64 (a : Int), .int .u64 (b : Int)] 24 (0, 0)), (gb, Obj.cells #[.int .u64 (c : Int), .int .u64 (d : Int)] 24 (0, 0)), (gpp, Obj.cells #[.int .u64 p1, .int .u64 p2] 24 (0, 0)), (gqq, Obj.cells #[.int .u64 p1, .int .u64 p2] 24 (0, 0))] w w98) := Lib.hid (stays_cons (stays_row hC98 (List.mem_cons_self ..)) (stays_cons (stays_row hC98 (List.mem_cons_of_mem _ (List.mem_cons_self ..))) (stays_cons (stays_row hC98 (List.mem_cons_of_mem _ (List.mem_cons_of_mem _ (List.mem_cons_self ..)))) (stays_cons ((hh98 _ _ _ (own_new _ _ _ _)).1) (stays_nil (stays_below hC98))))))
            clear S97
            clear hC98 hh98
            go_upto_region 17 with fail
            refine reg (Stays [(ga, Obj.cells #[.int .u64 (a : Int), .int .u64 (b : Int)] 24 (0, 0)), (gb, Obj.cells #[.int .u64 (c : Int), .int .u64 (d : Int)] 24 (0, 0)), (gpp, Obj.cells #[.int .u64 p1, .int .u64 p2] 24 (0, 0)), (gqq, Obj.cells #[.int .u64 p1, .int .u64 p2] 24 (0, 0))] w) (Turns [(ga, Obj.cells #[.int .u64 (a : Int), .int .u64 (b : Int)] 24 (0, 0)), (gb, Obj.cells #[.int .u64 (c : Int), .int .u64 (d : Int)] 24 (0, 0)), (gpp, Obj.cells #[.int .u64 p1, .int .u64 p2] 24 (0, 0)), (gqq, Obj.cells #[.int .u64 p1, .int .u64 p2] 24 (0, 0))] w) (kdOf [(2, .make (callM (.int .i64 cv))), (7, .make (callM (.int .i64 (k : Int)))), (38, .make (callM (.agg #[.int .u64 0, .int .u64 (b : Int)]))), (46, .make (callM (.string tx))), (48, .make (callM (.string tx)))]) none0 (stays_good _ _) (by kernel_rfl) (by kernel_rfl) (stays_drew (S98.out)) (holds0 _) ?_
            (refine g_load 24 _ ga 24 #[.int .u64 (a : Int), .int .u64 (b : Int)] (0, 0) _ rfl rfl rfl rfl (fun w' hC => stays_row hC (List.mem_cons_self ..)) Try.underlying24 rfl (rfl) ?_)
            simp only [Act.put, List.setIfInBounds_toArray, List.set_cons_zero, List.set_cons_succ]
            (refine g_load 24 _ gb 24 #[.int .u64 (c : Int), .int .u64 (d : Int)] (0, 0) _ rfl rfl rfl rfl (fun w' hC => stays_row hC (List.mem_cons_of_mem _ (List.mem_cons_self ..))) Try.underlying24 rfl (rfl) ?_)
            simp only [Act.put, List.setIfInBounds_toArray, List.set_cons_zero, List.set_cons_succ]
            refine g_call (stays_good _ _) (.int .i64 cv) rfl rfl (fun w' hC => ?_) ?_
            · clear hC
              go_simp
              refine (compare_any _ a b c d ua.out ub.out uc.out ud.out).mono (fun e w2 h => ?_)
              obtain ⟨h1, h2⟩ := h
              rw [vX.out, vY.out, HCM.out] at h1
              exact gives h1 h2
            simp only [Act.put, List.setIfInBounds_toArray, List.set_cons_zero, List.set_cons_succ]
            refine g_look rfl rfl ?_ (fun w' hC => ?_) ?_
            rotate_left
            · go_simp
              first | done | rfl
            simp only [Act.put, List.setIfInBounds_toArray, List.set_cons_zero, List.set_cons_succ]
            refine g_look rfl rfl ?_ (fun w' hC => ?_) ?_
            rotate_left
            · go_simp
              first | done | rfl
            simp only [Act.put, List.setIfInBounds_toArray, List.set_cons_zero, List.set_cons_succ]
            refine g_look rfl rfl ?_ (fun w' hC => ?_) ?_
            rotate_left
            · go_simp
              first | done | rfl
            simp only [Act.put, List.setIfInBounds_toArray, List.set_cons_zero, List.set_cons_succ]
            first | (refine g_skip rfl ?_) | (refine g_load 24 _ ga 24 #[.int .u64 (a : Int), .int .u64 (b : Int)] (0, 0) _ rfl rfl rfl rfl (fun w' hC => stays_row hC (List.mem_cons_self ..)) Try.underlying24 rfl (rfl) ?_)
            simp only [Act.put, List.setIfInBounds_toArray, List.set_cons_zero, List.set_cons_succ]
            refine g_call (stays_good _ _) (.int .i64 (k : Int)) rfl rfl (fun w' hC => ?_) ?_
            · clear hC
              go_simp
              refine (bits_any _ a b ua.out ub.out).mono (fun e w2 h => ?_)
              obtain ⟨h1, h2⟩ := h
              rw [vX.out, HBI.out] at h1
              exact gives h1 h2
            simp only [Act.put, List.setIfInBounds_toArray, List.set_cons_zero, List.set_cons_succ]
            first
            | (refine g_skip rfl ?_)
            | (refine g_look rfl rfl ?_ (fun w' hC => ?_) ?_
               rotate_left
               · go_simp
                 first | done | rfl)
            simp only [Act.put, List.setIfInBounds_toArray, List.set_cons_zero, List.set_cons_succ]
            first
            | (refine g_skip rfl ?_)
            | (refine g_look rfl rfl ?_ (fun w' hC => ?_) ?_
               rotate_left
               · go_simp
                 first | done | rfl)
            simp only [Act.put, List.setIfInBounds_toArray, List.set_cons_zero, List.set_cons_succ]
            refine g_look rfl rfl ?_ (fun w' hC => ?_) ?_
            rotate_left
            · go_simp
              first | done | rfl
            simp only [Act.put, List.setIfInBounds_toArray, List.set_cons_zero, List.set_cons_succ]
            refine g_look rfl rfl ?_ (fun w' hC => ?_) ?_
            rotate_left
            · go_simp
              first | done | rfl
            simp only [Act.put, List.setIfInBounds_toArray, List.set_cons_zero, List.set_cons_succ]
            first
            | (refine g_skip rfl ?_)
            | (refine g_look rfl rfl ?_ (fun w' hC => ?_) ?_
               rotate_left
               · go_simp
                 first | done | rfl)
            simp only [Act.put, List.setIfInBounds_toArray, List.set_cons_zero, List.set_cons_succ]
            first
            | (refine g_skip rfl ?_)
            | (refine g_look rfl rfl ?_ (fun w' hC => ?_) ?_
               rotate_left
               · go_simp
                 first | done | rfl)
            simp only [Act.put, List.setIfInBounds_toArray, List.set_cons_zero, List.set_cons_succ]
            first
            | (refine g_skip rfl ?_)
            | (refine g_look rfl rfl ?_ (fun w' hC => ?_) ?_
               rotate_left
               · obtain ⟨c0, c1⟩ := cells2 (stays_head hC)
                 clear hC
                 go_simp
                 first | done | rfl)
            simp only [Act.put, List.setIfInBounds_toArray, List.set_cons_zero, List.set_cons_succ]
            first
            | (refine g_skip rfl ?_)
            | (refine g_look rfl rfl ?_ (fun w' hC => ?_) ?_
               rotate_left
               · go_simp
                 first | done | rfl)
            simp only [Act.put, List.setIfInBounds_toArray, List.set_cons_zero, List.set_cons_succ]
            first
            | (refine g_skip rfl ?_)
            | (refine g_look rfl rfl ?_ (fun w' hC => ?_) ?_
               rotate_left
               · go_simp
                 first | done | rfl)
            simp only [Act.put, List.setIfInBounds_toArray, List.set_cons_zero, List.set_cons_succ]
            refine g_look rfl rfl ?_ (fun w' hC => ?_) ?_
            rotate_left
            · go_simp
              first | done | rfl
            simp only [Act.put, List.setIfInBounds_toArray, List.set_cons_zero, List.set_cons_succ]
            refine g_look rfl rfl ?_ (fun w' hC => ?_) ?_
            rotate_left
            · go_simp
              first | done | rfl
            simp only [Act.put, List.setIfInBounds_toArray, List.set_cons_zero, List.set_cons_succ]
            first
            | (refine g_skip rfl ?_)
            | (refine g_look rfl rfl ?_ (fun w' hC => ?_) ?_
               rotate_left
               · go_simp
                 first | done | rfl)
            simp only [Act.put, List.setIfInBounds_toArray, List.set_cons_zero, List.set_cons_succ]
            first
            | (refine g_skip rfl ?_)
            | (refine g_look rfl rfl ?_ (fun w' hC => ?_) ?_
               rotate_left
               · go_simp
                 first | done | rfl)
            simp only [Act.put, List.setIfInBounds_toArray, List.set_cons_zero, List.set_cons_succ]
            first
            | (refine g_skip rfl ?_)
            | (refine g_look rfl rfl ?_ (fun w' hC => ?_) ?_
               rotate_left
               · go_simp
                 first | done | rfl)
            simp only [Act.put, List.setIfInBounds_toArray, List.set_cons_zero, List.set_cons_succ]
            first
            | (refine g_skip rfl ?_)
            | (refine g_look rfl rfl ?_ (fun w' hC => ?_) ?_
               rotate_left
               · go_simp
                 first | done | rfl)
            simp only [Act.put, List.setIfInBounds_toArray, List.set_cons_zero, List.set_cons_succ]
            first
            | (refine g_skip rfl ?_)
            | (refine g_look rfl rfl ?_ (fun w' hC => ?_) ?_
               rotate_left
               · obtain ⟨c0, c1⟩ := cells2 (stays_head hC)
                 clear hC
                 go_simp
                 first | done | rfl)
            simp only [Act.put, List.setIfInBounds_toArray, List.set_cons_zero, List.set_cons_succ]
            first
            | (refine g_skip rfl ?_)
            | (refine g_look rfl rfl ?_ (fun w' hC => ?_) ?_
               rotate_left
               · go_simp
                 first | done | rfl)
            simp only [Act.put, List.setIfInBounds_toArray, List.set_cons_zero, List.set_cons_succ]
            first
            | (refine g_skip rfl ?_)
            | (refine g_look rfl rfl ?_ (fun w' hC => ?_) ?_
               rotate_left
               · go_simp
                 first | done | rfl)
            simp only [Act.put, List.setIfInBounds_toArray, List.set_cons_zero, List.set_cons_succ]
            first
            | (refine g_skip rfl ?_)
            | (refine g_look rfl rfl ?_ (fun w' hC => ?_) ?_
               rotate_left
               · go_simp
                 first | done | rfl)
            simp only [Act.put, List.setIfInBounds_toArray, List.set_cons_zero, List.set_cons_succ]
            first
            | (refine g_skip rfl ?_)
            | (refine g_look rfl rfl ?_ (fun w' hC => ?_) ?_
               rotate_left
               · go_simp
                 first | done | rfl)
            simp only [Act.put, List.setIfInBounds_toArray, List.set_cons_zero, List.set_cons_succ]
            first
            | (refine g_skip rfl ?_)
            | (refine g_look rfl rfl ?_ (fun w' hC => ?_) ?_
               rotate_left
               · go_simp
                 first | done | rfl)
            simp only [Act.put, List.setIfInBounds_toArray, List.set_cons_zero, List.set_cons_succ]
            first
            | (refine g_skip rfl ?_)
            | (refine g_look rfl rfl ?_ (fun w' hC => ?_) ?_
               rotate_left
               · go_simp
                 first | done | rfl)
            simp only [Act.put, List.setIfInBounds_toArray, List.set_cons_zero, List.set_cons_succ]
            first
            | (refine g_skip rfl ?_)
            | (refine g_look rfl rfl ?_ (fun w' hC => ?_) ?_
               rotate_left
               · go_simp
                 first | done | rfl)
            simp only [Act.put, List.setIfInBounds_toArray, List.set_cons_zero, List.set_cons_succ]
            first
            | (refine g_skip rfl ?_)
            | (refine g_look rfl rfl ?_ (fun w' hC => ?_) ?_
               rotate_left
               · go_simp
                 first | done | rfl)
            simp only [Act.put, List.setIfInBounds_toArray, List.set_cons_zero, List.set_cons_succ]
            first
            | (refine g_skip rfl ?_)
            | (refine g_look rfl rfl ?_ (fun w' hC => ?_) ?_
               rotate_left
               · go_simp
                 first | done | rfl)
            simp only [Act.put, List.setIfInBounds_toArray, List.set_cons_zero, List.set_cons_succ]
            first
            | (refine g_skip rfl ?_)
            | (refine g_look rfl rfl ?_ (fun w' hC => ?_) ?_
               rotate_left
               · go_simp
                 first | done | rfl)
            simp only [Act.put, List.setIfInBounds_toArray, List.set_cons_zero, List.set_cons_succ]
            refine g_look rfl rfl ?_ (fun w' hC => ?_) ?_
            rotate_left
            · go_simp
              first | done | rfl
            simp only [Act.put, List.setIfInBounds_toArray, List.set_cons_zero, List.set_cons_succ]
            refine g_look rfl rfl ?_ (fun w' hC => ?_) ?_
            rotate_left
            · go_simp
              first | done | rfl
            simp only [Act.put, List.setIfInBounds_toArray, List.set_cons_zero, List.set_cons_succ]
            first
            | (refine g_skip rfl ?_)
            | (refine g_look rfl rfl ?_ (fun w' hC => ?_) ?_
               rotate_left
               · go_simp
                 first | done | rfl)
            simp only [Act.put, List.setIfInBounds_toArray, List.set_cons_zero, List.set_cons_succ]
            first
            | (refine g_skip rfl ?_)
            | (refine g_look rfl rfl ?_ (fun w' hC => ?_) ?_
               rotate_left
               · obtain ⟨c0, c1⟩ := cells2 (stays_head hC)
                 clear hC
                 go_simp
                 first | done | rfl)
            simp only [Act.put, List.setIfInBounds_toArray, List.set_cons_zero, List.set_cons_succ]
            refine g_call (stays_good _ _) (.agg #[.int .u64 0, .int .u64 (b : Int)]) rfl rfl (fun w' hC => ?_) ?_
            · clear hC
              go_simp
              refine (of1_any _ b).mono (fun e w2 h => ?_)
              obtain ⟨h1, h2⟩ := h
              rw [wv] at h1
              exact gives h1 h2
            simp only [Act.put, List.setIfInBounds_toArray, List.set_cons_zero, List.set_cons_succ]
            first
            | (refine g_skip rfl ?_)
            | (refine g_look rfl rfl ?_ (fun w' hC => ?_) ?_
               rotate_left
               · go_simp
                 first | done | rfl)
            simp only [Act.put, List.setIfInBounds_toArray, List.set_cons_zero, List.set_cons_succ]
            first
            | (refine g_skip rfl ?_)
            | (refine g_look rfl rfl ?_ (fun w' hC => ?_) ?_
               rotate_left
               · obtain ⟨c0, c1⟩ := cells2 (stays_head hC)
                 clear hC
                 go_simp
                 first | done | rfl)
            simp only [Act.put, List.setIfInBounds_toArray, List.set_cons_zero, List.set_cons_succ]
            first
            | (refine g_skip rfl ?_)
            | (refine g_look rfl rfl ?_ (fun w' hC => ?_) ?_
               rotate_left
               · go_simp
                 first | done | rfl)
            simp only [Act.put, List.setIfInBounds_toArray, List.set_cons_zero, List.set_cons_succ]
            first
            | (refine g_skip rfl ?_)
            | (refine g_look rfl rfl ?_ (fun w' hC => ?_) ?_
               rotate_left
               · go_simp
                 first | done | rfl)
            simp only [Act.put, List.setIfInBounds_toArray, List.set_cons_zero, List.set_cons_succ]
            refine g_look rfl rfl ?_ (fun w' hC => ?_) ?_
            rotate_left
            · go_simp
              first | done | rfl
            simp only [Act.put, List.setIfInBounds_toArray, List.set_cons_zero, List.set_cons_succ]
            refine g_look rfl rfl ?_ (fun w' hC => ?_) ?_
            rotate_left
            · go_simp
              first | done | rfl
            simp only [Act.put, List.setIfInBounds_toArray, List.set_cons_zero, List.set_cons_succ]
            first | (refine g_skip rfl ?_) | (refine g_load 24 _ ga 24 #[.int .u64 (a : Int), .int .u64 (b : Int)] (0, 0) _ rfl rfl rfl rfl (fun w' hC => stays_row hC (List.mem_cons_self ..)) Try.underlying24 rfl (rfl) ?_)
            simp only [Act.put, List.setIfInBounds_toArray, List.set_cons_zero, List.set_cons_succ]
            refine g_call (stays_good _ _) (.string tx) rfl rfl (fun w' hC => ?_) ?_
            · clear hC
              go_simp
              refine (text_any _ a b X vX.out ua.out ub.out).mono (fun e w2 h => ?_)
              obtain ⟨h1, h2⟩ := h
              rw [HTX.out] at h1
              exact gives h1 h2
            simp only [Act.put, List.setIfInBounds_toArray, List.set_cons_zero, List.set_cons_succ]
            first | (refine g_skip rfl ?_) | (refine g_load 24 _ ga 24 #[.int .u64 (a : Int), .int .u64 (b : Int)] (0, 0) _ rfl rfl rfl rfl (fun w' hC => stays_row hC (List.mem_cons_self ..)) Try.underlying24 rfl (rfl) ?_)
            simp only [Act.put, List.setIfInBounds_toArray, List.set_cons_zero, List.set_cons_succ]
            refine g_call (stays_good _ _) (.string tx) rfl rfl (fun w' hC => ?_) ?_
            · clear hC
              go_simp
              refine (rtext_any _ a b HA.out HB.out).mono (fun e w2 h => ?_)
              obtain ⟨h1, h2⟩ := h
              rw [HX.out, HTX.out] at h1
              exact gives h1 h2
            simp only [Act.put, List.setIfInBounds_toArray, List.set_cons_zero, List.set_cons_succ]
            first
            | (refine g_skip rfl ?_)
            | (refine g_look rfl rfl ?_ (fun w' hC => ?_) ?_
               rotate_left
               · go_simp
                 first | done | rfl)
            simp only [Act.put, List.setIfInBounds_toArray, List.set_cons_zero, List.set_cons_succ]
            refine g_look rfl rfl ?_ (fun w' hC => ?_) ?_
            rotate_left
            · go_simp
              first | done | rfl
            simp only [Act.put, List.setIfInBounds_toArray, List.set_cons_zero, List.set_cons_succ]
            refine g_look rfl rfl ?_ (fun w' hC => ?_) ?_
            rotate_left
            · go_simp
              first | done | rfl
            simp only [Act.put, List.setIfInBounds_toArray, List.set_cons_zero, List.set_cons_succ]
            first
            | (refine g_skip rfl ?_)
            | (refine g_look rfl rfl ?_ (fun w' hC => ?_) ?_
               rotate_left
               · go_simp
                 first | done | rfl)
            simp only [Act.put, List.setIfInBounds_toArray, List.set_cons_zero, List.set_cons_succ]
            first
            | (refine g_skip rfl ?_)
            | (refine g_look rfl rfl ?_ (fun w' hC => ?_) ?_
               rotate_left
               · go_simp
                 first | done | rfl)
            simp only [Act.put, List.setIfInBounds_toArray, List.set_cons_zero, List.set_cons_succ]
            first
            | (refine g_skip rfl ?_)
            | (refine g_look rfl rfl ?_ (fun w' hC => ?_) ?_
               rotate_left
               · go_simp
                 first | done | rfl)
            simp only [Act.put, List.setIfInBounds_toArray, List.set_cons_zero, List.set_cons_succ]
            refine g_look rfl rfl ?_ (fun w' hC => ?_) ?_
            rotate_left
            · go_simp
              first | done | rfl
            simp only [Act.put, List.setIfInBounds_toArray, List.set_cons_zero, List.set_cons_succ]
            refine g_look rfl rfl ?_ (fun w' hC => ?_) ?_
            rotate_left
            · go_simp
              first | done | rfl
            simp only [Act.put, List.setIfInBounds_toArray, List.set_cons_zero, List.set_cons_succ]
            first | (refine g_skip rfl ?_) | (refine g_load 24 _ gpp 24 #[.int .u64 p1, .int .u64 p2] (0, 0) _ rfl rfl rfl rfl (fun w' hC => stays_row hC (List.mem_cons_of_mem _ (List.mem_cons_of_mem _ (List.mem_cons_self ..)))) Try.underlying24 rfl (rfl) ?_)
            simp only [Act.put, List.setIfInBounds_toArray, List.set_cons_zero, List.set_cons_succ]
            first | (refine g_skip rfl ?_) | (refine g_load 24 _ gqq 24 #[.int .u64 p1, .int .u64 p2] (0, 0) _ rfl rfl rfl rfl (fun w' hC => stays_row hC (List.mem_cons_of_mem _ (List.mem_cons_of_mem _ (List.mem_cons_of_mem _ (List.mem_cons_self ..))))) Try.underlying24 rfl (rfl) ?_)
            simp only [Act.put, List.setIfInBounds_toArray, List.set_cons_zero, List.set_cons_succ]
            first
            | (refine g_skip rfl ?_)
            | (refine g_look rfl rfl ?_ (fun w' hC => ?_) ?_
               rotate_left
               · go_simp
                 first | done | rfl)
            simp only [Act.put, List.setIfInBounds_toArray, List.set_cons_zero, List.set_cons_succ]
            refine g_look rfl rfl ?_ (fun w' hC => ?_) ?_
            rotate_left
            · go_simp
              first | done | rfl
            simp only [Act.put, List.setIfInBounds_toArray, List.set_cons_zero, List.set_cons_succ]
            refine g_look rfl rfl ?_ (fun w' hC => ?_) ?_
            rotate_left
            · go_simp
              first | done | rfl
            simp only [Act.put, List.setIfInBounds_toArray, List.set_cons_zero, List.set_cons_succ]
            refine g_end ?_
            intro w99 hC99 hh99
            have S99 : Hid (Stays [(ga, Obj.cells #[.int .u64 (a : Int), .int .u64 (b : Int)] 24 (0, 0)), (gb, Obj.cells #[.int .u64 (c : Int), .int .u64 (d : Int)] 24 (0, 0)), (gpp, Obj.cells #[.int .u64 p1, .int .u64 p2] 24 (0, 0)), (gqq, Obj.cells #[.int .u64 p1, .int .u64 p2] 24 (0, 0))] w w99) := Lib.hid (stays_cons (stays_row hC99 (List.mem_cons_self ..)) (stays_cons (stays_row hC99 (List.mem_cons_of_mem _ (List.mem_cons_self ..))) (stays_cons (stays_row hC99 (List.mem_cons_of_mem _ (List.mem_cons_of_mem _ (List.mem_cons_self ..)))) (stays_cons (stays_row hC99 (List.mem_cons_of_mem _ (List.mem_cons_of_mem _ (List.mem_cons_of_mem _ (List.mem_cons_self ..))))) (stays_nil (stays_below hC99))))))
            clear S98
            clear hC99 hh99
            go_wp2_with fail
            refine bodyPost_ret (v := .bool true) (by simp [results, Try.results4, go_sem]) rfl ⟨rfl, stays_below S99.out⟩
          · have HU : Hid (uintV (a : Int) b = .tuple #[.int .u64 0, .bool false]) := Lib.hid (by
              unfold uintV
              rw [if_neg (by omega)])
            have ez : ((a : Int) == 0) = false := by simp; omega
            have ez2 : decide (a = 0) = false := by simp; omega
            clear hz
            go_upto_region 14 with fail
            refine reg_plain (Stays [(ga, Obj.cells #[.int .u64 (a : Int), .int .u64 (b : Int)] 24 (0, 0)), (gb, Obj.cells #[.int .u64 (c : Int), .int .u64 (d : Int)] 24 (0, 0)), (gX, Obj.cells (fc (dig X)) 27 (0, 0)), (gY, Obj.cells (fc (dig Y)) 27 (0, 0))] w) (Turns [(ga, Obj.cells #[.int .u64 (a : Int), .int .u64 (b : Int)] 24 (0, 0)), (gb, Obj.cells #[.int .u64 (c : Int), .int .u64 (d : Int)] 24 (0, 0)), (gX, Obj.cells (fc (dig X)) 27 (0, 0)), (gY, Obj.cells (fc (dig Y)) 27 (0, 0))] w) (kdOf [(1, .make (callM (.tuple #[.int .u64 0, .bool false])))]) none0 (stays_good _ _) (S95.out) (holds0 _) ?_
            (refine g_load 24 _ ga 24 #[.int .u64 (a : Int), .int .u64 (b : Int)] (0, 0) _ rfl rfl rfl rfl (fun w' hC => stays_row hC (List.mem_cons_self ..)) Try.underlying24 rfl (rfl) ?_)
            simp only [Act.put, List.setIfInBounds_toArray, List.set_cons_zero, List.set_cons_succ]
            refine g_call (stays_good _ _) (.tuple #[.int .u64 0, .bool false]) rfl rfl (fun w' hC => ?_) ?_
            · clear hC
              go_simp
              refine (uint_any _ a b).mono (fun e w2 h => ?_)
              obtain ⟨h1, h2⟩ := h
              rw [HU.out] at h1
              exact gives h1 h2
            simp only [Act.put, List.setIfInBounds_toArray, List.set_cons_zero, List.set_cons_succ]
            refine g_look rfl rfl ?_ (fun w' hC => ?_) ?_
            rotate_left
            · go_simp
              first | done | rfl
            simp only [Act.put, List.setIfInBounds_toArray, List.set_cons_zero, List.set_cons_succ]
            refine g_look rfl rfl ?_ (fun w' hC => ?_) ?_
            rotate_left
            · go_simp
              first | done | rfl
            simp only [Act.put, List.setIfInBounds_toArray, List.set_cons_zero, List.set_cons_succ]
            refine g_look rfl rfl ?_ (fun w' hC => ?_) ?_
            rotate_left
            · go_simp
              first | done | rfl
            simp only [Act.put, List.setIfInBounds_toArray, List.set_cons_zero, List.set_cons_succ]
            refine g_look rfl rfl ?_ (fun w' hC => ?_) ?_
            rotate_left
            · go_simp
              first | done | rfl
            simp only [Act.put, List.setIfInBounds_toArray, List.set_cons_zero, List.set_cons_succ]
            refine g_look rfl rfl ?_ (fun w' hC => ?_) ?_
            rotate_left
            · go_simp
              first | done | rfl
            simp only [Act.put, List.setIfInBounds_toArray, List.set_cons_zero, List.set_cons_succ]
            refine g_end ?_
            intro w96 hC96 hh96
            have S96 : Hid (Stays [(ga, Obj.cells #[.int .u64 (a : Int), .int .u64 (b : Int)] 24 (0, 0)), (gb, Obj.cells #[.int .u64 (c : Int), .int .u64 (d : Int)] 24 (0, 0)), (gX, Obj.cells (fc (dig X)) 27 (0, 0)), (gY, Obj.cells (fc (dig Y)) 27 (0, 0))] w w96) := Lib.hid (stays_cons (stays_row hC96 (List.mem_cons_self ..)) (stays_cons (stays_row hC96 (List.mem_cons_of_mem _ (List.mem_cons_self ..))) (stays_cons (stays_row hC96 (List.mem_cons_of_mem _ (List.mem_cons_of_mem _ (List.mem_cons_self ..)))) (stays_cons (stays_row hC96 (List.mem_cons_of_mem _ (List.mem_cons_of_mem _ (List.mem_cons_of_mem _ (List.mem_cons_self ..))))) (stays_nil (stays_below hC96))))))
            clear S95
            clear hC96 hh96
            go_upto_region 15 with fail
            refine reg_plain (Stays [(ga, Obj.cells #[.int .u64 (a : Int), .int .u64 (b : Int)] 24 (0, 0)), (gb, Obj.cells #[.int .u64 (c : Int), .int .u64 (d : Int)] 24 (0, 0)), (gX, Obj.cells (fc (dig X)) 27 (0, 0)), (gY, Obj.cells (fc (dig Y)) 27 (0, 0))] w) (Turns [(ga, Obj.cells #[.int .u64 (a : Int), .int .u64 (b : Int)] 24 (0, 0)), (gb, Obj.cells #[.int .u64 (c : Int), .int .u64 (d : Int)] 24 (0, 0)), (gX, Obj.cells (fc (dig X)) 27 (0, 0)), (gY, Obj.cells (fc (dig Y)) 27 (0, 0))] w) (kdOf [(1, .make (callM (.tuple #[.agg #[.int .u64 p1, .int .u64 p2], .bool tp]))), (5, .make (allocM (.cells #[.int .u64 0, .int .u64 0] 24))), (6, .touch)]) none0 (stays_good _ _) (S96.out) (holds0 _) ?_
            refine g_look rfl rfl ?_ (fun w' hC => ?_) ?_
            rotate_left
            · go_simp
              first | done | rfl
            simp only [Act.put, List.setIfInBounds_toArray, List.set_cons_zero, List.set_cons_succ]
            refine g_call (stays_good _ _) (.tuple #[.agg #[.int .u64 p1, .int .u64 p2], .bool tp]) rfl rfl (fun w' hC => ?_) ?_
            · clear hC
              go_simp
              refine (parse_any _ s HSL.out).mono (fun e w2 h => ?_)
              obtain ⟨h1, h2⟩ := h
              rw [HP.out] at h1
              exact gives h1 h2
            simp only [Act.put, List.setIfInBounds_toArray, List.set_cons_zero, List.set_cons_succ]
            refine g_look rfl rfl ?_ (fun w' hC => ?_) ?_
            rotate_left
            · go_simp
              first | done | rfl
            simp only [Act.put, List.setIfInBounds_toArray, List.set_cons_zero, List.set_cons_succ]
            refine g_look rfl rfl ?_ (fun w' hC => ?_) ?_
            rotate_left
            · go_simp
              first | done | rfl
            simp only [Act.put, List.setIfInBounds_toArray, List.set_cons_zero, List.set_cons_succ]
            refine g_look rfl rfl ?_ (fun w' hC => ?_) ?_
            rotate_left
            · go_simp
              first | done | rfl
            simp only [Act.put, List.setIfInBounds_toArray, List.set_cons_zero, List.set_cons_succ]
            refine g_alloc (stays_good _ _) (.cells #[.int .u64 0, .int .u64 0] 24) rfl rfl (fun w' hC => ?_) (fun gpp tpp npp => ?_)
            · clear hC
              go_simp
              first | done | rfl | exact ⟨rfl, rfl⟩
            clear npp
            replace tpp := Lib.hid tpp
            simp only [Act.put, List.setIfInBounds_toArray, List.set_cons_zero, List.set_cons_succ]
            refine g_store gpp (some 5) 24 24 _ _ #[.int .u64 0, .int .u64 0] #[.int .u64 p1, .int .u64 p2] rfl rfl rfl rfl rfl (own_new _ _ _ _) (by kernel_rfl) (rfl) (rfl) (one24 _ _) ?_
            simp only [Act.put]
            refine g_look rfl rfl ?_ (fun w' hC => ?_) ?_
            rotate_left
            · go_simp
              first | done | rfl
            simp only [Act.put, List.setIfInBounds_toArray, List.set_cons_zero, List.set_cons_succ]
            refine g_end ?_
            intro w97 hC97 hh97
            have S97 : Hid (Stays [(ga, Obj.cells #[.int .u64 (a : Int), .int .u64 (b : Int)] 24 (0, 0)), (gb, Obj.cells #[.int .u64 (c : Int), .int .u64 (d : Int)] 24 (0, 0)), (gpp, Obj.cells #[.int .u64 p1, .int .u64 p2] 24 (0, 0))] w w97) := Lib.hid (stays_cons (stays_row hC97 (List.mem_cons_self ..)) (stays_cons (stays_row hC97 (List.mem_cons_of_mem _ (List.mem_cons_self ..))) (stays_cons ((hh97 _ _ _ (own_new _ _ _ _)).1) (stays_nil (stays_below hC97)))))
            clear S96
            clear hC97 hh97
            go_upto_region 16 with fail
            refine reg_plain (Stays [(ga, Obj.cells #[.int .u64 (a : Int), .int .u64 (b : Int)] 24 (0, 0)), (gb, Obj.cells #[.int .u64 (c : Int), .int .u64 (d : Int)] 24 (0, 0)), (gpp, Obj.cells #[.int .u64 p1, .int .u64 p2] 24 (0, 0))] w) (Turns [(ga, Obj.cells #[.int .u64 (a : Int), .int .u64 (b : Int)] 24 (0, 0)), (gb, Obj.cells #[.int .u64 (c : Int), .int .u64 (d : Int)] 24 (0, 0)), (gpp, Obj.cells #[.int .u64 p1, .int .u64 p2] 24 (0, 0))] w) (kdOf [(1, .make (callM (.tuple #[.agg #[.int .u64 p1, .int .u64 p2], .bool tp]))), (5, .make (allocM (.cells #[.int .u64 0, .int .u64 0] 24))), (6, .touch)]) none0 (stays_good _ _) (S97.out) (holds0 _) ?_
            refine g_look rfl rfl ?_ (fun w' hC => ?_) ?_
            rotate_left
            · go_simp
              first | done | rfl
            simp only [Act.put, List.setIfInBounds_toArray, List.set_cons_zero, List.set_cons_succ]
            refine g_call (stays_good _ _) (.tuple #[.agg #[.int .u64 p1, .int .u64 p2], .bool tp]) rfl rfl (fun w' hC => ?_) ?_
            · clear hC
              go_simp
              refine (rparse_any _ s HSL.out).mono (fun e w2 h => ?_)
              obtain ⟨h1, h2⟩ := h
              rw [HP.out] at h1
              exact gives h1 h2
            simp only [Act.put, List.setIfInBounds_toArray, List.set_cons_zero, List.set_cons_succ]
            refine g_look rfl rfl ?_ (fun w' hC => ?_) ?_
            rotate_left
            · go_simp
              first | done | rfl
            simp only [Act.put, List.setIfInBounds_toArray, List.set_cons_zero, List.set_cons_succ]
            refine g_look rfl rfl ?_ (fun w' hC => ?_) ?_
            rotate_left
            · go_simp
              first | done | rfl
            simp only [Act.put, List.setIfInBounds_toArray, List.set_cons_zero, List.set_cons_succ]
            refine g_look rfl rfl ?_ (fun w' hC => ?_) ?_
            rotate_left
            · go_simp
              first | done | rfl
            simp only [Act.put, List.setIfInBounds_toArray, List.set_cons_zero, List.set_cons_succ]
            refine g_alloc (stays_good _ _) (.cells #[.int .u64 0, .int .u64 0] 24) rfl rfl (fun w' hC => ?_) (fun gqq tqq nqq => ?_)
            · clear hC
              go_simp
              first | done | rfl | exact ⟨rfl, rfl⟩
            clear nqq
            replace tqq := Lib.hid tqq
            simp only [Act.put, List.setIfInBounds_toArray, List.set_cons_zero, List.set_cons_succ]
            refine g_store gqq (some 5) 24 24 _ _ #[.int .u64 0, .int .u64 0] #[.int .u64 p1, .int .u64 p2] rfl rfl rfl rfl rfl (own_new _ _ _ _) (by kernel_rfl) (rfl) (rfl) (one24 _ _) ?_
            simp only [Act.put]
            refine g_look rfl rfl ?_ (fun w' hC => ?_) ?_
            rotate_left
            · go_simp
              first | done | rfl
            simp only [Act.put, List.setIfInBounds_toArray, List.set_cons_zero, List.set_cons_succ]
            refine g_end ?_
            intro w98 hC98 hh98
            have S98 : Hid (Stays [(ga, Obj.cells #[.int .u64 (a : Int), .int .u64 (b : Int)] 24 (0, 0)), (gb, Obj.cells #[.int .u64 (c : Int), .int .u64 (d : Int)] 24 (0, 0)), (gpp, Obj.cells #[.int .u64 p1, .int .u64 p2] 24 (0, 0)), (gqq, Obj.cells #[.int .u64 p1, .int .u64 p2] 24 (0, 0))] w w98) := Lib.hid (stays_cons (stays_row hC98 (List.mem_cons_self ..)) (stays_cons (stays_row hC98 (List.mem_cons_of_mem _ (List.mem_cons_self ..))) (stays_cons (stays_row hC98 (List.mem_cons_of_mem _ (List.mem_cons_of_mem _ (List.mem_cons_self ..)))) (stays_cons ((hh98 _ _ _ (own_new _ _ _ _)).1) (stays_nil (stays_below hC98))))))
            clear S97
            clear hC98 hh98
            go_upto_region 17 with fail
            refine reg (Stays [(ga, Obj.cells #[.int .u64 (a : Int), .int .u64 (b : Int)] 24 (0, 0)), (gb, Obj.cells #[.int .u64 (c : Int), .int .u64 (d : Int)] 24 (0, 0)), (gpp, Obj.cells #[.int .u64 p1, .int .u64 p2] 24 (0, 0)), (gqq, Obj.cells #[.int .u64 p1, .int .u64 p2] 24 (0, 0))] w) (Turns [(ga, Obj.cells #[.int .u64 (a : Int), .int .u64 (b : Int)] 24 (0, 0)), (gb, Obj.cells #[.int .u64 (c : Int), .int .u64 (d : Int)] 24 (0, 0)), (gpp, Obj.cells #[.int .u64 p1, .int .u64 p2] 24 (0, 0)), (gqq, Obj.cells #[.int .u64 p1, .int .u64 p2] 24 (0, 0))] w) (kdOf [(2, .make (callM (.int .i64 cv))), (7, .make (callM (.int .i64 (k : Int)))), (38, .make (callM (.agg #[.int .u64 0, .int .u64 (b : Int)]))), (46, .make (callM (.string tx))), (48, .make (callM (.string tx)))]) none0 (stays_good _ _) (by kernel_rfl) (by kernel_rfl) (stays_drew (S98.out)) (holds0 _) ?_
            (refine g_load 24 _ ga 24 #[.int .u64 (a : Int), .int .u64 (b : Int)] (0, 0) _ rfl rfl rfl rfl (fun w' hC => stays_row hC (List.mem_cons_self ..)) Try.underlying24 rfl (rfl) ?_)
            simp only [Act.put, List.setIfInBounds_toArray, List.set_cons_zero, List.set_cons_succ]
            (refine g_load 24 _ gb 24 #[.int .u64 (c : Int), .int .u64 (d : Int)] (0, 0) _ rfl rfl rfl rfl (fun w' hC => stays_row hC (List.mem_cons_of_mem _ (List.mem_cons_self ..))) Try.underlying24 rfl (rfl) ?_)
            simp only [Act.put, List.setIfInBounds_toArray, List.set_cons_zero, List.set_cons_succ]
            refine g_call (stays_good _ _) (.int .i64 cv) rfl rfl (fun w' hC => ?_) ?_
            · clear hC
              go_simp
              refine (compare_any _ a b c d ua.out ub.out uc.out ud.out).mono (fun e w2 h => ?_)
              obtain ⟨h1, h2⟩ := h
              rw [vX.out, vY.out, HCM.out] at h1
              exact gives h1 h2
            simp only [Act.put, List.setIfInBounds_toArray, List.set_cons_zero, List.set_cons_succ]
            refine g_look rfl rfl ?_ (fun w' hC => ?_) ?_
            rotate_left
            · go_simp
              first | done | rfl
            simp only [Act.put, List.setIfInBounds_toArray, List.set_cons_zero, List.set_cons_succ]
            refine g_look rfl rfl ?_ (fun w' hC => ?_) ?_
            rotate_left
            · go_simp
              first | done | rfl
            simp only [Act.put, List.setIfInBounds_toArray, List.set_cons_zero, List.set_cons_succ]
            refine g_look rfl rfl ?_ (fun w' hC => ?_) ?_
            rotate_left
            · go_simp
              first | done | rfl
            simp only [Act.put, List.setIfInBounds_toArray, List.set_cons_zero, List.set_cons_succ]
            first | (refine g_skip rfl ?_) | (refine g_load 24 _ ga 24 #[.int .u64 (a : Int), .int .u64 (b : Int)] (0, 0) _ rfl rfl rfl rfl (fun w' hC => stays_row hC (List.mem_cons_self ..)) Try.underlying24 rfl (rfl) ?_)
            simp only [Act.put, List.setIfInBounds_toArray, List.set_cons_zero, List.set_cons_succ]
            refine g_call (stays_good _ _) (.int .i64 (k : Int)) rfl rfl (fun w' hC => ?_) ?_
            · clear hC
              go_simp
              refine (bits_any _ a b ua.out ub.out).mono (fun e w2 h => ?_)
              obtain ⟨h1, h2⟩ := h
              rw [vX.out, HBI.out] at h1
              exact gives h1 h2
            simp only [Act.put, List.setIfInBounds_toArray, List.set_cons_zero, List.set_cons_succ]
            first
            | (refine g_skip rfl ?_)
            | (refine g_look rfl rfl ?_ (fun w' hC => ?_) ?_
               rotate_left
               · go_simp
                 first | done | rfl)
            simp only [Act.put, List.setIfInBounds_toArray, List.set_cons_zero, List.set_cons_succ]
            first
            | (refine g_skip rfl ?_)
            | (refine g_look rfl rfl ?_ (fun w' hC => ?_) ?_
               rotate_left
               · go_simp
                 first | done | rfl)
            simp only [Act.put, List.setIfInBounds_toArray, List.set_cons_zero, List.set_cons_succ]
            refine g_look rfl rfl ?_ (fun w' hC => ?_) ?_
            rotate_left
            · go_simp
              first | done | rfl
            simp only [Act.put, List.setIfInBounds_toArray, List.set_cons_zero, List.set_cons_succ]
            refine g_look rfl rfl ?_ (fun w' hC => ?_) ?_
            rotate_left
            · go_simp
              first | done | rfl
            simp only [Act.put, List.setIfInBounds_toArray, List.set_cons_zero, List.set_cons_succ]
            first
            | (refine g_skip rfl ?_)
            | (refine g_look rfl rfl ?_ (fun w' hC => ?_) ?_
               rotate_left
               · go_simp
                 first | done | rfl)
            simp only [Act.put, List.setIfInBounds_toArray, List.set_cons_zero, List.set_cons_succ]
            first
            | (refine g_skip rfl ?_)
            | (refine g_look rfl rfl ?_ (fun w' hC => ?_) ?_
               rotate_left
               · go_simp
                 first | done | rfl)
            simp only [Act.put, List.setIfInBounds_toArray, List.set_cons_zero, List.set_cons_succ]
            first
            | (refine g_skip rfl ?_)
            | (refine g_look rfl rfl ?_ (fun w' hC => ?_) ?_
               rotate_left
               · obtain ⟨c0, c1⟩ := cells2 (stays_head hC)
                 clear hC
                 go_simp
                 first | done | rfl)
            simp only [Act.put, List.setIfInBounds_toArray, List.set_cons_zero, List.set_cons_succ]
            first
            | (refine g_skip rfl ?_)
            | (refine g_look rfl rfl ?_ (fun w' hC => ?_) ?_
               rotate_left
               · go_simp
                 first | done | rfl)
            simp only [Act.put, List.setIfInBounds_toArray, List.set_cons_zero, List.set_cons_succ]
            first
            | (refine g_skip rfl ?_)
            | (refine g_look rfl rfl ?_ (fun w' hC => ?_) ?_
               rotate_left
               · go_simp
                 first | done | rfl)
            simp only [Act.put, List.setIfInBounds_toArray, List.set_cons_zero, List.set_cons_succ]
            refine g_look rfl rfl ?_ (fun w' hC => ?_) ?_
            rotate_left
            · go_simp
              first | done | rfl
            simp only [Act.put, List.setIfInBounds_toArray, List.set_cons_zero, List.set_cons_succ]
            refine g_look rfl rfl ?_ (fun w' hC => ?_) ?_
            rotate_left
            · go_simp
              first | done | rfl
            simp only [Act.put, List.setIfInBounds_toArray, List.set_cons_zero, List.set_cons_succ]
            first
            | (refine g_skip rfl ?_)
            | (refine g_look rfl rfl ?_ (fun w' hC => ?_) ?_
               rotate_left
               · go_simp
                 first | done | rfl)
            simp only [Act.put, List.setIfInBounds_toArray, List.set_cons_zero, List.set_cons_succ]
            first
            | (refine g_skip rfl ?_)
            | (refine g_look rfl rfl ?_ (fun w' hC => ?_) ?_
               rotate_left
               · go_simp
                 first | done | rfl)
            simp only [Act.put, List.setIfInBounds_toArray, List.set_cons_zero, List.set_cons_succ]
            first
            | (refine g_skip rfl ?_)
            | (refine g_look rfl rfl ?_ (fun w' hC => ?_) ?_
               rotate_left
               · go_simp
                 first | done | rfl)
            simp only [Act.put, List.setIfInBounds_toArray, List.set_cons_zero, List.set_cons_succ]
            first
            | (refine g_skip rfl ?_)
            | (refine g_look rfl rfl ?_ (fun w' hC => ?_) ?_
               rotate_left
               · go_simp
                 first | done | rfl)
            simp only [Act.put, List.setIfInBounds_toArray, List.set_cons_zero, List.set_cons_succ]
            first
            | (refine g_skip rfl ?_)
            | (refine g_look rfl rfl ?_ (fun w' hC => ?_) ?_
               rotate_left
               · obtain ⟨c0, c1⟩ := cells2 (stays_head hC)
                 clear hC
                 go_simp
                 first | done | rfl)
            simp only [Act.put, List.setIfInBounds_toArray, List.set_cons_zero, List.set_cons_succ]
            first
            | (refine g_skip rfl ?_)
            | (refine g_look rfl rfl ?_ (fun w' hC => ?_) ?_
               rotate_left
               · go_simp
                 first | done | rfl)
            simp only [Act.put, List.setIfInBounds_toArray, List.set_cons_zero, List.set_cons_succ]
            first
            | (refine g_skip rfl ?_)
            | (refine g_look rfl rfl ?_ (fun w' hC => ?_) ?_
               rotate_left
               · go_simp
                 first | done | rfl)
            simp only [Act.put, List.setIfInBounds_toArray, List.set_cons_zero, List.set_cons_succ]
            first
            | (refine g_skip rfl ?_)
            | (refine g_look rfl rfl ?_ (fun w' hC => ?_) ?_
               rotate_left
               · go_simp
                 first | done | rfl)
            simp only [Act.put, List.setIfInBounds_toArray, List.set_cons_zero, List.set_cons_succ]
            first
            | (refine g_skip rfl ?_)
            | (refine g_look rfl rfl ?_ (fun w' hC => ?_) ?_
               rotate_left
               · go_simp
                 first | done | rfl)
            simp only [Act.put, List.setIfInBounds_toArray, List.set_cons_zero, List.set_cons_succ]
            first
            | (refine g_skip rfl ?_)
            | (refine g_look rfl rfl ?_ (fun w' hC => ?_) ?_
               rotate_left
               · go_simp
                 first | done | rfl)
            simp only [Act.put, List.setIfInBounds_toArray, List.set_cons_zero, List.set_cons_succ]
            first
            | (refine g_skip rfl ?_)
            | (refine g_look rfl rfl ?_ (fun w' hC => ?_) ?_
               rotate_left
               · go_simp
                 first | done | rfl)
            simp only [Act.put, List.setIfInBounds_toArray, List.set_cons_zero, List.set_cons_succ]
            first
            | (refine g_skip rfl ?_)
            | (refine g_look rfl rfl ?_ (fun w' hC => ?_) ?_
               rotate_left
               · go_simp
                 first | done | rfl)
            simp only [Act.put, List.setIfInBounds_toArray, List.set_cons_zero, List.set_cons_succ]
            first
            | (refine g_skip rfl ?_)
            | (refine g_look rfl rfl ?_ (fun w' hC => ?_) ?_
               rotate_left
               · go_simp
                 first | done | rfl)
            simp only [Act.put, List.setIfInBounds_toArray, List.set_cons_zero, List.set_cons_succ]
            first
            | (refine g_skip rfl ?_)
            | (refine g_look rfl rfl ?_ (fun w' hC => ?_) ?_
               rotate_left
               · go_simp
                 first | done | rfl)
            simp only [Act.put, List.setIfInBounds_toArray, List.set_cons_zero, List.set_cons_succ]
            first
            | (refine g_skip rfl ?_)
            | (refine g_look rfl rfl ?_ (fun w' hC => ?_) ?_
               rotate_left
               · go_simp
                 first | done | rfl)
            simp only [Act.put, List.setIfInBounds_toArray, List.set_cons_zero, List.set_cons_succ]
            refine g_look rfl rfl ?_ (fun w' hC => ?_) ?_
            rotate_left
            · go_simp
              first | done | rfl
            simp only [Act.put, List.setIfInBounds_toArray, List.set_cons_zero, List.set_cons_succ]
            refine g_look rfl rfl ?_ (fun w' hC => ?_) ?_
            rotate_left
            · go_simp
              first | done | rfl
            simp only [Act.put, List.setIfInBounds_toArray, List.set_cons_zero, List.set_cons_succ]
            first
            | (refine g_skip rfl ?_)
            | (refine g_look rfl rfl ?_ (fun w' hC => ?_) ?_
               rotate_left
               · go_simp
                 first | done | rfl)
            simp only [Act.put, List.setIfInBounds_toArray, List.set_cons_zero, List.set_cons_succ]
            first
            | (refine g_skip rfl ?_)
            | (refine g_look rfl rfl ?_ (fun w' hC => ?_) ?_
               rotate_left
               · obtain ⟨c0, c1⟩ := cells2 (stays_head hC)
                 clear hC
                 go_simp
                 first | done | rfl)
            simp only [Act.put, List.setIfInBounds_toArray, List.set_cons_zero, List.set_cons_succ]
            refine g_call (stays_good _ _) (.agg #[.int .u64 0, .int .u64 (b : Int)]) rfl rfl (fun w' hC => ?_) ?_
            · clear hC
              go_simp
              refine (of1_any _ b).mono (fun e w2 h => ?_)
              obtain ⟨h1, h2⟩ := h
              rw [wv] at h1
              exact gives h1 h2
            simp only [Act.put, List.setIfInBounds_toArray, List.set_cons_zero, List.set_cons_succ]
            first
            | (refine g_skip rfl ?_)
            | (refine g_look rfl rfl ?_ (fun w' hC => ?_) ?_
               rotate_left
               · go_simp
                 first | done | rfl)
            simp only [Act.put, List.setIfInBounds_toArray, List.set_cons_zero, List.set_cons_succ]
            first
            | (refine g_skip rfl ?_)
            | (refine g_look rfl rfl ?_ (fun w' hC => ?_) ?_
               rotate_left
               · obtain ⟨c0, c1⟩ := cells2 (stays_head hC)
                 clear hC
                 go_simp
                 first | done | rfl)
            simp only [Act.put, List.setIfInBounds_toArray, List.set_cons_zero, List.set_cons_succ]
            first
            | (refine g_skip rfl ?_)
            | (refine g_look rfl rfl ?_ (fun w' hC => ?_) ?_
               rotate_left
               · go_simp
                 first | done | rfl)
            simp only [Act.put, List.setIfInBounds_toArray, List.set_cons_zero, List.set_cons_succ]
            first
            | (refine g_skip rfl ?_)
            | (refine g_look rfl rfl ?_ (fun w' hC => ?_) ?_
               rotate_left
               · go_simp
                 first | done | rfl)
            simp only [Act.put, List.setIfInBounds_toArray, List.set_cons_zero, List.set_cons_succ]
            refine g_look rfl rfl ?_ (fun w' hC => ?_) ?_
            rotate_left
            · go_simp
              first | done | rfl
            simp only [Act.put, List.setIfInBounds_toArray, List.set_cons_zero, List.set_cons_succ]
            refine g_look rfl rfl ?_ (fun w' hC => ?_) ?_
            rotate_left
            · go_simp
              first | done | rfl
            simp only [Act.put, List.setIfInBounds_toArray, List.set_cons_zero, List.set_cons_succ]
            first | (refine g_skip rfl ?_) | (refine g_load 24 _ ga 24 #[.int .u64 (a : Int), .int .u64 (b : Int)] (0, 0) _ rfl rfl rfl rfl (fun w' hC => stays_row hC (List.mem_cons_self ..)) Try.underlying24 rfl (rfl) ?_)
            simp only [Act.put, List.setIfInBounds_toArray, List.set_cons_zero, List.set_cons_succ]
            refine g_call (stays_good _ _) (.string tx) rfl rfl (fun w' hC => ?_) ?_
            · clear hC
              go_simp
              refine (text_any _ a b X vX.out ua.out ub.out).mono (fun e w2 h => ?_)
              obtain ⟨h1, h2⟩ := h
              rw [HTX.out] at h1
              exact gives h1 h2
            simp only [Act.put, List.setIfInBounds_toArray, List.set_cons_zero, List.set_cons_succ]
            first | (refine g_skip rfl ?_) | (refine g_load 24 _ ga 24 #[.int .u64 (a : Int), .int .u64 (b : Int)] (0, 0) _ rfl rfl rfl rfl (fun w' hC => stays_row hC (List.mem_cons_self ..)) Try.underlying24 rfl (rfl) ?_)
            simp only [Act.put, List.setIfInBounds_toArray, List.set_cons_zero, List.set_cons_succ]
            refine g_call (stays_good _ _) (.string tx) rfl rfl (fun w' hC => ?_) ?_
            · clear hC
              go_simp
              refine (rtext_any _ a b HA.out HB.out).mono (fun e w2 h => ?_)
              obtain ⟨h1, h2⟩ := h
              rw [HX.out, HTX.out] at h1
              exact gives h1 h2
            simp only [Act.put, List.setIfInBounds_toArray, List.set_cons_zero, List.set_cons_succ]
            first
            | (refine g_skip rfl ?_)
            | (refine g_look rfl rfl ?_ (fun w' hC => ?_) ?_
               rotate_left
               · go_simp
                 first | done | rfl)
            simp only [Act.put, List.setIfInBounds_toArray, List.set_cons_zero, List.set_cons_succ]
            refine g_look rfl rfl ?_ (fun w' hC => ?_) ?_
            rotate_left
            · go_simp
              first | done | rfl
            simp only [Act.put, List.setIfInBounds_toArray, List.set_cons_zero, List.set_cons_succ]
            refine g_look rfl rfl ?_ (fun w' hC => ?_) ?_
            rotate_left
            · go_simp
              first | done | rfl
            simp only [Act.put, List.setIfInBounds_toArray, List.set_cons_zero, List.set_cons_succ]
            first
            | (refine g_skip rfl ?_)
            | (refine g_look rfl rfl ?_ (fun w' hC => ?_) ?_
               rotate_left
               · go_simp
                 first | done | rfl)
            simp only [Act.put, List.setIfInBounds_toArray, List.set_cons_zero, List.set_cons_succ]
            first
            | (refine g_skip rfl ?_)
            | (refine g_look rfl rfl ?_ (fun w' hC => ?_) ?_
               rotate_left
               · go_simp
                 first | done | rfl)
            simp only [Act.put, List.setIfInBounds_toArray, List.set_cons_zero, List.set_cons_succ]
            first
            | (refine g_skip rfl ?_)
            | (refine g_look rfl rfl ?_ (fun w' hC => ?_) ?_
               rotate_left
               · go_simp
                 first | done | rfl)
            simp only [Act.put, List.setIfInBounds_toArray, List.set_cons_zero, List.set_cons_succ]
            refine g_look rfl rfl ?_ (fun w' hC => ?_) ?_
            rotate_left
            · go_simp
              first | done | rfl
            simp only [Act.put, List.setIfInBounds_toArray, List.set_cons_zero, List.set_cons_succ]
            refine g_look rfl rfl ?_ (fun w' hC => ?_) ?_
            rotate_left
            · go_simp
              first | done | rfl
            simp only [Act.put, List.setIfInBounds_toArray, List.set_cons_zero, List.set_cons_succ]
            first | (refine g_skip rfl ?_) | (refine g_load 24 _ gpp 24 #[.int .u64 p1, .int .u64 p2] (0, 0) _ rfl rfl rfl rfl (fun w' hC => stays_row hC (List.mem_cons_of_mem _ (List.mem_cons_of_mem _ (List.mem_cons_self ..)))) Try.underlying24 rfl (rfl) ?_)
            simp only [Act.put, List.setIfInBounds_toArray, List.set_cons_zero, List.set_cons_succ]
            first | (refine g_skip rfl ?_) | (refine g_load 24 _ gqq 24 #[.int .u64 p1, .int .u64 p2] (0, 0) _ rfl rfl rfl rfl (fun w' hC => stays_row hC (List.mem_cons_of_mem _ (List.mem_cons_of_mem _ (List.mem_cons_of_mem _ (List.mem_cons_self ..))))) Try.underlying24 rfl (rfl) ?_)
            simp only [Act.put, List.setIfInBounds_toArray, List.set_cons_zero, List.set_cons_succ]
            first
            | (refine g_skip rfl ?_)
            | (refine g_look rfl rfl ?_ (fun w' hC => ?_) ?_
               rotate_left
               · go_simp
                 first | done | rfl)
            simp only [Act.put, List.setIfInBounds_toArray, List.set_cons_zero, List.set_cons_succ]
            refine g_look rfl rfl ?_ (fun w' hC => ?_) ?_
            rotate_left
            · go_simp
              first | done | rfl
            simp only [Act.put, List.setIfInBounds_toArray, List.set_cons_zero, List.set_cons_succ]
            refine g_look rfl rfl ?_ (fun w' hC => ?_) ?_
            rotate_left
            · go_simp
              first | done | rfl
            simp only [Act.put, List.setIfInBounds_toArray, List.set_cons_zero, List.set_cons_succ]
            refine g_end ?_
            intro w99 hC99 hh99
            have S99 : Hid (Stays [(ga, Obj.cells #[.int .u64 (a : Int), .int .u64 (b : Int)] 24 (0, 0)), (gb, Obj.cells #[.int .u64 (c : Int), .int .u64 (d : Int)] 24 (0, 0)), (gpp, Obj.cells #[.int .u64 p1, .int .u64 p2] 24 (0, 0)), (gqq, Obj.cells #[.int .u64 p1, .int .u64 p2] 24 (0, 0))] w w99) := Lib.hid (stays_cons (stays_row hC99 (List.mem_cons_self ..)) (stays_cons (stays_row hC99 (List.mem_cons_of_mem _ (List.mem_cons_self ..))) (stays_cons (stays_row hC99 (List.mem_cons_of_mem _ (List.mem_cons_of_mem _ (List.mem_cons_self ..)))) (stays_cons (stays_row hC99 (List.mem_cons_of_mem _ (List.mem_cons_of_mem _ (List.mem_cons_of_mem _ (List.mem_cons_self ..))))) (stays_nil (stays_below hC99))))))
            clear S98
            clear hC99 hh99
            go_wp2_with fail
            refine bodyPost_ret (v := .bool true) (by simp [results, Try.results4, go_sem]) rfl ⟨rfl, stays_below S99.out⟩
set_option maxHeartbeats 1000000 in
theorem tells_long (w : World) (a b c d : Int) (s : ByteArray) (hs : 300 < s.size) : Calls Try.prog 4 #[wv a b, wv c d, .string s] w (Ret w (.bool true)) := by
  have hsi : (300 : Int) < (s.size : Int) := by omega
  clear hs
  unfold wv
  have S0 : Hid (Stays [] w w) := Lib.hid (stays_nil (Below.refl _ _))
  go_enter Try.func4, Try.ntmps4
  go_upto_region 0 with fail
  refine reg_plain (Stays [] w) (Turns [] w) (kdOf [(0, .make (allocM (.cells #[.int .u64 a, .int .u64 b] 24))), (1, .make (allocM (.cells #[.int .u64 c, .int .u64 d] 24)))]) none0 (stays_good _ _) (S0.out) (holds0 _) ?_
  refine g_alloc (stays_good _ _) (.cells #[.int .u64 a, .int .u64 b] 24) rfl rfl (fun w' hC => ?_) (fun ga ta na => ?_)
  · clear hC
    go_simp
    first | done | rfl | exact ⟨rfl, rfl⟩
  clear na
  replace ta := Lib.hid ta
  simp only [Act.put, List.setIfInBounds_toArray, List.set_cons_zero, List.set_cons_succ]
  refine g_alloc (stays_good _ _) (.cells #[.int .u64 c, .int .u64 d] 24) rfl rfl (fun w' hC => ?_) (fun gb tb nb => ?_)
  · clear hC
    go_simp
    first | done | rfl | exact ⟨rfl, rfl⟩
  obtain ⟨d_a_b, nb⟩ := own_none nb
  clear nb
  replace tb := Lib.hid tb
  simp only [Act.put, List.setIfInBounds_toArray, List.set_cons_zero, List.set_cons_succ]
  refine g_look rfl rfl ?_ (fun w' hC => ?_) ?_
  rotate_left
  · go_simp
    first | done | rfl
  simp only [Act.put, List.setIfInBounds_toArray, List.set_cons_zero, List.set_cons_succ]
  refine g_end ?_
  intro w1 hC1 hh1
  have S1 : Hid (Stays [(ga, Obj.cells #[.int .u64 a, .int .u64 b] 24 (0, 0)), (gb, Obj.cells #[.int .u64 c, .int .u64 d] 24 (0, 0))] w w1) := Lib.hid (stays_cons ((hh1 _ _ _ ((own_off _ (Ne.symm d_a_b)).trans (own_new _ _ _ _))).1) (stays_cons ((hh1 _ _ _ (own_new _ _ _ _)).1) (stays_nil (stays_below hC1))))
  clear hC1 hh1
  go_upto_region 1 with fail
  refine reg_plain (Stays [(ga, Obj.cells #[.int .u64 a, .int .u64 b] 24 (0, 0)), (gb, Obj.cells #[.int .u64 c, .int .u64 d] 24 (0, 0))] w) (Turns [(ga, Obj.cells #[.int .u64 a, .int .u64 b] 24 (0, 0)), (gb, Obj.cells #[.int .u64 c, .int .u64 d] 24 (0, 0))] w) (kdOf [(0, .make (callM (.bool true)))]) none0 (stays_good _ _) (S1.out) (holds0 _) ?_
  refine g_call (stays_good _ _) (.bool true) rfl rfl (fun w' hC => ?_) ?_
  · clear hC
    go_simp
    refine (first_any _).mono (fun e w2 h => ?_)
    obtain ⟨h1, h2⟩ := h
    exact gives h1 h2
  simp only [Act.put, List.setIfInBounds_toArray, List.set_cons_zero, List.set_cons_succ]
  refine g_look rfl rfl ?_ (fun w' hC => ?_) ?_
  rotate_left
  · go_simp
    first | done | rfl
  simp only [Act.put, List.setIfInBounds_toArray, List.set_cons_zero, List.set_cons_succ]
  refine g_end ?_
  intro w2 hC2 hh2
  have S2 : Hid (Stays [(ga, Obj.cells #[.int .u64 a, .int .u64 b] 24 (0, 0)), (gb, Obj.cells #[.int .u64 c, .int .u64 d] 24 (0, 0))] w w2) := Lib.hid (stays_cons (stays_row hC2 (List.mem_cons_self ..)) (stays_cons (stays_row hC2 (List.mem_cons_of_mem _ (List.mem_cons_self ..))) (stays_nil (stays_below hC2))))
  clear S1
  clear hC2 hh2
  go_wp2_with fail
  refine bodyPost_ret (v := .bool true) (by simp [results, Try.results4, go_sem]) rfl ⟨rfl, stays_below S2.out⟩
theorem tells_any (w : World) (a b c d : Int) (s : ByteArray) (ha : U a) (hb : U b) (hc : U c) (hd : U d) (_ : s.size ≤ maxLen) : Calls Try.prog 4 #[wv a b, wv c d, .string s] w (Ret w (.bool true)) := by
  unfold U at *
  by_cases hs : 300 < s.size
  · exact tells_long w a b c d s hs
  obtain ⟨a, rfl⟩ := Int.eq_ofNat_of_zero_le ha.1
  obtain ⟨b, rfl⟩ := Int.eq_ofNat_of_zero_le hb.1
  obtain ⟨c, rfl⟩ := Int.eq_ofNat_of_zero_le hc.1
  obtain ⟨d, rfl⟩ := Int.eq_ofNat_of_zero_le hd.1
  have ka : a < 65536 ^ 4 := show a < 18446744073709551616 by omega
  have kb : b < 65536 ^ 4 := show b < 18446744073709551616 by omega
  have kc : c < 65536 ^ 4 := show c < 18446744073709551616 by omega
  have kd : d < 65536 ^ 4 := show d < 18446744073709551616 by omega
  obtain ⟨X, hX⟩ : ∃ X, a * 65536 ^ 4 + b = X := ⟨_, rfl⟩
  obtain ⟨Y, hY⟩ : ∃ Y, c * 65536 ^ 4 + d = Y := ⟨_, rfl⟩
  have hs' : s.size ≤ 300 := by omega
  exact tells_nat w a b c d X Y s ka kb kc kd hX hY hs'
end Go.Proofs.Ytfckignchmpeaaa.Wi
