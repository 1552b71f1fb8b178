/- WideSums: a walk. -/
import Derived.Test.YtfckignchmpeaaaDy
namespace Go.Proofs.Ytfckignchmpeaaa.Wi
open Go.RowKit K

attribute [local go_sem ↓] eqn24
attribute [local go_sem] lookTo stepTo Maker.step
theorem cast_add (X Y : Nat) : (X : Int) + (Y : Int) = ((X + Y : Nat) : Int) := by omega
theorem cast_mul (X Y : Nat) : (X : Int) * (Y : Int) = ((X * Y : Nat) : Int) := by simp
theorem sum20 {X Y : Nat} (hX : X < 65536 ^ 8) (hY : Y < 65536 ^ 8) : X + Y < 65536 ^ 20 := by
  have h1 : X < 340282366920938463463374607431768211456 := hX
  have h2 : Y < 340282366920938463463374607431768211456 := hY
  exact Nat.lt_of_lt_of_le (show X + Y < 680564733841876926926749214863536422912 by omega) (by decide)
theorem lt20 {X : Nat} (h : X < 65536 ^ 8) : X < 65536 ^ 20 := Nat.lt_of_lt_of_le h (by decide)
theorem u8 {u : Nat} (hu : u < 65536 ^ 4) : u < 65536 ^ 8 := Nat.lt_of_lt_of_le hu (by decide)
theorem mul20 {X u : Nat} (hX : X < 65536 ^ 8) (hu : u < 65536 ^ 4) : X * u < 65536 ^ 20 := by
  have := Nat.mul_le_mul (Nat.le_of_lt hX) (Nat.le_of_lt hu)
  exact Nat.lt_of_le_of_lt this (by decide)
theorem wide_opt (n : Nat) : wideV n = optV (n : Int) ((n : Int) < 340282366920938463463374607431768211456) := by
  by_cases h : n < 340282366920938463463374607431768211456
  · rw [wide_nat (show n < 65536 ^ 8 from h), optV, if_pos (by omega)]
    rfl
  · unfold wideV optV
    rw [if_neg (show ¬ n < 65536 ^ 8 from h), if_neg (by omega)]
theorem both_any (n : Nat) : ∃ (x y : Int) (t : Bool), optV (n : Int) ((n : Int) < 340282366920938463463374607431768211456) = .tuple #[.agg #[.int .u64 x, .int .u64 y], .bool t] ∧ wideV n = .tuple #[.agg #[.int .u64 x, .int .u64 y], .bool t] := by
  obtain ⟨x, y, t, h, _⟩ := opt_any (X := (n : Int)) (by omega)
  exact ⟨x, y, t, h, (wide_opt n).trans h⟩
theorem sub_yes {X Y : Nat} (h : Y ≤ X) (hX : X < 65536 ^ 8) : ∃ x y : Int, optV ((X : Int) - (Y : Int)) ((Y : Int) ≤ (X : Int)) = .tuple #[.agg #[.int .u64 x, .int .u64 y], .bool true] ∧ wideV (X - Y) = .tuple #[.agg #[.int .u64 x, .int .u64 y], .bool true] := by
  have hX' : X < 340282366920938463463374607431768211456 := hX
  refine ⟨((X - Y : Nat) : Int) / 18446744073709551616, ((X - Y : Nat) : Int) % 18446744073709551616, ?_, ?_⟩
  · rw [optV, if_pos (by omega), show (X : Int) - (Y : Int) = ((X - Y : Nat) : Int) by omega]
    rfl
  · exact wide_nat (Nat.lt_of_le_of_lt (Nat.sub_le _ _) hX)
theorem sub_no {X Y : Nat} (h : X < Y) : optV ((X : Int) - (Y : Int)) ((Y : Int) ≤ (X : Int)) = .tuple #[.agg #[.int .u64 0, .int .u64 0], .bool false] := by
  rw [optV, if_neg (by omega)]
  rfl
attribute [local irreducible] fc
set_option maxHeartbeats 4000000 in
set_option maxRecDepth 100000 in
theorem sums_le (w : World) (a b c d u X Y : Nat) (ha : a < 65536 ^ 4) (hb : b < 65536 ^ 4) (hc : c < 65536 ^ 4) (hd : d < 65536 ^ 4) (hu : u < 65536 ^ 4) (hX : a * 65536 ^ 4 + b = X) (hY : c * 65536 ^ 4 + d = Y) (hle : Y ≤ X) : Calls Try.prog 5 #[wv a b, wv c d, .int .u64 u] w (Ret w (.bool true)) := by
  have ua : Hid (U a) := nat_u ha
  have ub : Hid (U b) := nat_u hb
  have uc : Hid (U c) := nat_u hc
  have ud : Hid (U d) := nat_u hd
  have uu : Hid (U u) := nat_u hu
  have vX : Hid (wval a b = (X : Int)) := nat_wval hX
  have vY : Hid (wval c d = (Y : Int)) := nat_wval hY
  have kX : Hid (X < 65536 ^ 8) := nat_lt8 ha hb hX
  have kY : Hid (Y < 65536 ^ 8) := nat_lt8 hc hd hY
  have HA := Lib.hid ha
  have HB := Lib.hid hb
  have HC := Lib.hid hc
  have HD := Lib.hid hd
  have HU := Lib.hid hu
  have HX := Lib.hid hX
  have HY := Lib.hid hY
  have HLE := Lib.hid hle
  obtain ⟨s1, s2, t1, ho1, hw1⟩ := both_any (X + Y)
  obtain ⟨p1, p2, t2, ho2, hw2⟩ := both_any (X * u)
  have HO1 := Lib.hid ho1
  have HO2 := Lib.hid ho2
  have HW1 := Lib.hid hw1
  have HW2 := Lib.hid hw2
  have HLS : Hid (decide (X < Y) = false) := Lib.hid (by simp; omega)
  obtain ⟨d1, d2, ho3, hw3⟩ := sub_yes hle kX.out
  have HO3 := Lib.hid ho3
  have HW3 := Lib.hid hw3
  clear ho3 hw3
  clear ha hb hc hd hu hX hY ho1 ho2 hw1 hw2 hle
  unfold wv
  have S0 : Hid (Stays [] w w) := Lib.hid (stays_nil (Below.refl _ _))
  go_enter Try.func5, Try.ntmps5
  go_upto_region 0 with fail
  refine reg_plain (Stays [] w) (Turns [] w) (kdOf [(0, .make (allocM (.cells #[.int .u64 (a : Int), .int .u64 (b : Int)] 24))), (1, .make (allocM (.cells #[.int .u64 (c : Int), .int .u64 (d : Int)] 24)))]) none0 (stays_good _ _) (S0.out) (holds0 _) ?_
  refine g_alloc (stays_good _ _) (.cells #[.int .u64 (a : Int), .int .u64 (b : Int)] 24) rfl rfl (fun w' hC => ?_) (fun ga ta na => ?_)
  · clear hC
    go_simp
    first | done | rfl | exact ⟨rfl, rfl⟩
  clear na
  replace ta := Lib.hid ta
  simp only [Act.put, List.setIfInBounds_toArray, List.set_cons_zero, List.set_cons_succ]
  refine g_alloc (stays_good _ _) (.cells #[.int .u64 (c : Int), .int .u64 (d : Int)] 24) rfl rfl (fun w' hC => ?_) (fun gb tb nb => ?_)
  · clear hC
    go_simp
    first | done | rfl | exact ⟨rfl, rfl⟩
  obtain ⟨d_a_b, nb⟩ := own_none nb
  clear nb
  replace tb := Lib.hid tb
  simp only [Act.put, List.setIfInBounds_toArray, List.set_cons_zero, List.set_cons_succ]
  refine g_look rfl rfl ?_ (fun w' hC => ?_) ?_
  rotate_left
  · go_simp
    first | done | rfl
  simp only [Act.put, List.setIfInBounds_toArray, List.set_cons_zero, List.set_cons_succ]
  refine g_end ?_
  intro w1 hC1 hh1
  have S1 : Hid (Stays [(ga, Obj.cells #[.int .u64 (a : Int), .int .u64 (b : Int)] 24 (0, 0)), (gb, Obj.cells #[.int .u64 (c : Int), .int .u64 (d : Int)] 24 (0, 0))] w w1) := Lib.hid (stays_cons ((hh1 _ _ _ ((own_off _ (Ne.symm d_a_b)).trans (own_new _ _ _ _))).1) (stays_cons ((hh1 _ _ _ (own_new _ _ _ _)).1) (stays_nil (stays_below hC1))))
  clear hC1 hh1
  go_upto_region 1 with fail
  refine reg_plain (Stays [(ga, Obj.cells #[.int .u64 (a : Int), .int .u64 (b : Int)] 24 (0, 0)), (gb, Obj.cells #[.int .u64 (c : Int), .int .u64 (d : Int)] 24 (0, 0))] w) (Turns [(ga, Obj.cells #[.int .u64 (a : Int), .int .u64 (b : Int)] 24 (0, 0)), (gb, Obj.cells #[.int .u64 (c : Int), .int .u64 (d : Int)] 24 (0, 0))] w) (kdOf [(0, .make (callM (.bool true)))]) none0 (stays_good _ _) (S1.out) (holds0 _) ?_
  refine g_call (stays_good _ _) (.bool true) rfl rfl (fun w' hC => ?_) ?_
  · clear hC
    go_simp
    refine (first_any _).mono (fun e w2 h => ?_)
    obtain ⟨h1, h2⟩ := h
    exact gives h1 h2
  simp only [Act.put, List.setIfInBounds_toArray, List.set_cons_zero, List.set_cons_succ]
  refine g_look rfl rfl ?_ (fun w' hC => ?_) ?_
  rotate_left
  · go_simp
    first | done | rfl
  simp only [Act.put, List.setIfInBounds_toArray, List.set_cons_zero, List.set_cons_succ]
  refine g_end ?_
  intro w2 hC2 hh2
  have S2 : Hid (Stays [(ga, Obj.cells #[.int .u64 (a : Int), .int .u64 (b : Int)] 24 (0, 0)), (gb, Obj.cells #[.int .u64 (c : Int), .int .u64 (d : Int)] 24 (0, 0))] w w2) := Lib.hid (stays_cons (stays_row hC2 (List.mem_cons_self ..)) (stays_cons (stays_row hC2 (List.mem_cons_of_mem _ (List.mem_cons_self ..))) (stays_nil (stays_below hC2))))
  clear S1
  clear hC2 hh2
  go_upto_region 3 with fail
  refine reg (Stays [(ga, Obj.cells #[.int .u64 (a : Int), .int .u64 (b : Int)] 24 (0, 0)), (gb, Obj.cells #[.int .u64 (c : Int), .int .u64 (d : Int)] 24 (0, 0))] w) (Turns [(ga, Obj.cells #[.int .u64 (a : Int), .int .u64 (b : Int)] 24 (0, 0)), (gb, Obj.cells #[.int .u64 (c : Int), .int .u64 (d : Int)] 24 (0, 0))] w) (kdOf [(1, .make (callM (dg X))), (3, .make (callM (dg Y))), (4, .make (allocM (.cells z20 27))), (5, .make (allocM (.cells z20 27))), (6, .touch), (7, .touch)]) none0 (stays_good _ _) (by kernel_rfl) (by kernel_rfl) (stays_drew (S2.out)) (holds0 _) ?_
  (refine g_load 24 _ ga 24 #[.int .u64 (a : Int), .int .u64 (b : Int)] (0, 0) _ rfl rfl rfl rfl (fun w' hC => stays_row hC (List.mem_cons_self ..)) Try.underlying24 rfl (rfl) ?_)
  simp only [Act.put, List.setIfInBounds_toArray, List.set_cons_zero, List.set_cons_succ]
  refine g_call (stays_good _ _) (dg X) rfl rfl (fun w' hC => ?_) ?_
  · clear hC
    go_simp
    refine (of_any _ a b HA.out HB.out).mono (fun e w2 h => ?_)
    obtain ⟨h1, h2⟩ := h
    rw [HX.out] at h1
    exact gives h1 h2
  simp only [Act.put, List.setIfInBounds_toArray, List.set_cons_zero, List.set_cons_succ]
  (refine g_load 24 _ gb 24 #[.int .u64 (c : Int), .int .u64 (d : Int)] (0, 0) _ rfl rfl rfl rfl (fun w' hC => stays_row hC (List.mem_cons_of_mem _ (List.mem_cons_self ..))) Try.underlying24 rfl (rfl) ?_)
  simp only [Act.put, List.setIfInBounds_toArray, List.set_cons_zero, List.set_cons_succ]
  refine g_call (stays_good _ _) (dg Y) rfl rfl (fun w' hC => ?_) ?_
  · clear hC
    go_simp
    refine (of_any _ c d HC.out HD.out).mono (fun e w2 h => ?_)
    obtain ⟨h1, h2⟩ := h
    rw [HY.out] at h1
    exact gives h1 h2
  simp only [Act.put, List.setIfInBounds_toArray, List.set_cons_zero, List.set_cons_succ]
  refine g_alloc (stays_good _ _) (.cells z20 27) rfl rfl (fun w' hC => ?_) (fun gX tX nX => ?_)
  · clear hC
    go_simp
    first | done | rfl | exact ⟨rfl, rfl⟩
  clear nX
  replace tX := Lib.hid tX
  simp only [Act.put, List.setIfInBounds_toArray, List.set_cons_zero, List.set_cons_succ]
  refine g_alloc (stays_good _ _) (.cells z20 27) rfl rfl (fun w' hC => ?_) (fun gY tY nY => ?_)
  · clear hC
    go_simp
    first | done | rfl | exact ⟨rfl, rfl⟩
  obtain ⟨d_X_Y, nY⟩ := own_none nY
  clear nY
  replace tY := Lib.hid tY
  simp only [Act.put, List.setIfInBounds_toArray, List.set_cons_zero, List.set_cons_succ]
  refine g_store gX (some 4) 27 27 _ _ z20 (fc (dig X)) rfl rfl rfl rfl rfl ((own_off _ (Ne.symm d_X_Y)).trans (own_new _ _ _ _)) (by kernel_rfl) (fc_size _) (info27 _) (fc_one _) ?_
  simp only [Act.put]
  refine g_store gY (some 5) 27 27 _ _ z20 (fc (dig Y)) rfl rfl rfl rfl rfl ((own_off _ d_X_Y).trans (own_new _ _ _ _)) (by kernel_rfl) (fc_size _) (info27 _) (fc_one _) ?_
  simp only [Act.put]
  refine g_end ?_
  intro w3 hC3 hh3
  have S3 : Hid (Stays [(ga, Obj.cells #[.int .u64 (a : Int), .int .u64 (b : Int)] 24 (0, 0)), (gb, Obj.cells #[.int .u64 (c : Int), .int .u64 (d : Int)] 24 (0, 0)), (gX, Obj.cells (fc (dig X)) 27 (0, 0)), (gY, Obj.cells (fc (dig Y)) 27 (0, 0))] w w3) := Lib.hid (stays_cons (stays_row hC3 (List.mem_cons_self ..)) (stays_cons (stays_row hC3 (List.mem_cons_of_mem _ (List.mem_cons_self ..))) (stays_cons ((hh3 _ _ _ ((own_off _ (Ne.symm d_X_Y)).trans (own_new _ _ _ _))).1) (stays_cons ((hh3 _ _ _ (own_new _ _ _ _)).1) (stays_nil (stays_below hC3))))))
  clear S2
  clear hC3 hh3
  go_upto_region 4 with fail
  refine reg_plain (Stays [(ga, Obj.cells #[.int .u64 (a : Int), .int .u64 (b : Int)] 24 (0, 0)), (gb, Obj.cells #[.int .u64 (c : Int), .int .u64 (d : Int)] 24 (0, 0)), (gX, Obj.cells (fc (dig X)) 27 (0, 0)), (gY, Obj.cells (fc (dig Y)) 27 (0, 0))] w) (Turns [(ga, Obj.cells #[.int .u64 (a : Int), .int .u64 (b : Int)] 24 (0, 0)), (gb, Obj.cells #[.int .u64 (c : Int), .int .u64 (d : Int)] 24 (0, 0)), (gX, Obj.cells (fc (dig X)) 27 (0, 0)), (gY, Obj.cells (fc (dig Y)) 27 (0, 0))] w) (kdOf [(2, .make (callM (.tuple #[.agg #[.int .u64 s1, .int .u64 s2], .bool t1]))), (6, .make (allocM (.cells #[.int .u64 0, .int .u64 0] 24))), (7, .touch)]) none0 (stays_good _ _) (S3.out) (holds0 _) ?_
  (refine g_load 24 _ ga 24 #[.int .u64 (a : Int), .int .u64 (b : Int)] (0, 0) _ rfl rfl rfl rfl (fun w' hC => stays_row hC (List.mem_cons_self ..)) Try.underlying24 rfl (rfl) ?_)
  simp only [Act.put, List.setIfInBounds_toArray, List.set_cons_zero, List.set_cons_succ]
  (refine g_load 24 _ gb 24 #[.int .u64 (c : Int), .int .u64 (d : Int)] (0, 0) _ rfl rfl rfl rfl (fun w' hC => stays_row hC (List.mem_cons_of_mem _ (List.mem_cons_self ..))) Try.underlying24 rfl (rfl) ?_)
  simp only [Act.put, List.setIfInBounds_toArray, List.set_cons_zero, List.set_cons_succ]
  refine g_call (stays_good _ _) (.tuple #[.agg #[.int .u64 s1, .int .u64 s2], .bool t1]) rfl rfl (fun w' hC => ?_) ?_
  · clear hC
    go_simp
    refine (add_any _ a b c d ua.out ub.out uc.out ud.out).mono (fun e w2 h => ?_)
    obtain ⟨h1, h2⟩ := h
    rw [vX.out, vY.out, cast_add X Y, HO1.out] at h1
    exact gives h1 h2
  simp only [Act.put, List.setIfInBounds_toArray, List.set_cons_zero, List.set_cons_succ]
  refine g_look rfl rfl ?_ (fun w' hC => ?_) ?_
  rotate_left
  · go_simp
    first | done | rfl
  simp only [Act.put, List.setIfInBounds_toArray, List.set_cons_zero, List.set_cons_succ]
  refine g_look rfl rfl ?_ (fun w' hC => ?_) ?_
  rotate_left
  · go_simp
    first | done | rfl
  simp only [Act.put, List.setIfInBounds_toArray, List.set_cons_zero, List.set_cons_succ]
  refine g_look rfl rfl ?_ (fun w' hC => ?_) ?_
  rotate_left
  · go_simp
    first | done | rfl
  simp only [Act.put, List.setIfInBounds_toArray, List.set_cons_zero, List.set_cons_succ]
  refine g_alloc (stays_good _ _) (.cells #[.int .u64 0, .int .u64 0] 24) rfl rfl (fun w' hC => ?_) (fun gs ts ns => ?_)
  · clear hC
    go_simp
    first | done | rfl | exact ⟨rfl, rfl⟩
  clear ns
  replace ts := Lib.hid ts
  simp only [Act.put, List.setIfInBounds_toArray, List.set_cons_zero, List.set_cons_succ]
  refine g_store gs (some 6) 24 24 _ _ #[.int .u64 0, .int .u64 0] #[.int .u64 s1, .int .u64 s2] rfl rfl rfl rfl rfl (own_new _ _ _ _) (by kernel_rfl) (rfl) (rfl) (one24 _ _) ?_
  simp only [Act.put]
  refine g_look rfl rfl ?_ (fun w' hC => ?_) ?_
  rotate_left
  · go_simp
    first | done | rfl
  simp only [Act.put, List.setIfInBounds_toArray, List.set_cons_zero, List.set_cons_succ]
  refine g_end ?_
  intro w4 hC4 hh4
  have S4 : Hid (Stays [(ga, Obj.cells #[.int .u64 (a : Int), .int .u64 (b : Int)] 24 (0, 0)), (gb, Obj.cells #[.int .u64 (c : Int), .int .u64 (d : Int)] 24 (0, 0)), (gX, Obj.cells (fc (dig X)) 27 (0, 0)), (gY, Obj.cells (fc (dig Y)) 27 (0, 0)), (gs, Obj.cells #[.int .u64 s1, .int .u64 s2] 24 (0, 0))] w w4) := Lib.hid (stays_cons (stays_row hC4 (List.mem_cons_self ..)) (stays_cons (stays_row hC4 (List.mem_cons_of_mem _ (List.mem_cons_self ..))) (stays_cons (stays_row hC4 (List.mem_cons_of_mem _ (List.mem_cons_of_mem _ (List.mem_cons_self ..)))) (stays_cons (stays_row hC4 (List.mem_cons_of_mem _ (List.mem_cons_of_mem _ (List.mem_cons_of_mem _ (List.mem_cons_self ..))))) (stays_cons ((hh4 _ _ _ (own_new _ _ _ _)).1) (stays_nil (stays_below hC4)))))))
  clear S3
  clear hC4 hh4
  go_upto_region 5 with fail
  refine reg_plain (Stays [(ga, Obj.cells #[.int .u64 (a : Int), .int .u64 (b : Int)] 24 (0, 0)), (gb, Obj.cells #[.int .u64 (c : Int), .int .u64 (d : Int)] 24 (0, 0)), (gX, Obj.cells (fc (dig X)) 27 (0, 0)), (gY, Obj.cells (fc (dig Y)) 27 (0, 0)), (gs, Obj.cells #[.int .u64 s1, .int .u64 s2] 24 (0, 0))] w) (Turns [(ga, Obj.cells #[.int .u64 (a : Int), .int .u64 (b : Int)] 24 (0, 0)), (gb, Obj.cells #[.int .u64 (c : Int), .int .u64 (d : Int)] 24 (0, 0)), (gX, Obj.cells (fc (dig X)) 27 (0, 0)), (gY, Obj.cells (fc (dig Y)) 27 (0, 0)), (gs, Obj.cells #[.int .u64 s1, .int .u64 s2] 24 (0, 0))] w) (kdOf [(2, .make (callM (dg (X + Y)))), (3, .make (callM (.tuple #[.agg #[.int .u64 s1, .int .u64 s2], .bool t1]))), (7, .make (allocM (.cells #[.int .u64 0, .int .u64 0] 24))), (8, .touch)]) none0 (stays_good _ _) (S4.out) (holds0 _) ?_
  (refine g_load 27 _ gX 27 (fc (dig X)) (0, 0) _ rfl rfl rfl rfl (fun w' hC => stays_row hC (List.mem_cons_of_mem _ (List.mem_cons_of_mem _ (List.mem_cons_self ..)))) Try.underlying27 rfl (info27 _) ?_)
  simp only [Act.put, List.setIfInBounds_toArray, List.set_cons_zero, List.set_cons_succ]
  (refine g_load 27 _ gY 27 (fc (dig Y)) (0, 0) _ rfl rfl rfl rfl (fun w' hC => stays_row hC (List.mem_cons_of_mem _ (List.mem_cons_of_mem _ (List.mem_cons_of_mem _ (List.mem_cons_self ..))))) Try.underlying27 rfl (info27 _) ?_)
  simp only [Act.put, List.setIfInBounds_toArray, List.set_cons_zero, List.set_cons_succ]
  refine g_call (stays_good _ _) (dg (X + Y)) rfl rfl (fun w' hC => ?_) ?_
  · clear hC
    go_simp
    refine (plus_any _ X Y).mono (fun e w2 h => ?_)
    obtain ⟨h1, h2⟩ := h
    exact gives h1 h2
  simp only [Act.put, List.setIfInBounds_toArray, List.set_cons_zero, List.set_cons_succ]
  refine g_call (stays_good _ _) (.tuple #[.agg #[.int .u64 s1, .int .u64 s2], .bool t1]) rfl rfl (fun w' hC => ?_) ?_
  · clear hC
    go_simp
    refine (wide_any _ (X + Y) (sum20 kX.out kY.out)).mono (fun e w2 h => ?_)
    obtain ⟨h1, h2⟩ := h
    rw [HW1.out] at h1
    exact gives h1 h2
  simp only [Act.put, List.setIfInBounds_toArray, List.set_cons_zero, List.set_cons_succ]
  refine g_look rfl rfl ?_ (fun w' hC => ?_) ?_
  rotate_left
  · go_simp
    first | done | rfl
  simp only [Act.put, List.setIfInBounds_toArray, List.set_cons_zero, List.set_cons_succ]
  refine g_look rfl rfl ?_ (fun w' hC => ?_) ?_
  rotate_left
  · go_simp
    first | done | rfl
  simp only [Act.put, List.setIfInBounds_toArray, List.set_cons_zero, List.set_cons_succ]
  refine g_look rfl rfl ?_ (fun w' hC => ?_) ?_
  rotate_left
  · go_simp
    first | done | rfl
  simp only [Act.put, List.setIfInBounds_toArray, List.set_cons_zero, List.set_cons_succ]
  refine g_alloc (stays_good _ _) (.cells #[.int .u64 0, .int .u64 0] 24) rfl rfl (fun w' hC => ?_) (fun gt tt nt => ?_)
  · clear hC
    go_simp
    first | done | rfl | exact ⟨rfl, rfl⟩
  clear nt
  replace tt := Lib.hid tt
  simp only [Act.put, List.setIfInBounds_toArray, List.set_cons_zero, List.set_cons_succ]
  refine g_store gt (some 7) 24 24 _ _ #[.int .u64 0, .int .u64 0] #[.int .u64 s1, .int .u64 s2] rfl rfl rfl rfl rfl (own_new _ _ _ _) (by kernel_rfl) (rfl) (rfl) (one24 _ _) ?_
  simp only [Act.put]
  refine g_look rfl rfl ?_ (fun w' hC => ?_) ?_
  rotate_left
  · go_simp
    first | done | rfl
  simp only [Act.put, List.setIfInBounds_toArray, List.set_cons_zero, List.set_cons_succ]
  refine g_end ?_
  intro w5 hC5 hh5
  have S5 : Hid (Stays [(ga, Obj.cells #[.int .u64 (a : Int), .int .u64 (b : Int)] 24 (0, 0)), (gb, Obj.cells #[.int .u64 (c : Int), .int .u64 (d : Int)] 24 (0, 0)), (gX, Obj.cells (fc (dig X)) 27 (0, 0)), (gY, Obj.cells (fc (dig Y)) 27 (0, 0)), (gs, Obj.cells #[.int .u64 s1, .int .u64 s2] 24 (0, 0)), (gt, Obj.cells #[.int .u64 s1, .int .u64 s2] 24 (0, 0))] w w5) := Lib.hid (stays_cons (stays_row hC5 (List.mem_cons_self ..)) (stays_cons (stays_row hC5 (List.mem_cons_of_mem _ (List.mem_cons_self ..))) (stays_cons (stays_row hC5 (List.mem_cons_of_mem _ (List.mem_cons_of_mem _ (List.mem_cons_self ..)))) (stays_cons (stays_row hC5 (List.mem_cons_of_mem _ (List.mem_cons_of_mem _ (List.mem_cons_of_mem _ (List.mem_cons_self ..))))) (stays_cons (stays_row hC5 (List.mem_cons_of_mem _ (List.mem_cons_of_mem _ (List.mem_cons_of_mem _ (List.mem_cons_of_mem _ (List.mem_cons_self ..)))))) (stays_cons ((hh5 _ _ _ (own_new _ _ _ _)).1) (stays_nil (stays_below hC5))))))))
  clear S4
  clear hC5 hh5
  go_upto_region 6 with fail
  refine reg_plain (Stays [(ga, Obj.cells #[.int .u64 (a : Int), .int .u64 (b : Int)] 24 (0, 0)), (gb, Obj.cells #[.int .u64 (c : Int), .int .u64 (d : Int)] 24 (0, 0)), (gX, Obj.cells (fc (dig X)) 27 (0, 0)), (gY, Obj.cells (fc (dig Y)) 27 (0, 0)), (gs, Obj.cells #[.int .u64 s1, .int .u64 s2] 24 (0, 0)), (gt, Obj.cells #[.int .u64 s1, .int .u64 s2] 24 (0, 0))] w) (Turns [(ga, Obj.cells #[.int .u64 (a : Int), .int .u64 (b : Int)] 24 (0, 0)), (gb, Obj.cells #[.int .u64 (c : Int), .int .u64 (d : Int)] 24 (0, 0)), (gX, Obj.cells (fc (dig X)) 27 (0, 0)), (gY, Obj.cells (fc (dig Y)) 27 (0, 0)), (gs, Obj.cells #[.int .u64 s1, .int .u64 s2] 24 (0, 0)), (gt, Obj.cells #[.int .u64 s1, .int .u64 s2] 24 (0, 0))] w) (kdOf [(2, .make (callM (.tuple #[.agg #[.int .u64 p1, .int .u64 p2], .bool t2]))), (6, .make (allocM (.cells #[.int .u64 0, .int .u64 0] 24))), (7, .touch)]) none0 (stays_good _ _) (S5.out) (holds0 _) ?_
  (refine g_load 24 _ ga 24 #[.int .u64 (a : Int), .int .u64 (b : Int)] (0, 0) _ rfl rfl rfl rfl (fun w' hC => stays_row hC (List.mem_cons_self ..)) Try.underlying24 rfl (rfl) ?_)
  simp only [Act.put, List.setIfInBounds_toArray, List.set_cons_zero, List.set_cons_succ]
  refine g_look rfl rfl ?_ (fun w' hC => ?_) ?_
  rotate_left
  · go_simp
    first | done | rfl
  simp only [Act.put, List.setIfInBounds_toArray, List.set_cons_zero, List.set_cons_succ]
  refine g_call (stays_good _ _) (.tuple #[.agg #[.int .u64 p1, .int .u64 p2], .bool t2]) rfl rfl (fun w' hC => ?_) ?_
  · clear hC
    go_simp
    refine (times_word_any _ a b u ua.out ub.out uu.out).mono (fun e w2 h => ?_)
    obtain ⟨h1, h2⟩ := h
    rw [vX.out, cast_mul X u, HO2.out] at h1
    exact gives h1 h2
  simp only [Act.put, List.setIfInBounds_toArray, List.set_cons_zero, List.set_cons_succ]
  refine g_look rfl rfl ?_ (fun w' hC => ?_) ?_
  rotate_left
  · go_simp
    first | done | rfl
  simp only [Act.put, List.setIfInBounds_toArray, List.set_cons_zero, List.set_cons_succ]
  refine g_look rfl rfl ?_ (fun w' hC => ?_) ?_
  rotate_left
  · go_simp
    first | done | rfl
  simp only [Act.put, List.setIfInBounds_toArray, List.set_cons_zero, List.set_cons_succ]
  refine g_look rfl rfl ?_ (fun w' hC => ?_) ?_
  rotate_left
  · go_simp
    first | done | rfl
  simp only [Act.put, List.setIfInBounds_toArray, List.set_cons_zero, List.set_cons_succ]
  refine g_alloc (stays_good _ _) (.cells #[.int .u64 0, .int .u64 0] 24) rfl rfl (fun w' hC => ?_) (fun gp tp np => ?_)
  · clear hC
    go_simp
    first | done | rfl | exact ⟨rfl, rfl⟩
  clear np
  replace tp := Lib.hid tp
  simp only [Act.put, List.setIfInBounds_toArray, List.set_cons_zero, List.set_cons_succ]
  refine g_store gp (some 6) 24 24 _ _ #[.int .u64 0, .int .u64 0] #[.int .u64 p1, .int .u64 p2] rfl rfl rfl rfl rfl (own_new _ _ _ _) (by kernel_rfl) (rfl) (rfl) (one24 _ _) ?_
  simp only [Act.put]
  refine g_look rfl rfl ?_ (fun w' hC => ?_) ?_
  rotate_left
  · go_simp
    first | done | rfl
  simp only [Act.put, List.setIfInBounds_toArray, List.set_cons_zero, List.set_cons_succ]
  refine g_end ?_
  intro w6 hC6 hh6
  have S6 : Hid (Stays [(ga, Obj.cells #[.int .u64 (a : Int), .int .u64 (b : Int)] 24 (0, 0)), (gb, Obj.cells #[.int .u64 (c : Int), .int .u64 (d : Int)] 24 (0, 0)), (gX, Obj.cells (fc (dig X)) 27 (0, 0)), (gY, Obj.cells (fc (dig Y)) 27 (0, 0)), (gs, Obj.cells #[.int .u64 s1, .int .u64 s2] 24 (0, 0)), (gt, Obj.cells #[.int .u64 s1, .int .u64 s2] 24 (0, 0)), (gp, Obj.cells #[.int .u64 p1, .int .u64 p2] 24 (0, 0))] w w6) := Lib.hid (stays_cons (stays_row hC6 (List.mem_cons_self ..)) (stays_cons (stays_row hC6 (List.mem_cons_of_mem _ (List.mem_cons_self ..))) (stays_cons (stays_row hC6 (List.mem_cons_of_mem _ (List.mem_cons_of_mem _ (List.mem_cons_self ..)))) (stays_cons (stays_row hC6 (List.mem_cons_of_mem _ (List.mem_cons_of_mem _ (List.mem_cons_of_mem _ (List.mem_cons_self ..))))) (stays_cons (stays_row hC6 (List.mem_cons_of_mem _ (List.mem_cons_of_mem _ (List.mem_cons_of_mem _ (List.mem_cons_of_mem _ (List.mem_cons_self ..)))))) (stays_cons (stays_row hC6 (List.mem_cons_of_mem _ (List.mem_cons_of_mem _ (List.mem_cons_of_mem _ (List.mem_cons_of_mem _ (List.mem_cons_of_mem _ (List.mem_cons_self ..))))))) (stays_cons ((hh6 _ _ _ (own_new _ _ _ _)).1) (stays_nil (stays_below hC6)))))))))
  clear S5
  clear hC6 hh6
  go_upto_region 7 with fail
  refine reg (Stays [(ga, Obj.cells #[.int .u64 (a : Int), .int .u64 (b : Int)] 24 (0, 0)), (gb, Obj.cells #[.int .u64 (c : Int), .int .u64 (d : Int)] 24 (0, 0)), (gX, Obj.cells (fc (dig X)) 27 (0, 0)), (gY, Obj.cells (fc (dig Y)) 27 (0, 0)), (gs, Obj.cells #[.int .u64 s1, .int .u64 s2] 24 (0, 0)), (gt, Obj.cells #[.int .u64 s1, .int .u64 s2] 24 (0, 0)), (gp, Obj.cells #[.int .u64 p1, .int .u64 p2] 24 (0, 0))] w) (Turns [(ga, Obj.cells #[.int .u64 (a : Int), .int .u64 (b : Int)] 24 (0, 0)), (gb, Obj.cells #[.int .u64 (c : Int), .int .u64 (d : Int)] 24 (0, 0)), (gX, Obj.cells (fc (dig X)) 27 (0, 0)), (gY, Obj.cells (fc (dig Y)) 27 (0, 0)), (gs, Obj.cells #[.int .u64 s1, .int .u64 s2] 24 (0, 0)), (gt, Obj.cells #[.int .u64 s1, .int .u64 s2] 24 (0, 0)), (gp, Obj.cells #[.int .u64 p1, .int .u64 p2] 24 (0, 0))] w) (kdOf [(3, .make (callM (dg u))), (4, .make (callM (dg (X * u)))), (5, .make (callM (.tuple #[.agg #[.int .u64 p1, .int .u64 p2], .bool t2]))), (9, .make (allocM (.cells #[.int .u64 0, .int .u64 0] 24))), (10, .touch)]) none0 (stays_good _ _) (by kernel_rfl) (by kernel_rfl) (stays_drew (S6.out)) (holds0 _) ?_
  (refine g_load 27 _ gX 27 (fc (dig X)) (0, 0) _ rfl rfl rfl rfl (fun w' hC => stays_row hC (List.mem_cons_of_mem _ (List.mem_cons_of_mem _ (List.mem_cons_self ..)))) Try.underlying27 rfl (info27 _) ?_)
  simp only [Act.put, List.setIfInBounds_toArray, List.set_cons_zero, List.set_cons_succ]
  refine g_look rfl rfl ?_ (fun w' hC => ?_) ?_
  rotate_left
  · go_simp
    first | done | rfl
  simp only [Act.put, List.setIfInBounds_toArray, List.set_cons_zero, List.set_cons_succ]
  refine g_look rfl rfl ?_ (fun w' hC => ?_) ?_
  rotate_left
  · go_simp
    first | done | rfl
  simp only [Act.put, List.setIfInBounds_toArray, List.set_cons_zero, List.set_cons_succ]
  refine g_call (stays_good _ _) (dg u) rfl rfl (fun w' hC => ?_) ?_
  · clear hC
    go_simp
    refine (of_any _ 0 u (by decide) HU.out).mono (fun e w2 h => ?_)
    obtain ⟨h1, h2⟩ := h
    rw [Nat.zero_mul, Nat.zero_add] at h1
    exact gives h1 h2
  simp only [Act.put, List.setIfInBounds_toArray, List.set_cons_zero, List.set_cons_succ]
  refine g_call (stays_good _ _) (dg (X * u)) rfl rfl (fun w' hC => ?_) ?_
  · clear hC
    go_simp
    refine (times_any _ X u kX.out (u8 HU.out)).mono (fun e w2 h => ?_)
    obtain ⟨h1, h2⟩ := h
    exact gives h1 h2
  simp only [Act.put, List.setIfInBounds_toArray, List.set_cons_zero, List.set_cons_succ]
  refine g_call (stays_good _ _) (.tuple #[.agg #[.int .u64 p1, .int .u64 p2], .bool t2]) rfl rfl (fun w' hC => ?_) ?_
  · clear hC
    go_simp
    refine (wide_any _ (X * u) (mul20 kX.out HU.out)).mono (fun e w2 h => ?_)
    obtain ⟨h1, h2⟩ := h
    rw [HW2.out] at h1
    exact gives h1 h2
  simp only [Act.put, List.setIfInBounds_toArray, List.set_cons_zero, List.set_cons_succ]
  refine g_look rfl rfl ?_ (fun w' hC => ?_) ?_
  rotate_left
  · go_simp
    first | done | rfl
  simp only [Act.put, List.setIfInBounds_toArray, List.set_cons_zero, List.set_cons_succ]
  refine g_look rfl rfl ?_ (fun w' hC => ?_) ?_
  rotate_left
  · go_simp
    first | done | rfl
  simp only [Act.put, List.setIfInBounds_toArray, List.set_cons_zero, List.set_cons_succ]
  refine g_look rfl rfl ?_ (fun w' hC => ?_) ?_
  rotate_left
  · go_simp
    first | done | rfl
  simp only [Act.put, List.setIfInBounds_toArray, List.set_cons_zero, List.set_cons_succ]
  refine g_alloc (stays_good _ _) (.cells #[.int .u64 0, .int .u64 0] 24) rfl rfl (fun w' hC => ?_) (fun gq tq nq => ?_)
  · clear hC
    go_simp
    first | done | rfl | exact ⟨rfl, rfl⟩
  clear nq
  replace tq := Lib.hid tq
  simp only [Act.put, List.setIfInBounds_toArray, List.set_cons_zero, List.set_cons_succ]
  refine g_store gq (some 9) 24 24 _ _ #[.int .u64 0, .int .u64 0] #[.int .u64 p1, .int .u64 p2] rfl rfl rfl rfl rfl (own_new _ _ _ _) (by kernel_rfl) (rfl) (rfl) (one24 _ _) ?_
  simp only [Act.put]
  refine g_look rfl rfl ?_ (fun w' hC => ?_) ?_
  rotate_left
  · go_simp
    first | done | rfl
  simp only [Act.put, List.setIfInBounds_toArray, List.set_cons_zero, List.set_cons_succ]
  refine g_end ?_
  intro w7 hC7 hh7
  have S7 : Hid (Stays [(ga, Obj.cells #[.int .u64 (a : Int), .int .u64 (b : Int)] 24 (0, 0)), (gb, Obj.cells #[.int .u64 (c : Int), .int .u64 (d : Int)] 24 (0, 0)), (gX, Obj.cells (fc (dig X)) 27 (0, 0)), (gY, Obj.cells (fc (dig Y)) 27 (0, 0)), (gs, Obj.cells #[.int .u64 s1, .int .u64 s2] 24 (0, 0)), (gt, Obj.cells #[.int .u64 s1, .int .u64 s2] 24 (0, 0)), (gp, Obj.cells #[.int .u64 p1, .int .u64 p2] 24 (0, 0)), (gq, Obj.cells #[.int .u64 p1, .int .u64 p2] 24 (0, 0))] w w7) := Lib.hid (stays_cons (stays_row hC7 (List.mem_cons_self ..)) (stays_cons (stays_row hC7 (List.mem_cons_of_mem _ (List.mem_cons_self ..))) (stays_cons (stays_row hC7 (List.mem_cons_of_mem _ (List.mem_cons_of_mem _ (List.mem_cons_self ..)))) (stays_cons (stays_row hC7 (List.mem_cons_of_mem _ (List.mem_cons_of_mem _ (List.mem_cons_of_mem _ (List.mem_cons_self ..))))) (stays_cons (stays_row hC7 (List.mem_cons_of_mem _ (List.mem_cons_of_mem _ (List.mem_cons_of_mem _ (List.mem_cons_of_mem _ (List.mem_cons_self ..)))))) (stays_cons (stays_row hC7 (List.mem_cons_of_mem _ (List.mem_cons_of_mem _ (List.mem_cons_of_mem _ (List.mem_cons_of_mem _ (List.mem_cons_of_mem _ (List.mem_cons_self ..))))))) (stays_cons (stays_row hC7 (List.mem_cons_of_mem _ (List.mem_cons_of_mem _ (List.mem_cons_of_mem _ (List.mem_cons_of_mem _ (List.mem_cons_of_mem _ (List.mem_cons_of_mem _ (List.mem_cons_self ..)))))))) (stays_cons ((hh7 _ _ _ (own_new _ _ _ _)).1) (stays_nil (stays_below hC7))))))))))
  clear S6
  clear hC7 hh7
  go_upto_region 8 with fail
  refine reg_plain (Stays [(ga, Obj.cells #[.int .u64 (a : Int), .int .u64 (b : Int)] 24 (0, 0)), (gb, Obj.cells #[.int .u64 (c : Int), .int .u64 (d : Int)] 24 (0, 0)), (gX, Obj.cells (fc (dig X)) 27 (0, 0)), (gY, Obj.cells (fc (dig Y)) 27 (0, 0)), (gs, Obj.cells #[.int .u64 s1, .int .u64 s2] 24 (0, 0)), (gt, Obj.cells #[.int .u64 s1, .int .u64 s2] 24 (0, 0)), (gp, Obj.cells #[.int .u64 p1, .int .u64 p2] 24 (0, 0)), (gq, Obj.cells #[.int .u64 p1, .int .u64 p2] 24 (0, 0))] w) (Turns [(ga, Obj.cells #[.int .u64 (a : Int), .int .u64 (b : Int)] 24 (0, 0)), (gb, Obj.cells #[.int .u64 (c : Int), .int .u64 (d : Int)] 24 (0, 0)), (gX, Obj.cells (fc (dig X)) 27 (0, 0)), (gY, Obj.cells (fc (dig Y)) 27 (0, 0)), (gs, Obj.cells #[.int .u64 s1, .int .u64 s2] 24 (0, 0)), (gt, Obj.cells #[.int .u64 s1, .int .u64 s2] 24 (0, 0)), (gp, Obj.cells #[.int .u64 p1, .int .u64 p2] 24 (0, 0)), (gq, Obj.cells #[.int .u64 p1, .int .u64 p2] 24 (0, 0))] w) (kdOf [(2, .make (callM (.tuple #[.agg #[.int .u64 d1, .int .u64 d2], .bool true]))), (6, .make (allocM (.cells #[.int .u64 0, .int .u64 0] 24))), (7, .touch)]) none0 (stays_good _ _) (S7.out) (holds0 _) ?_
  (refine g_load 24 _ ga 24 #[.int .u64 (a : Int), .int .u64 (b : Int)] (0, 0) _ rfl rfl rfl rfl (fun w' hC => stays_row hC (List.mem_cons_self ..)) Try.underlying24 rfl (rfl) ?_)
  simp only [Act.put, List.setIfInBounds_toArray, List.set_cons_zero, List.set_cons_succ]
  (refine g_load 24 _ gb 24 #[.int .u64 (c : Int), .int .u64 (d : Int)] (0, 0) _ rfl rfl rfl rfl (fun w' hC => stays_row hC (List.mem_cons_of_mem _ (List.mem_cons_self ..))) Try.underlying24 rfl (rfl) ?_)
  simp only [Act.put, List.setIfInBounds_toArray, List.set_cons_zero, List.set_cons_succ]
  refine g_call (stays_good _ _) (.tuple #[.agg #[.int .u64 d1, .int .u64 d2], .bool true]) rfl rfl (fun w' hC => ?_) ?_
  · clear hC
    go_simp
    refine (sub_any _ a b c d ua.out ub.out uc.out ud.out).mono (fun e w2 h => ?_)
    obtain ⟨h1, h2⟩ := h
    rw [vX.out, vY.out, HO3.out] at h1
    exact gives h1 h2
  simp only [Act.put, List.setIfInBounds_toArray, List.set_cons_zero, List.set_cons_succ]
  refine g_look rfl rfl ?_ (fun w' hC => ?_) ?_
  rotate_left
  · go_simp
    first | done | rfl
  simp only [Act.put, List.setIfInBounds_toArray, List.set_cons_zero, List.set_cons_succ]
  refine g_look rfl rfl ?_ (fun w' hC => ?_) ?_
  rotate_left
  · go_simp
    first | done | rfl
  simp only [Act.put, List.setIfInBounds_toArray, List.set_cons_zero, List.set_cons_succ]
  refine g_look rfl rfl ?_ (fun w' hC => ?_) ?_
  rotate_left
  · go_simp
    first | done | rfl
  simp only [Act.put, List.setIfInBounds_toArray, List.set_cons_zero, List.set_cons_succ]
  refine g_alloc (stays_good _ _) (.cells #[.int .u64 0, .int .u64 0] 24) rfl rfl (fun w' hC => ?_) (fun gd td nd => ?_)
  · clear hC
    go_simp
    first | done | rfl | exact ⟨rfl, rfl⟩
  clear nd
  replace td := Lib.hid td
  simp only [Act.put, List.setIfInBounds_toArray, List.set_cons_zero, List.set_cons_succ]
  refine g_store gd (some 6) 24 24 _ _ #[.int .u64 0, .int .u64 0] #[.int .u64 d1, .int .u64 d2] rfl rfl rfl rfl rfl (own_new _ _ _ _) (by kernel_rfl) (rfl) (rfl) (one24 _ _) ?_
  simp only [Act.put]
  refine g_look rfl rfl ?_ (fun w' hC => ?_) ?_
  rotate_left
  · go_simp
    first | done | rfl
  simp only [Act.put, List.setIfInBounds_toArray, List.set_cons_zero, List.set_cons_succ]
  refine g_end ?_
  intro w8 hC8 hh8
  have S8 : Hid (Stays [(ga, Obj.cells #[.int .u64 (a : Int), .int .u64 (b : Int)] 24 (0, 0)), (gb, Obj.cells #[.int .u64 (c : Int), .int .u64 (d : Int)] 24 (0, 0)), (gX, Obj.cells (fc (dig X)) 27 (0, 0)), (gY, Obj.cells (fc (dig Y)) 27 (0, 0)), (gs, Obj.cells #[.int .u64 s1, .int .u64 s2] 24 (0, 0)), (gt, Obj.cells #[.int .u64 s1, .int .u64 s2] 24 (0, 0)), (gp, Obj.cells #[.int .u64 p1, .int .u64 p2] 24 (0, 0)), (gq, Obj.cells #[.int .u64 p1, .int .u64 p2] 24 (0, 0)), (gd, Obj.cells #[.int .u64 d1, .int .u64 d2] 24 (0, 0))] w w8) := Lib.hid (stays_cons (stays_row hC8 (List.mem_cons_self ..)) (stays_cons (stays_row hC8 (List.mem_cons_of_mem _ (List.mem_cons_self ..))) (stays_cons (stays_row hC8 (List.mem_cons_of_mem _ (List.mem_cons_of_mem _ (List.mem_cons_self ..)))) (stays_cons (stays_row hC8 (List.mem_cons_of_mem _ (List.mem_cons_of_mem _ (List.mem_cons_of_mem _ (List.mem_cons_self ..))))) (stays_cons (stays_row hC8 (List.mem_cons_of_mem _ (List.mem_cons_of_mem _ (List.mem_cons_of_mem _ (List.mem_cons_of_mem _ (List.mem_cons_self ..)))))) (stays_cons (stays_row hC8 (List.mem_cons_of_mem _ (List.mem_cons_of_mem _ (List.mem_cons_of_mem _ (List.mem_cons_of_mem _ (List.mem_cons_of_mem _ (List.mem_cons_self ..))))))) (stays_cons (stays_row hC8 (List.mem_cons_of_mem _ (List.mem_cons_of_mem _ (List.mem_cons_of_mem _ (List.mem_cons_of_mem _ (List.mem_cons_of_mem _ (List.mem_cons_of_mem _ (List.mem_cons_self ..)))))))) (stays_cons (stays_row hC8 (List.mem_cons_of_mem _ (List.mem_cons_of_mem _ (List.mem_cons_of_mem _ (List.mem_cons_of_mem _ (List.mem_cons_of_mem _ (List.mem_cons_of_mem _ (List.mem_cons_of_mem _ (List.mem_cons_self ..))))))))) (stays_cons ((hh8 _ _ _ (own_new _ _ _ _)).1) (stays_nil (stays_below hC8)))))))))))
  clear S7
  clear hC8 hh8
  go_upto_region 9 with fail
  refine reg_plain (Stays [(ga, Obj.cells #[.int .u64 (a : Int), .int .u64 (b : Int)] 24 (0, 0)), (gb, Obj.cells #[.int .u64 (c : Int), .int .u64 (d : Int)] 24 (0, 0)), (gX, Obj.cells (fc (dig X)) 27 (0, 0)), (gY, Obj.cells (fc (dig Y)) 27 (0, 0)), (gs, Obj.cells #[.int .u64 s1, .int .u64 s2] 24 (0, 0)), (gt, Obj.cells #[.int .u64 s1, .int .u64 s2] 24 (0, 0)), (gp, Obj.cells #[.int .u64 p1, .int .u64 p2] 24 (0, 0)), (gq, Obj.cells #[.int .u64 p1, .int .u64 p2] 24 (0, 0)), (gd, Obj.cells #[.int .u64 d1, .int .u64 d2] 24 (0, 0))] w) (Turns [(ga, Obj.cells #[.int .u64 (a : Int), .int .u64 (b : Int)] 24 (0, 0)), (gb, Obj.cells #[.int .u64 (c : Int), .int .u64 (d : Int)] 24 (0, 0)), (gX, Obj.cells (fc (dig X)) 27 (0, 0)), (gY, Obj.cells (fc (dig Y)) 27 (0, 0)), (gs, Obj.cells #[.int .u64 s1, .int .u64 s2] 24 (0, 0)), (gt, Obj.cells #[.int .u64 s1, .int .u64 s2] 24 (0, 0)), (gp, Obj.cells #[.int .u64 p1, .int .u64 p2] 24 (0, 0)), (gq, Obj.cells #[.int .u64 p1, .int .u64 p2] 24 (0, 0)), (gd, Obj.cells #[.int .u64 d1, .int .u64 d2] 24 (0, 0))] w) (kdOf [(1, .make (allocM (.cells #[.int .u64 0, .int .u64 0] 24))), (2, .touch)]) none0 (stays_good _ _) (S8.out) (holds0 _) ?_
  refine g_look rfl rfl ?_ (fun w' hC => ?_) ?_
  rotate_left
  · go_simp
    first | done | rfl
  simp only [Act.put, List.setIfInBounds_toArray, List.set_cons_zero, List.set_cons_succ]
  refine g_alloc (stays_good _ _) (.cells #[.int .u64 0, .int .u64 0] 24) rfl rfl (fun w' hC => ?_) (fun gw tw nw => ?_)
  · clear hC
    go_simp
    first | done | rfl | exact ⟨rfl, rfl⟩
  clear nw
  replace tw := Lib.hid tw
  simp only [Act.put, List.setIfInBounds_toArray, List.set_cons_zero, List.set_cons_succ]
  refine g_store gw (some 1) 24 24 _ _ #[.int .u64 0, .int .u64 0] #[.int .u64 0, .int .u64 0] rfl rfl rfl rfl rfl (own_new _ _ _ _) (by kernel_rfl) (rfl) (rfl) (one24 _ _) ?_
  simp only [Act.put]
  refine g_end ?_
  intro w9 hC9 hh9
  have S9 : Hid (Stays [(ga, Obj.cells #[.int .u64 (a : Int), .int .u64 (b : Int)] 24 (0, 0)), (gb, Obj.cells #[.int .u64 (c : Int), .int .u64 (d : Int)] 24 (0, 0)), (gX, Obj.cells (fc (dig X)) 27 (0, 0)), (gY, Obj.cells (fc (dig Y)) 27 (0, 0)), (gs, Obj.cells #[.int .u64 s1, .int .u64 s2] 24 (0, 0)), (gt, Obj.cells #[.int .u64 s1, .int .u64 s2] 24 (0, 0)), (gp, Obj.cells #[.int .u64 p1, .int .u64 p2] 24 (0, 0)), (gq, Obj.cells #[.int .u64 p1, .int .u64 p2] 24 (0, 0)), (gd, Obj.cells #[.int .u64 d1, .int .u64 d2] 24 (0, 0)), (gw, Obj.cells #[.int .u64 0, .int .u64 0] 24 (0, 0))] w w9) := Lib.hid (stays_cons (stays_row hC9 (List.mem_cons_self ..)) (stays_cons (stays_row hC9 (List.mem_cons_of_mem _ (List.mem_cons_self ..))) (stays_cons (stays_row hC9 (List.mem_cons_of_mem _ (List.mem_cons_of_mem _ (List.mem_cons_self ..)))) (stays_cons (stays_row hC9 (List.mem_cons_of_mem _ (List.mem_cons_of_mem _ (List.mem_cons_of_mem _ (List.mem_cons_self ..))))) (stays_cons (stays_row hC9 (List.mem_cons_of_mem _ (List.mem_cons_of_mem _ (List.mem_cons_of_mem _ (List.mem_cons_of_mem _ (List.mem_cons_self ..)))))) (stays_cons (stays_row hC9 (List.mem_cons_of_mem _ (List.mem_cons_of_mem _ (List.mem_cons_of_mem _ (List.mem_cons_of_mem _ (List.mem_cons_of_mem _ (List.mem_cons_self ..))))))) (stays_cons (stays_row hC9 (List.mem_cons_of_mem _ (List.mem_cons_of_mem _ (List.mem_cons_of_mem _ (List.mem_cons_of_mem _ (List.mem_cons_of_mem _ (List.mem_cons_of_mem _ (List.mem_cons_self ..)))))))) (stays_cons (stays_row hC9 (List.mem_cons_of_mem _ (List.mem_cons_of_mem _ (List.mem_cons_of_mem _ (List.mem_cons_of_mem _ (List.mem_cons_of_mem _ (List.mem_cons_of_mem _ (List.mem_cons_of_mem _ (List.mem_cons_self ..))))))))) (stays_cons (stays_row hC9 (List.mem_cons_of_mem _ (List.mem_cons_of_mem _ (List.mem_cons_of_mem _ (List.mem_cons_of_mem _ (List.mem_cons_of_mem _ (List.mem_cons_of_mem _ (List.mem_cons_of_mem _ (List.mem_cons_of_mem _ (List.mem_cons_self ..)))))))))) (stays_cons ((hh9 _ _ _ (own_new _ _ _ _)).1) (stays_nil (stays_below hC9))))))))))))
  clear S8
  clear hC9 hh9
  go_upto_region 10 with fail
  refine reg_plain (Stays [(ga, Obj.cells #[.int .u64 (a : Int), .int .u64 (b : Int)] 24 (0, 0)), (gb, Obj.cells #[.int .u64 (c : Int), .int .u64 (d : Int)] 24 (0, 0)), (gX, Obj.cells (fc (dig X)) 27 (0, 0)), (gY, Obj.cells (fc (dig Y)) 27 (0, 0)), (gs, Obj.cells #[.int .u64 s1, .int .u64 s2] 24 (0, 0)), (gt, Obj.cells #[.int .u64 s1, .int .u64 s2] 24 (0, 0)), (gp, Obj.cells #[.int .u64 p1, .int .u64 p2] 24 (0, 0)), (gq, Obj.cells #[.int .u64 p1, .int .u64 p2] 24 (0, 0)), (gd, Obj.cells #[.int .u64 d1, .int .u64 d2] 24 (0, 0)), (gw, Obj.cells #[.int .u64 0, .int .u64 0] 24 (0, 0))] w) (Turns [(ga, Obj.cells #[.int .u64 (a : Int), .int .u64 (b : Int)] 24 (0, 0)), (gb, Obj.cells #[.int .u64 (c : Int), .int .u64 (d : Int)] 24 (0, 0)), (gX, Obj.cells (fc (dig X)) 27 (0, 0)), (gY, Obj.cells (fc (dig Y)) 27 (0, 0)), (gs, Obj.cells #[.int .u64 s1, .int .u64 s2] 24 (0, 0)), (gt, Obj.cells #[.int .u64 s1, .int .u64 s2] 24 (0, 0)), (gp, Obj.cells #[.int .u64 p1, .int .u64 p2] 24 (0, 0)), (gq, Obj.cells #[.int .u64 p1, .int .u64 p2] 24 (0, 0)), (gd, Obj.cells #[.int .u64 d1, .int .u64 d2] 24 (0, 0)), (gw, Obj.cells #[.int .u64 0, .int .u64 0] 24 (0, 0))] w) (kdOf [(2, .make (callM (.bool false)))]) none0 (stays_good _ _) (S9.out) (holds0 _) ?_
  (refine g_load 27 _ gX 27 (fc (dig X)) (0, 0) _ rfl rfl rfl rfl (fun w' hC => stays_row hC (List.mem_cons_of_mem _ (List.mem_cons_of_mem _ (List.mem_cons_self ..)))) Try.underlying27 rfl (info27 _) ?_)
  simp only [Act.put, List.setIfInBounds_toArray, List.set_cons_zero, List.set_cons_succ]
  (refine g_load 27 _ gY 27 (fc (dig Y)) (0, 0) _ rfl rfl rfl rfl (fun w' hC => stays_row hC (List.mem_cons_of_mem _ (List.mem_cons_of_mem _ (List.mem_cons_of_mem _ (List.mem_cons_self ..))))) Try.underlying27 rfl (info27 _) ?_)
  simp only [Act.put, List.setIfInBounds_toArray, List.set_cons_zero, List.set_cons_succ]
  refine g_call (stays_good _ _) (.bool false) rfl rfl (fun w' hC => ?_) ?_
  · clear hC
    go_simp
    refine (less_any _ X Y (lt20 kX.out) (lt20 kY.out)).mono (fun e w2 h => ?_)
    obtain ⟨h1, h2⟩ := h
    rw [HLS.out] at h1
    exact gives h1 h2
  simp only [Act.put, List.setIfInBounds_toArray, List.set_cons_zero, List.set_cons_succ]
  refine g_look rfl rfl ?_ (fun w' hC => ?_) ?_
  rotate_left
  · go_simp
    first | done | rfl
  simp only [Act.put, List.setIfInBounds_toArray, List.set_cons_zero, List.set_cons_succ]
  refine g_end ?_
  intro w10 hC10 hh10
  have S10 : Hid (Stays [(ga, Obj.cells #[.int .u64 (a : Int), .int .u64 (b : Int)] 24 (0, 0)), (gb, Obj.cells #[.int .u64 (c : Int), .int .u64 (d : Int)] 24 (0, 0)), (gX, Obj.cells (fc (dig X)) 27 (0, 0)), (gY, Obj.cells (fc (dig Y)) 27 (0, 0)), (gs, Obj.cells #[.int .u64 s1, .int .u64 s2] 24 (0, 0)), (gt, Obj.cells #[.int .u64 s1, .int .u64 s2] 24 (0, 0)), (gp, Obj.cells #[.int .u64 p1, .int .u64 p2] 24 (0, 0)), (gq, Obj.cells #[.int .u64 p1, .int .u64 p2] 24 (0, 0)), (gd, Obj.cells #[.int .u64 d1, .int .u64 d2] 24 (0, 0)), (gw, Obj.cells #[.int .u64 0, .int .u64 0] 24 (0, 0))] w w10) := Lib.hid (stays_cons (stays_row hC10 (List.mem_cons_self ..)) (stays_cons (stays_row hC10 (List.mem_cons_of_mem _ (List.mem_cons_self ..))) (stays_cons (stays_row hC10 (List.mem_cons_of_mem _ (List.mem_cons_of_mem _ (List.mem_cons_self ..)))) (stays_cons (stays_row hC10 (List.mem_cons_of_mem _ (List.mem_cons_of_mem _ (List.mem_cons_of_mem _ (List.mem_cons_self ..))))) (stays_cons (stays_row hC10 (List.mem_cons_of_mem _ (List.mem_cons_of_mem _ (List.mem_cons_of_mem _ (List.mem_cons_of_mem _ (List.mem_cons_self ..)))))) (stays_cons (stays_row hC10 (List.mem_cons_of_mem _ (List.mem_cons_of_mem _ (List.mem_cons_of_mem _ (List.mem_cons_of_mem _ (List.mem_cons_of_mem _ (List.mem_cons_self ..))))))) (stays_cons (stays_row hC10 (List.mem_cons_of_mem _ (List.mem_cons_of_mem _ (List.mem_cons_of_mem _ (List.mem_cons_of_mem _ (List.mem_cons_of_mem _ (List.mem_cons_of_mem _ (List.mem_cons_self ..)))))))) (stays_cons (stays_row hC10 (List.mem_cons_of_mem _ (List.mem_cons_of_mem _ (List.mem_cons_of_mem _ (List.mem_cons_of_mem _ (List.mem_cons_of_mem _ (List.mem_cons_of_mem _ (List.mem_cons_of_mem _ (List.mem_cons_self ..))))))))) (stays_cons (stays_row hC10 (List.mem_cons_of_mem _ (List.mem_cons_of_mem _ (List.mem_cons_of_mem _ (List.mem_cons_of_mem _ (List.mem_cons_of_mem _ (List.mem_cons_of_mem _ (List.mem_cons_of_mem _ (List.mem_cons_of_mem _ (List.mem_cons_self ..)))))))))) (stays_cons (stays_row hC10 (List.mem_cons_of_mem _ (List.mem_cons_of_mem _ (List.mem_cons_of_mem _ (List.mem_cons_of_mem _ (List.mem_cons_of_mem _ (List.mem_cons_of_mem _ (List.mem_cons_of_mem _ (List.mem_cons_of_mem _ (List.mem_cons_of_mem _ (List.mem_cons_self ..))))))))))) (stays_nil (stays_below hC10))))))))))))
  clear S9
  clear hC10 hh10
  go_upto_region 11 with fail
  refine reg_plain (Stays [(ga, Obj.cells #[.int .u64 (a : Int), .int .u64 (b : Int)] 24 (0, 0)), (gb, Obj.cells #[.int .u64 (c : Int), .int .u64 (d : Int)] 24 (0, 0)), (gX, Obj.cells (fc (dig X)) 27 (0, 0)), (gY, Obj.cells (fc (dig Y)) 27 (0, 0)), (gs, Obj.cells #[.int .u64 s1, .int .u64 s2] 24 (0, 0)), (gt, Obj.cells #[.int .u64 s1, .int .u64 s2] 24 (0, 0)), (gp, Obj.cells #[.int .u64 p1, .int .u64 p2] 24 (0, 0)), (gq, Obj.cells #[.int .u64 p1, .int .u64 p2] 24 (0, 0)), (gd, Obj.cells #[.int .u64 d1, .int .u64 d2] 24 (0, 0))] w) (Turns [(ga, Obj.cells #[.int .u64 (a : Int), .int .u64 (b : Int)] 24 (0, 0)), (gb, Obj.cells #[.int .u64 (c : Int), .int .u64 (d : Int)] 24 (0, 0)), (gX, Obj.cells (fc (dig X)) 27 (0, 0)), (gY, Obj.cells (fc (dig Y)) 27 (0, 0)), (gs, Obj.cells #[.int .u64 s1, .int .u64 s2] 24 (0, 0)), (gt, Obj.cells #[.int .u64 s1, .int .u64 s2] 24 (0, 0)), (gp, Obj.cells #[.int .u64 p1, .int .u64 p2] 24 (0, 0)), (gq, Obj.cells #[.int .u64 p1, .int .u64 p2] 24 (0, 0)), (gd, Obj.cells #[.int .u64 d1, .int .u64 d2] 24 (0, 0))] w) (kdOf [(2, .make (callM (dg (X - Y)))), (3, .make (callM (.tuple #[.agg #[.int .u64 d1, .int .u64 d2], .bool true]))), (7, .touch)]) (Own.has none0 gw (Obj.cells #[.int .u64 0, .int .u64 0] 24 (0, 0))) (stays_good _ _) (stays_cons (stays_row S10.out (List.mem_cons_self ..)) (stays_cons (stays_row S10.out (List.mem_cons_of_mem _ (List.mem_cons_self ..))) (stays_cons (stays_row S10.out (List.mem_cons_of_mem _ (List.mem_cons_of_mem _ (List.mem_cons_self ..)))) (stays_cons (stays_row S10.out (List.mem_cons_of_mem _ (List.mem_cons_of_mem _ (List.mem_cons_of_mem _ (List.mem_cons_self ..))))) (stays_cons (stays_row S10.out (List.mem_cons_of_mem _ (List.mem_cons_of_mem _ (List.mem_cons_of_mem _ (List.mem_cons_of_mem _ (List.mem_cons_self ..)))))) (stays_cons (stays_row S10.out (List.mem_cons_of_mem _ (List.mem_cons_of_mem _ (List.mem_cons_of_mem _ (List.mem_cons_of_mem _ (List.mem_cons_of_mem _ (List.mem_cons_self ..))))))) (stays_cons (stays_row S10.out (List.mem_cons_of_mem _ (List.mem_cons_of_mem _ (List.mem_cons_of_mem _ (List.mem_cons_of_mem _ (List.mem_cons_of_mem _ (List.mem_cons_of_mem _ (List.mem_cons_self ..)))))))) (stays_cons (stays_row S10.out (List.mem_cons_of_mem _ (List.mem_cons_of_mem _ (List.mem_cons_of_mem _ (List.mem_cons_of_mem _ (List.mem_cons_of_mem _ (List.mem_cons_of_mem _ (List.mem_cons_of_mem _ (List.mem_cons_self ..))))))))) (stays_cons (stays_row S10.out (List.mem_cons_of_mem _ (List.mem_cons_of_mem _ (List.mem_cons_of_mem _ (List.mem_cons_of_mem _ (List.mem_cons_of_mem _ (List.mem_cons_of_mem _ (List.mem_cons_of_mem _ (List.mem_cons_of_mem _ (List.mem_cons_self ..)))))))))) (stays_nil (stays_below S10.out))))))))))) (holds_has (holds0 _) (stays_row S10.out (List.mem_cons_of_mem _ (List.mem_cons_of_mem _ (List.mem_cons_of_mem _ (List.mem_cons_of_mem _ (List.mem_cons_of_mem _ (List.mem_cons_of_mem _ (List.mem_cons_of_mem _ (List.mem_cons_of_mem _ (List.mem_cons_of_mem _ (List.mem_cons_self ..))))))))))) tw.out) ?_
  (refine g_load 27 _ gX 27 (fc (dig X)) (0, 0) _ rfl rfl rfl rfl (fun w' hC => stays_row hC (List.mem_cons_of_mem _ (List.mem_cons_of_mem _ (List.mem_cons_self ..)))) Try.underlying27 rfl (info27 _) ?_)
  simp only [Act.put, List.setIfInBounds_toArray, List.set_cons_zero, List.set_cons_succ]
  (refine g_load 27 _ gY 27 (fc (dig Y)) (0, 0) _ rfl rfl rfl rfl (fun w' hC => stays_row hC (List.mem_cons_of_mem _ (List.mem_cons_of_mem _ (List.mem_cons_of_mem _ (List.mem_cons_self ..))))) Try.underlying27 rfl (info27 _) ?_)
  simp only [Act.put, List.setIfInBounds_toArray, List.set_cons_zero, List.set_cons_succ]
  refine g_call (stays_good _ _) (dg (X - Y)) rfl rfl (fun w' hC => ?_) ?_
  · clear hC
    go_simp
    refine (minus_any _ X Y HLE.out).mono (fun e w2 h => ?_)
    obtain ⟨h1, h2⟩ := h
    exact gives h1 h2
  simp only [Act.put, List.setIfInBounds_toArray, List.set_cons_zero, List.set_cons_succ]
  refine g_call (stays_good _ _) (.tuple #[.agg #[.int .u64 d1, .int .u64 d2], .bool true]) rfl rfl (fun w' hC => ?_) ?_
  · clear hC
    go_simp
    refine (wide_any _ (X - Y) (lt20 (Nat.lt_of_le_of_lt (Nat.sub_le _ _) kX.out))).mono (fun e w2 h => ?_)
    obtain ⟨h1, h2⟩ := h
    rw [HW3.out] at h1
    exact gives h1 h2
  simp only [Act.put, List.setIfInBounds_toArray, List.set_cons_zero, List.set_cons_succ]
  refine g_look rfl rfl ?_ (fun w' hC => ?_) ?_
  rotate_left
  · go_simp
    first | done | rfl
  simp only [Act.put, List.setIfInBounds_toArray, List.set_cons_zero, List.set_cons_succ]
  refine g_look rfl rfl ?_ (fun w' hC => ?_) ?_
  rotate_left
  · go_simp
    first | done | rfl
  simp only [Act.put, List.setIfInBounds_toArray, List.set_cons_zero, List.set_cons_succ]
  refine g_look rfl rfl ?_ (fun w' hC => ?_) ?_
  rotate_left
  · go_simp
    first | done | rfl
  simp only [Act.put, List.setIfInBounds_toArray, List.set_cons_zero, List.set_cons_succ]
  refine g_store gw none 24 24 _ _ #[.int .u64 0, .int .u64 0] #[.int .u64 d1, .int .u64 d2] rfl rfl rfl rfl rfl (has_same _ _ _) (by kernel_rfl) (rfl) (rfl) (one24 _ _) ?_
  simp only [Act.put]
  refine g_end ?_
  intro w11 hC11 hh11
  have S11 : Hid (Stays [(ga, Obj.cells #[.int .u64 (a : Int), .int .u64 (b : Int)] 24 (0, 0)), (gb, Obj.cells #[.int .u64 (c : Int), .int .u64 (d : Int)] 24 (0, 0)), (gX, Obj.cells (fc (dig X)) 27 (0, 0)), (gY, Obj.cells (fc (dig Y)) 27 (0, 0)), (gs, Obj.cells #[.int .u64 s1, .int .u64 s2] 24 (0, 0)), (gt, Obj.cells #[.int .u64 s1, .int .u64 s2] 24 (0, 0)), (gp, Obj.cells #[.int .u64 p1, .int .u64 p2] 24 (0, 0)), (gq, Obj.cells #[.int .u64 p1, .int .u64 p2] 24 (0, 0)), (gd, Obj.cells #[.int .u64 d1, .int .u64 d2] 24 (0, 0)), (gw, Obj.cells #[.int .u64 d1, .int .u64 d2] 24 (0, 0))] w w11) := Lib.hid (stays_cons (stays_row hC11 (List.mem_cons_self ..)) (stays_cons (stays_row hC11 (List.mem_cons_of_mem _ (List.mem_cons_self ..))) (stays_cons (stays_row hC11 (List.mem_cons_of_mem _ (List.mem_cons_of_mem _ (List.mem_cons_self ..)))) (stays_cons (stays_row hC11 (List.mem_cons_of_mem _ (List.mem_cons_of_mem _ (List.mem_cons_of_mem _ (List.mem_cons_self ..))))) (stays_cons (stays_row hC11 (List.mem_cons_of_mem _ (List.mem_cons_of_mem _ (List.mem_cons_of_mem _ (List.mem_cons_of_mem _ (List.mem_cons_self ..)))))) (stays_cons (stays_row hC11 (List.mem_cons_of_mem _ (List.mem_cons_of_mem _ (List.mem_cons_of_mem _ (List.mem_cons_of_mem _ (List.mem_cons_of_mem _ (List.mem_cons_self ..))))))) (stays_cons (stays_row hC11 (List.mem_cons_of_mem _ (List.mem_cons_of_mem _ (List.mem_cons_of_mem _ (List.mem_cons_of_mem _ (List.mem_cons_of_mem _ (List.mem_cons_of_mem _ (List.mem_cons_self ..)))))))) (stays_cons (stays_row hC11 (List.mem_cons_of_mem _ (List.mem_cons_of_mem _ (List.mem_cons_of_mem _ (List.mem_cons_of_mem _ (List.mem_cons_of_mem _ (List.mem_cons_of_mem _ (List.mem_cons_of_mem _ (List.mem_cons_self ..))))))))) (stays_cons (stays_row hC11 (List.mem_cons_of_mem _ (List.mem_cons_of_mem _ (List.mem_cons_of_mem _ (List.mem_cons_of_mem _ (List.mem_cons_of_mem _ (List.mem_cons_of_mem _ (List.mem_cons_of_mem _ (List.mem_cons_of_mem _ (List.mem_cons_self ..)))))))))) (stays_cons ((hh11 _ _ _ (own_new _ _ _ _)).1) (stays_nil (stays_below hC11))))))))))))
  clear S10
  clear hC11 hh11
  go_upto_region 12 with fail
  refine reg_plain (Stays [(ga, Obj.cells #[.int .u64 (a : Int), .int .u64 (b : Int)] 24 (0, 0)), (gb, Obj.cells #[.int .u64 (c : Int), .int .u64 (d : Int)] 24 (0, 0)), (gX, Obj.cells (fc (dig X)) 27 (0, 0)), (gY, Obj.cells (fc (dig Y)) 27 (0, 0)), (gs, Obj.cells #[.int .u64 s1, .int .u64 s2] 24 (0, 0)), (gt, Obj.cells #[.int .u64 s1, .int .u64 s2] 24 (0, 0)), (gp, Obj.cells #[.int .u64 p1, .int .u64 p2] 24 (0, 0)), (gq, Obj.cells #[.int .u64 p1, .int .u64 p2] 24 (0, 0)), (gd, Obj.cells #[.int .u64 d1, .int .u64 d2] 24 (0, 0)), (gw, Obj.cells #[.int .u64 d1, .int .u64 d2] 24 (0, 0))] w) (Turns [(ga, Obj.cells #[.int .u64 (a : Int), .int .u64 (b : Int)] 24 (0, 0)), (gb, Obj.cells #[.int .u64 (c : Int), .int .u64 (d : Int)] 24 (0, 0)), (gX, Obj.cells (fc (dig X)) 27 (0, 0)), (gY, Obj.cells (fc (dig Y)) 27 (0, 0)), (gs, Obj.cells #[.int .u64 s1, .int .u64 s2] 24 (0, 0)), (gt, Obj.cells #[.int .u64 s1, .int .u64 s2] 24 (0, 0)), (gp, Obj.cells #[.int .u64 p1, .int .u64 p2] 24 (0, 0)), (gq, Obj.cells #[.int .u64 p1, .int .u64 p2] 24 (0, 0)), (gd, Obj.cells #[.int .u64 d1, .int .u64 d2] 24 (0, 0)), (gw, Obj.cells #[.int .u64 d1, .int .u64 d2] 24 (0, 0))] w) (kdOf [(22, .make (callM (.bool false)))]) none0 (stays_good _ _) (S11.out) (holds0 _) ?_
  refine g_look rfl rfl ?_ (fun w' hC => ?_) ?_
  rotate_left
  · go_simp
    first | done | rfl
  simp only [Act.put, List.setIfInBounds_toArray, List.set_cons_zero, List.set_cons_succ]
  refine g_look rfl rfl ?_ (fun w' hC => ?_) ?_
  rotate_left
  · go_simp
    first | done | rfl
  simp only [Act.put, List.setIfInBounds_toArray, List.set_cons_zero, List.set_cons_succ]
  refine g_look rfl rfl ?_ (fun w' hC => ?_) ?_
  rotate_left
  · go_simp
    first | done | rfl
  simp only [Act.put, List.setIfInBounds_toArray, List.set_cons_zero, List.set_cons_succ]
  refine g_look rfl rfl ?_ (fun w' hC => ?_) ?_
  rotate_left
  · go_simp
    first | done | rfl
  simp only [Act.put, List.setIfInBounds_toArray, List.set_cons_zero, List.set_cons_succ]
  first | (refine g_skip rfl ?_) | (refine g_load 24 _ gs 24 #[.int .u64 s1, .int .u64 s2] (0, 0) _ rfl rfl rfl rfl (fun w' hC => stays_row hC (List.mem_cons_of_mem _ (List.mem_cons_of_mem _ (List.mem_cons_of_mem _ (List.mem_cons_of_mem _ (List.mem_cons_self ..)))))) Try.underlying24 rfl (rfl) ?_)
  simp only [Act.put, List.setIfInBounds_toArray, List.set_cons_zero, List.set_cons_succ]
  first | (refine g_skip rfl ?_) | (refine g_load 24 _ gt 24 #[.int .u64 s1, .int .u64 s2] (0, 0) _ rfl rfl rfl rfl (fun w' hC => stays_row hC (List.mem_cons_of_mem _ (List.mem_cons_of_mem _ (List.mem_cons_of_mem _ (List.mem_cons_of_mem _ (List.mem_cons_of_mem _ (List.mem_cons_self ..))))))) Try.underlying24 rfl (rfl) ?_)
  simp only [Act.put, List.setIfInBounds_toArray, List.set_cons_zero, List.set_cons_succ]
  first
  | (refine g_skip rfl ?_)
  | (refine g_look rfl rfl ?_ (fun w' hC => ?_) ?_
     rotate_left
     · go_simp
       first | done | rfl)
  simp only [Act.put, List.setIfInBounds_toArray, List.set_cons_zero, List.set_cons_succ]
  refine g_look rfl rfl ?_ (fun w' hC => ?_) ?_
  rotate_left
  · go_simp
    first | done | rfl
  simp only [Act.put, List.setIfInBounds_toArray, List.set_cons_zero, List.set_cons_succ]
  refine g_look rfl rfl ?_ (fun w' hC => ?_) ?_
  rotate_left
  · go_simp
    first | done | rfl
  simp only [Act.put, List.setIfInBounds_toArray, List.set_cons_zero, List.set_cons_succ]
  first
  | (refine g_skip rfl ?_)
  | (refine g_look rfl rfl ?_ (fun w' hC => ?_) ?_
     rotate_left
     · go_simp
       first | done | rfl)
  simp only [Act.put, List.setIfInBounds_toArray, List.set_cons_zero, List.set_cons_succ]
  first
  | (refine g_skip rfl ?_)
  | (refine g_look rfl rfl ?_ (fun w' hC => ?_) ?_
     rotate_left
     · go_simp
       first | done | rfl)
  simp only [Act.put, List.setIfInBounds_toArray, List.set_cons_zero, List.set_cons_succ]
  first
  | (refine g_skip rfl ?_)
  | (refine g_look rfl rfl ?_ (fun w' hC => ?_) ?_
     rotate_left
     · go_simp
       first | done | rfl)
  simp only [Act.put, List.setIfInBounds_toArray, List.set_cons_zero, List.set_cons_succ]
  refine g_look rfl rfl ?_ (fun w' hC => ?_) ?_
  rotate_left
  · go_simp
    first | done | rfl
  simp only [Act.put, List.setIfInBounds_toArray, List.set_cons_zero, List.set_cons_succ]
  refine g_look rfl rfl ?_ (fun w' hC => ?_) ?_
  rotate_left
  · go_simp
    first | done | rfl
  simp only [Act.put, List.setIfInBounds_toArray, List.set_cons_zero, List.set_cons_succ]
  first | (refine g_skip rfl ?_) | (refine g_load 24 _ gp 24 #[.int .u64 p1, .int .u64 p2] (0, 0) _ rfl rfl rfl rfl (fun w' hC => stays_row hC (List.mem_cons_of_mem _ (List.mem_cons_of_mem _ (List.mem_cons_of_mem _ (List.mem_cons_of_mem _ (List.mem_cons_of_mem _ (List.mem_cons_of_mem _ (List.mem_cons_self ..)))))))) Try.underlying24 rfl (rfl) ?_)
  simp only [Act.put, List.setIfInBounds_toArray, List.set_cons_zero, List.set_cons_succ]
  first | (refine g_skip rfl ?_) | (refine g_load 24 _ gq 24 #[.int .u64 p1, .int .u64 p2] (0, 0) _ rfl rfl rfl rfl (fun w' hC => stays_row hC (List.mem_cons_of_mem _ (List.mem_cons_of_mem _ (List.mem_cons_of_mem _ (List.mem_cons_of_mem _ (List.mem_cons_of_mem _ (List.mem_cons_of_mem _ (List.mem_cons_of_mem _ (List.mem_cons_self ..))))))))) Try.underlying24 rfl (rfl) ?_)
  simp only [Act.put, List.setIfInBounds_toArray, List.set_cons_zero, List.set_cons_succ]
  first
  | (refine g_skip rfl ?_)
  | (refine g_look rfl rfl ?_ (fun w' hC => ?_) ?_
     rotate_left
     · go_simp
       first | done | rfl)
  simp only [Act.put, List.setIfInBounds_toArray, List.set_cons_zero, List.set_cons_succ]
  refine g_look rfl rfl ?_ (fun w' hC => ?_) ?_
  rotate_left
  · go_simp
    first | done | rfl
  simp only [Act.put, List.setIfInBounds_toArray, List.set_cons_zero, List.set_cons_succ]
  refine g_look rfl rfl ?_ (fun w' hC => ?_) ?_
  rotate_left
  · go_simp
    first | done | rfl
  simp only [Act.put, List.setIfInBounds_toArray, List.set_cons_zero, List.set_cons_succ]
  first
  | (refine g_skip rfl ?_)
  | (refine g_look rfl rfl ?_ (fun w' hC => ?_) ?_
     rotate_left
     · go_simp
       first | done | rfl)
  simp only [Act.put, List.setIfInBounds_toArray, List.set_cons_zero, List.set_cons_succ]
  first | (refine g_skip rfl ?_) | (refine g_load 27 _ gX 27 (fc (dig X)) (0, 0) _ rfl rfl rfl rfl (fun w' hC => stays_row hC (List.mem_cons_of_mem _ (List.mem_cons_of_mem _ (List.mem_cons_self ..)))) Try.underlying27 rfl (info27 _) ?_)
  simp only [Act.put, List.setIfInBounds_toArray, List.set_cons_zero, List.set_cons_succ]
  first | (refine g_skip rfl ?_) | (refine g_load 27 _ gY 27 (fc (dig Y)) (0, 0) _ rfl rfl rfl rfl (fun w' hC => stays_row hC (List.mem_cons_of_mem _ (List.mem_cons_of_mem _ (List.mem_cons_of_mem _ (List.mem_cons_self ..))))) Try.underlying27 rfl (info27 _) ?_)
  simp only [Act.put, List.setIfInBounds_toArray, List.set_cons_zero, List.set_cons_succ]
  first
  | (refine g_skip rfl ?_)
  | skip
  refine g_call (stays_good _ _) (.bool false) rfl rfl (fun w' hC => ?_) ?_
  · clear hC
    go_simp
    refine (less_any _ X Y (lt20 kX.out) (lt20 kY.out)).mono (fun e w2 h => ?_)
    obtain ⟨h1, h2⟩ := h
    rw [HLS.out] at h1
    exact gives h1 h2
  simp only [Act.put, List.setIfInBounds_toArray, List.set_cons_zero, List.set_cons_succ]
  first
  | (refine g_skip rfl ?_)
  | (refine g_look rfl rfl ?_ (fun w' hC => ?_) ?_
     rotate_left
     · go_simp
       first | done | rfl)
  simp only [Act.put, List.setIfInBounds_toArray, List.set_cons_zero, List.set_cons_succ]
  first
  | (refine g_skip rfl ?_)
  | (refine g_look rfl rfl ?_ (fun w' hC => ?_) ?_
     rotate_left
     · go_simp
       first | done | rfl)
  simp only [Act.put, List.setIfInBounds_toArray, List.set_cons_zero, List.set_cons_succ]
  refine g_look rfl rfl ?_ (fun w' hC => ?_) ?_
  rotate_left
  · go_simp
    first | done | rfl
  simp only [Act.put, List.setIfInBounds_toArray, List.set_cons_zero, List.set_cons_succ]
  refine g_look rfl rfl ?_ (fun w' hC => ?_) ?_
  rotate_left
  · go_simp
    first | done | rfl
  simp only [Act.put, List.setIfInBounds_toArray, List.set_cons_zero, List.set_cons_succ]
  first | (refine g_skip rfl ?_) | (refine g_load 24 _ gd 24 #[.int .u64 d1, .int .u64 d2] (0, 0) _ rfl rfl rfl rfl (fun w' hC => stays_row hC (List.mem_cons_of_mem _ (List.mem_cons_of_mem _ (List.mem_cons_of_mem _ (List.mem_cons_of_mem _ (List.mem_cons_of_mem _ (List.mem_cons_of_mem _ (List.mem_cons_of_mem _ (List.mem_cons_of_mem _ (List.mem_cons_self ..)))))))))) Try.underlying24 rfl (rfl) ?_)
  simp only [Act.put, List.setIfInBounds_toArray, List.set_cons_zero, List.set_cons_succ]
  first | (refine g_skip rfl ?_) | (refine g_load 24 _ gw 24 #[.int .u64 d1, .int .u64 d2] (0, 0) _ rfl rfl rfl rfl (fun w' hC => stays_row hC (List.mem_cons_of_mem _ (List.mem_cons_of_mem _ (List.mem_cons_of_mem _ (List.mem_cons_of_mem _ (List.mem_cons_of_mem _ (List.mem_cons_of_mem _ (List.mem_cons_of_mem _ (List.mem_cons_of_mem _ (List.mem_cons_of_mem _ (List.mem_cons_self ..))))))))))) Try.underlying24 rfl (rfl) ?_)
  simp only [Act.put, List.setIfInBounds_toArray, List.set_cons_zero, List.set_cons_succ]
  first
  | (refine g_skip rfl ?_)
  | (refine g_look rfl rfl ?_ (fun w' hC => ?_) ?_
     rotate_left
     · go_simp
       first | done | rfl)
  simp only [Act.put, List.setIfInBounds_toArray, List.set_cons_zero, List.set_cons_succ]
  refine g_look rfl rfl ?_ (fun w' hC => ?_) ?_
  rotate_left
  · go_simp
    first | done | rfl
  simp only [Act.put, List.setIfInBounds_toArray, List.set_cons_zero, List.set_cons_succ]
  refine g_look rfl rfl ?_ (fun w' hC => ?_) ?_
  rotate_left
  · go_simp
    first | done | rfl
  simp only [Act.put, List.setIfInBounds_toArray, List.set_cons_zero, List.set_cons_succ]
  refine g_end ?_
  intro w12 hC12 hh12
  have S12 : Hid (Stays [(ga, Obj.cells #[.int .u64 (a : Int), .int .u64 (b : Int)] 24 (0, 0)), (gb, Obj.cells #[.int .u64 (c : Int), .int .u64 (d : Int)] 24 (0, 0)), (gX, Obj.cells (fc (dig X)) 27 (0, 0)), (gY, Obj.cells (fc (dig Y)) 27 (0, 0)), (gs, Obj.cells #[.int .u64 s1, .int .u64 s2] 24 (0, 0)), (gt, Obj.cells #[.int .u64 s1, .int .u64 s2] 24 (0, 0)), (gp, Obj.cells #[.int .u64 p1, .int .u64 p2] 24 (0, 0)), (gq, Obj.cells #[.int .u64 p1, .int .u64 p2] 24 (0, 0)), (gd, Obj.cells #[.int .u64 d1, .int .u64 d2] 24 (0, 0)), (gw, Obj.cells #[.int .u64 d1, .int .u64 d2] 24 (0, 0))] w w12) := Lib.hid (stays_cons (stays_row hC12 (List.mem_cons_self ..)) (stays_cons (stays_row hC12 (List.mem_cons_of_mem _ (List.mem_cons_self ..))) (stays_cons (stays_row hC12 (List.mem_cons_of_mem _ (List.mem_cons_of_mem _ (List.mem_cons_self ..)))) (stays_cons (stays_row hC12 (List.mem_cons_of_mem _ (List.mem_cons_of_mem _ (List.mem_cons_of_mem _ (List.mem_cons_self ..))))) (stays_cons (stays_row hC12 (List.mem_cons_of_mem _ (List.mem_cons_of_mem _ (List.mem_cons_of_mem _ (List.mem_cons_of_mem _ (List.mem_cons_self ..)))))) (stays_cons (stays_row hC12 (List.mem_cons_of_mem _ (List.mem_cons_of_mem _ (List.mem_cons_of_mem _ (List.mem_cons_of_mem _ (List.mem_cons_of_mem _ (List.mem_cons_self ..))))))) (stays_cons (stays_row hC12 (List.mem_cons_of_mem _ (List.mem_cons_of_mem _ (List.mem_cons_of_mem _ (List.mem_cons_of_mem _ (List.mem_cons_of_mem _ (List.mem_cons_of_mem _ (List.mem_cons_self ..)))))))) (stays_cons (stays_row hC12 (List.mem_cons_of_mem _ (List.mem_cons_of_mem _ (List.mem_cons_of_mem _ (List.mem_cons_of_mem _ (List.mem_cons_of_mem _ (List.mem_cons_of_mem _ (List.mem_cons_of_mem _ (List.mem_cons_self ..))))))))) (stays_cons (stays_row hC12 (List.mem_cons_of_mem _ (List.mem_cons_of_mem _ (List.mem_cons_of_mem _ (List.mem_cons_of_mem _ (List.mem_cons_of_mem _ (List.mem_cons_of_mem _ (List.mem_cons_of_mem _ (List.mem_cons_of_mem _ (List.mem_cons_self ..)))))))))) (stays_cons (stays_row hC12 (List.mem_cons_of_mem _ (List.mem_cons_of_mem _ (List.mem_cons_of_mem _ (List.mem_cons_of_mem _ (List.mem_cons_of_mem _ (List.mem_cons_of_mem _ (List.mem_cons_of_mem _ (List.mem_cons_of_mem _ (List.mem_cons_of_mem _ (List.mem_cons_self ..))))))))))) (stays_nil (stays_below hC12))))))))))))
  clear S11
  clear hC12 hh12
  go_wp2_with fail
  refine bodyPost_ret (v := .bool true) (by simp [results, Try.results5, go_sem]) rfl ⟨rfl, stays_below S12.out⟩
set_option maxHeartbeats 4000000 in
set_option maxRecDepth 100000 in
theorem sums_lt (w : World) (a b c d u X Y : Nat) (ha : a < 65536 ^ 4) (hb : b < 65536 ^ 4) (hc : c < 65536 ^ 4) (hd : d < 65536 ^ 4) (hu : u < 65536 ^ 4) (hX : a * 65536 ^ 4 + b = X) (hY : c * 65536 ^ 4 + d = Y) (hle : X < Y) : Calls Try.prog 5 #[wv a b, wv c d, .int .u64 u] w (Ret w (.bool true)) := by
  have ua : Hid (U a) := nat_u ha
  have ub : Hid (U b) := nat_u hb
  have uc : Hid (U c) := nat_u hc
  have ud : Hid (U d) := nat_u hd
  have uu : Hid (U u) := nat_u hu
  have vX : Hid (wval a b = (X : Int)) := nat_wval hX
  have vY : Hid (wval c d = (Y : Int)) := nat_wval hY
  have kX : Hid (X < 65536 ^ 8) := nat_lt8 ha hb hX
  have kY : Hid (Y < 65536 ^ 8) := nat_lt8 hc hd hY
  have HA := Lib.hid ha
  have HB := Lib.hid hb
  have HC := Lib.hid hc
  have HD := Lib.hid hd
  have HU := Lib.hid hu
  have HX := Lib.hid hX
  have HY := Lib.hid hY
  have HLE := Lib.hid hle
  obtain ⟨s1, s2, t1, ho1, hw1⟩ := both_any (X + Y)
  obtain ⟨p1, p2, t2, ho2, hw2⟩ := both_any (X * u)
  have HO1 := Lib.hid ho1
  have HO2 := Lib.hid ho2
  have HW1 := Lib.hid hw1
  have HW2 := Lib.hid hw2
  have HLS : Hid (decide (X < Y) = true) := Lib.hid (by simp; omega)
  have HO3 := Lib.hid (sub_no hle)
  clear ha hb hc hd hu hX hY ho1 ho2 hw1 hw2 hle
  unfold wv
  have S0 : Hid (Stays [] w w) := Lib.hid (stays_nil (Below.refl _ _))
  go_enter Try.func5, Try.ntmps5
  go_upto_region 0 with fail
  refine reg_plain (Stays [] w) (Turns [] w) (kdOf [(0, .make (allocM (.cells #[.int .u64 (a : Int), .int .u64 (b : Int)] 24))), (1, .make (allocM (.cells #[.int .u64 (c : Int), .int .u64 (d : Int)] 24)))]) none0 (stays_good _ _) (S0.out) (holds0 _) ?_
  refine g_alloc (stays_good _ _) (.cells #[.int .u64 (a : Int), .int .u64 (b : Int)] 24) rfl rfl (fun w' hC => ?_) (fun ga ta na => ?_)
  · clear hC
    go_simp
    first | done | rfl | exact ⟨rfl, rfl⟩
  clear na
  replace ta := Lib.hid ta
  simp only [Act.put, List.setIfInBounds_toArray, List.set_cons_zero, List.set_cons_succ]
  refine g_alloc (stays_good _ _) (.cells #[.int .u64 (c : Int), .int .u64 (d : Int)] 24) rfl rfl (fun w' hC => ?_) (fun gb tb nb => ?_)
  · clear hC
    go_simp
    first | done | rfl | exact ⟨rfl, rfl⟩
  obtain ⟨d_a_b, nb⟩ := own_none nb
  clear nb
  replace tb := Lib.hid tb
  simp only [Act.put, List.setIfInBounds_toArray, List.set_cons_zero, List.set_cons_succ]
  refine g_look rfl rfl ?_ (fun w' hC => ?_) ?_
  rotate_left
  · go_simp
    first | done | rfl
  simp only [Act.put, List.setIfInBounds_toArray, List.set_cons_zero, List.set_cons_succ]
  refine g_end ?_
  intro w1 hC1 hh1
  have S1 : Hid (Stays [(ga, Obj.cells #[.int .u64 (a : Int), .int .u64 (b : Int)] 24 (0, 0)), (gb, Obj.cells #[.int .u64 (c : Int), .int .u64 (d : Int)] 24 (0, 0))] w w1) := Lib.hid (stays_cons ((hh1 _ _ _ ((own_off _ (Ne.symm d_a_b)).trans (own_new _ _ _ _))).1) (stays_cons ((hh1 _ _ _ (own_new _ _ _ _)).1) (stays_nil (stays_below hC1))))
  clear hC1 hh1
  go_upto_region 1 with fail
  refine reg_plain (Stays [(ga, Obj.cells #[.int .u64 (a : Int), .int .u64 (b : Int)] 24 (0, 0)), (gb, Obj.cells #[.int .u64 (c : Int), .int .u64 (d : Int)] 24 (0, 0))] w) (Turns [(ga, Obj.cells #[.int .u64 (a : Int), .int .u64 (b : Int)] 24 (0, 0)), (gb, Obj.cells #[.int .u64 (c : Int), .int .u64 (d : Int)] 24 (0, 0))] w) (kdOf [(0, .make (callM (.bool true)))]) none0 (stays_good _ _) (S1.out) (holds0 _) ?_
  refine g_call (stays_good _ _) (.bool true) rfl rfl (fun w' hC => ?_) ?_
  · clear hC
    go_simp
    refine (first_any _).mono (fun e w2 h => ?_)
    obtain ⟨h1, h2⟩ := h
    exact gives h1 h2
  simp only [Act.put, List.setIfInBounds_toArray, List.set_cons_zero, List.set_cons_succ]
  refine g_look rfl rfl ?_ (fun w' hC => ?_) ?_
  rotate_left
  · go_simp
    first | done | rfl
  simp only [Act.put, List.setIfInBounds_toArray, List.set_cons_zero, List.set_cons_succ]
  refine g_end ?_
  intro w2 hC2 hh2
  have S2 : Hid (Stays [(ga, Obj.cells #[.int .u64 (a : Int), .int .u64 (b : Int)] 24 (0, 0)), (gb, Obj.cells #[.int .u64 (c : Int), .int .u64 (d : Int)] 24 (0, 0))] w w2) := Lib.hid (stays_cons (stays_row hC2 (List.mem_cons_self ..)) (stays_cons (stays_row hC2 (List.mem_cons_of_mem _ (List.mem_cons_self ..))) (stays_nil (stays_below hC2))))
  clear S1
  clear hC2 hh2
  go_upto_region 3 with fail
  refine reg (Stays [(ga, Obj.cells #[.int .u64 (a : Int), .int .u64 (b : Int)] 24 (0, 0)), (gb, Obj.cells #[.int .u64 (c : Int), .int .u64 (d : Int)] 24 (0, 0))] w) (Turns [(ga, Obj.cells #[.int .u64 (a : Int), .int .u64 (b : Int)] 24 (0, 0)), (gb, Obj.cells #[.int .u64 (c : Int), .int .u64 (d : Int)] 24 (0, 0))] w) (kdOf [(1, .make (callM (dg X))), (3, .make (callM (dg Y))), (4, .make (allocM (.cells z20 27))), (5, .make (allocM (.cells z20 27))), (6, .touch), (7, .touch)]) none0 (stays_good _ _) (by kernel_rfl) (by kernel_rfl) (stays_drew (S2.out)) (holds0 _) ?_
  (refine g_load 24 _ ga 24 #[.int .u64 (a : Int), .int .u64 (b : Int)] (0, 0) _ rfl rfl rfl rfl (fun w' hC => stays_row hC (List.mem_cons_self ..)) Try.underlying24 rfl (rfl) ?_)
  simp only [Act.put, List.setIfInBounds_toArray, List.set_cons_zero, List.set_cons_succ]
  refine g_call (stays_good _ _) (dg X) rfl rfl (fun w' hC => ?_) ?_
  · clear hC
    go_simp
    refine (of_any _ a b HA.out HB.out).mono (fun e w2 h => ?_)
    obtain ⟨h1, h2⟩ := h
    rw [HX.out] at h1
    exact gives h1 h2
  simp only [Act.put, List.setIfInBounds_toArray, List.set_cons_zero, List.set_cons_succ]
  (refine g_load 24 _ gb 24 #[.int .u64 (c : Int), .int .u64 (d : Int)] (0, 0) _ rfl rfl rfl rfl (fun w' hC => stays_row hC (List.mem_cons_of_mem _ (List.mem_cons_self ..))) Try.underlying24 rfl (rfl) ?_)
  simp only [Act.put, List.setIfInBounds_toArray, List.set_cons_zero, List.set_cons_succ]
  refine g_call (stays_good _ _) (dg Y) rfl rfl (fun w' hC => ?_) ?_
  · clear hC
    go_simp
    refine (of_any _ c d HC.out HD.out).mono (fun e w2 h => ?_)
    obtain ⟨h1, h2⟩ := h
    rw [HY.out] at h1
    exact gives h1 h2
  simp only [Act.put, List.setIfInBounds_toArray, List.set_cons_zero, List.set_cons_succ]
  refine g_alloc (stays_good _ _) (.cells z20 27) rfl rfl (fun w' hC => ?_) (fun gX tX nX => ?_)
  · clear hC
    go_simp
    first | done | rfl | exact ⟨rfl, rfl⟩
  clear nX
  replace tX := Lib.hid tX
  simp only [Act.put, List.setIfInBounds_toArray, List.set_cons_zero, List.set_cons_succ]
  refine g_alloc (stays_good _ _) (.cells z20 27) rfl rfl (fun w' hC => ?_) (fun gY tY nY => ?_)
  · clear hC
    go_simp
    first | done | rfl | exact ⟨rfl, rfl⟩
  obtain ⟨d_X_Y, nY⟩ := own_none nY
  clear nY
  replace tY := Lib.hid tY
  simp only [Act.put, List.setIfInBounds_toArray, List.set_cons_zero, List.set_cons_succ]
  refine g_store gX (some 4) 27 27 _ _ z20 (fc (dig X)) rfl rfl rfl rfl rfl ((own_off _ (Ne.symm d_X_Y)).trans (own_new _ _ _ _)) (by kernel_rfl) (fc_size _) (info27 _) (fc_one _) ?_
  simp only [Act.put]
  refine g_store gY (some 5) 27 27 _ _ z20 (fc (dig Y)) rfl rfl rfl rfl rfl ((own_off _ d_X_Y).trans (own_new _ _ _ _)) (by kernel_rfl) (fc_size _) (info27 _) (fc_one _) ?_
  simp only [Act.put]
  refine g_end ?_
  intro w3 hC3 hh3
  have S3 : Hid (Stays [(ga, Obj.cells #[.int .u64 (a : Int), .int .u64 (b : Int)] 24 (0, 0)), (gb, Obj.cells #[.int .u64 (c : Int), .int .u64 (d : Int)] 24 (0, 0)), (gX, Obj.cells (fc (dig X)) 27 (0, 0)), (gY, Obj.cells (fc (dig Y)) 27 (0, 0))] w w3) := Lib.hid (stays_cons (stays_row hC3 (List.mem_cons_self ..)) (stays_cons (stays_row hC3 (List.mem_cons_of_mem _ (List.mem_cons_self ..))) (stays_cons ((hh3 _ _ _ ((own_off _ (Ne.symm d_X_Y)).trans (own_new _ _ _ _))).1) (stays_cons ((hh3 _ _ _ (own_new _ _ _ _)).1) (stays_nil (stays_below hC3))))))
  clear S2
  clear hC3 hh3
  go_upto_region 4 with fail
  refine reg_plain (Stays [(ga, Obj.cells #[.int .u64 (a : Int), .int .u64 (b : Int)] 24 (0, 0)), (gb, Obj.cells #[.int .u64 (c : Int), .int .u64 (d : Int)] 24 (0, 0)), (gX, Obj.cells (fc (dig X)) 27 (0, 0)), (gY, Obj.cells (fc (dig Y)) 27 (0, 0))] w) (Turns [(ga, Obj.cells #[.int .u64 (a : Int), .int .u64 (b : Int)] 24 (0, 0)), (gb, Obj.cells #[.int .u64 (c : Int), .int .u64 (d : Int)] 24 (0, 0)), (gX, Obj.cells (fc (dig X)) 27 (0, 0)), (gY, Obj.cells (fc (dig Y)) 27 (0, 0))] w) (kdOf [(2, .make (callM (.tuple #[.agg #[.int .u64 s1, .int .u64 s2], .bool t1]))), (6, .make (allocM (.cells #[.int .u64 0, .int .u64 0] 24))), (7, .touch)]) none0 (stays_good _ _) (S3.out) (holds0 _) ?_
  (refine g_load 24 _ ga 24 #[.int .u64 (a : Int), .int .u64 (b : Int)] (0, 0) _ rfl rfl rfl rfl (fun w' hC => stays_row hC (List.mem_cons_self ..)) Try.underlying24 rfl (rfl) ?_)
  simp only [Act.put, List.setIfInBounds_toArray, List.set_cons_zero, List.set_cons_succ]
  (refine g_load 24 _ gb 24 #[.int .u64 (c : Int), .int .u64 (d : Int)] (0, 0) _ rfl rfl rfl rfl (fun w' hC => stays_row hC (List.mem_cons_of_mem _ (List.mem_cons_self ..))) Try.underlying24 rfl (rfl) ?_)
  simp only [Act.put, List.setIfInBounds_toArray, List.set_cons_zero, List.set_cons_succ]
  refine g_call (stays_good _ _) (.tuple #[.agg #[.int .u64 s1, .int .u64 s2], .bool t1]) rfl rfl (fun w' hC => ?_) ?_
  · clear hC
    go_simp
    refine (add_any _ a b c d ua.out ub.out uc.out ud.out).mono (fun e w2 h => ?_)
    obtain ⟨h1, h2⟩ := h
    rw [vX.out, vY.out, cast_add X Y, HO1.out] at h1
    exact gives h1 h2
  simp only [Act.put, List.setIfInBounds_toArray, List.set_cons_zero, List.set_cons_succ]
  refine g_look rfl rfl ?_ (fun w' hC => ?_) ?_
  rotate_left
  · go_simp
    first | done | rfl
  simp only [Act.put, List.setIfInBounds_toArray, List.set_cons_zero, List.set_cons_succ]
  refine g_look rfl rfl ?_ (fun w' hC => ?_) ?_
  rotate_left
  · go_simp
    first | done | rfl
  simp only [Act.put, List.setIfInBounds_toArray, List.set_cons_zero, List.set_cons_succ]
  refine g_look rfl rfl ?_ (fun w' hC => ?_) ?_
  rotate_left
  · go_simp
    first | done | rfl
  simp only [Act.put, List.setIfInBounds_toArray, List.set_cons_zero, List.set_cons_succ]
  refine g_alloc (stays_good _ _) (.cells #[.int .u64 0, .int .u64 0] 24) rfl rfl (fun w' hC => ?_) (fun gs ts ns => ?_)
  · clear hC
    go_simp
    first | done | rfl | exact ⟨rfl, rfl⟩
  clear ns
  replace ts := Lib.hid ts
  simp only [Act.put, List.setIfInBounds_toArray, List.set_cons_zero, List.set_cons_succ]
  refine g_store gs (some 6) 24 24 _ _ #[.int .u64 0, .int .u64 0] #[.int .u64 s1, .int .u64 s2] rfl rfl rfl rfl rfl (own_new _ _ _ _) (by kernel_rfl) (rfl) (rfl) (one24 _ _) ?_
  simp only [Act.put]
  refine g_look rfl rfl ?_ (fun w' hC => ?_) ?_
  rotate_left
  · go_simp
    first | done | rfl
  simp only [Act.put, List.setIfInBounds_toArray, List.set_cons_zero, List.set_cons_succ]
  refine g_end ?_
  intro w4 hC4 hh4
  have S4 : Hid (Stays [(ga, Obj.cells #[.int .u64 (a : Int), .int .u64 (b : Int)] 24 (0, 0)), (gb, Obj.cells #[.int .u64 (c : Int), .int .u64 (d : Int)] 24 (0, 0)), (gX, Obj.cells (fc (dig X)) 27 (0, 0)), (gY, Obj.cells (fc (dig Y)) 27 (0, 0)), (gs, Obj.cells #[.int .u64 s1, .int .u64 s2] 24 (0, 0))] w w4) := Lib.hid (stays_cons (stays_row hC4 (List.mem_cons_self ..)) (stays_cons (stays_row hC4 (List.mem_cons_of_mem _ (List.mem_cons_self ..))) (stays_cons (stays_row hC4 (List.mem_cons_of_mem _ (List.mem_cons_of_mem _ (List.mem_cons_self ..)))) (stays_cons (stays_row hC4 (List.mem_cons_of_mem _ (List.mem_cons_of_mem _ (List.mem_cons_of_mem _ (List.mem_cons_self ..))))) (stays_cons ((hh4 _ _ _ (own_new _ _ _ _)).1) (stays_nil (stays_below hC4)))))))
  clear S3
  clear hC4 hh4
  go_upto_region 5 with fail
  refine reg_plain (Stays [(ga, Obj.cells #[.int .u64 (a : Int), .int .u64 (b : Int)] 24 (0, 0)), (gb, Obj.cells #[.int .u64 (c : Int), .int .u64 (d : Int)] 24 (0, 0)), (gX, Obj.cells (fc (dig X)) 27 (0, 0)), (gY, Obj.cells (fc (dig Y)) 27 (0, 0)), (gs, Obj.cells #[.int .u64 s1, .int .u64 s2] 24 (0, 0))] w) (Turns [(ga, Obj.cells #[.int .u64 (a : Int), .int .u64 (b : Int)] 24 (0, 0)), (gb, Obj.cells #[.int .u64 (c : Int), .int .u64 (d : Int)] 24 (0, 0)), (gX, Obj.cells (fc (dig X)) 27 (0, 0)), (gY, Obj.cells (fc (dig Y)) 27 (0, 0)), (gs, Obj.cells #[.int .u64 s1, .int .u64 s2] 24 (0, 0))] w) (kdOf [(2, .make (callM (dg (X + Y)))), (3, .make (callM (.tuple #[.agg #[.int .u64 s1, .int .u64 s2], .bool t1]))), (7, .make (allocM (.cells #[.int .u64 0, .int .u64 0] 24))), (8, .touch)]) none0 (stays_good _ _) (S4.out) (holds0 _) ?_
  (refine g_load 27 _ gX 27 (fc (dig X)) (0, 0) _ rfl rfl rfl rfl (fun w' hC => stays_row hC (List.mem_cons_of_mem _ (List.mem_cons_of_mem _ (List.mem_cons_self ..)))) Try.underlying27 rfl (info27 _) ?_)
  simp only [Act.put, List.setIfInBounds_toArray, List.set_cons_zero, List.set_cons_succ]
  (refine g_load 27 _ gY 27 (fc (dig Y)) (0, 0) _ rfl rfl rfl rfl (fun w' hC => stays_row hC (List.mem_cons_of_mem _ (List.mem_cons_of_mem _ (List.mem_cons_of_mem _ (List.mem_cons_self ..))))) Try.underlying27 rfl (info27 _) ?_)
  simp only [Act.put, List.setIfInBounds_toArray, List.set_cons_zero, List.set_cons_succ]
  refine g_call (stays_good _ _) (dg (X + Y)) rfl rfl (fun w' hC => ?_) ?_
  · clear hC
    go_simp
    refine (plus_any _ X Y).mono (fun e w2 h => ?_)
    obtain ⟨h1, h2⟩ := h
    exact gives h1 h2
  simp only [Act.put, List.setIfInBounds_toArray, List.set_cons_zero, List.set_cons_succ]
  refine g_call (stays_good _ _) (.tuple #[.agg #[.int .u64 s1, .int .u64 s2], .bool t1]) rfl rfl (fun w' hC => ?_) ?_
  · clear hC
    go_simp
    refine (wide_any _ (X + Y) (sum20 kX.out kY.out)).mono (fun e w2 h => ?_)
    obtain ⟨h1, h2⟩ := h
    rw [HW1.out] at h1
    exact gives h1 h2
  simp only [Act.put, List.setIfInBounds_toArray, List.set_cons_zero, List.set_cons_succ]
  refine g_look rfl rfl ?_ (fun w' hC => ?_) ?_
  rotate_left
  · go_simp
    first | done | rfl
  simp only [Act.put, List.setIfInBounds_toArray, List.set_cons_zero, List.set_cons_succ]
  refine g_look rfl rfl ?_ (fun w' hC => ?_) ?_
  rotate_left
  · go_simp
    first | done | rfl
  simp only [Act.put, List.setIfInBounds_toArray, List.set_cons_zero, List.set_cons_succ]
  refine g_look rfl rfl ?_ (fun w' hC => ?_) ?_
  rotate_left
  · go_simp
    first | done | rfl
  simp only [Act.put, List.setIfInBounds_toArray, List.set_cons_zero, List.set_cons_succ]
  refine g_alloc (stays_good _ _) (.cells #[.int .u64 0, .int .u64 0] 24) rfl rfl (fun w' hC => ?_) (fun gt tt nt => ?_)
  · clear hC
    go_simp
    first | done | rfl | exact ⟨rfl, rfl⟩
  clear nt
  replace tt := Lib.hid tt
  simp only [Act.put, List.setIfInBounds_toArray, List.set_cons_zero, List.set_cons_succ]
  refine g_store gt (some 7) 24 24 _ _ #[.int .u64 0, .int .u64 0] #[.int .u64 s1, .int .u64 s2] rfl rfl rfl rfl rfl (own_new _ _ _ _) (by kernel_rfl) (rfl) (rfl) (one24 _ _) ?_
  simp only [Act.put]
  refine g_look rfl rfl ?_ (fun w' hC => ?_) ?_
  rotate_left
  · go_simp
    first | done | rfl
  simp only [Act.put, List.setIfInBounds_toArray, List.set_cons_zero, List.set_cons_succ]
  refine g_end ?_
  intro w5 hC5 hh5
  have S5 : Hid (Stays [(ga, Obj.cells #[.int .u64 (a : Int), .int .u64 (b : Int)] 24 (0, 0)), (gb, Obj.cells #[.int .u64 (c : Int), .int .u64 (d : Int)] 24 (0, 0)), (gX, Obj.cells (fc (dig X)) 27 (0, 0)), (gY, Obj.cells (fc (dig Y)) 27 (0, 0)), (gs, Obj.cells #[.int .u64 s1, .int .u64 s2] 24 (0, 0)), (gt, Obj.cells #[.int .u64 s1, .int .u64 s2] 24 (0, 0))] w w5) := Lib.hid (stays_cons (stays_row hC5 (List.mem_cons_self ..)) (stays_cons (stays_row hC5 (List.mem_cons_of_mem _ (List.mem_cons_self ..))) (stays_cons (stays_row hC5 (List.mem_cons_of_mem _ (List.mem_cons_of_mem _ (List.mem_cons_self ..)))) (stays_cons (stays_row hC5 (List.mem_cons_of_mem _ (List.mem_cons_of_mem _ (List.mem_cons_of_mem _ (List.mem_cons_self ..))))) (stays_cons (stays_row hC5 (List.mem_cons_of_mem _ (List.mem_cons_of_mem _ (List.mem_cons_of_mem _ (List.mem_cons_of_mem _ (List.mem_cons_self ..)))))) (stays_cons ((hh5 _ _ _ (own_new _ _ _ _)).1) (stays_nil (stays_below hC5))))))))
  clear S4
  clear hC5 hh5
  go_upto_region 6 with fail
  refine reg_plain (Stays [(ga, Obj.cells #[.int .u64 (a : Int), .int .u64 (b : Int)] 24 (0, 0)), (gb, Obj.cells #[.int .u64 (c : Int), .int .u64 (d : Int)] 24 (0, 0)), (gX, Obj.cells (fc (dig X)) 27 (0, 0)), (gY, Obj.cells (fc (dig Y)) 27 (0, 0)), (gs, Obj.cells #[.int .u64 s1, .int .u64 s2] 24 (0, 0)), (gt, Obj.cells #[.int .u64 s1, .int .u64 s2] 24 (0, 0))] w) (Turns [(ga, Obj.cells #[.int .u64 (a : Int), .int .u64 (b : Int)] 24 (0, 0)), (gb, Obj.cells #[.int .u64 (c : Int), .int .u64 (d : Int)] 24 (0, 0)), (gX, Obj.cells (fc (dig X)) 27 (0, 0)), (gY, Obj.cells (fc (dig Y)) 27 (0, 0)), (gs, Obj.cells #[.int .u64 s1, .int .u64 s2] 24 (0, 0)), (gt, Obj.cells #[.int .u64 s1, .int .u64 s2] 24 (0, 0))] w) (kdOf [(2, .make (callM (.tuple #[.agg #[.int .u64 p1, .int .u64 p2], .bool t2]))), (6, .make (allocM (.cells #[.int .u64 0, .int .u64 0] 24))), (7, .touch)]) none0 (stays_good _ _) (S5.out) (holds0 _) ?_
  (refine g_load 24 _ ga 24 #[.int .u64 (a : Int), .int .u64 (b : Int)] (0, 0) _ rfl rfl rfl rfl (fun w' hC => stays_row hC (List.mem_cons_self ..)) Try.underlying24 rfl (rfl) ?_)
  simp only [Act.put, List.setIfInBounds_toArray, List.set_cons_zero, List.set_cons_succ]
  refine g_look rfl rfl ?_ (fun w' hC => ?_) ?_
  rotate_left
  · go_simp
    first | done | rfl
  simp only [Act.put, List.setIfInBounds_toArray, List.set_cons_zero, List.set_cons_succ]
  refine g_call (stays_good _ _) (.tuple #[.agg #[.int .u64 p1, .int .u64 p2], .bool t2]) rfl rfl (fun w' hC => ?_) ?_
  · clear hC
    go_simp
    refine (times_word_any _ a b u ua.out ub.out uu.out).mono (fun e w2 h => ?_)
    obtain ⟨h1, h2⟩ := h
    rw [vX.out, cast_mul X u, HO2.out] at h1
    exact gives h1 h2
  simp only [Act.put, List.setIfInBounds_toArray, List.set_cons_zero, List.set_cons_succ]
  refine g_look rfl rfl ?_ (fun w' hC => ?_) ?_
  rotate_left
  · go_simp
    first | done | rfl
  simp only [Act.put, List.setIfInBounds_toArray, List.set_cons_zero, List.set_cons_succ]
  refine g_look rfl rfl ?_ (fun w' hC => ?_) ?_
  rotate_left
  · go_simp
    first | done | rfl
  simp only [Act.put, List.setIfInBounds_toArray, List.set_cons_zero, List.set_cons_succ]
  refine g_look rfl rfl ?_ (fun w' hC => ?_) ?_
  rotate_left
  · go_simp
    first | done | rfl
  simp only [Act.put, List.setIfInBounds_toArray, List.set_cons_zero, List.set_cons_succ]
  refine g_alloc (stays_good _ _) (.cells #[.int .u64 0, .int .u64 0] 24) rfl rfl (fun w' hC => ?_) (fun gp tp np => ?_)
  · clear hC
    go_simp
    first | done | rfl | exact ⟨rfl, rfl⟩
  clear np
  replace tp := Lib.hid tp
  simp only [Act.put, List.setIfInBounds_toArray, List.set_cons_zero, List.set_cons_succ]
  refine g_store gp (some 6) 24 24 _ _ #[.int .u64 0, .int .u64 0] #[.int .u64 p1, .int .u64 p2] rfl rfl rfl rfl rfl (own_new _ _ _ _) (by kernel_rfl) (rfl) (rfl) (one24 _ _) ?_
  simp only [Act.put]
  refine g_look rfl rfl ?_ (fun w' hC => ?_) ?_
  rotate_left
  · go_simp
    first | done | rfl
  simp only [Act.put, List.setIfInBounds_toArray, List.set_cons_zero, List.set_cons_succ]
  refine g_end ?_
  intro w6 hC6 hh6
  have S6 : Hid (Stays [(ga, Obj.cells #[.int .u64 (a : Int), .int .u64 (b : Int)] 24 (0, 0)), (gb, Obj.cells #[.int .u64 (c : Int), .int .u64 (d : Int)] 24 (0, 0)), (gX, Obj.cells (fc (dig X)) 27 (0, 0)), (gY, Obj.cells (fc (dig Y)) 27 (0, 0)), (gs, Obj.cells #[.int .u64 s1, .int .u64 s2] 24 (0, 0)), (gt, Obj.cells #[.int .u64 s1, .int .u64 s2] 24 (0, 0)), (gp, Obj.cells #[.int .u64 p1, .int .u64 p2] 24 (0, 0))] w w6) := Lib.hid (stays_cons (stays_row hC6 (List.mem_cons_self ..)) (stays_cons (stays_row hC6 (List.mem_cons_of_mem _ (List.mem_cons_self ..))) (stays_cons (stays_row hC6 (List.mem_cons_of_mem _ (List.mem_cons_of_mem _ (List.mem_cons_self ..)))) (stays_cons (stays_row hC6 (List.mem_cons_of_mem _ (List.mem_cons_of_mem _ (List.mem_cons_of_mem _ (List.mem_cons_self ..))))) (stays_cons (stays_row hC6 (List.mem_cons_of_mem _ (List.mem_cons_of_mem _ (List.mem_cons_of_mem _ (List.mem_cons_of_mem _ (List.mem_cons_self ..)))))) (stays_cons (stays_row hC6 (List.mem_cons_of_mem _ (List.mem_cons_of_mem _ (List.mem_cons_of_mem _ (List.mem_cons_of_mem _ (List.mem_cons_of_mem _ (List.mem_cons_self ..))))))) (stays_cons ((hh6 _ _ _ (own_new _ _ _ _)).1) (stays_nil (stays_below hC6)))))))))
  clear S5
  clear hC6 hh6
  go_upto_region 7 with fail
  refine reg (Stays [(ga, Obj.cells #[.int .u64 (a : Int), .int .u64 (b : Int)] 24 (0, 0)), (gb, Obj.cells #[.int .u64 (c : Int), .int .u64 (d : Int)] 24 (0, 0)), (gX, Obj.cells (fc (dig X)) 27 (0, 0)), (gY, Obj.cells (fc (dig Y)) 27 (0, 0)), (gs, Obj.cells #[.int .u64 s1, .int .u64 s2] 24 (0, 0)), (gt, Obj.cells #[.int .u64 s1, .int .u64 s2] 24 (0, 0)), (gp, Obj.cells #[.int .u64 p1, .int .u64 p2] 24 (0, 0))] w) (Turns [(ga, Obj.cells #[.int .u64 (a : Int), .int .u64 (b : Int)] 24 (0, 0)), (gb, Obj.cells #[.int .u64 (c : Int), .int .u64 (d : Int)] 24 (0, 0)), (gX, Obj.cells (fc (dig X)) 27 (0, 0)), (gY, Obj.cells (fc (dig Y)) 27 (0, 0)), (gs, Obj.cells #[.int .u64 s1, .int .u64 s2] 24 (0, 0)), (gt, Obj.cells #[.int .u64 s1, .int .u64 s2] 24 (0, 0)), (gp, Obj.cells #[.int .u64 p1, .int .u64 p2] 24 (0, 0))] w) (kdOf [(3, .make (callM (dg u))), (4, .make (callM (dg (X * u)))), (5, .make (callM (.tuple #[.agg #[.int .u64 p1, .int .u64 p2], .bool t2]))), (9, .make (allocM (.cells #[.int .u64 0, .int .u64 0] 24))), (10, .touch)]) none0 (stays_good _ _) (by kernel_rfl) (by kernel_rfl) (stays_drew (S6.out)) (holds0 _) ?_
  (refine g_load 27 _ gX 27 (fc (dig X)) (0, 0) _ rfl rfl rfl rfl (fun w' hC => stays_row hC (List.mem_cons_of_mem _ (List.mem_cons_of_mem _ (List.mem_cons_self ..)))) Try.underlying27 rfl (info27 _) ?_)
  simp only [Act.put, List.setIfInBounds_toArray, List.set_cons_zero, List.set_cons_succ]
  refine g_look rfl rfl ?_ (fun w' hC => ?_) ?_
  rotate_left
  · go_simp
    first | done | rfl
  simp only [Act.put, List.setIfInBounds_toArray, List.set_cons_zero, List.set_cons_succ]
  refine g_look rfl rfl ?_ (fun w' hC => ?_) ?_
  rotate_left
  · go_simp
    first | done | rfl
  simp only [Act.put, List.setIfInBounds_toArray, List.set_cons_zero, List.set_cons_succ]
  refine g_call (stays_good _ _) (dg u) rfl rfl (fun w' hC => ?_) ?_
  · clear hC
    go_simp
    refine (of_any _ 0 u (by decide) HU.out).mono (fun e w2 h => ?_)
    obtain ⟨h1, h2⟩ := h
    rw [Nat.zero_mul, Nat.zero_add] at h1
    exact gives h1 h2
  simp only [Act.put, List.setIfInBounds_toArray, List.set_cons_zero, List.set_cons_succ]
  refine g_call (stays_good _ _) (dg (X * u)) rfl rfl (fun w' hC => ?_) ?_
  · clear hC
    go_simp
    refine (times_any _ X u kX.out (u8 HU.out)).mono (fun e w2 h => ?_)
    obtain ⟨h1, h2⟩ := h
    exact gives h1 h2
  simp only [Act.put, List.setIfInBounds_toArray, List.set_cons_zero, List.set_cons_succ]
  refine g_call (stays_good _ _) (.tuple #[.agg #[.int .u64 p1, .int .u64 p2], .bool t2]) rfl rfl (fun w' hC => ?_) ?_
  · clear hC
    go_simp
    refine (wide_any _ (X * u) (mul20 kX.out HU.out)).mono (fun e w2 h => ?_)
    obtain ⟨h1, h2⟩ := h
    rw [HW2.out] at h1
    exact gives h1 h2
  simp only [Act.put, List.setIfInBounds_toArray, List.set_cons_zero, List.set_cons_succ]
  refine g_look rfl rfl ?_ (fun w' hC => ?_) ?_
  rotate_left
  · go_simp
    first | done | rfl
  simp only [Act.put, List.setIfInBounds_toArray, List.set_cons_zero, List.set_cons_succ]
  refine g_look rfl rfl ?_ (fun w' hC => ?_) ?_
  rotate_left
  · go_simp
    first | done | rfl
  simp only [Act.put, List.setIfInBounds_toArray, List.set_cons_zero, List.set_cons_succ]
  refine g_look rfl rfl ?_ (fun w' hC => ?_) ?_
  rotate_left
  · go_simp
    first | done | rfl
  simp only [Act.put, List.setIfInBounds_toArray, List.set_cons_zero, List.set_cons_succ]
  refine g_alloc (stays_good _ _) (.cells #[.int .u64 0, .int .u64 0] 24) rfl rfl (fun w' hC => ?_) (fun gq tq nq => ?_)
  · clear hC
    go_simp
    first | done | rfl | exact ⟨rfl, rfl⟩
  clear nq
  replace tq := Lib.hid tq
  simp only [Act.put, List.setIfInBounds_toArray, List.set_cons_zero, List.set_cons_succ]
  refine g_store gq (some 9) 24 24 _ _ #[.int .u64 0, .int .u64 0] #[.int .u64 p1, .int .u64 p2] rfl rfl rfl rfl rfl (own_new _ _ _ _) (by kernel_rfl) (rfl) (rfl) (one24 _ _) ?_
  simp only [Act.put]
  refine g_look rfl rfl ?_ (fun w' hC => ?_) ?_
  rotate_left
  · go_simp
    first | done | rfl
  simp only [Act.put, List.setIfInBounds_toArray, List.set_cons_zero, List.set_cons_succ]
  refine g_end ?_
  intro w7 hC7 hh7
  have S7 : Hid (Stays [(ga, Obj.cells #[.int .u64 (a : Int), .int .u64 (b : Int)] 24 (0, 0)), (gb, Obj.cells #[.int .u64 (c : Int), .int .u64 (d : Int)] 24 (0, 0)), (gX, Obj.cells (fc (dig X)) 27 (0, 0)), (gY, Obj.cells (fc (dig Y)) 27 (0, 0)), (gs, Obj.cells #[.int .u64 s1, .int .u64 s2] 24 (0, 0)), (gt, Obj.cells #[.int .u64 s1, .int .u64 s2] 24 (0, 0)), (gp, Obj.cells #[.int .u64 p1, .int .u64 p2] 24 (0, 0)), (gq, Obj.cells #[.int .u64 p1, .int .u64 p2] 24 (0, 0))] w w7) := Lib.hid (stays_cons (stays_row hC7 (List.mem_cons_self ..)) (stays_cons (stays_row hC7 (List.mem_cons_of_mem _ (List.mem_cons_self ..))) (stays_cons (stays_row hC7 (List.mem_cons_of_mem _ (List.mem_cons_of_mem _ (List.mem_cons_self ..)))) (stays_cons (stays_row hC7 (List.mem_cons_of_mem _ (List.mem_cons_of_mem _ (List.mem_cons_of_mem _ (List.mem_cons_self ..))))) (stays_cons (stays_row hC7 (List.mem_cons_of_mem _ (List.mem_cons_of_mem _ (List.mem_cons_of_mem _ (List.mem_cons_of_mem _ (List.mem_cons_self ..)))))) (stays_cons (stays_row hC7 (List.mem_cons_of_mem _ (List.mem_cons_of_mem _ (List.mem_cons_of_mem _ (List.mem_cons_of_mem _ (List.mem_cons_of_mem _ (List.mem_cons_self ..))))))) (stays_cons (stays_row hC7 (List.mem_cons_of_mem _ (List.mem_cons_of_mem _ (List.mem_cons_of_mem _ (List.mem_cons_of_mem _ (List.mem_cons_of_mem _ (List.mem_cons_of_mem _ (List.mem_cons_self ..)))))))) (stays_cons ((hh7 _ _ _ (own_new _ _ _ _)).1) (stays_nil (stays_below hC7))))))))))
  clear S6
  clear hC7 hh7
  go_upto_region 8 with fail
  refine reg_plain (Stays [(ga, Obj.cells #[.int .u64 (a : Int), .int .u64 (b : Int)] 24 (0, 0)), (gb, Obj.cells #[.int .u64 (c : Int), .int .u64 (d : Int)] 24 (0, 0)), (gX, Obj.cells (fc (dig X)) 27 (0, 0)), (gY, Obj.cells (fc (dig Y)) 27 (0, 0)), (gs, Obj.cells #[.int .u64 s1, .int .u64 s2] 24 (0, 0)), (gt, Obj.cells #[.int .u64 s1, .int .u64 s2] 24 (0, 0)), (gp, Obj.cells #[.int .u64 p1, .int .u64 p2] 24 (0, 0)), (gq, Obj.cells #[.int .u64 p1, .int .u64 p2] 24 (0, 0))] w) (Turns [(ga, Obj.cells #[.int .u64 (a : Int), .int .u64 (b : Int)] 24 (0, 0)), (gb, Obj.cells #[.int .u64 (c : Int), .int .u64 (d : Int)] 24 (0, 0)), (gX, Obj.cells (fc (dig X)) 27 (0, 0)), (gY, Obj.cells (fc (dig Y)) 27 (0, 0)), (gs, Obj.cells #[.int .u64 s1, .int .u64 s2] 24 (0, 0)), (gt, Obj.cells #[.int .u64 s1, .int .u64 s2] 24 (0, 0)), (gp, Obj.cells #[.int .u64 p1, .int .u64 p2] 24 (0, 0)), (gq, Obj.cells #[.int .u64 p1, .int .u64 p2] 24 (0, 0))] w) (kdOf [(2, .make (callM (.tuple #[.agg #[.int .u64 0, .int .u64 0], .bool false]))), (6, .make (allocM (.cells #[.int .u64 0, .int .u64 0] 24))), (7, .touch)]) none0 (stays_good _ _) (S7.out) (holds0 _) ?_
  (refine g_load 24 _ ga 24 #[.int .u64 (a : Int), .int .u64 (b : Int)] (0, 0) _ rfl rfl rfl rfl (fun w' hC => stays_row hC (List.mem_cons_self ..)) Try.underlying24 rfl (rfl) ?_)
  simp only [Act.put, List.setIfInBounds_toArray, List.set_cons_zero, List.set_cons_succ]
  (refine g_load 24 _ gb 24 #[.int .u64 (c : Int), .int .u64 (d : Int)] (0, 0) _ rfl rfl rfl rfl (fun w' hC => stays_row hC (List.mem_cons_of_mem _ (List.mem_cons_self ..))) Try.underlying24 rfl (rfl) ?_)
  simp only [Act.put, List.setIfInBounds_toArray, List.set_cons_zero, List.set_cons_succ]
  refine g_call (stays_good _ _) (.tuple #[.agg #[.int .u64 0, .int .u64 0], .bool false]) rfl rfl (fun w' hC => ?_) ?_
  · clear hC
    go_simp
    refine (sub_any _ a b c d ua.out ub.out uc.out ud.out).mono (fun e w2 h => ?_)
    obtain ⟨h1, h2⟩ := h
    rw [vX.out, vY.out, HO3.out] at h1
    exact gives h1 h2
  simp only [Act.put, List.setIfInBounds_toArray, List.set_cons_zero, List.set_cons_succ]
  refine g_look rfl rfl ?_ (fun w' hC => ?_) ?_
  rotate_left
  · go_simp
    first | done | rfl
  simp only [Act.put, List.setIfInBounds_toArray, List.set_cons_zero, List.set_cons_succ]
  refine g_look rfl rfl ?_ (fun w' hC => ?_) ?_
  rotate_left
  · go_simp
    first | done | rfl
  simp only [Act.put, List.setIfInBounds_toArray, List.set_cons_zero, List.set_cons_succ]
  refine g_look rfl rfl ?_ (fun w' hC => ?_) ?_
  rotate_left
  · go_simp
    first | done | rfl
  simp only [Act.put, List.setIfInBounds_toArray, List.set_cons_zero, List.set_cons_succ]
  refine g_alloc (stays_good _ _) (.cells #[.int .u64 0, .int .u64 0] 24) rfl rfl (fun w' hC => ?_) (fun gd td nd => ?_)
  · clear hC
    go_simp
    first | done | rfl | exact ⟨rfl, rfl⟩
  clear nd
  replace td := Lib.hid td
  simp only [Act.put, List.setIfInBounds_toArray, List.set_cons_zero, List.set_cons_succ]
  refine g_store gd (some 6) 24 24 _ _ #[.int .u64 0, .int .u64 0] #[.int .u64 0, .int .u64 0] rfl rfl rfl rfl rfl (own_new _ _ _ _) (by kernel_rfl) (rfl) (rfl) (one24 _ _) ?_
  simp only [Act.put]
  refine g_look rfl rfl ?_ (fun w' hC => ?_) ?_
  rotate_left
  · go_simp
    first | done | rfl
  simp only [Act.put, List.setIfInBounds_toArray, List.set_cons_zero, List.set_cons_succ]
  refine g_end ?_
  intro w8 hC8 hh8
  have S8 : Hid (Stays [(ga, Obj.cells #[.int .u64 (a : Int), .int .u64 (b : Int)] 24 (0, 0)), (gb, Obj.cells #[.int .u64 (c : Int), .int .u64 (d : Int)] 24 (0, 0)), (gX, Obj.cells (fc (dig X)) 27 (0, 0)), (gY, Obj.cells (fc (dig Y)) 27 (0, 0)), (gs, Obj.cells #[.int .u64 s1, .int .u64 s2] 24 (0, 0)), (gt, Obj.cells #[.int .u64 s1, .int .u64 s2] 24 (0, 0)), (gp, Obj.cells #[.int .u64 p1, .int .u64 p2] 24 (0, 0)), (gq, Obj.cells #[.int .u64 p1, .int .u64 p2] 24 (0, 0)), (gd, Obj.cells #[.int .u64 0, .int .u64 0] 24 (0, 0))] w w8) := Lib.hid (stays_cons (stays_row hC8 (List.mem_cons_self ..)) (stays_cons (stays_row hC8 (List.mem_cons_of_mem _ (List.mem_cons_self ..))) (stays_cons (stays_row hC8 (List.mem_cons_of_mem _ (List.mem_cons_of_mem _ (List.mem_cons_self ..)))) (stays_cons (stays_row hC8 (List.mem_cons_of_mem _ (List.mem_cons_of_mem _ (List.mem_cons_of_mem _ (List.mem_cons_self ..))))) (stays_cons (stays_row hC8 (List.mem_cons_of_mem _ (List.mem_cons_of_mem _ (List.mem_cons_of_mem _ (List.mem_cons_of_mem _ (List.mem_cons_self ..)))))) (stays_cons (stays_row hC8 (List.mem_cons_of_mem _ (List.mem_cons_of_mem _ (List.mem_cons_of_mem _ (List.mem_cons_of_mem _ (List.mem_cons_of_mem _ (List.mem_cons_self ..))))))) (stays_cons (stays_row hC8 (List.mem_cons_of_mem _ (List.mem_cons_of_mem _ (List.mem_cons_of_mem _ (List.mem_cons_of_mem _ (List.mem_cons_of_mem _ (List.mem_cons_of_mem _ (List.mem_cons_self ..)))))))) (stays_cons (stays_row hC8 (List.mem_cons_of_mem _ (List.mem_cons_of_mem _ (List.mem_cons_of_mem _ (List.mem_cons_of_mem _ (List.mem_cons_of_mem _ (List.mem_cons_of_mem _ (List.mem_cons_of_mem _ (List.mem_cons_self ..))))))))) (stays_cons ((hh8 _ _ _ (own_new _ _ _ _)).1) (stays_nil (stays_below hC8)))))))))))
  clear S7
  clear hC8 hh8
  go_upto_region 9 with fail
  refine reg_plain (Stays [(ga, Obj.cells #[.int .u64 (a : Int), .int .u64 (b : Int)] 24 (0, 0)), (gb, Obj.cells #[.int .u64 (c : Int), .int .u64 (d : Int)] 24 (0, 0)), (gX, Obj.cells (fc (dig X)) 27 (0, 0)), (gY, Obj.cells (fc (dig Y)) 27 (0, 0)), (gs, Obj.cells #[.int .u64 s1, .int .u64 s2] 24 (0, 0)), (gt, Obj.cells #[.int .u64 s1, .int .u64 s2] 24 (0, 0)), (gp, Obj.cells #[.int .u64 p1, .int .u64 p2] 24 (0, 0)), (gq, Obj.cells #[.int .u64 p1, .int .u64 p2] 24 (0, 0)), (gd, Obj.cells #[.int .u64 0, .int .u64 0] 24 (0, 0))] w) (Turns [(ga, Obj.cells #[.int .u64 (a : Int), .int .u64 (b : Int)] 24 (0, 0)), (gb, Obj.cells #[.int .u64 (c : Int), .int .u64 (d : Int)] 24 (0, 0)), (gX, Obj.cells (fc (dig X)) 27 (0, 0)), (gY, Obj.cells (fc (dig Y)) 27 (0, 0)), (gs, Obj.cells #[.int .u64 s1, .int .u64 s2] 24 (0, 0)), (gt, Obj.cells #[.int .u64 s1, .int .u64 s2] 24 (0, 0)), (gp, Obj.cells #[.int .u64 p1, .int .u64 p2] 24 (0, 0)), (gq, Obj.cells #[.int .u64 p1, .int .u64 p2] 24 (0, 0)), (gd, Obj.cells #[.int .u64 0, .int .u64 0] 24 (0, 0))] w) (kdOf [(1, .make (allocM (.cells #[.int .u64 0, .int .u64 0] 24))), (2, .touch)]) none0 (stays_good _ _) (S8.out) (holds0 _) ?_
  refine g_look rfl rfl ?_ (fun w' hC => ?_) ?_
  rotate_left
  · go_simp
    first | done | rfl
  simp only [Act.put, List.setIfInBounds_toArray, List.set_cons_zero, List.set_cons_succ]
  refine g_alloc (stays_good _ _) (.cells #[.int .u64 0, .int .u64 0] 24) rfl rfl (fun w' hC => ?_) (fun gw tw nw => ?_)
  · clear hC
    go_simp
    first | done | rfl | exact ⟨rfl, rfl⟩
  clear nw
  replace tw := Lib.hid tw
  simp only [Act.put, List.setIfInBounds_toArray, List.set_cons_zero, List.set_cons_succ]
  refine g_store gw (some 1) 24 24 _ _ #[.int .u64 0, .int .u64 0] #[.int .u64 0, .int .u64 0] rfl rfl rfl rfl rfl (own_new _ _ _ _) (by kernel_rfl) (rfl) (rfl) (one24 _ _) ?_
  simp only [Act.put]
  refine g_end ?_
  intro w9 hC9 hh9
  have S9 : Hid (Stays [(ga, Obj.cells #[.int .u64 (a : Int), .int .u64 (b : Int)] 24 (0, 0)), (gb, Obj.cells #[.int .u64 (c : Int), .int .u64 (d : Int)] 24 (0, 0)), (gX, Obj.cells (fc (dig X)) 27 (0, 0)), (gY, Obj.cells (fc (dig Y)) 27 (0, 0)), (gs, Obj.cells #[.int .u64 s1, .int .u64 s2] 24 (0, 0)), (gt, Obj.cells #[.int .u64 s1, .int .u64 s2] 24 (0, 0)), (gp, Obj.cells #[.int .u64 p1, .int .u64 p2] 24 (0, 0)), (gq, Obj.cells #[.int .u64 p1, .int .u64 p2] 24 (0, 0)), (gd, Obj.cells #[.int .u64 0, .int .u64 0] 24 (0, 0)), (gw, Obj.cells #[.int .u64 0, .int .u64 0] 24 (0, 0))] w w9) := Lib.hid (stays_cons (stays_row hC9 (List.mem_cons_self ..)) (stays_cons (stays_row hC9 (List.mem_cons_of_mem _ (List.mem_cons_self ..))) (stays_cons (stays_row hC9 (List.mem_cons_of_mem _ (List.mem_cons_of_mem _ (List.mem_cons_self ..)))) (stays_cons (stays_row hC9 (List.mem_cons_of_mem _ (List.mem_cons_of_mem _ (List.mem_cons_of_mem _ (List.mem_cons_self ..))))) (stays_cons (stays_row hC9 (List.mem_cons_of_mem _ (List.mem_cons_of_mem _ (List.mem_cons_of_mem _ (List.mem_cons_of_mem _ (List.mem_cons_self ..)))))) (stays_cons (stays_row hC9 (List.mem_cons_of_mem _ (List.mem_cons_of_mem _ (List.mem_cons_of_mem _ (List.mem_cons_of_mem _ (List.mem_cons_of_mem _ (List.mem_cons_self ..))))))) (stays_cons (stays_row hC9 (List.mem_cons_of_mem _ (List.mem_cons_of_mem _ (List.mem_cons_of_mem _ (List.mem_cons_of_mem _ (List.mem_cons_of_mem _ (List.mem_cons_of_mem _ (List.mem_cons_self ..)))))))) (stays_cons (stays_row hC9 (List.mem_cons_of_mem _ (List.mem_cons_of_mem _ (List.mem_cons_of_mem _ (List.mem_cons_of_mem _ (List.mem_cons_of_mem _ (List.mem_cons_of_mem _ (List.mem_cons_of_mem _ (List.mem_cons_self ..))))))))) (stays_cons (stays_row hC9 (List.mem_cons_of_mem _ (List.mem_cons_of_mem _ (List.mem_cons_of_mem _ (List.mem_cons_of_mem _ (List.mem_cons_of_mem _ (List.mem_cons_of_mem _ (List.mem_cons_of_mem _ (List.mem_cons_of_mem _ (List.mem_cons_self ..)))))))))) (stays_cons ((hh9 _ _ _ (own_new _ _ _ _)).1) (stays_nil (stays_below hC9))))))))))))
  clear S8
  clear hC9 hh9
  go_upto_region 10 with fail
  refine reg_plain (Stays [(ga, Obj.cells #[.int .u64 (a : Int), .int .u64 (b : Int)] 24 (0, 0)), (gb, Obj.cells #[.int .u64 (c : Int), .int .u64 (d : Int)] 24 (0, 0)), (gX, Obj.cells (fc (dig X)) 27 (0, 0)), (gY, Obj.cells (fc (dig Y)) 27 (0, 0)), (gs, Obj.cells #[.int .u64 s1, .int .u64 s2] 24 (0, 0)), (gt, Obj.cells #[.int .u64 s1, .int .u64 s2] 24 (0, 0)), (gp, Obj.cells #[.int .u64 p1, .int .u64 p2] 24 (0, 0)), (gq, Obj.cells #[.int .u64 p1, .int .u64 p2] 24 (0, 0)), (gd, Obj.cells #[.int .u64 0, .int .u64 0] 24 (0, 0)), (gw, Obj.cells #[.int .u64 0, .int .u64 0] 24 (0, 0))] w) (Turns [(ga, Obj.cells #[.int .u64 (a : Int), .int .u64 (b : Int)] 24 (0, 0)), (gb, Obj.cells #[.int .u64 (c : Int), .int .u64 (d : Int)] 24 (0, 0)), (gX, Obj.cells (fc (dig X)) 27 (0, 0)), (gY, Obj.cells (fc (dig Y)) 27 (0, 0)), (gs, Obj.cells #[.int .u64 s1, .int .u64 s2] 24 (0, 0)), (gt, Obj.cells #[.int .u64 s1, .int .u64 s2] 24 (0, 0)), (gp, Obj.cells #[.int .u64 p1, .int .u64 p2] 24 (0, 0)), (gq, Obj.cells #[.int .u64 p1, .int .u64 p2] 24 (0, 0)), (gd, Obj.cells #[.int .u64 0, .int .u64 0] 24 (0, 0)), (gw, Obj.cells #[.int .u64 0, .int .u64 0] 24 (0, 0))] w) (kdOf [(2, .make (callM (.bool true)))]) none0 (stays_good _ _) (S9.out) (holds0 _) ?_
  (refine g_load 27 _ gX 27 (fc (dig X)) (0, 0) _ rfl rfl rfl rfl (fun w' hC => stays_row hC (List.mem_cons_of_mem _ (List.mem_cons_of_mem _ (List.mem_cons_self ..)))) Try.underlying27 rfl (info27 _) ?_)
  simp only [Act.put, List.setIfInBounds_toArray, List.set_cons_zero, List.set_cons_succ]
  (refine g_load 27 _ gY 27 (fc (dig Y)) (0, 0) _ rfl rfl rfl rfl (fun w' hC => stays_row hC (List.mem_cons_of_mem _ (List.mem_cons_of_mem _ (List.mem_cons_of_mem _ (List.mem_cons_self ..))))) Try.underlying27 rfl (info27 _) ?_)
  simp only [Act.put, List.setIfInBounds_toArray, List.set_cons_zero, List.set_cons_succ]
  refine g_call (stays_good _ _) (.bool true) rfl rfl (fun w' hC => ?_) ?_
  · clear hC
    go_simp
    refine (less_any _ X Y (lt20 kX.out) (lt20 kY.out)).mono (fun e w2 h => ?_)
    obtain ⟨h1, h2⟩ := h
    rw [HLS.out] at h1
    exact gives h1 h2
  simp only [Act.put, List.setIfInBounds_toArray, List.set_cons_zero, List.set_cons_succ]
  refine g_look rfl rfl ?_ (fun w' hC => ?_) ?_
  rotate_left
  · go_simp
    first | done | rfl
  simp only [Act.put, List.setIfInBounds_toArray, List.set_cons_zero, List.set_cons_succ]
  refine g_end ?_
  intro w10 hC10 hh10
  have S10 : Hid (Stays [(ga, Obj.cells #[.int .u64 (a : Int), .int .u64 (b : Int)] 24 (0, 0)), (gb, Obj.cells #[.int .u64 (c : Int), .int .u64 (d : Int)] 24 (0, 0)), (gX, Obj.cells (fc (dig X)) 27 (0, 0)), (gY, Obj.cells (fc (dig Y)) 27 (0, 0)), (gs, Obj.cells #[.int .u64 s1, .int .u64 s2] 24 (0, 0)), (gt, Obj.cells #[.int .u64 s1, .int .u64 s2] 24 (0, 0)), (gp, Obj.cells #[.int .u64 p1, .int .u64 p2] 24 (0, 0)), (gq, Obj.cells #[.int .u64 p1, .int .u64 p2] 24 (0, 0)), (gd, Obj.cells #[.int .u64 0, .int .u64 0] 24 (0, 0)), (gw, Obj.cells #[.int .u64 0, .int .u64 0] 24 (0, 0))] w w10) := Lib.hid (stays_cons (stays_row hC10 (List.mem_cons_self ..)) (stays_cons (stays_row hC10 (List.mem_cons_of_mem _ (List.mem_cons_self ..))) (stays_cons (stays_row hC10 (List.mem_cons_of_mem _ (List.mem_cons_of_mem _ (List.mem_cons_self ..)))) (stays_cons (stays_row hC10 (List.mem_cons_of_mem _ (List.mem_cons_of_mem _ (List.mem_cons_of_mem _ (List.mem_cons_self ..))))) (stays_cons (stays_row hC10 (List.mem_cons_of_mem _ (List.mem_cons_of_mem _ (List.mem_cons_of_mem _ (List.mem_cons_of_mem _ (List.mem_cons_self ..)))))) (stays_cons (stays_row hC10 (List.mem_cons_of_mem _ (List.mem_cons_of_mem _ (List.mem_cons_of_mem _ (List.mem_cons_of_mem _ (List.mem_cons_of_mem _ (List.mem_cons_self ..))))))) (stays_cons (stays_row hC10 (List.mem_cons_of_mem _ (List.mem_cons_of_mem _ (List.mem_cons_of_mem _ (List.mem_cons_of_mem _ (List.mem_cons_of_mem _ (List.mem_cons_of_mem _ (List.mem_cons_self ..)))))))) (stays_cons (stays_row hC10 (List.mem_cons_of_mem _ (List.mem_cons_of_mem _ (List.mem_cons_of_mem _ (List.mem_cons_of_mem _ (List.mem_cons_of_mem _ (List.mem_cons_of_mem _ (List.mem_cons_of_mem _ (List.mem_cons_self ..))))))))) (stays_cons (stays_row hC10 (List.mem_cons_of_mem _ (List.mem_cons_of_mem _ (List.mem_cons_of_mem _ (List.mem_cons_of_mem _ (List.mem_cons_of_mem _ (List.mem_cons_of_mem _ (List.mem_cons_of_mem _ (List.mem_cons_of_mem _ (List.mem_cons_self ..)))))))))) (stays_cons (stays_row hC10 (List.mem_cons_of_mem _ (List.mem_cons_of_mem _ (List.mem_cons_of_mem _ (List.mem_cons_of_mem _ (List.mem_cons_of_mem _ (List.mem_cons_of_mem _ (List.mem_cons_of_mem _ (List.mem_cons_of_mem _ (List.mem_cons_of_mem _ (List.mem_cons_self ..))))))))))) (stays_nil (stays_below hC10))))))))))))
  clear S9
  clear hC10 hh10
  go_upto_region 12 with fail
  refine reg_plain (Stays [(ga, Obj.cells #[.int .u64 (a : Int), .int .u64 (b : Int)] 24 (0, 0)), (gb, Obj.cells #[.int .u64 (c : Int), .int .u64 (d : Int)] 24 (0, 0)), (gX, Obj.cells (fc (dig X)) 27 (0, 0)), (gY, Obj.cells (fc (dig Y)) 27 (0, 0)), (gs, Obj.cells #[.int .u64 s1, .int .u64 s2] 24 (0, 0)), (gt, Obj.cells #[.int .u64 s1, .int .u64 s2] 24 (0, 0)), (gp, Obj.cells #[.int .u64 p1, .int .u64 p2] 24 (0, 0)), (gq, Obj.cells #[.int .u64 p1, .int .u64 p2] 24 (0, 0)), (gd, Obj.cells #[.int .u64 0, .int .u64 0] 24 (0, 0)), (gw, Obj.cells #[.int .u64 0, .int .u64 0] 24 (0, 0))] w) (Turns [(ga, Obj.cells #[.int .u64 (a : Int), .int .u64 (b : Int)] 24 (0, 0)), (gb, Obj.cells #[.int .u64 (c : Int), .int .u64 (d : Int)] 24 (0, 0)), (gX, Obj.cells (fc (dig X)) 27 (0, 0)), (gY, Obj.cells (fc (dig Y)) 27 (0, 0)), (gs, Obj.cells #[.int .u64 s1, .int .u64 s2] 24 (0, 0)), (gt, Obj.cells #[.int .u64 s1, .int .u64 s2] 24 (0, 0)), (gp, Obj.cells #[.int .u64 p1, .int .u64 p2] 24 (0, 0)), (gq, Obj.cells #[.int .u64 p1, .int .u64 p2] 24 (0, 0)), (gd, Obj.cells #[.int .u64 0, .int .u64 0] 24 (0, 0)), (gw, Obj.cells #[.int .u64 0, .int .u64 0] 24 (0, 0))] w) (kdOf [(22, .make (callM (.bool true)))]) none0 (stays_good _ _) (S10.out) (holds0 _) ?_
  refine g_look rfl rfl ?_ (fun w' hC => ?_) ?_
  rotate_left
  · go_simp
    first | done | rfl
  simp only [Act.put, List.setIfInBounds_toArray, List.set_cons_zero, List.set_cons_succ]
  refine g_look rfl rfl ?_ (fun w' hC => ?_) ?_
  rotate_left
  · go_simp
    first | done | rfl
  simp only [Act.put, List.setIfInBounds_toArray, List.set_cons_zero, List.set_cons_succ]
  refine g_look rfl rfl ?_ (fun w' hC => ?_) ?_
  rotate_left
  · go_simp
    first | done | rfl
  simp only [Act.put, List.setIfInBounds_toArray, List.set_cons_zero, List.set_cons_succ]
  refine g_look rfl rfl ?_ (fun w' hC => ?_) ?_
  rotate_left
  · go_simp
    first | done | rfl
  simp only [Act.put, List.setIfInBounds_toArray, List.set_cons_zero, List.set_cons_succ]
  first | (refine g_skip rfl ?_) | (refine g_load 24 _ gs 24 #[.int .u64 s1, .int .u64 s2] (0, 0) _ rfl rfl rfl rfl (fun w' hC => stays_row hC (List.mem_cons_of_mem _ (List.mem_cons_of_mem _ (List.mem_cons_of_mem _ (List.mem_cons_of_mem _ (List.mem_cons_self ..)))))) Try.underlying24 rfl (rfl) ?_)
  simp only [Act.put, List.setIfInBounds_toArray, List.set_cons_zero, List.set_cons_succ]
  first | (refine g_skip rfl ?_) | (refine g_load 24 _ gt 24 #[.int .u64 s1, .int .u64 s2] (0, 0) _ rfl rfl rfl rfl (fun w' hC => stays_row hC (List.mem_cons_of_mem _ (List.mem_cons_of_mem _ (List.mem_cons_of_mem _ (List.mem_cons_of_mem _ (List.mem_cons_of_mem _ (List.mem_cons_self ..))))))) Try.underlying24 rfl (rfl) ?_)
  simp only [Act.put, List.setIfInBounds_toArray, List.set_cons_zero, List.set_cons_succ]
  first
  | (refine g_skip rfl ?_)
  | (refine g_look rfl rfl ?_ (fun w' hC => ?_) ?_
     rotate_left
     · go_simp
       first | done | rfl)
  simp only [Act.put, List.setIfInBounds_toArray, List.set_cons_zero, List.set_cons_succ]
  refine g_look rfl rfl ?_ (fun w' hC => ?_) ?_
  rotate_left
  · go_simp
    first | done | rfl
  simp only [Act.put, List.setIfInBounds_toArray, List.set_cons_zero, List.set_cons_succ]
  refine g_look rfl rfl ?_ (fun w' hC => ?_) ?_
  rotate_left
  · go_simp
    first | done | rfl
  simp only [Act.put, List.setIfInBounds_toArray, List.set_cons_zero, List.set_cons_succ]
  first
  | (refine g_skip rfl ?_)
  | (refine g_look rfl rfl ?_ (fun w' hC => ?_) ?_
     rotate_left
     · go_simp
       first | done | rfl)
  simp only [Act.put, List.setIfInBounds_toArray, List.set_cons_zero, List.set_cons_succ]
  first
  | (refine g_skip rfl ?_)
  | (refine g_look rfl rfl ?_ (fun w' hC => ?_) ?_
     rotate_left
     · go_simp
       first | done | rfl)
  simp only [Act.put, List.setIfInBounds_toArray, List.set_cons_zero, List.set_cons_succ]
  first
  | (refine g_skip rfl ?_)
  | (refine g_look rfl rfl ?_ (fun w' hC => ?_) ?_
     rotate_left
     · go_simp
       first | done | rfl)
  simp only [Act.put, List.setIfInBounds_toArray, List.set_cons_zero, List.set_cons_succ]
  refine g_look rfl rfl ?_ (fun w' hC => ?_) ?_
  rotate_left
  · go_simp
    first | done | rfl
  simp only [Act.put, List.setIfInBounds_toArray, List.set_cons_zero, List.set_cons_succ]
  refine g_look rfl rfl ?_ (fun w' hC => ?_) ?_
  rotate_left
  · go_simp
    first | done | rfl
  simp only [Act.put, List.setIfInBounds_toArray, List.set_cons_zero, List.set_cons_succ]
  first | (refine g_skip rfl ?_) | (refine g_load 24 _ gp 24 #[.int .u64 p1, .int .u64 p2] (0, 0) _ rfl rfl rfl rfl (fun w' hC => stays_row hC (List.mem_cons_of_mem _ (List.mem_cons_of_mem _ (List.mem_cons_of_mem _ (List.mem_cons_of_mem _ (List.mem_cons_of_mem _ (List.mem_cons_of_mem _ (List.mem_cons_self ..)))))))) Try.underlying24 rfl (rfl) ?_)
  simp only [Act.put, List.setIfInBounds_toArray, List.set_cons_zero, List.set_cons_succ]
  first | (refine g_skip rfl ?_) | (refine g_load 24 _ gq 24 #[.int .u64 p1, .int .u64 p2] (0, 0) _ rfl rfl rfl rfl (fun w' hC => stays_row hC (List.mem_cons_of_mem _ (List.mem_cons_of_mem _ (List.mem_cons_of_mem _ (List.mem_cons_of_mem _ (List.mem_cons_of_mem _ (List.mem_cons_of_mem _ (List.mem_cons_of_mem _ (List.mem_cons_self ..))))))))) Try.underlying24 rfl (rfl) ?_)
  simp only [Act.put, List.setIfInBounds_toArray, List.set_cons_zero, List.set_cons_succ]
  first
  | (refine g_skip rfl ?_)
  | (refine g_look rfl rfl ?_ (fun w' hC => ?_) ?_
     rotate_left
     · go_simp
       first | done | rfl)
  simp only [Act.put, List.setIfInBounds_toArray, List.set_cons_zero, List.set_cons_succ]
  refine g_look rfl rfl ?_ (fun w' hC => ?_) ?_
  rotate_left
  · go_simp
    first | done | rfl
  simp only [Act.put, List.setIfInBounds_toArray, List.set_cons_zero, List.set_cons_succ]
  refine g_look rfl rfl ?_ (fun w' hC => ?_) ?_
  rotate_left
  · go_simp
    first | done | rfl
  simp only [Act.put, List.setIfInBounds_toArray, List.set_cons_zero, List.set_cons_succ]
  first
  | (refine g_skip rfl ?_)
  | (refine g_look rfl rfl ?_ (fun w' hC => ?_) ?_
     rotate_left
     · go_simp
       first | done | rfl)
  simp only [Act.put, List.setIfInBounds_toArray, List.set_cons_zero, List.set_cons_succ]
  first | (refine g_skip rfl ?_) | (refine g_load 27 _ gX 27 (fc (dig X)) (0, 0) _ rfl rfl rfl rfl (fun w' hC => stays_row hC (List.mem_cons_of_mem _ (List.mem_cons_of_mem _ (List.mem_cons_self ..)))) Try.underlying27 rfl (info27 _) ?_)
  simp only [Act.put, List.setIfInBounds_toArray, List.set_cons_zero, List.set_cons_succ]
  first | (refine g_skip rfl ?_) | (refine g_load 27 _ gY 27 (fc (dig Y)) (0, 0) _ rfl rfl rfl rfl (fun w' hC => stays_row hC (List.mem_cons_of_mem _ (List.mem_cons_of_mem _ (List.mem_cons_of_mem _ (List.mem_cons_self ..))))) Try.underlying27 rfl (info27 _) ?_)
  simp only [Act.put, List.setIfInBounds_toArray, List.set_cons_zero, List.set_cons_succ]
  first
  | (refine g_skip rfl ?_)
  | skip
  refine g_call (stays_good _ _) (.bool true) rfl rfl (fun w' hC => ?_) ?_
  · clear hC
    go_simp
    refine (less_any _ X Y (lt20 kX.out) (lt20 kY.out)).mono (fun e w2 h => ?_)
    obtain ⟨h1, h2⟩ := h
    rw [HLS.out] at h1
    exact gives h1 h2
  simp only [Act.put, List.setIfInBounds_toArray, List.set_cons_zero, List.set_cons_succ]
  first
  | (refine g_skip rfl ?_)
  | (refine g_look rfl rfl ?_ (fun w' hC => ?_) ?_
     rotate_left
     · go_simp
       first | done | rfl)
  simp only [Act.put, List.setIfInBounds_toArray, List.set_cons_zero, List.set_cons_succ]
  first
  | (refine g_skip rfl ?_)
  | (refine g_look rfl rfl ?_ (fun w' hC => ?_) ?_
     rotate_left
     · go_simp
       first | done | rfl)
  simp only [Act.put, List.setIfInBounds_toArray, List.set_cons_zero, List.set_cons_succ]
  refine g_look rfl rfl ?_ (fun w' hC => ?_) ?_
  rotate_left
  · go_simp
    first | done | rfl
  simp only [Act.put, List.setIfInBounds_toArray, List.set_cons_zero, List.set_cons_succ]
  refine g_look rfl rfl ?_ (fun w' hC => ?_) ?_
  rotate_left
  · go_simp
    first | done | rfl
  simp only [Act.put, List.setIfInBounds_toArray, List.set_cons_zero, List.set_cons_succ]
  first | (refine g_skip rfl ?_) | (refine g_load 24 _ gd 24 #[.int .u64 0, .int .u64 0] (0, 0) _ rfl rfl rfl rfl (fun w' hC => stays_row hC (List.mem_cons_of_mem _ (List.mem_cons_of_mem _ (List.mem_cons_of_mem _ (List.mem_cons_of_mem _ (List.mem_cons_of_mem _ (List.mem_cons_of_mem _ (List.mem_cons_of_mem _ (List.mem_cons_of_mem _ (List.mem_cons_self ..)))))))))) Try.underlying24 rfl (rfl) ?_)
  simp only [Act.put, List.setIfInBounds_toArray, List.set_cons_zero, List.set_cons_succ]
  first | (refine g_skip rfl ?_) | (refine g_load 24 _ gw 24 #[.int .u64 0, .int .u64 0] (0, 0) _ rfl rfl rfl rfl (fun w' hC => stays_row hC (List.mem_cons_of_mem _ (List.mem_cons_of_mem _ (List.mem_cons_of_mem _ (List.mem_cons_of_mem _ (List.mem_cons_of_mem _ (List.mem_cons_of_mem _ (List.mem_cons_of_mem _ (List.mem_cons_of_mem _ (List.mem_cons_of_mem _ (List.mem_cons_self ..))))))))))) Try.underlying24 rfl (rfl) ?_)
  simp only [Act.put, List.setIfInBounds_toArray, List.set_cons_zero, List.set_cons_succ]
  first
  | (refine g_skip rfl ?_)
  | (refine g_look rfl rfl ?_ (fun w' hC => ?_) ?_
     rotate_left
     · go_simp
       first | done | rfl)
  simp only [Act.put, List.setIfInBounds_toArray, List.set_cons_zero, List.set_cons_succ]
  refine g_look rfl rfl ?_ (fun w' hC => ?_) ?_
  rotate_left
  · go_simp
    first | done | rfl
  simp only [Act.put, List.setIfInBounds_toArray, List.set_cons_zero, List.set_cons_succ]
  refine g_look rfl rfl ?_ (fun w' hC => ?_) ?_
  rotate_left
  · go_simp
    first | done | rfl
  simp only [Act.put, List.setIfInBounds_toArray, List.set_cons_zero, List.set_cons_succ]
  refine g_end ?_
  intro w11 hC11 hh11
  have S11 : Hid (Stays [(ga, Obj.cells #[.int .u64 (a : Int), .int .u64 (b : Int)] 24 (0, 0)), (gb, Obj.cells #[.int .u64 (c : Int), .int .u64 (d : Int)] 24 (0, 0)), (gX, Obj.cells (fc (dig X)) 27 (0, 0)), (gY, Obj.cells (fc (dig Y)) 27 (0, 0)), (gs, Obj.cells #[.int .u64 s1, .int .u64 s2] 24 (0, 0)), (gt, Obj.cells #[.int .u64 s1, .int .u64 s2] 24 (0, 0)), (gp, Obj.cells #[.int .u64 p1, .int .u64 p2] 24 (0, 0)), (gq, Obj.cells #[.int .u64 p1, .int .u64 p2] 24 (0, 0)), (gd, Obj.cells #[.int .u64 0, .int .u64 0] 24 (0, 0)), (gw, Obj.cells #[.int .u64 0, .int .u64 0] 24 (0, 0))] w w11) := Lib.hid (stays_cons (stays_row hC11 (List.mem_cons_self ..)) (stays_cons (stays_row hC11 (List.mem_cons_of_mem _ (List.mem_cons_self ..))) (stays_cons (stays_row hC11 (List.mem_cons_of_mem _ (List.mem_cons_of_mem _ (List.mem_cons_self ..)))) (stays_cons (stays_row hC11 (List.mem_cons_of_mem _ (List.mem_cons_of_mem _ (List.mem_cons_of_mem _ (List.mem_cons_self ..))))) (stays_cons (stays_row hC11 (List.mem_cons_of_mem _ (List.mem_cons_of_mem _ (List.mem_cons_of_mem _ (List.mem_cons_of_mem _ (List.mem_cons_self ..)))))) (stays_cons (stays_row hC11 (List.mem_cons_of_mem _ (List.mem_cons_of_mem _ (List.mem_cons_of_mem _ (List.mem_cons_of_mem _ (List.mem_cons_of_mem _ (List.mem_cons_self ..))))))) (stays_cons (stays_row hC11 (List.mem_cons_of_mem _ (List.mem_cons_of_mem _ (List.mem_cons_of_mem _ (List.mem_cons_of_mem _ (List.mem_cons_of_mem _ (List.mem_cons_of_mem _ (List.mem_cons_self ..)))))))) (stays_cons (stays_row hC11 (List.mem_cons_of_mem _ (List.mem_cons_of_mem _ (List.mem_cons_of_mem _ (List.mem_cons_of_mem _ (List.mem_cons_of_mem _ (List.mem_cons_of_mem _ (List.mem_cons_of_mem _ (List.mem_cons_self ..))))))))) (stays_cons (stays_row hC11 (List.mem_cons_of_mem _ (List.mem_cons_of_mem _ (List.mem_cons_of_mem _ (List.mem_cons_of_mem _ (List.mem_cons_of_mem _ (List.mem_cons_of_mem _ (List.mem_cons_of_mem _ (List.mem_cons_of_mem _ (List.mem_cons_self ..)))))))))) (stays_cons (stays_row hC11 (List.mem_cons_of_mem _ (List.mem_cons_of_mem _ (List.mem_cons_of_mem _ (List.mem_cons_of_mem _ (List.mem_cons_of_mem _ (List.mem_cons_of_mem _ (List.mem_cons_of_mem _ (List.mem_cons_of_mem _ (List.mem_cons_of_mem _ (List.mem_cons_self ..))))))))))) (stays_nil (stays_below hC11))))))))))))
  clear S10
  clear hC11 hh11
  go_wp2_with fail
  refine bodyPost_ret (v := .bool true) (by simp [results, Try.results5, go_sem]) rfl ⟨rfl, stays_below S11.out⟩
theorem sums_any (w : World) (a b c d u : Int) (ha : U a) (hb : U b) (hc : U c) (hd : U d) (hu : U u) : Calls Try.prog 5 #[wv a b, wv c d, .int .u64 u] w (Ret w (.bool true)) := by
  unfold U at *
  obtain ⟨a, rfl⟩ := Int.eq_ofNat_of_zero_le ha.1
  obtain ⟨b, rfl⟩ := Int.eq_ofNat_of_zero_le hb.1
  obtain ⟨c, rfl⟩ := Int.eq_ofNat_of_zero_le hc.1
  obtain ⟨d, rfl⟩ := Int.eq_ofNat_of_zero_le hd.1
  obtain ⟨u, rfl⟩ := Int.eq_ofNat_of_zero_le hu.1
  have ka : a < 65536 ^ 4 := show a < 18446744073709551616 by omega
  have kb : b < 65536 ^ 4 := show b < 18446744073709551616 by omega
  have kc : c < 65536 ^ 4 := show c < 18446744073709551616 by omega
  have kd : d < 65536 ^ 4 := show d < 18446744073709551616 by omega
  have ku : u < 65536 ^ 4 := show u < 18446744073709551616 by omega
  obtain ⟨X, hX⟩ : ∃ X, a * 65536 ^ 4 + b = X := ⟨_, rfl⟩
  obtain ⟨Y, hY⟩ : ∃ Y, c * 65536 ^ 4 + d = Y := ⟨_, rfl⟩
  by_cases h : Y ≤ X
  · exact sums_le w a b c d u X Y ka kb kc kd ku hX hY h
  · exact sums_lt w a b c d u X Y ka kb kc kd ku hX hY (by omega)
end Go.Proofs.Ytfckignchmpeaaa.Wi
