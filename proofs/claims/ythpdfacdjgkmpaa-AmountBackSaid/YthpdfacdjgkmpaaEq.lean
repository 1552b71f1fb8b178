/- Both texts of an amount are parsed to it, its units are the next whole ones, by a walk. -/
import Derived.Test.YthpdfacdjgkmpaaEp
namespace Go.Proofs.Ythpdfacdjgkmpaa.Wi
open Go.RowKit K

attribute [local go_sem] lookTo stepTo Maker.step
attribute [local go_sem ↓] idxL st_size one_size st_list add_st
theorem sub_open {x y : Int} (h0 : x ≤ y) (h1 : y - x < 1000000000) : ∃ b : Int, U b ∧ optV (y - x) (x ≤ y) = .tuple #[.agg #[.int .u64 0, .int .u64 b], .bool true] ∧ cmpI (wval 0 b) (wval 0 1000000000) = -1 := by
  refine ⟨y - x, by unfold U; omega, ?_, ?_⟩
  · rw [optV, if_pos h0, show (y - x) / 18446744073709551616 = 0 by omega, show (y - x) % 18446744073709551616 = y - x by omega]
    rfl
  · rw [cmpI, if_pos (by unfold wval; omega)]
theorem len_max {n : Nat} (h : n ≤ 41) : n ≤ maxLen := by unfold maxLen; omega
set_option maxHeartbeats 4000000 in
set_option maxRecDepth 100000 in
theorem aback_any (w : World) (a0 b0 : Int) (ha : U a0) (hb : U b0) : Calls Try.prog 6 #[.agg #[.int .u64 a0, .int .u64 b0]] w (Ret w (.bool true)) := by
  obtain ⟨X, hX⟩ : ∃ X : Nat, wval a0 b0 = (X : Int) := ⟨(wval a0 b0).toNat, (Int.toNat_of_nonneg (wval_lt ha hb).1).symm⟩
  obtain ⟨s, hs⟩ : ∃ s, textL X = s := ⟨_, rfl⟩
  obtain ⟨t, ht⟩ : ∃ t, binL X = t := ⟨_, rfl⟩
  have HX := Lib.hid hX
  have HA := Lib.hid ha
  have HB := Lib.hid hb
  have HS := Lib.hid hs
  have HT := Lib.hid ht
  have S0 : Hid (Stays [] w w) := Lib.hid (stays_nil (Below.refl _ _))
  by_cases hm : (X : Int) ≤ Most
  · obtain ⟨hp1, hs0, hl1⟩ := text_back hm
    obtain ⟨hp2, hl2⟩ := bin_back hm
    rw [hs] at hp1 hs0 hl1
    rw [ht] at hp2 hl2
    have hwn : wn (X : Int) = .agg #[.int .u64 a0, .int .u64 b0] := (wval_wn ha hb hX).symm
    rw [hwn] at hp1 hp2
    obtain ⟨hc, hxu, hxd, hul⟩ := units_back hm
    obtain ⟨n, hn⟩ : ∃ n, ceilOf X 1000000000 = n := ⟨_, rfl⟩
    rw [hn] at hc hxu hxd hul
    obtain ⟨y1, y2, hy1, hy2, hyv, hye⟩ := wn_open (X := ((n * 1000000000 : Nat) : Int)) (Int.natCast_nonneg _) hul
    obtain ⟨d, hd, hde, hcmp⟩ := sub_open hxu hxd
    have HOF := Lib.hid hye
    have HSUB : Hid (optV (wval y1 y2 - wval a0 b0) (wval a0 b0 ≤ wval y1 y2) = .tuple #[.agg #[.int .u64 0, .int .u64 d], .bool true]) := Lib.hid (by rw [hyv, hX]; exact hde)
    have HCMP := Lib.hid hcmp
    have HP1 := Lib.hid hp1
    have HP2 := Lib.hid hp2
    have HL1 := Lib.hid (len_max hl1)
    have HL2 := Lib.hid (len_max hl2)
    have HY1 := Lib.hid hy1
    have HY2 := Lib.hid hy2
    have HD := Lib.hid hd
    have HM := Lib.hid hm
    have HN := Lib.hid hn
    have HC := Lib.hid hc
    have HS0 := Lib.hid hs0
    have HCU : Hid (ceilOf X 1000000000 ≤ 1152921504606846976) := Lib.hid (by rw [hn]; exact hc)
    clear hp1 hp2 hs0 hl1 hl2 hwn hc hxu hxd hul hn hy1 hy2 hyv hye hd hde hcmp hX ha hb hs ht hm
    go_enter Try.func6, Try.ntmps6
    go_upto_region 0 with fail
    refine reg_plain (Stays [] w) (Turns [] w) (kdOf [(0, .make (fun _ => allocM (.cells #[.int .u64 a0, .int .u64 b0] 25)))]) none0 (stays_good _ _) (S0.out) (holds0 _) ?_
    refine g_alloc (stays_good _ _) (.cells #[.int .u64 a0, .int .u64 b0] 25) rfl rfl (fun w' hC => ?_) (fun gx tx nx => ?_)
    · clear hC
      go_simp
      first | done | rfl | exact ⟨rfl, rfl⟩
    clear nx
    replace tx := Lib.hid tx
    simp only [Act.put, List.setIfInBounds_toArray, List.set_cons_zero, List.set_cons_succ]
    refine g_look rfl rfl ?_ (fun w' hC => ?_) ?_
    rotate_left
    · go_simp
      first | done | rfl
    simp only [Act.put, List.setIfInBounds_toArray, List.set_cons_zero, List.set_cons_succ]
    refine g_end ?_
    intro w1 hC1 hh1
    have S1 : Hid (Stays [(gx, Obj.cells #[.int .u64 a0, .int .u64 b0] 25 (0, 0))] w w1) := Lib.hid (stays_cons ((hh1 _ _ _ (own_new _ _ _ _)).1) (stays_nil (stays_below hC1)))
    clear hC1 hh1
    go_upto_region 1 with fail
    refine reg_plain (Stays [(gx, Obj.cells #[.int .u64 a0, .int .u64 b0] 25 (0, 0))] w) (Turns [(gx, Obj.cells #[.int .u64 a0, .int .u64 b0] 25 (0, 0))] w) (kdOf [(0, .make (fun _ => callM (.bool true)))]) none0 (stays_good _ _) (S1.out) (holds0 _) ?_
    refine g_call (stays_good _ _) (.bool true) rfl rfl (fun w' hC => ?_) ?_
    · clear hC
      go_simp
      refine (first_any _).mono (fun e w2 h => ?_)
      obtain ⟨h1, h2⟩ := h
      exact gives h1 h2
    simp only [Act.put, List.setIfInBounds_toArray, List.set_cons_zero, List.set_cons_succ]
    refine g_look rfl rfl ?_ (fun w' hC => ?_) ?_
    rotate_left
    · go_simp
      first | done | rfl
    simp only [Act.put, List.setIfInBounds_toArray, List.set_cons_zero, List.set_cons_succ]
    refine g_end ?_
    intro w2 hC2 hh2
    have S2 : Hid (Stays [(gx, Obj.cells #[.int .u64 a0, .int .u64 b0] 25 (0, 0))] w w2) := Lib.hid (stays_cons (stays_row hC2 (List.mem_cons_self ..)) (stays_nil (stays_below hC2)))
    clear S1
    clear hC2 hh2
    go_upto_region 3 with fail
    refine reg (Stays [(gx, Obj.cells #[.int .u64 a0, .int .u64 b0] 25 (0, 0))] w) (Turns [(gx, Obj.cells #[.int .u64 a0, .int .u64 b0] 25 (0, 0))] w) (kdOf [(1, .make (fun _ => callM (.string ⟨s.toArray⟩))), (3, .make (fun _ => callM (.string ⟨t.toArray⟩)))]) none0 (stays_good _ _) (by kernel_rfl) (by kernel_rfl) (stays_drew (S2.out)) (holds0 _) ?_
    (refine g_load 25 _ gx 25 #[.int .u64 a0, .int .u64 b0] (0, 0) _ rfl rfl rfl rfl (fun w' hC => stays_row hC (List.mem_cons_self ..)) Try.underlying25 rfl (rfl) ?_)
    simp only [Act.put, List.setIfInBounds_toArray, List.set_cons_zero, List.set_cons_succ]
    refine g_call (stays_good _ _) (.string ⟨s.toArray⟩) rfl rfl (fun w' hC => ?_) ?_
    · clear hC
      go_simp
      refine (atext_any _ a0 b0 X HX.out HA.out HB.out).mono (fun e w2 h => ?_)
      obtain ⟨h1, h2⟩ := h
      rw [HS.out] at h1
      exact gives h1 h2
    simp only [Act.put, List.setIfInBounds_toArray, List.set_cons_zero, List.set_cons_succ]
    (refine g_load 25 _ gx 25 #[.int .u64 a0, .int .u64 b0] (0, 0) _ rfl rfl rfl rfl (fun w' hC => stays_row hC (List.mem_cons_self ..)) Try.underlying25 rfl (rfl) ?_)
    simp only [Act.put, List.setIfInBounds_toArray, List.set_cons_zero, List.set_cons_succ]
    refine g_call (stays_good _ _) (.string ⟨t.toArray⟩) rfl rfl (fun w' hC => ?_) ?_
    · clear hC
      go_simp
      refine (abin_any _ a0 b0 X HX.out HA.out HB.out).mono (fun e w2 h => ?_)
      obtain ⟨h1, h2⟩ := h
      rw [HT.out] at h1
      exact gives h1 h2
    simp only [Act.put, List.setIfInBounds_toArray, List.set_cons_zero, List.set_cons_succ]
    refine g_look rfl rfl ?_ (fun w' hC => ?_) ?_
    rotate_left
    · go_simp
      first | done | rfl
    simp only [Act.put, List.setIfInBounds_toArray, List.set_cons_zero, List.set_cons_succ]
    refine g_look rfl rfl ?_ (fun w' hC => ?_) ?_
    rotate_left
    · go_simp
      first | done | rfl
    simp only [Act.put, List.setIfInBounds_toArray, List.set_cons_zero, List.set_cons_succ]
    refine g_end ?_
    intro w3 hC3 hh3
    have S3 : Hid (Stays [(gx, Obj.cells #[.int .u64 a0, .int .u64 b0] 25 (0, 0))] w w3) := Lib.hid (stays_cons (stays_row hC3 (List.mem_cons_self ..)) (stays_nil (stays_below hC3)))
    clear S2
    clear hC3 hh3
    go_upto_region 4 with fail
    refine reg_plain (Stays [(gx, Obj.cells #[.int .u64 a0, .int .u64 b0] 25 (0, 0))] w) (Turns [(gx, Obj.cells #[.int .u64 a0, .int .u64 b0] 25 (0, 0))] w) (kdOf []) none0 (stays_good _ _) (S3.out) (holds0 _) ?_
    refine g_look rfl rfl ?_ (fun w' hC => ?_) ?_
    rotate_left
    · go_simp
      first | done | rfl
    simp only [Act.put, List.setIfInBounds_toArray, List.set_cons_zero, List.set_cons_succ]
    refine g_look rfl rfl (.bool false) (fun w' hC => ?_) ?_
    · clear hC
      go_simp
      first | done | rfl | exact beq_eq_false_iff_ne.2 HS0.out | exact HS0.out | (simpa using HS0.out)
    simp only [Act.put, List.setIfInBounds_toArray, List.set_cons_zero, List.set_cons_succ]
    refine g_end ?_
    intro w4 hC4 hh4
    have S4 : Hid (Stays [(gx, Obj.cells #[.int .u64 a0, .int .u64 b0] 25 (0, 0))] w w4) := Lib.hid (stays_cons (stays_row hC4 (List.mem_cons_self ..)) (stays_nil (stays_below hC4)))
    clear S3
    clear hC4 hh4
    go_upto_region 6 with fail
    refine reg_plain (Stays [(gx, Obj.cells #[.int .u64 a0, .int .u64 b0] 25 (0, 0))] w) (Turns [(gx, Obj.cells #[.int .u64 a0, .int .u64 b0] 25 (0, 0))] w) (kdOf [(1, .make (fun _ => callM (.tuple #[.agg #[.int .u64 a0, .int .u64 b0], .int .i64 0]))), (5, .make (fun _ => allocM (.cells #[.int .u64 0, .int .u64 0] 25))), (6, .touch)]) none0 (stays_good _ _) (S4.out) (holds0 _) ?_
    refine g_look rfl rfl ?_ (fun w' hC => ?_) ?_
    rotate_left
    · go_simp
      first | done | rfl
    simp only [Act.put, List.setIfInBounds_toArray, List.set_cons_zero, List.set_cons_succ]
    refine g_call (stays_good _ _) (.tuple #[.agg #[.int .u64 a0, .int .u64 b0], .int .i64 0]) rfl rfl (fun w' hC => ?_) ?_
    · clear hC
      go_simp
      refine (parse_any _ s HL1.out).mono (fun e w2 h => ?_)
      obtain ⟨h1, h2⟩ := h
      rw [HP1.out] at h1
      exact gives h1 h2
    simp only [Act.put, List.setIfInBounds_toArray, List.set_cons_zero, List.set_cons_succ]
    refine g_look rfl rfl ?_ (fun w' hC => ?_) ?_
    rotate_left
    · go_simp
      first | done | rfl
    simp only [Act.put, List.setIfInBounds_toArray, List.set_cons_zero, List.set_cons_succ]
    refine g_look rfl rfl ?_ (fun w' hC => ?_) ?_
    rotate_left
    · go_simp
      first | done | rfl
    simp only [Act.put, List.setIfInBounds_toArray, List.set_cons_zero, List.set_cons_succ]
    refine g_look rfl rfl ?_ (fun w' hC => ?_) ?_
    rotate_left
    · go_simp
      first | done | rfl
    simp only [Act.put, List.setIfInBounds_toArray, List.set_cons_zero, List.set_cons_succ]
    refine g_alloc (stays_good _ _) (.cells #[.int .u64 0, .int .u64 0] 25) rfl rfl (fun w' hC => ?_) (fun gp tp np => ?_)
    · clear hC
      go_simp
      first | done | rfl | exact ⟨rfl, rfl⟩
    clear np
    replace tp := Lib.hid tp
    simp only [Act.put, List.setIfInBounds_toArray, List.set_cons_zero, List.set_cons_succ]
    refine g_store gp (some 5) 25 25 _ _ #[.int .u64 0, .int .u64 0] #[.int .u64 a0, .int .u64 b0] rfl rfl rfl rfl rfl (own_new _ _ _ _) (by kernel_rfl) (rfl) (rfl) (one25 _ _) ?_
    simp only [Act.put]
    refine g_look rfl rfl ?_ (fun w' hC => ?_) ?_
    rotate_left
    · go_simp
      first | done | rfl
    simp only [Act.put, List.setIfInBounds_toArray, List.set_cons_zero, List.set_cons_succ]
    refine g_end ?_
    intro w5 hC5 hh5
    have S5 : Hid (Stays [(gx, Obj.cells #[.int .u64 a0, .int .u64 b0] 25 (0, 0)), (gp, Obj.cells #[.int .u64 a0, .int .u64 b0] 25 (0, 0))] w w5) := Lib.hid (stays_cons (stays_row hC5 (List.mem_cons_self ..)) (stays_cons ((hh5 _ _ _ (own_new _ _ _ _)).1) (stays_nil (stays_below hC5))))
    clear S4
    clear hC5 hh5
    go_upto_region 7 with fail
    refine reg_plain (Stays [(gx, Obj.cells #[.int .u64 a0, .int .u64 b0] 25 (0, 0)), (gp, Obj.cells #[.int .u64 a0, .int .u64 b0] 25 (0, 0))] w) (Turns [(gx, Obj.cells #[.int .u64 a0, .int .u64 b0] 25 (0, 0)), (gp, Obj.cells #[.int .u64 a0, .int .u64 b0] 25 (0, 0))] w) (kdOf [(1, .make (fun _ => callM (.tuple #[.agg #[.int .u64 a0, .int .u64 b0], .int .i64 0]))), (5, .make (fun _ => allocM (.cells #[.int .u64 0, .int .u64 0] 25))), (6, .touch)]) none0 (stays_good _ _) (S5.out) (holds0 _) ?_
    refine g_look rfl rfl ?_ (fun w' hC => ?_) ?_
    rotate_left
    · go_simp
      first | done | rfl
    simp only [Act.put, List.setIfInBounds_toArray, List.set_cons_zero, List.set_cons_succ]
    refine g_call (stays_good _ _) (.tuple #[.agg #[.int .u64 a0, .int .u64 b0], .int .i64 0]) rfl rfl (fun w' hC => ?_) ?_
    · clear hC
      go_simp
      refine (parse_any _ t HL2.out).mono (fun e w2 h => ?_)
      obtain ⟨h1, h2⟩ := h
      rw [HP2.out] at h1
      exact gives h1 h2
    simp only [Act.put, List.setIfInBounds_toArray, List.set_cons_zero, List.set_cons_succ]
    refine g_look rfl rfl ?_ (fun w' hC => ?_) ?_
    rotate_left
    · go_simp
      first | done | rfl
    simp only [Act.put, List.setIfInBounds_toArray, List.set_cons_zero, List.set_cons_succ]
    refine g_look rfl rfl ?_ (fun w' hC => ?_) ?_
    rotate_left
    · go_simp
      first | done | rfl
    simp only [Act.put, List.setIfInBounds_toArray, List.set_cons_zero, List.set_cons_succ]
    refine g_look rfl rfl ?_ (fun w' hC => ?_) ?_
    rotate_left
    · go_simp
      first | done | rfl
    simp only [Act.put, List.setIfInBounds_toArray, List.set_cons_zero, List.set_cons_succ]
    refine g_alloc (stays_good _ _) (.cells #[.int .u64 0, .int .u64 0] 25) rfl rfl (fun w' hC => ?_) (fun gq tq nq => ?_)
    · clear hC
      go_simp
      first | done | rfl | exact ⟨rfl, rfl⟩
    clear nq
    replace tq := Lib.hid tq
    simp only [Act.put, List.setIfInBounds_toArray, List.set_cons_zero, List.set_cons_succ]
    refine g_store gq (some 5) 25 25 _ _ #[.int .u64 0, .int .u64 0] #[.int .u64 a0, .int .u64 b0] rfl rfl rfl rfl rfl (own_new _ _ _ _) (by kernel_rfl) (rfl) (rfl) (one25 _ _) ?_
    simp only [Act.put]
    refine g_look rfl rfl ?_ (fun w' hC => ?_) ?_
    rotate_left
    · go_simp
      first | done | rfl
    simp only [Act.put, List.setIfInBounds_toArray, List.set_cons_zero, List.set_cons_succ]
    refine g_end ?_
    intro w6 hC6 hh6
    have S6 : Hid (Stays [(gx, Obj.cells #[.int .u64 a0, .int .u64 b0] 25 (0, 0)), (gp, Obj.cells #[.int .u64 a0, .int .u64 b0] 25 (0, 0)), (gq, Obj.cells #[.int .u64 a0, .int .u64 b0] 25 (0, 0))] w w6) := Lib.hid (stays_cons (stays_row hC6 (List.mem_cons_self ..)) (stays_cons (stays_row hC6 (List.mem_cons_of_mem _ (List.mem_cons_self ..))) (stays_cons ((hh6 _ _ _ (own_new _ _ _ _)).1) (stays_nil (stays_below hC6)))))
    clear S5
    clear hC6 hh6
    go_upto_region 8 with fail
    refine reg_plain (Stays [(gx, Obj.cells #[.int .u64 a0, .int .u64 b0] 25 (0, 0)), (gp, Obj.cells #[.int .u64 a0, .int .u64 b0] 25 (0, 0)), (gq, Obj.cells #[.int .u64 a0, .int .u64 b0] 25 (0, 0))] w) (Turns [(gx, Obj.cells #[.int .u64 a0, .int .u64 b0] 25 (0, 0)), (gp, Obj.cells #[.int .u64 a0, .int .u64 b0] 25 (0, 0)), (gq, Obj.cells #[.int .u64 a0, .int .u64 b0] 25 (0, 0))] w) (kdOf [(1, .make (fun _ => callM (.tuple #[.int .i64 (n : Int), .int .i64 0])))]) none0 (stays_good _ _) (S6.out) (holds0 _) ?_
    (refine g_load 25 _ gx 25 #[.int .u64 a0, .int .u64 b0] (0, 0) _ rfl rfl rfl rfl (fun w' hC => stays_row hC (List.mem_cons_self ..)) Try.underlying25 rfl (rfl) ?_)
    simp only [Act.put, List.setIfInBounds_toArray, List.set_cons_zero, List.set_cons_succ]
    refine g_call (stays_good _ _) (.tuple #[.int .i64 (n : Int), .int .i64 0]) rfl rfl (fun w' hC => ?_) ?_
    · clear hC
      go_simp
      refine (units_any _ a0 b0 X HX.out HA.out HB.out HM.out HCU.out).mono (fun e w2 h => ?_)
      obtain ⟨h1, h2⟩ := h
      rw [HN.out] at h1
      exact gives h1 h2
    simp only [Act.put, List.setIfInBounds_toArray, List.set_cons_zero, List.set_cons_succ]
    refine g_look rfl rfl ?_ (fun w' hC => ?_) ?_
    rotate_left
    · go_simp
      first | done | rfl
    simp only [Act.put, List.setIfInBounds_toArray, List.set_cons_zero, List.set_cons_succ]
    refine g_look rfl rfl ?_ (fun w' hC => ?_) ?_
    rotate_left
    · go_simp
      first | done | rfl
    simp only [Act.put, List.setIfInBounds_toArray, List.set_cons_zero, List.set_cons_succ]
    refine g_look rfl rfl ?_ (fun w' hC => ?_) ?_
    rotate_left
    · go_simp
      first | done | rfl
    simp only [Act.put, List.setIfInBounds_toArray, List.set_cons_zero, List.set_cons_succ]
    refine g_look rfl rfl ?_ (fun w' hC => ?_) ?_
    rotate_left
    · go_simp
      first | done | rfl
    simp only [Act.put, List.setIfInBounds_toArray, List.set_cons_zero, List.set_cons_succ]
    refine g_look rfl rfl ?_ (fun w' hC => ?_) ?_
    rotate_left
    · go_simp
      first | done | rfl
    simp only [Act.put, List.setIfInBounds_toArray, List.set_cons_zero, List.set_cons_succ]
    refine g_end ?_
    intro w7 hC7 hh7
    have S7 : Hid (Stays [(gx, Obj.cells #[.int .u64 a0, .int .u64 b0] 25 (0, 0)), (gp, Obj.cells #[.int .u64 a0, .int .u64 b0] 25 (0, 0)), (gq, Obj.cells #[.int .u64 a0, .int .u64 b0] 25 (0, 0))] w w7) := Lib.hid (stays_cons (stays_row hC7 (List.mem_cons_self ..)) (stays_cons (stays_row hC7 (List.mem_cons_of_mem _ (List.mem_cons_self ..))) (stays_cons (stays_row hC7 (List.mem_cons_of_mem _ (List.mem_cons_of_mem _ (List.mem_cons_self ..)))) (stays_nil (stays_below hC7)))))
    clear S6
    clear hC7 hh7
    go_upto_region 9 with fail
    refine reg_plain (Stays [(gx, Obj.cells #[.int .u64 a0, .int .u64 b0] 25 (0, 0)), (gp, Obj.cells #[.int .u64 a0, .int .u64 b0] 25 (0, 0)), (gq, Obj.cells #[.int .u64 a0, .int .u64 b0] 25 (0, 0))] w) (Turns [(gx, Obj.cells #[.int .u64 a0, .int .u64 b0] 25 (0, 0)), (gp, Obj.cells #[.int .u64 a0, .int .u64 b0] 25 (0, 0)), (gq, Obj.cells #[.int .u64 a0, .int .u64 b0] 25 (0, 0))] w) (kdOf []) none0 (stays_good _ _) (S7.out) (holds0 _) ?_
    refine g_look rfl rfl ?_ (fun w' hC => ?_) ?_
    rotate_left
    · go_simp
      first | done | rfl
    simp only [Act.put, List.setIfInBounds_toArray, List.set_cons_zero, List.set_cons_succ]
    refine g_look rfl rfl ?_ (fun w' hC => ?_) ?_
    rotate_left
    · go_simp
      first | done | rfl
    simp only [Act.put, List.setIfInBounds_toArray, List.set_cons_zero, List.set_cons_succ]
    refine g_look rfl rfl ?_ (fun w' hC => ?_) ?_
    rotate_left
    · go_simp
      first | done | rfl
    simp only [Act.put, List.setIfInBounds_toArray, List.set_cons_zero, List.set_cons_succ]
    first
    | (refine g_skip rfl ?_)
    | (refine g_look rfl rfl ?_ (fun w' hC => ?_) ?_
       rotate_left
       · go_simp
         first | done | rfl)
    simp only [Act.put, List.setIfInBounds_toArray, List.set_cons_zero, List.set_cons_succ]
    first
    | (refine g_skip rfl ?_)
    | (refine g_look rfl rfl ?_ (fun w' hC => ?_) ?_
       rotate_left
       · go_simp
         first | done | rfl)
    simp only [Act.put, List.setIfInBounds_toArray, List.set_cons_zero, List.set_cons_succ]
    refine g_look rfl rfl ?_ (fun w' hC => ?_) ?_
    rotate_left
    · go_simp
      first | done | rfl
    simp only [Act.put, List.setIfInBounds_toArray, List.set_cons_zero, List.set_cons_succ]
    refine g_look rfl rfl ?_ (fun w' hC => ?_) ?_
    rotate_left
    · go_simp
      first | done | rfl
    simp only [Act.put, List.setIfInBounds_toArray, List.set_cons_zero, List.set_cons_succ]
    first
    | (refine g_skip rfl ?_)
    | (refine g_look rfl rfl ?_ (fun w' hC => ?_) ?_
       rotate_left
       · go_simp
         first | done | rfl)
    simp only [Act.put, List.setIfInBounds_toArray, List.set_cons_zero, List.set_cons_succ]
    first
    | (refine g_skip rfl ?_)
    | (refine g_look rfl rfl ?_ (fun w' hC => ?_) ?_
       rotate_left
       · go_simp
         first | done | rfl)
    simp only [Act.put, List.setIfInBounds_toArray, List.set_cons_zero, List.set_cons_succ]
    refine g_look rfl rfl ?_ (fun w' hC => ?_) ?_
    rotate_left
    · go_simp
      first | done | rfl
    simp only [Act.put, List.setIfInBounds_toArray, List.set_cons_zero, List.set_cons_succ]
    refine g_look rfl rfl ?_ (fun w' hC => ?_) ?_
    rotate_left
    · go_simp
      first | done | rfl
    simp only [Act.put, List.setIfInBounds_toArray, List.set_cons_zero, List.set_cons_succ]
    first | (refine g_skip rfl ?_) | (refine g_load 25 _ gp 25 #[.int .u64 a0, .int .u64 b0] (0, 0) _ rfl rfl rfl rfl (fun w' hC => stays_row hC (List.mem_cons_of_mem _ (List.mem_cons_self ..))) Try.underlying25 rfl (rfl) ?_)
    simp only [Act.put, List.setIfInBounds_toArray, List.set_cons_zero, List.set_cons_succ]
    first | (refine g_skip rfl ?_) | (refine g_load 25 _ gx 25 #[.int .u64 a0, .int .u64 b0] (0, 0) _ rfl rfl rfl rfl (fun w' hC => stays_row hC (List.mem_cons_self ..)) Try.underlying25 rfl (rfl) ?_)
    simp only [Act.put, List.setIfInBounds_toArray, List.set_cons_zero, List.set_cons_succ]
    first
    | (refine g_skip rfl ?_)
    | (refine g_look rfl rfl ?_ (fun w' hC => ?_) ?_
       rotate_left
       · go_simp
         first | done | rfl)
    simp only [Act.put, List.setIfInBounds_toArray, List.set_cons_zero, List.set_cons_succ]
    refine g_look rfl rfl ?_ (fun w' hC => ?_) ?_
    rotate_left
    · go_simp
      first | done | rfl
    simp only [Act.put, List.setIfInBounds_toArray, List.set_cons_zero, List.set_cons_succ]
    refine g_look rfl rfl ?_ (fun w' hC => ?_) ?_
    rotate_left
    · go_simp
      first | done | rfl
    simp only [Act.put, List.setIfInBounds_toArray, List.set_cons_zero, List.set_cons_succ]
    first | (refine g_skip rfl ?_) | (refine g_load 25 _ gq 25 #[.int .u64 a0, .int .u64 b0] (0, 0) _ rfl rfl rfl rfl (fun w' hC => stays_row hC (List.mem_cons_of_mem _ (List.mem_cons_of_mem _ (List.mem_cons_self ..)))) Try.underlying25 rfl (rfl) ?_)
    simp only [Act.put, List.setIfInBounds_toArray, List.set_cons_zero, List.set_cons_succ]
    first | (refine g_skip rfl ?_) | (refine g_load 25 _ gx 25 #[.int .u64 a0, .int .u64 b0] (0, 0) _ rfl rfl rfl rfl (fun w' hC => stays_row hC (List.mem_cons_self ..)) Try.underlying25 rfl (rfl) ?_)
    simp only [Act.put, List.setIfInBounds_toArray, List.set_cons_zero, List.set_cons_succ]
    first
    | (refine g_skip rfl ?_)
    | (refine g_look rfl rfl ?_ (fun w' hC => ?_) ?_
       rotate_left
       · go_simp
         first | done | rfl)
    simp only [Act.put, List.setIfInBounds_toArray, List.set_cons_zero, List.set_cons_succ]
    refine g_look rfl rfl ?_ (fun w' hC => ?_) ?_
    rotate_left
    · go_simp
      first | done | rfl
    simp only [Act.put, List.setIfInBounds_toArray, List.set_cons_zero, List.set_cons_succ]
    refine g_end ?_
    intro w8 hC8 hh8
    have S8 : Hid (Stays [(gx, Obj.cells #[.int .u64 a0, .int .u64 b0] 25 (0, 0)), (gp, Obj.cells #[.int .u64 a0, .int .u64 b0] 25 (0, 0)), (gq, Obj.cells #[.int .u64 a0, .int .u64 b0] 25 (0, 0))] w w8) := Lib.hid (stays_cons (stays_row hC8 (List.mem_cons_self ..)) (stays_cons (stays_row hC8 (List.mem_cons_of_mem _ (List.mem_cons_self ..))) (stays_cons (stays_row hC8 (List.mem_cons_of_mem _ (List.mem_cons_of_mem _ (List.mem_cons_self ..)))) (stays_nil (stays_below hC8)))))
    clear S7
    clear hC8 hh8
    go_upto_region 11 with fail
    refine reg_plain (Stays [(gx, Obj.cells #[.int .u64 a0, .int .u64 b0] 25 (0, 0)), (gp, Obj.cells #[.int .u64 a0, .int .u64 b0] 25 (0, 0)), (gq, Obj.cells #[.int .u64 a0, .int .u64 b0] 25 (0, 0))] w) (Turns [(gx, Obj.cells #[.int .u64 a0, .int .u64 b0] 25 (0, 0)), (gp, Obj.cells #[.int .u64 a0, .int .u64 b0] 25 (0, 0)), (gq, Obj.cells #[.int .u64 a0, .int .u64 b0] 25 (0, 0))] w) (kdOf [(1, .make (fun _ => callM (.tuple #[.agg #[.int .u64 y1, .int .u64 y2], .int .i64 0]))), (5, .make (fun _ => allocM (.cells #[.int .u64 0, .int .u64 0] 25))), (6, .touch)]) none0 (stays_good _ _) (S8.out) (holds0 _) ?_
    refine g_look rfl rfl ?_ (fun w' hC => ?_) ?_
    rotate_left
    · go_simp
      first | done | rfl
    simp only [Act.put, List.setIfInBounds_toArray, List.set_cons_zero, List.set_cons_succ]
    refine g_call (stays_good _ _) (.tuple #[.agg #[.int .u64 y1, .int .u64 y2], .int .i64 0]) rfl rfl (fun w' hC => ?_) ?_
    · clear hC
      go_simp
      refine (of_units _ n HC.out).mono (fun e w2 h => ?_)
      obtain ⟨h1, h2⟩ := h
      rw [HOF.out] at h1
      exact gives h1 h2
    simp only [Act.put, List.setIfInBounds_toArray, List.set_cons_zero, List.set_cons_succ]
    refine g_look rfl rfl ?_ (fun w' hC => ?_) ?_
    rotate_left
    · go_simp
      first | done | rfl
    simp only [Act.put, List.setIfInBounds_toArray, List.set_cons_zero, List.set_cons_succ]
    refine g_look rfl rfl ?_ (fun w' hC => ?_) ?_
    rotate_left
    · go_simp
      first | done | rfl
    simp only [Act.put, List.setIfInBounds_toArray, List.set_cons_zero, List.set_cons_succ]
    refine g_look rfl rfl ?_ (fun w' hC => ?_) ?_
    rotate_left
    · go_simp
      first | done | rfl
    simp only [Act.put, List.setIfInBounds_toArray, List.set_cons_zero, List.set_cons_succ]
    refine g_alloc (stays_good _ _) (.cells #[.int .u64 0, .int .u64 0] 25) rfl rfl (fun w' hC => ?_) (fun gu tu nu => ?_)
    · clear hC
      go_simp
      first | done | rfl | exact ⟨rfl, rfl⟩
    clear nu
    replace tu := Lib.hid tu
    simp only [Act.put, List.setIfInBounds_toArray, List.set_cons_zero, List.set_cons_succ]
    refine g_store gu (some 5) 25 25 _ _ #[.int .u64 0, .int .u64 0] #[.int .u64 y1, .int .u64 y2] rfl rfl rfl rfl rfl (own_new _ _ _ _) (by kernel_rfl) (rfl) (rfl) (one25 _ _) ?_
    simp only [Act.put]
    refine g_look rfl rfl ?_ (fun w' hC => ?_) ?_
    rotate_left
    · go_simp
      first | done | rfl
    simp only [Act.put, List.setIfInBounds_toArray, List.set_cons_zero, List.set_cons_succ]
    refine g_end ?_
    intro w9 hC9 hh9
    have S9 : Hid (Stays [(gx, Obj.cells #[.int .u64 a0, .int .u64 b0] 25 (0, 0)), (gp, Obj.cells #[.int .u64 a0, .int .u64 b0] 25 (0, 0)), (gq, Obj.cells #[.int .u64 a0, .int .u64 b0] 25 (0, 0)), (gu, Obj.cells #[.int .u64 y1, .int .u64 y2] 25 (0, 0))] w w9) := Lib.hid (stays_cons (stays_row hC9 (List.mem_cons_self ..)) (stays_cons (stays_row hC9 (List.mem_cons_of_mem _ (List.mem_cons_self ..))) (stays_cons (stays_row hC9 (List.mem_cons_of_mem _ (List.mem_cons_of_mem _ (List.mem_cons_self ..)))) (stays_cons ((hh9 _ _ _ (own_new _ _ _ _)).1) (stays_nil (stays_below hC9))))))
    clear S8
    clear hC9 hh9
    go_upto_region 12 with fail
    refine reg_plain (Stays [(gx, Obj.cells #[.int .u64 a0, .int .u64 b0] 25 (0, 0)), (gp, Obj.cells #[.int .u64 a0, .int .u64 b0] 25 (0, 0)), (gq, Obj.cells #[.int .u64 a0, .int .u64 b0] 25 (0, 0)), (gu, Obj.cells #[.int .u64 y1, .int .u64 y2] 25 (0, 0))] w) (Turns [(gx, Obj.cells #[.int .u64 a0, .int .u64 b0] 25 (0, 0)), (gp, Obj.cells #[.int .u64 a0, .int .u64 b0] 25 (0, 0)), (gq, Obj.cells #[.int .u64 a0, .int .u64 b0] 25 (0, 0)), (gu, Obj.cells #[.int .u64 y1, .int .u64 y2] 25 (0, 0))] w) (kdOf [(2, .make (fun _ => callM (.tuple #[.agg #[.int .u64 0, .int .u64 d], .bool true]))), (6, .make (fun _ => allocM (.cells #[.int .u64 0, .int .u64 0] 25))), (7, .touch)]) none0 (stays_good _ _) (S9.out) (holds0 _) ?_
    (refine g_load 25 _ gu 25 #[.int .u64 y1, .int .u64 y2] (0, 0) _ rfl rfl rfl rfl (fun w' hC => stays_row hC (List.mem_cons_of_mem _ (List.mem_cons_of_mem _ (List.mem_cons_of_mem _ (List.mem_cons_self ..))))) Try.underlying25 rfl (rfl) ?_)
    simp only [Act.put, List.setIfInBounds_toArray, List.set_cons_zero, List.set_cons_succ]
    (refine g_load 25 _ gx 25 #[.int .u64 a0, .int .u64 b0] (0, 0) _ rfl rfl rfl rfl (fun w' hC => stays_row hC (List.mem_cons_self ..)) Try.underlying25 rfl (rfl) ?_)
    simp only [Act.put, List.setIfInBounds_toArray, List.set_cons_zero, List.set_cons_succ]
    refine g_call (stays_good _ _) (.tuple #[.agg #[.int .u64 0, .int .u64 d], .bool true]) rfl rfl (fun w' hC => ?_) ?_
    · clear hC
      go_simp
      refine (sub_any _ y1 y2 a0 b0 HY1.out HY2.out HA.out HB.out).mono (fun e w2 h => ?_)
      obtain ⟨h1, h2⟩ := h
      rw [HSUB.out] at h1
      exact gives h1 h2
    simp only [Act.put, List.setIfInBounds_toArray, List.set_cons_zero, List.set_cons_succ]
    refine g_look rfl rfl ?_ (fun w' hC => ?_) ?_
    rotate_left
    · go_simp
      first | done | rfl
    simp only [Act.put, List.setIfInBounds_toArray, List.set_cons_zero, List.set_cons_succ]
    refine g_look rfl rfl ?_ (fun w' hC => ?_) ?_
    rotate_left
    · go_simp
      first | done | rfl
    simp only [Act.put, List.setIfInBounds_toArray, List.set_cons_zero, List.set_cons_succ]
    refine g_look rfl rfl ?_ (fun w' hC => ?_) ?_
    rotate_left
    · go_simp
      first | done | rfl
    simp only [Act.put, List.setIfInBounds_toArray, List.set_cons_zero, List.set_cons_succ]
    refine g_alloc (stays_good _ _) (.cells #[.int .u64 0, .int .u64 0] 25) rfl rfl (fun w' hC => ?_) (fun gv tv nv => ?_)
    · clear hC
      go_simp
      first | done | rfl | exact ⟨rfl, rfl⟩
    clear nv
    replace tv := Lib.hid tv
    simp only [Act.put, List.setIfInBounds_toArray, List.set_cons_zero, List.set_cons_succ]
    refine g_store gv (some 6) 25 25 _ _ #[.int .u64 0, .int .u64 0] #[.int .u64 0, .int .u64 d] rfl rfl rfl rfl rfl (own_new _ _ _ _) (by kernel_rfl) (rfl) (rfl) (one25 _ _) ?_
    simp only [Act.put]
    refine g_look rfl rfl ?_ (fun w' hC => ?_) ?_
    rotate_left
    · go_simp
      first | done | rfl
    simp only [Act.put, List.setIfInBounds_toArray, List.set_cons_zero, List.set_cons_succ]
    refine g_end ?_
    intro w10 hC10 hh10
    have S10 : Hid (Stays [(gx, Obj.cells #[.int .u64 a0, .int .u64 b0] 25 (0, 0)), (gp, Obj.cells #[.int .u64 a0, .int .u64 b0] 25 (0, 0)), (gq, Obj.cells #[.int .u64 a0, .int .u64 b0] 25 (0, 0)), (gu, Obj.cells #[.int .u64 y1, .int .u64 y2] 25 (0, 0)), (gv, Obj.cells #[.int .u64 0, .int .u64 d] 25 (0, 0))] w w10) := Lib.hid (stays_cons (stays_row hC10 (List.mem_cons_self ..)) (stays_cons (stays_row hC10 (List.mem_cons_of_mem _ (List.mem_cons_self ..))) (stays_cons (stays_row hC10 (List.mem_cons_of_mem _ (List.mem_cons_of_mem _ (List.mem_cons_self ..)))) (stays_cons (stays_row hC10 (List.mem_cons_of_mem _ (List.mem_cons_of_mem _ (List.mem_cons_of_mem _ (List.mem_cons_self ..))))) (stays_cons ((hh10 _ _ _ (own_new _ _ _ _)).1) (stays_nil (stays_below hC10)))))))
    clear S9
    clear hC10 hh10
    go_upto_region 13 with fail
    refine reg (Stays [(gx, Obj.cells #[.int .u64 a0, .int .u64 b0] 25 (0, 0)), (gp, Obj.cells #[.int .u64 a0, .int .u64 b0] 25 (0, 0)), (gq, Obj.cells #[.int .u64 a0, .int .u64 b0] 25 (0, 0)), (gu, Obj.cells #[.int .u64 y1, .int .u64 y2] 25 (0, 0)), (gv, Obj.cells #[.int .u64 0, .int .u64 d] 25 (0, 0))] w) (Turns [(gx, Obj.cells #[.int .u64 a0, .int .u64 b0] 25 (0, 0)), (gp, Obj.cells #[.int .u64 a0, .int .u64 b0] 25 (0, 0)), (gq, Obj.cells #[.int .u64 a0, .int .u64 b0] 25 (0, 0)), (gu, Obj.cells #[.int .u64 y1, .int .u64 y2] 25 (0, 0)), (gv, Obj.cells #[.int .u64 0, .int .u64 d] 25 (0, 0))] w) (kdOf [(3, .make (fun _ => callM (.agg #[.int .u64 0, .int .u64 1000000000]))), (4, .make (fun _ => callM (.int .i64 (-1))))]) none0 (stays_good _ _) (by kernel_rfl) (by kernel_rfl) (stays_drew (S10.out)) (holds0 _) ?_
    refine g_look rfl rfl ?_ (fun w' hC => ?_) ?_
    rotate_left
    · go_simp
      first | done | rfl
    simp only [Act.put, List.setIfInBounds_toArray, List.set_cons_zero, List.set_cons_succ]
    refine g_look rfl rfl ?_ (fun w' hC => ?_) ?_
    rotate_left
    · go_simp
      first | done | rfl
    simp only [Act.put, List.setIfInBounds_toArray, List.set_cons_zero, List.set_cons_succ]
    first | (refine g_skip rfl ?_) | (refine g_load 25 _ gv 25 #[.int .u64 0, .int .u64 d] (0, 0) _ rfl rfl rfl rfl (fun w' hC => stays_row hC (List.mem_cons_of_mem _ (List.mem_cons_of_mem _ (List.mem_cons_of_mem _ (List.mem_cons_of_mem _ (List.mem_cons_self ..)))))) Try.underlying25 rfl (rfl) ?_)
    simp only [Act.put, List.setIfInBounds_toArray, List.set_cons_zero, List.set_cons_succ]
    refine g_call (stays_good _ _) (.agg #[.int .u64 0, .int .u64 1000000000]) rfl rfl (fun w' hC => ?_) ?_
    · clear hC
      go_simp
      refine (of1_any _ 1000000000).mono (fun e w2 h => ?_)
      obtain ⟨h1, h2⟩ := h
      exact gives h1 h2
    simp only [Act.put, List.setIfInBounds_toArray, List.set_cons_zero, List.set_cons_succ]
    refine g_call (stays_good _ _) (.int .i64 (-1)) rfl rfl (fun w' hC => ?_) ?_
    · clear hC
      go_simp
      refine (compare_any _ 0 d 0 1000000000 u_zero HD.out u_zero (by unfold U; decide)).mono (fun e w2 h => ?_)
      obtain ⟨h1, h2⟩ := h
      rw [HCMP.out] at h1
      exact gives h1 h2
    simp only [Act.put, List.setIfInBounds_toArray, List.set_cons_zero, List.set_cons_succ]
    first
    | (refine g_skip rfl ?_)
    | (refine g_look rfl rfl ?_ (fun w' hC => ?_) ?_
       rotate_left
       · go_simp
         first | done | rfl)
    simp only [Act.put, List.setIfInBounds_toArray, List.set_cons_zero, List.set_cons_succ]
    refine g_look rfl rfl ?_ (fun w' hC => ?_) ?_
    rotate_left
    · go_simp
      first | done | rfl
    simp only [Act.put, List.setIfInBounds_toArray, List.set_cons_zero, List.set_cons_succ]
    refine g_look rfl rfl ?_ (fun w' hC => ?_) ?_
    rotate_left
    · go_simp
      first | done | rfl
    simp only [Act.put, List.setIfInBounds_toArray, List.set_cons_zero, List.set_cons_succ]
    refine g_end ?_
    intro w11 hC11 hh11
    have S11 : Hid (Stays [(gx, Obj.cells #[.int .u64 a0, .int .u64 b0] 25 (0, 0)), (gp, Obj.cells #[.int .u64 a0, .int .u64 b0] 25 (0, 0)), (gq, Obj.cells #[.int .u64 a0, .int .u64 b0] 25 (0, 0)), (gu, Obj.cells #[.int .u64 y1, .int .u64 y2] 25 (0, 0)), (gv, Obj.cells #[.int .u64 0, .int .u64 d] 25 (0, 0))] w w11) := Lib.hid (stays_cons (stays_row hC11 (List.mem_cons_self ..)) (stays_cons (stays_row hC11 (List.mem_cons_of_mem _ (List.mem_cons_self ..))) (stays_cons (stays_row hC11 (List.mem_cons_of_mem _ (List.mem_cons_of_mem _ (List.mem_cons_self ..)))) (stays_cons (stays_row hC11 (List.mem_cons_of_mem _ (List.mem_cons_of_mem _ (List.mem_cons_of_mem _ (List.mem_cons_self ..))))) (stays_cons (stays_row hC11 (List.mem_cons_of_mem _ (List.mem_cons_of_mem _ (List.mem_cons_of_mem _ (List.mem_cons_of_mem _ (List.mem_cons_self ..)))))) (stays_nil (stays_below hC11)))))))
    clear S10
    clear hC11 hh11
    go_wp2_with fail
    refine bodyPost_ret (v := .bool true) (by simp [results, Try.results6, go_sem]) rfl ⟨rfl, stays_below S11.out⟩
  · obtain ⟨h1, h2⟩ := none_most hm
    have HS2 := Lib.hid h1
    have HT2 := Lib.hid h2
    clear h1 h2 hX ha hb hs ht hm
    go_enter Try.func6, Try.ntmps6
    go_upto_region 0 with fail
    refine reg_plain (Stays [] w) (Turns [] w) (kdOf [(0, .make (fun _ => allocM (.cells #[.int .u64 a0, .int .u64 b0] 25)))]) none0 (stays_good _ _) (S0.out) (holds0 _) ?_
    refine g_alloc (stays_good _ _) (.cells #[.int .u64 a0, .int .u64 b0] 25) rfl rfl (fun w' hC => ?_) (fun gx tx nx => ?_)
    · clear hC
      go_simp
      first | done | rfl | exact ⟨rfl, rfl⟩
    clear nx
    replace tx := Lib.hid tx
    simp only [Act.put, List.setIfInBounds_toArray, List.set_cons_zero, List.set_cons_succ]
    refine g_look rfl rfl ?_ (fun w' hC => ?_) ?_
    rotate_left
    · go_simp
      first | done | rfl
    simp only [Act.put, List.setIfInBounds_toArray, List.set_cons_zero, List.set_cons_succ]
    refine g_end ?_
    intro w1 hC1 hh1
    have S1 : Hid (Stays [(gx, Obj.cells #[.int .u64 a0, .int .u64 b0] 25 (0, 0))] w w1) := Lib.hid (stays_cons ((hh1 _ _ _ (own_new _ _ _ _)).1) (stays_nil (stays_below hC1)))
    clear hC1 hh1
    go_upto_region 1 with fail
    refine reg_plain (Stays [(gx, Obj.cells #[.int .u64 a0, .int .u64 b0] 25 (0, 0))] w) (Turns [(gx, Obj.cells #[.int .u64 a0, .int .u64 b0] 25 (0, 0))] w) (kdOf [(0, .make (fun _ => callM (.bool true)))]) none0 (stays_good _ _) (S1.out) (holds0 _) ?_
    refine g_call (stays_good _ _) (.bool true) rfl rfl (fun w' hC => ?_) ?_
    · clear hC
      go_simp
      refine (first_any _).mono (fun e w2 h => ?_)
      obtain ⟨h1, h2⟩ := h
      exact gives h1 h2
    simp only [Act.put, List.setIfInBounds_toArray, List.set_cons_zero, List.set_cons_succ]
    refine g_look rfl rfl ?_ (fun w' hC => ?_) ?_
    rotate_left
    · go_simp
      first | done | rfl
    simp only [Act.put, List.setIfInBounds_toArray, List.set_cons_zero, List.set_cons_succ]
    refine g_end ?_
    intro w2 hC2 hh2
    have S2 : Hid (Stays [(gx, Obj.cells #[.int .u64 a0, .int .u64 b0] 25 (0, 0))] w w2) := Lib.hid (stays_cons (stays_row hC2 (List.mem_cons_self ..)) (stays_nil (stays_below hC2)))
    clear S1
    clear hC2 hh2
    go_upto_region 3 with fail
    refine reg (Stays [(gx, Obj.cells #[.int .u64 a0, .int .u64 b0] 25 (0, 0))] w) (Turns [(gx, Obj.cells #[.int .u64 a0, .int .u64 b0] 25 (0, 0))] w) (kdOf [(1, .make (fun _ => callM (.string ⟨#[]⟩))), (3, .make (fun _ => callM (.string ⟨#[]⟩)))]) none0 (stays_good _ _) (by kernel_rfl) (by kernel_rfl) (stays_drew (S2.out)) (holds0 _) ?_
    (refine g_load 25 _ gx 25 #[.int .u64 a0, .int .u64 b0] (0, 0) _ rfl rfl rfl rfl (fun w' hC => stays_row hC (List.mem_cons_self ..)) Try.underlying25 rfl (rfl) ?_)
    simp only [Act.put, List.setIfInBounds_toArray, List.set_cons_zero, List.set_cons_succ]
    refine g_call (stays_good _ _) (.string ⟨#[]⟩) rfl rfl (fun w' hC => ?_) ?_
    · clear hC
      go_simp
      refine (atext_any _ a0 b0 X HX.out HA.out HB.out).mono (fun e w2 h => ?_)
      obtain ⟨h1, h2⟩ := h
      rw [HS2.out] at h1
      exact gives h1 h2
    simp only [Act.put, List.setIfInBounds_toArray, List.set_cons_zero, List.set_cons_succ]
    (refine g_load 25 _ gx 25 #[.int .u64 a0, .int .u64 b0] (0, 0) _ rfl rfl rfl rfl (fun w' hC => stays_row hC (List.mem_cons_self ..)) Try.underlying25 rfl (rfl) ?_)
    simp only [Act.put, List.setIfInBounds_toArray, List.set_cons_zero, List.set_cons_succ]
    refine g_call (stays_good _ _) (.string ⟨#[]⟩) rfl rfl (fun w' hC => ?_) ?_
    · clear hC
      go_simp
      refine (abin_any _ a0 b0 X HX.out HA.out HB.out).mono (fun e w2 h => ?_)
      obtain ⟨h1, h2⟩ := h
      rw [HT2.out] at h1
      exact gives h1 h2
    simp only [Act.put, List.setIfInBounds_toArray, List.set_cons_zero, List.set_cons_succ]
    refine g_look rfl rfl ?_ (fun w' hC => ?_) ?_
    rotate_left
    · go_simp
      first | done | rfl
    simp only [Act.put, List.setIfInBounds_toArray, List.set_cons_zero, List.set_cons_succ]
    refine g_look rfl rfl ?_ (fun w' hC => ?_) ?_
    rotate_left
    · go_simp
      first | done | rfl
    simp only [Act.put, List.setIfInBounds_toArray, List.set_cons_zero, List.set_cons_succ]
    refine g_end ?_
    intro w3 hC3 hh3
    have S3 : Hid (Stays [(gx, Obj.cells #[.int .u64 a0, .int .u64 b0] 25 (0, 0))] w w3) := Lib.hid (stays_cons (stays_row hC3 (List.mem_cons_self ..)) (stays_nil (stays_below hC3)))
    clear S2
    clear hC3 hh3
    go_upto_region 4 with fail
    refine reg_plain (Stays [(gx, Obj.cells #[.int .u64 a0, .int .u64 b0] 25 (0, 0))] w) (Turns [(gx, Obj.cells #[.int .u64 a0, .int .u64 b0] 25 (0, 0))] w) (kdOf []) none0 (stays_good _ _) (S3.out) (holds0 _) ?_
    refine g_look rfl rfl ?_ (fun w' hC => ?_) ?_
    rotate_left
    · go_simp
      first | done | rfl
    simp only [Act.put, List.setIfInBounds_toArray, List.set_cons_zero, List.set_cons_succ]
    refine g_look rfl rfl ?_ (fun w' hC => ?_) ?_
    rotate_left
    · go_simp
      first | done | rfl
    simp only [Act.put, List.setIfInBounds_toArray, List.set_cons_zero, List.set_cons_succ]
    refine g_end ?_
    intro w4 hC4 hh4
    have S4 : Hid (Stays [(gx, Obj.cells #[.int .u64 a0, .int .u64 b0] 25 (0, 0))] w w4) := Lib.hid (stays_cons (stays_row hC4 (List.mem_cons_self ..)) (stays_nil (stays_below hC4)))
    clear S3
    clear hC4 hh4
    go_upto_region 5 with fail
    refine reg_plain (Stays [(gx, Obj.cells #[.int .u64 a0, .int .u64 b0] 25 (0, 0))] w) (Turns [(gx, Obj.cells #[.int .u64 a0, .int .u64 b0] 25 (0, 0))] w) (kdOf []) none0 (stays_good _ _) (S4.out) (holds0 _) ?_
    refine g_look rfl rfl ?_ (fun w' hC => ?_) ?_
    rotate_left
    · go_simp
      first | done | rfl
    simp only [Act.put, List.setIfInBounds_toArray, List.set_cons_zero, List.set_cons_succ]
    refine g_look rfl rfl ?_ (fun w' hC => ?_) ?_
    rotate_left
    · go_simp
      first | done | rfl
    simp only [Act.put, List.setIfInBounds_toArray, List.set_cons_zero, List.set_cons_succ]
    refine g_look rfl rfl ?_ (fun w' hC => ?_) ?_
    rotate_left
    · go_simp
      first | done | rfl
    simp only [Act.put, List.setIfInBounds_toArray, List.set_cons_zero, List.set_cons_succ]
    refine g_end ?_
    intro w5 hC5 hh5
    have S5 : Hid (Stays [(gx, Obj.cells #[.int .u64 a0, .int .u64 b0] 25 (0, 0))] w w5) := Lib.hid (stays_cons (stays_row hC5 (List.mem_cons_self ..)) (stays_nil (stays_below hC5)))
    clear S4
    clear hC5 hh5
    go_wp2_with fail
    refine bodyPost_ret (v := .bool true) (by simp [results, Try.results6, go_sem]) rfl ⟨rfl, stays_below S5.out⟩
end Go.Proofs.Ythpdfacdjgkmpaa.Wi
