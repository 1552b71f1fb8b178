/- What is answered ahead of everything else, by a walk. -/
import Derived.Test.YthpdfacdjgkmpaaEn
namespace Go.Proofs.Ythpdfacdjgkmpaa.Wi
open Go.RowKit K

attribute [local go_sem] lookTo stepTo Maker.step
attribute [local go_sem ↓] idxL st_size one_size st_list add_st
theorem p1 : parseV [49, 46, 53, 71, 105] = .tuple #[.agg #[.int .u64 0, .int .u64 1610612736000000000], .int .i64 0] := by kernel_rfl
theorem p2 : parseV [49, 48, 48, 109] = .tuple #[.agg #[.int .u64 0, .int .u64 100000000], .int .i64 0] := by kernel_rfl
theorem p3 : parseV [49, 101, 51] = .tuple #[.agg #[.int .u64 0, .int .u64 1000000000000], .int .i64 0] := by kernel_rfl
theorem p4 : parseV [49, 120] = .tuple #[.agg #[.int .u64 0, .int .u64 0], .int .i64 11] := by kernel_rfl
theorem dec_up {n : Nat} (h : ¬ n < 10) : Lib.decDigits n = Lib.decDigits (n / 10) ++ [UInt8.ofNat (48 + n % 10)] := by rw [Lib.decDigits, dif_neg h]
theorem p5 : binL 1610612736000000000 = [49, 53, 51, 54, 77, 105] := by
  have h1 : (((1610612736000000000 : Nat) : Int) ≤ Most ∧ 1610612736000000000 % 1000000000 = 0 ∧ 1610612736000000000 / 1000000000 ≠ 0 ∧ 1610612736000000000 / 1000000000 % 1024 = 0) := by unfold Most; decide
  have h2 : cutB 1024 6 (1610612736000000000 / 1000000000) = (1536, 2) := by kernel_rfl
  rw [binL, if_pos h1, h2]
  show Lib.decDigits 1536 ++ sufB 2 = _
  rw [dec_up (by decide), dec_up (by decide), dec_up (by decide), Lib.decDigits_one (by decide)]
  rfl
theorem p6 : textL 1000000000000 = [49, 107] := by
  have h1 : ((1000000000000 : Nat) : Int) ≤ Most := by unfold Most; decide
  have h2 : cutB 1000 9 1000000000000 = (1, 4) := by kernel_rfl
  rw [textL, if_pos h1, if_neg (by decide), h2]
  show Lib.decDigits 1 ++ sufK 4 = _
  rw [Lib.decDigits_one (by decide)]
  rfl
theorem p7 : textL 0 = [48] := by
  rw [textL, if_pos (by unfold Most; decide), if_pos rfl]
theorem p8 : wn ((1 * 1000000000 : Nat) : Int) = .agg #[.int .u64 0, .int .u64 1000000000] := by kernel_rfl
set_option maxHeartbeats 4000000 in
set_option maxRecDepth 100000 in
theorem first_any (w : World) : Calls Try.prog 7 #[] w (Ret w (.bool true)) := by
  have S0 : Hid (Stays [] w w) := Lib.hid (stays_nil (Below.refl _ _))
  have hm : Hid (∀ n : Nat, n ≤ 100 → n ≤ maxLen) := Lib.hid (by intro n h; unfold maxLen; omega)
  go_enter Try.func7, Try.ntmps7
  go_upto_region 0 with fail
  refine reg_plain (Stays [] w) (Turns [] w) (kdOf []) none0 (stays_good _ _) (S0.out) (holds0 _) ?_
  refine g_look rfl rfl ?_ (fun w' hC => ?_) ?_
  rotate_left
  · go_simp
    first | done | rfl
  simp only [Act.put, List.setIfInBounds_toArray, List.set_cons_zero]
  refine g_end ?_
  intro w1 hC1 hh1
  have S1 : Hid (Stays [] w w1) := Lib.hid (stays_nil (stays_below hC1))
  clear hC1 hh1
  go_upto_region 1 with fail
  refine reg_plain (Stays [] w) (Turns [] w) (kdOf [(0, .make (fun _ => callM (.tuple #[.agg #[.int .u64 0, .int .u64 1610612736000000000], .int .i64 0]))), (4, .make (fun _ => allocM (.cells #[.int .u64 0, .int .u64 0] 25))), (5, .touch)]) none0 (stays_good _ _) (S1.out) (holds0 _) ?_
  refine g_call (stays_good _ _) (.tuple #[.agg #[.int .u64 0, .int .u64 1610612736000000000], .int .i64 0]) rfl rfl (fun w' hC => ?_) ?_
  · clear hC
    go_simp
    refine (parse_any _ [49, 46, 53, 71, 105] (hm.out _ (by decide))).mono (fun e w2 h => ?_)
    obtain ⟨h1, h2⟩ := h
    rw [p1] at h1
    exact gives h1 h2
  simp only [Act.put, List.setIfInBounds_toArray, List.set_cons_zero, List.set_cons_succ]
  refine g_look rfl rfl ?_ (fun w' hC => ?_) ?_
  rotate_left
  · go_simp
    first | done | rfl
  simp only [Act.put, List.setIfInBounds_toArray, List.set_cons_zero, List.set_cons_succ]
  refine g_look rfl rfl ?_ (fun w' hC => ?_) ?_
  rotate_left
  · go_simp
    first | done | rfl
  simp only [Act.put, List.setIfInBounds_toArray, List.set_cons_zero, List.set_cons_succ]
  refine g_look rfl rfl ?_ (fun w' hC => ?_) ?_
  rotate_left
  · go_simp
    first | done | rfl
  simp only [Act.put, List.setIfInBounds_toArray, List.set_cons_zero, List.set_cons_succ]
  refine g_alloc (stays_good _ _) (.cells #[.int .u64 0, .int .u64 0] 25) rfl rfl (fun w' hC => ?_) (fun ga ta na => ?_)
  · clear hC
    go_simp
    first | done | rfl | exact ⟨rfl, rfl⟩
  clear na
  replace ta := Lib.hid ta
  simp only [Act.put, List.setIfInBounds_toArray, List.set_cons_zero, List.set_cons_succ]
  refine g_store ga (some 4) 25 25 _ _ #[.int .u64 0, .int .u64 0] #[.int .u64 0, .int .u64 1610612736000000000] rfl rfl rfl rfl rfl (own_new _ _ _ _) (by kernel_rfl) (rfl) (rfl) (one25 _ _) ?_
  simp only [Act.put]
  refine g_look rfl rfl ?_ (fun w' hC => ?_) ?_
  rotate_left
  · go_simp
    first | done | rfl
  simp only [Act.put, List.setIfInBounds_toArray, List.set_cons_zero, List.set_cons_succ]
  refine g_end ?_
  intro w2 hC2 hh2
  have S2 : Hid (Stays [(ga, Obj.cells #[.int .u64 0, .int .u64 1610612736000000000] 25 (0, 0))] w w2) := Lib.hid (stays_cons ((hh2 _ _ _ (own_new _ _ _ _)).1) (stays_nil (stays_below hC2)))
  clear S1
  clear hC2 hh2
  go_upto_region 2 with fail
  refine reg_plain (Stays [(ga, Obj.cells #[.int .u64 0, .int .u64 1610612736000000000] 25 (0, 0))] w) (Turns [(ga, Obj.cells #[.int .u64 0, .int .u64 1610612736000000000] 25 (0, 0))] w) (kdOf [(1, .make (fun _ => callM (.tuple #[.int .i64 1610612736, .int .i64 0])))]) none0 (stays_good _ _) (S2.out) (holds0 _) ?_
  (refine g_load 25 _ ga 25 #[.int .u64 0, .int .u64 1610612736000000000] (0, 0) _ rfl rfl rfl rfl (fun w' hC => stays_row hC (List.mem_cons_self ..)) Try.underlying25 rfl (rfl) ?_)
  simp only [Act.put, List.setIfInBounds_toArray, List.set_cons_zero, List.set_cons_succ]
  refine g_call (stays_good _ _) (.tuple #[.int .i64 1610612736, .int .i64 0]) rfl rfl (fun w' hC => ?_) ?_
  · clear hC
    go_simp
    refine (units_any _ 0 1610612736000000000 1610612736000000000 (by decide) (by unfold U; decide) (by unfold U; decide) (by unfold Most; decide) (by decide)).mono (fun e w2 h => ?_)
    obtain ⟨h1, h2⟩ := h
    exact gives h1 h2
  simp only [Act.put, List.setIfInBounds_toArray, List.set_cons_zero, List.set_cons_succ]
  refine g_look rfl rfl ?_ (fun w' hC => ?_) ?_
  rotate_left
  · go_simp
    first | done | rfl
  simp only [Act.put, List.setIfInBounds_toArray, List.set_cons_zero, List.set_cons_succ]
  refine g_look rfl rfl ?_ (fun w' hC => ?_) ?_
  rotate_left
  · go_simp
    first | done | rfl
  simp only [Act.put, List.setIfInBounds_toArray, List.set_cons_zero, List.set_cons_succ]
  refine g_look rfl rfl ?_ (fun w' hC => ?_) ?_
  rotate_left
  · go_simp
    first | done | rfl
  simp only [Act.put, List.setIfInBounds_toArray, List.set_cons_zero, List.set_cons_succ]
  refine g_look rfl rfl ?_ (fun w' hC => ?_) ?_
  rotate_left
  · go_simp
    first | done | rfl
  simp only [Act.put, List.setIfInBounds_toArray, List.set_cons_zero, List.set_cons_succ]
  refine g_look rfl rfl ?_ (fun w' hC => ?_) ?_
  rotate_left
  · go_simp
    first | done | rfl
  simp only [Act.put, List.setIfInBounds_toArray, List.set_cons_zero, List.set_cons_succ]
  refine g_end ?_
  intro w3 hC3 hh3
  have S3 : Hid (Stays [(ga, Obj.cells #[.int .u64 0, .int .u64 1610612736000000000] 25 (0, 0))] w w3) := Lib.hid (stays_cons (stays_row hC3 (List.mem_cons_self ..)) (stays_nil (stays_below hC3)))
  clear S2
  clear hC3 hh3
  go_upto_region 3 with fail
  refine reg_plain (Stays [(ga, Obj.cells #[.int .u64 0, .int .u64 1610612736000000000] 25 (0, 0))] w) (Turns [(ga, Obj.cells #[.int .u64 0, .int .u64 1610612736000000000] 25 (0, 0))] w) (kdOf [(0, .make (fun _ => callM (.tuple #[.agg #[.int .u64 0, .int .u64 100000000], .int .i64 0]))), (4, .make (fun _ => allocM (.cells #[.int .u64 0, .int .u64 0] 25))), (5, .touch)]) none0 (stays_good _ _) (S3.out) (holds0 _) ?_
  refine g_call (stays_good _ _) (.tuple #[.agg #[.int .u64 0, .int .u64 100000000], .int .i64 0]) rfl rfl (fun w' hC => ?_) ?_
  · clear hC
    go_simp
    refine (parse_any _ [49, 48, 48, 109] (hm.out _ (by decide))).mono (fun e w2 h => ?_)
    obtain ⟨h1, h2⟩ := h
    rw [p2] at h1
    exact gives h1 h2
  simp only [Act.put, List.setIfInBounds_toArray, List.set_cons_zero, List.set_cons_succ]
  refine g_look rfl rfl ?_ (fun w' hC => ?_) ?_
  rotate_left
  · go_simp
    first | done | rfl
  simp only [Act.put, List.setIfInBounds_toArray, List.set_cons_zero, List.set_cons_succ]
  refine g_look rfl rfl ?_ (fun w' hC => ?_) ?_
  rotate_left
  · go_simp
    first | done | rfl
  simp only [Act.put, List.setIfInBounds_toArray, List.set_cons_zero, List.set_cons_succ]
  refine g_look rfl rfl ?_ (fun w' hC => ?_) ?_
  rotate_left
  · go_simp
    first | done | rfl
  simp only [Act.put, List.setIfInBounds_toArray, List.set_cons_zero, List.set_cons_succ]
  refine g_alloc (stays_good _ _) (.cells #[.int .u64 0, .int .u64 0] 25) rfl rfl (fun w' hC => ?_) (fun gb tb nb => ?_)
  · clear hC
    go_simp
    first | done | rfl | exact ⟨rfl, rfl⟩
  clear nb
  replace tb := Lib.hid tb
  simp only [Act.put, List.setIfInBounds_toArray, List.set_cons_zero, List.set_cons_succ]
  refine g_store gb (some 4) 25 25 _ _ #[.int .u64 0, .int .u64 0] #[.int .u64 0, .int .u64 100000000] rfl rfl rfl rfl rfl (own_new _ _ _ _) (by kernel_rfl) (rfl) (rfl) (one25 _ _) ?_
  simp only [Act.put]
  refine g_look rfl rfl ?_ (fun w' hC => ?_) ?_
  rotate_left
  · go_simp
    first | done | rfl
  simp only [Act.put, List.setIfInBounds_toArray, List.set_cons_zero, List.set_cons_succ]
  refine g_end ?_
  intro w4 hC4 hh4
  have S4 : Hid (Stays [(ga, Obj.cells #[.int .u64 0, .int .u64 1610612736000000000] 25 (0, 0)), (gb, Obj.cells #[.int .u64 0, .int .u64 100000000] 25 (0, 0))] w w4) := Lib.hid (stays_cons (stays_row hC4 (List.mem_cons_self ..)) (stays_cons ((hh4 _ _ _ (own_new _ _ _ _)).1) (stays_nil (stays_below hC4))))
  clear S3
  clear hC4 hh4
  go_upto_region 4 with fail
  refine reg_plain (Stays [(ga, Obj.cells #[.int .u64 0, .int .u64 1610612736000000000] 25 (0, 0)), (gb, Obj.cells #[.int .u64 0, .int .u64 100000000] 25 (0, 0))] w) (Turns [(ga, Obj.cells #[.int .u64 0, .int .u64 1610612736000000000] 25 (0, 0)), (gb, Obj.cells #[.int .u64 0, .int .u64 100000000] 25 (0, 0))] w) (kdOf [(1, .make (fun _ => callM (.tuple #[.int .i64 100, .int .i64 0])))]) none0 (stays_good _ _) (S4.out) (holds0 _) ?_
  (refine g_load 25 _ gb 25 #[.int .u64 0, .int .u64 100000000] (0, 0) _ rfl rfl rfl rfl (fun w' hC => stays_row hC (List.mem_cons_of_mem _ (List.mem_cons_self ..))) Try.underlying25 rfl (rfl) ?_)
  simp only [Act.put, List.setIfInBounds_toArray, List.set_cons_zero, List.set_cons_succ]
  refine g_call (stays_good _ _) (.tuple #[.int .i64 100, .int .i64 0]) rfl rfl (fun w' hC => ?_) ?_
  · clear hC
    go_simp
    refine (milli_any _ 0 100000000 100000000 (by decide) (by unfold U; decide) (by unfold U; decide) (by unfold Most; decide) (by decide)).mono (fun e w2 h => ?_)
    obtain ⟨h1, h2⟩ := h
    exact gives h1 h2
  simp only [Act.put, List.setIfInBounds_toArray, List.set_cons_zero, List.set_cons_succ]
  refine g_look rfl rfl ?_ (fun w' hC => ?_) ?_
  rotate_left
  · go_simp
    first | done | rfl
  simp only [Act.put, List.setIfInBounds_toArray, List.set_cons_zero, List.set_cons_succ]
  refine g_look rfl rfl ?_ (fun w' hC => ?_) ?_
  rotate_left
  · go_simp
    first | done | rfl
  simp only [Act.put, List.setIfInBounds_toArray, List.set_cons_zero, List.set_cons_succ]
  refine g_look rfl rfl ?_ (fun w' hC => ?_) ?_
  rotate_left
  · go_simp
    first | done | rfl
  simp only [Act.put, List.setIfInBounds_toArray, List.set_cons_zero, List.set_cons_succ]
  refine g_look rfl rfl ?_ (fun w' hC => ?_) ?_
  rotate_left
  · go_simp
    first | done | rfl
  simp only [Act.put, List.setIfInBounds_toArray, List.set_cons_zero, List.set_cons_succ]
  refine g_look rfl rfl ?_ (fun w' hC => ?_) ?_
  rotate_left
  · go_simp
    first | done | rfl
  simp only [Act.put, List.setIfInBounds_toArray, List.set_cons_zero, List.set_cons_succ]
  refine g_end ?_
  intro w5 hC5 hh5
  have S5 : Hid (Stays [(ga, Obj.cells #[.int .u64 0, .int .u64 1610612736000000000] 25 (0, 0)), (gb, Obj.cells #[.int .u64 0, .int .u64 100000000] 25 (0, 0))] w w5) := Lib.hid (stays_cons (stays_row hC5 (List.mem_cons_self ..)) (stays_cons (stays_row hC5 (List.mem_cons_of_mem _ (List.mem_cons_self ..))) (stays_nil (stays_below hC5))))
  clear S4
  clear hC5 hh5
  go_upto_region 5 with fail
  refine reg_plain (Stays [(ga, Obj.cells #[.int .u64 0, .int .u64 1610612736000000000] 25 (0, 0)), (gb, Obj.cells #[.int .u64 0, .int .u64 100000000] 25 (0, 0))] w) (Turns [(ga, Obj.cells #[.int .u64 0, .int .u64 1610612736000000000] 25 (0, 0)), (gb, Obj.cells #[.int .u64 0, .int .u64 100000000] 25 (0, 0))] w) (kdOf [(0, .make (fun _ => callM (.tuple #[.agg #[.int .u64 0, .int .u64 1000000000000], .int .i64 0]))), (4, .make (fun _ => allocM (.cells #[.int .u64 0, .int .u64 0] 25))), (5, .touch)]) none0 (stays_good _ _) (S5.out) (holds0 _) ?_
  refine g_call (stays_good _ _) (.tuple #[.agg #[.int .u64 0, .int .u64 1000000000000], .int .i64 0]) rfl rfl (fun w' hC => ?_) ?_
  · clear hC
    go_simp
    refine (parse_any _ [49, 101, 51] (hm.out _ (by decide))).mono (fun e w2 h => ?_)
    obtain ⟨h1, h2⟩ := h
    rw [p3] at h1
    exact gives h1 h2
  simp only [Act.put, List.setIfInBounds_toArray, List.set_cons_zero, List.set_cons_succ]
  refine g_look rfl rfl ?_ (fun w' hC => ?_) ?_
  rotate_left
  · go_simp
    first | done | rfl
  simp only [Act.put, List.setIfInBounds_toArray, List.set_cons_zero, List.set_cons_succ]
  refine g_look rfl rfl ?_ (fun w' hC => ?_) ?_
  rotate_left
  · go_simp
    first | done | rfl
  simp only [Act.put, List.setIfInBounds_toArray, List.set_cons_zero, List.set_cons_succ]
  refine g_look rfl rfl ?_ (fun w' hC => ?_) ?_
  rotate_left
  · go_simp
    first | done | rfl
  simp only [Act.put, List.setIfInBounds_toArray, List.set_cons_zero, List.set_cons_succ]
  refine g_alloc (stays_good _ _) (.cells #[.int .u64 0, .int .u64 0] 25) rfl rfl (fun w' hC => ?_) (fun gc tc nc => ?_)
  · clear hC
    go_simp
    first | done | rfl | exact ⟨rfl, rfl⟩
  clear nc
  replace tc := Lib.hid tc
  simp only [Act.put, List.setIfInBounds_toArray, List.set_cons_zero, List.set_cons_succ]
  refine g_store gc (some 4) 25 25 _ _ #[.int .u64 0, .int .u64 0] #[.int .u64 0, .int .u64 1000000000000] rfl rfl rfl rfl rfl (own_new _ _ _ _) (by kernel_rfl) (rfl) (rfl) (one25 _ _) ?_
  simp only [Act.put]
  refine g_look rfl rfl ?_ (fun w' hC => ?_) ?_
  rotate_left
  · go_simp
    first | done | rfl
  simp only [Act.put, List.setIfInBounds_toArray, List.set_cons_zero, List.set_cons_succ]
  refine g_end ?_
  intro w6 hC6 hh6
  have S6 : Hid (Stays [(ga, Obj.cells #[.int .u64 0, .int .u64 1610612736000000000] 25 (0, 0)), (gb, Obj.cells #[.int .u64 0, .int .u64 100000000] 25 (0, 0)), (gc, Obj.cells #[.int .u64 0, .int .u64 1000000000000] 25 (0, 0))] w w6) := Lib.hid (stays_cons (stays_row hC6 (List.mem_cons_self ..)) (stays_cons (stays_row hC6 (List.mem_cons_of_mem _ (List.mem_cons_self ..))) (stays_cons ((hh6 _ _ _ (own_new _ _ _ _)).1) (stays_nil (stays_below hC6)))))
  clear S5
  clear hC6 hh6
  go_upto_region 6 with fail
  refine reg_plain (Stays [(ga, Obj.cells #[.int .u64 0, .int .u64 1610612736000000000] 25 (0, 0)), (gb, Obj.cells #[.int .u64 0, .int .u64 100000000] 25 (0, 0)), (gc, Obj.cells #[.int .u64 0, .int .u64 1000000000000] 25 (0, 0))] w) (Turns [(ga, Obj.cells #[.int .u64 0, .int .u64 1610612736000000000] 25 (0, 0)), (gb, Obj.cells #[.int .u64 0, .int .u64 100000000] 25 (0, 0)), (gc, Obj.cells #[.int .u64 0, .int .u64 1000000000000] 25 (0, 0))] w) (kdOf [(0, .make (fun _ => callM (.tuple #[.agg #[.int .u64 0, .int .u64 0], .int .i64 11]))), (4, .make (fun _ => allocM (.cells #[.int .u64 0, .int .u64 0] 25))), (5, .touch)]) none0 (stays_good _ _) (S6.out) (holds0 _) ?_
  refine g_call (stays_good _ _) (.tuple #[.agg #[.int .u64 0, .int .u64 0], .int .i64 11]) rfl rfl (fun w' hC => ?_) ?_
  · clear hC
    go_simp
    refine (parse_any _ [49, 120] (hm.out _ (by decide))).mono (fun e w2 h => ?_)
    obtain ⟨h1, h2⟩ := h
    rw [p4] at h1
    exact gives h1 h2
  simp only [Act.put, List.setIfInBounds_toArray, List.set_cons_zero, List.set_cons_succ]
  refine g_look rfl rfl ?_ (fun w' hC => ?_) ?_
  rotate_left
  · go_simp
    first | done | rfl
  simp only [Act.put, List.setIfInBounds_toArray, List.set_cons_zero, List.set_cons_succ]
  refine g_look rfl rfl ?_ (fun w' hC => ?_) ?_
  rotate_left
  · go_simp
    first | done | rfl
  simp only [Act.put, List.setIfInBounds_toArray, List.set_cons_zero, List.set_cons_succ]
  refine g_look rfl rfl ?_ (fun w' hC => ?_) ?_
  rotate_left
  · go_simp
    first | done | rfl
  simp only [Act.put, List.setIfInBounds_toArray, List.set_cons_zero, List.set_cons_succ]
  refine g_alloc (stays_good _ _) (.cells #[.int .u64 0, .int .u64 0] 25) rfl rfl (fun w' hC => ?_) (fun gj tj nj => ?_)
  · clear hC
    go_simp
    first | done | rfl | exact ⟨rfl, rfl⟩
  clear nj
  replace tj := Lib.hid tj
  simp only [Act.put, List.setIfInBounds_toArray, List.set_cons_zero, List.set_cons_succ]
  refine g_store gj (some 4) 25 25 _ _ #[.int .u64 0, .int .u64 0] #[.int .u64 0, .int .u64 0] rfl rfl rfl rfl rfl (own_new _ _ _ _) (by kernel_rfl) (rfl) (rfl) (one25 _ _) ?_
  simp only [Act.put]
  refine g_look rfl rfl ?_ (fun w' hC => ?_) ?_
  rotate_left
  · go_simp
    first | done | rfl
  simp only [Act.put, List.setIfInBounds_toArray, List.set_cons_zero, List.set_cons_succ]
  refine g_end ?_
  intro w7 hC7 hh7
  have S7 : Hid (Stays [(ga, Obj.cells #[.int .u64 0, .int .u64 1610612736000000000] 25 (0, 0)), (gb, Obj.cells #[.int .u64 0, .int .u64 100000000] 25 (0, 0)), (gc, Obj.cells #[.int .u64 0, .int .u64 1000000000000] 25 (0, 0)), (gj, Obj.cells #[.int .u64 0, .int .u64 0] 25 (0, 0))] w w7) := Lib.hid (stays_cons (stays_row hC7 (List.mem_cons_self ..)) (stays_cons (stays_row hC7 (List.mem_cons_of_mem _ (List.mem_cons_self ..))) (stays_cons (stays_row hC7 (List.mem_cons_of_mem _ (List.mem_cons_of_mem _ (List.mem_cons_self ..)))) (stays_cons ((hh7 _ _ _ (own_new _ _ _ _)).1) (stays_nil (stays_below hC7))))))
  clear S6
  clear hC7 hh7
  go_upto_region 7 with fail
  refine reg_plain (Stays [(ga, Obj.cells #[.int .u64 0, .int .u64 1610612736000000000] 25 (0, 0)), (gb, Obj.cells #[.int .u64 0, .int .u64 100000000] 25 (0, 0)), (gc, Obj.cells #[.int .u64 0, .int .u64 1000000000000] 25 (0, 0)), (gj, Obj.cells #[.int .u64 0, .int .u64 0] 25 (0, 0))] w) (Turns [(ga, Obj.cells #[.int .u64 0, .int .u64 1610612736000000000] 25 (0, 0)), (gb, Obj.cells #[.int .u64 0, .int .u64 100000000] 25 (0, 0)), (gc, Obj.cells #[.int .u64 0, .int .u64 1000000000000] 25 (0, 0)), (gj, Obj.cells #[.int .u64 0, .int .u64 0] 25 (0, 0))] w) (kdOf [(0, .make (fun _ => callM (.tuple #[.agg #[.int .u64 0, .int .u64 1000000000], .int .i64 0]))), (4, .make (fun _ => allocM (.cells #[.int .u64 0, .int .u64 0] 25))), (5, .touch)]) none0 (stays_good _ _) (S7.out) (holds0 _) ?_
  refine g_call (stays_good _ _) (.tuple #[.agg #[.int .u64 0, .int .u64 1000000000], .int .i64 0]) rfl rfl (fun w' hC => ?_) ?_
  · clear hC
    go_simp
    refine (of_units _ 1 (by decide)).mono (fun e w2 h => ?_)
    obtain ⟨h1, h2⟩ := h
    rw [p8] at h1
    exact gives h1 h2
  simp only [Act.put, List.setIfInBounds_toArray, List.set_cons_zero, List.set_cons_succ]
  refine g_look rfl rfl ?_ (fun w' hC => ?_) ?_
  rotate_left
  · go_simp
    first | done | rfl
  simp only [Act.put, List.setIfInBounds_toArray, List.set_cons_zero, List.set_cons_succ]
  refine g_look rfl rfl ?_ (fun w' hC => ?_) ?_
  rotate_left
  · go_simp
    first | done | rfl
  simp only [Act.put, List.setIfInBounds_toArray, List.set_cons_zero, List.set_cons_succ]
  refine g_look rfl rfl ?_ (fun w' hC => ?_) ?_
  rotate_left
  · go_simp
    first | done | rfl
  simp only [Act.put, List.setIfInBounds_toArray, List.set_cons_zero, List.set_cons_succ]
  refine g_alloc (stays_good _ _) (.cells #[.int .u64 0, .int .u64 0] 25) rfl rfl (fun w' hC => ?_) (fun gd td nd => ?_)
  · clear hC
    go_simp
    first | done | rfl | exact ⟨rfl, rfl⟩
  clear nd
  replace td := Lib.hid td
  simp only [Act.put, List.setIfInBounds_toArray, List.set_cons_zero, List.set_cons_succ]
  refine g_store gd (some 4) 25 25 _ _ #[.int .u64 0, .int .u64 0] #[.int .u64 0, .int .u64 1000000000] rfl rfl rfl rfl rfl (own_new _ _ _ _) (by kernel_rfl) (rfl) (rfl) (one25 _ _) ?_
  simp only [Act.put]
  refine g_look rfl rfl ?_ (fun w' hC => ?_) ?_
  rotate_left
  · go_simp
    first | done | rfl
  simp only [Act.put, List.setIfInBounds_toArray, List.set_cons_zero, List.set_cons_succ]
  refine g_end ?_
  intro w8 hC8 hh8
  have S8 : Hid (Stays [(ga, Obj.cells #[.int .u64 0, .int .u64 1610612736000000000] 25 (0, 0)), (gb, Obj.cells #[.int .u64 0, .int .u64 100000000] 25 (0, 0)), (gc, Obj.cells #[.int .u64 0, .int .u64 1000000000000] 25 (0, 0)), (gj, Obj.cells #[.int .u64 0, .int .u64 0] 25 (0, 0)), (gd, Obj.cells #[.int .u64 0, .int .u64 1000000000] 25 (0, 0))] w w8) := Lib.hid (stays_cons (stays_row hC8 (List.mem_cons_self ..)) (stays_cons (stays_row hC8 (List.mem_cons_of_mem _ (List.mem_cons_self ..))) (stays_cons (stays_row hC8 (List.mem_cons_of_mem _ (List.mem_cons_of_mem _ (List.mem_cons_self ..)))) (stays_cons (stays_row hC8 (List.mem_cons_of_mem _ (List.mem_cons_of_mem _ (List.mem_cons_of_mem _ (List.mem_cons_self ..))))) (stays_cons ((hh8 _ _ _ (own_new _ _ _ _)).1) (stays_nil (stays_below hC8)))))))
  clear S7
  clear hC8 hh8
  go_upto_region 8 with fail
  refine reg_plain (Stays [(ga, Obj.cells #[.int .u64 0, .int .u64 1610612736000000000] 25 (0, 0)), (gb, Obj.cells #[.int .u64 0, .int .u64 100000000] 25 (0, 0)), (gc, Obj.cells #[.int .u64 0, .int .u64 1000000000000] 25 (0, 0)), (gj, Obj.cells #[.int .u64 0, .int .u64 0] 25 (0, 0)), (gd, Obj.cells #[.int .u64 0, .int .u64 1000000000] 25 (0, 0))] w) (Turns [(ga, Obj.cells #[.int .u64 0, .int .u64 1610612736000000000] 25 (0, 0)), (gb, Obj.cells #[.int .u64 0, .int .u64 100000000] 25 (0, 0)), (gc, Obj.cells #[.int .u64 0, .int .u64 1000000000000] 25 (0, 0)), (gj, Obj.cells #[.int .u64 0, .int .u64 0] 25 (0, 0)), (gd, Obj.cells #[.int .u64 0, .int .u64 1000000000] 25 (0, 0))] w) (kdOf [(12, .make (fun _ => callM (.string ⟨#[49, 53, 51, 54, 77, 105]⟩))), (33, .make (fun _ => callM (.string ⟨#[49, 107]⟩))), (51, .make (fun _ => callM (.string ⟨#[48]⟩)))]) none0 (stays_good _ _) (S8.out) (holds0 _) ?_
  refine g_look rfl rfl ?_ (fun w' hC => ?_) ?_
  rotate_left
  · go_simp
    first | done | rfl
  simp only [Act.put, List.setIfInBounds_toArray, List.set_cons_zero, List.set_cons_succ]
  refine g_look rfl rfl ?_ (fun w' hC => ?_) ?_
  rotate_left
  · go_simp
    first | done | rfl
  simp only [Act.put, List.setIfInBounds_toArray, List.set_cons_zero, List.set_cons_succ]
  refine g_look rfl rfl ?_ (fun w' hC => ?_) ?_
  rotate_left
  · go_simp
    first | done | rfl
  simp only [Act.put, List.setIfInBounds_toArray, List.set_cons_zero, List.set_cons_succ]
  first
  | (refine g_skip rfl ?_)
  | (refine g_look rfl rfl ?_ (fun w' hC => ?_) ?_
     rotate_left
     · go_simp
       first | done | rfl)
  simp only [Act.put, List.setIfInBounds_toArray, List.set_cons_zero, List.set_cons_succ]
  first
  | (refine g_skip rfl ?_)
  | (refine g_look rfl rfl ?_ (fun w' hC => ?_) ?_
     rotate_left
     · go_simp
       first | done | rfl)
  simp only [Act.put, List.setIfInBounds_toArray, List.set_cons_zero, List.set_cons_succ]
  refine g_look rfl rfl ?_ (fun w' hC => ?_) ?_
  rotate_left
  · go_simp
    first | done | rfl
  simp only [Act.put, List.setIfInBounds_toArray, List.set_cons_zero, List.set_cons_succ]
  refine g_look rfl rfl ?_ (fun w' hC => ?_) ?_
  rotate_left
  · go_simp
    first | done | rfl
  simp only [Act.put, List.setIfInBounds_toArray, List.set_cons_zero, List.set_cons_succ]
  first
  | (refine g_skip rfl ?_)
  | (refine g_look rfl rfl ?_ (fun w' hC => ?_) ?_
     rotate_left
     · go_simp
       first | done | rfl)
  simp only [Act.put, List.setIfInBounds_toArray, List.set_cons_zero, List.set_cons_succ]
  first
  | (refine g_skip rfl ?_)
  | (refine g_look rfl rfl ?_ (fun w' hC => ?_) ?_
     rotate_left
     · go_simp
       first | done | rfl)
  simp only [Act.put, List.setIfInBounds_toArray, List.set_cons_zero, List.set_cons_succ]
  refine g_look rfl rfl ?_ (fun w' hC => ?_) ?_
  rotate_left
  · go_simp
    first | done | rfl
  simp only [Act.put, List.setIfInBounds_toArray, List.set_cons_zero, List.set_cons_succ]
  refine g_look rfl rfl ?_ (fun w' hC => ?_) ?_
  rotate_left
  · go_simp
    first | done | rfl
  simp only [Act.put, List.setIfInBounds_toArray, List.set_cons_zero, List.set_cons_succ]
  first | (refine g_skip rfl ?_) | (refine g_load 25 _ ga 25 #[.int .u64 0, .int .u64 1610612736000000000] (0, 0) _ rfl rfl rfl rfl (fun w' hC => stays_row hC (List.mem_cons_self ..)) Try.underlying25 rfl (rfl) ?_)
  simp only [Act.put, List.setIfInBounds_toArray, List.set_cons_zero, List.set_cons_succ]
  refine g_call (stays_good _ _) (.string ⟨#[49, 53, 51, 54, 77, 105]⟩) rfl rfl (fun w' hC => ?_) ?_
  · clear hC
    go_simp
    refine (abin_any _ 0 1610612736000000000 1610612736000000000 (by decide) (by unfold U; decide) (by unfold U; decide)).mono (fun e w2 h => ?_)
    obtain ⟨h1, h2⟩ := h
    rw [p5] at h1
    exact gives h1 h2
  simp only [Act.put, List.setIfInBounds_toArray, List.set_cons_zero, List.set_cons_succ]
  first
  | (refine g_skip rfl ?_)
  | (refine g_look rfl rfl ?_ (fun w' hC => ?_) ?_
     rotate_left
     · go_simp
       first | done | rfl)
  simp only [Act.put, List.setIfInBounds_toArray, List.set_cons_zero, List.set_cons_succ]
  refine g_look rfl rfl ?_ (fun w' hC => ?_) ?_
  rotate_left
  · go_simp
    first | done | rfl
  simp only [Act.put, List.setIfInBounds_toArray, List.set_cons_zero, List.set_cons_succ]
  refine g_look rfl rfl ?_ (fun w' hC => ?_) ?_
  rotate_left
  · go_simp
    first | done | rfl
  simp only [Act.put, List.setIfInBounds_toArray, List.set_cons_zero, List.set_cons_succ]
  first
  | (refine g_skip rfl ?_)
  | (refine g_look rfl rfl ?_ (fun w' hC => ?_) ?_
     rotate_left
     · go_simp
       first | done | rfl)
  simp only [Act.put, List.setIfInBounds_toArray, List.set_cons_zero, List.set_cons_succ]
  first
  | (refine g_skip rfl ?_)
  | (refine g_look rfl rfl ?_ (fun w' hC => ?_) ?_
     rotate_left
     · go_simp
       first | done | rfl)
  simp only [Act.put, List.setIfInBounds_toArray, List.set_cons_zero, List.set_cons_succ]
  refine g_look rfl rfl ?_ (fun w' hC => ?_) ?_
  rotate_left
  · go_simp
    first | done | rfl
  simp only [Act.put, List.setIfInBounds_toArray, List.set_cons_zero, List.set_cons_succ]
  refine g_look rfl rfl ?_ (fun w' hC => ?_) ?_
  rotate_left
  · go_simp
    first | done | rfl
  simp only [Act.put, List.setIfInBounds_toArray, List.set_cons_zero, List.set_cons_succ]
  first
  | (refine g_skip rfl ?_)
  | (refine g_look rfl rfl ?_ (fun w' hC => ?_) ?_
     rotate_left
     · go_simp
       first | done | rfl)
  simp only [Act.put, List.setIfInBounds_toArray, List.set_cons_zero, List.set_cons_succ]
  first
  | (refine g_skip rfl ?_)
  | (refine g_look rfl rfl ?_ (fun w' hC => ?_) ?_
     rotate_left
     · go_simp
       first | done | rfl)
  simp only [Act.put, List.setIfInBounds_toArray, List.set_cons_zero, List.set_cons_succ]
  refine g_look rfl rfl ?_ (fun w' hC => ?_) ?_
  rotate_left
  · go_simp
    first | done | rfl
  simp only [Act.put, List.setIfInBounds_toArray, List.set_cons_zero, List.set_cons_succ]
  refine g_look rfl rfl ?_ (fun w' hC => ?_) ?_
  rotate_left
  · go_simp
    first | done | rfl
  simp only [Act.put, List.setIfInBounds_toArray, List.set_cons_zero, List.set_cons_succ]
  first
  | (refine g_skip rfl ?_)
  | (refine g_look rfl rfl ?_ (fun w' hC => ?_) ?_
     rotate_left
     · go_simp
       first | done | rfl)
  simp only [Act.put, List.setIfInBounds_toArray, List.set_cons_zero, List.set_cons_succ]
  first
  | (refine g_skip rfl ?_)
  | (refine g_look rfl rfl ?_ (fun w' hC => ?_) ?_
     rotate_left
     · go_simp
       first | done | rfl)
  simp only [Act.put, List.setIfInBounds_toArray, List.set_cons_zero, List.set_cons_succ]
  refine g_look rfl rfl ?_ (fun w' hC => ?_) ?_
  rotate_left
  · go_simp
    first | done | rfl
  simp only [Act.put, List.setIfInBounds_toArray, List.set_cons_zero, List.set_cons_succ]
  refine g_look rfl rfl ?_ (fun w' hC => ?_) ?_
  rotate_left
  · go_simp
    first | done | rfl
  simp only [Act.put, List.setIfInBounds_toArray, List.set_cons_zero, List.set_cons_succ]
  first
  | (refine g_skip rfl ?_)
  | (refine g_look rfl rfl ?_ (fun w' hC => ?_) ?_
     rotate_left
     · go_simp
       first | done | rfl)
  simp only [Act.put, List.setIfInBounds_toArray, List.set_cons_zero, List.set_cons_succ]
  first
  | (refine g_skip rfl ?_)
  | (refine g_look rfl rfl ?_ (fun w' hC => ?_) ?_
     rotate_left
     · go_simp
       first | done | rfl)
  simp only [Act.put, List.setIfInBounds_toArray, List.set_cons_zero, List.set_cons_succ]
  refine g_look rfl rfl ?_ (fun w' hC => ?_) ?_
  rotate_left
  · go_simp
    first | done | rfl
  simp only [Act.put, List.setIfInBounds_toArray, List.set_cons_zero, List.set_cons_succ]
  refine g_look rfl rfl ?_ (fun w' hC => ?_) ?_
  rotate_left
  · go_simp
    first | done | rfl
  simp only [Act.put, List.setIfInBounds_toArray, List.set_cons_zero, List.set_cons_succ]
  first | (refine g_skip rfl ?_) | (refine g_load 25 _ gc 25 #[.int .u64 0, .int .u64 1000000000000] (0, 0) _ rfl rfl rfl rfl (fun w' hC => stays_row hC (List.mem_cons_of_mem _ (List.mem_cons_of_mem _ (List.mem_cons_self ..)))) Try.underlying25 rfl (rfl) ?_)
  simp only [Act.put, List.setIfInBounds_toArray, List.set_cons_zero, List.set_cons_succ]
  refine g_call (stays_good _ _) (.string ⟨#[49, 107]⟩) rfl rfl (fun w' hC => ?_) ?_
  · clear hC
    go_simp
    refine (atext_any _ 0 1000000000000 1000000000000 (by decide) (by unfold U; decide) (by unfold U; decide)).mono (fun e w2 h => ?_)
    obtain ⟨h1, h2⟩ := h
    rw [p6] at h1
    exact gives h1 h2
  simp only [Act.put, List.setIfInBounds_toArray, List.set_cons_zero, List.set_cons_succ]
  first
  | (refine g_skip rfl ?_)
  | (refine g_look rfl rfl ?_ (fun w' hC => ?_) ?_
     rotate_left
     · go_simp
       first | done | rfl)
  simp only [Act.put, List.setIfInBounds_toArray, List.set_cons_zero, List.set_cons_succ]
  refine g_look rfl rfl ?_ (fun w' hC => ?_) ?_
  rotate_left
  · go_simp
    first | done | rfl
  simp only [Act.put, List.setIfInBounds_toArray, List.set_cons_zero, List.set_cons_succ]
  refine g_look rfl rfl ?_ (fun w' hC => ?_) ?_
  rotate_left
  · go_simp
    first | done | rfl
  simp only [Act.put, List.setIfInBounds_toArray, List.set_cons_zero, List.set_cons_succ]
  first
  | (refine g_skip rfl ?_)
  | (refine g_look rfl rfl ?_ (fun w' hC => ?_) ?_
     rotate_left
     · go_simp
       first | done | rfl)
  simp only [Act.put, List.setIfInBounds_toArray, List.set_cons_zero, List.set_cons_succ]
  first
  | (refine g_skip rfl ?_)
  | (refine g_look rfl rfl ?_ (fun w' hC => ?_) ?_
     rotate_left
     · go_simp
       first | done | rfl)
  simp only [Act.put, List.setIfInBounds_toArray, List.set_cons_zero, List.set_cons_succ]
  refine g_look rfl rfl ?_ (fun w' hC => ?_) ?_
  rotate_left
  · go_simp
    first | done | rfl
  simp only [Act.put, List.setIfInBounds_toArray, List.set_cons_zero, List.set_cons_succ]
  refine g_look rfl rfl ?_ (fun w' hC => ?_) ?_
  rotate_left
  · go_simp
    first | done | rfl
  simp only [Act.put, List.setIfInBounds_toArray, List.set_cons_zero, List.set_cons_succ]
  first
  | (refine g_skip rfl ?_)
  | (refine g_look rfl rfl ?_ (fun w' hC => ?_) ?_
     rotate_left
     · go_simp
       first | done | rfl)
  simp only [Act.put, List.setIfInBounds_toArray, List.set_cons_zero, List.set_cons_succ]
  first
  | (refine g_skip rfl ?_)
  | (refine g_look rfl rfl ?_ (fun w' hC => ?_) ?_
     rotate_left
     · go_simp
       first | done | rfl)
  simp only [Act.put, List.setIfInBounds_toArray, List.set_cons_zero, List.set_cons_succ]
  refine g_look rfl rfl ?_ (fun w' hC => ?_) ?_
  rotate_left
  · go_simp
    first | done | rfl
  simp only [Act.put, List.setIfInBounds_toArray, List.set_cons_zero, List.set_cons_succ]
  refine g_look rfl rfl ?_ (fun w' hC => ?_) ?_
  rotate_left
  · go_simp
    first | done | rfl
  simp only [Act.put, List.setIfInBounds_toArray, List.set_cons_zero, List.set_cons_succ]
  first | (refine g_skip rfl ?_) | (refine g_load 25 _ gd 25 #[.int .u64 0, .int .u64 1000000000] (0, 0) _ rfl rfl rfl rfl (fun w' hC => stays_row hC (List.mem_cons_of_mem _ (List.mem_cons_of_mem _ (List.mem_cons_of_mem _ (List.mem_cons_of_mem _ (List.mem_cons_self ..)))))) Try.underlying25 rfl (rfl) ?_)
  simp only [Act.put, List.setIfInBounds_toArray, List.set_cons_zero, List.set_cons_succ]
  first
  | (refine g_skip rfl ?_)
  | (refine g_look rfl rfl ?_ (fun w' hC => ?_) ?_
     rotate_left
     · go_simp
       first | done | rfl)
  simp only [Act.put, List.setIfInBounds_toArray, List.set_cons_zero, List.set_cons_succ]
  first
  | (refine g_skip rfl ?_)
  | (refine g_look rfl rfl ?_ (fun w' hC => ?_) ?_
     rotate_left
     · go_simp
       first | done | rfl)
  simp only [Act.put, List.setIfInBounds_toArray, List.set_cons_zero, List.set_cons_succ]
  refine g_look rfl rfl ?_ (fun w' hC => ?_) ?_
  rotate_left
  · go_simp
    first | done | rfl
  simp only [Act.put, List.setIfInBounds_toArray, List.set_cons_zero, List.set_cons_succ]
  refine g_look rfl rfl ?_ (fun w' hC => ?_) ?_
  rotate_left
  · go_simp
    first | done | rfl
  simp only [Act.put, List.setIfInBounds_toArray, List.set_cons_zero, List.set_cons_succ]
  first
  | (refine g_skip rfl ?_)
  | (refine g_look rfl rfl ?_ (fun w' hC => ?_) ?_
     rotate_left
     · go_simp
       first | done | rfl)
  simp only [Act.put, List.setIfInBounds_toArray, List.set_cons_zero, List.set_cons_succ]
  refine g_call (stays_good _ _) (.string ⟨#[48]⟩) rfl rfl (fun w' hC => ?_) ?_
  · clear hC
    go_simp
    refine (atext_any _ 0 0 0 (by decide) (by unfold U; decide) (by unfold U; decide)).mono (fun e w2 h => ?_)
    obtain ⟨h1, h2⟩ := h
    rw [p7] at h1
    exact gives h1 h2
  simp only [Act.put, List.setIfInBounds_toArray, List.set_cons_zero, List.set_cons_succ]
  first
  | (refine g_skip rfl ?_)
  | (refine g_look rfl rfl ?_ (fun w' hC => ?_) ?_
     rotate_left
     · go_simp
       first | done | rfl)
  simp only [Act.put, List.setIfInBounds_toArray, List.set_cons_zero, List.set_cons_succ]
  refine g_look rfl rfl ?_ (fun w' hC => ?_) ?_
  rotate_left
  · go_simp
    first | done | rfl
  simp only [Act.put, List.setIfInBounds_toArray, List.set_cons_zero, List.set_cons_succ]
  refine g_look rfl rfl ?_ (fun w' hC => ?_) ?_
  rotate_left
  · go_simp
    first | done | rfl
  simp only [Act.put, List.setIfInBounds_toArray, List.set_cons_zero]
  refine g_end ?_
  intro w9 hC9 hh9
  have S9 : Hid (Stays [(ga, Obj.cells #[.int .u64 0, .int .u64 1610612736000000000] 25 (0, 0)), (gb, Obj.cells #[.int .u64 0, .int .u64 100000000] 25 (0, 0)), (gc, Obj.cells #[.int .u64 0, .int .u64 1000000000000] 25 (0, 0)), (gj, Obj.cells #[.int .u64 0, .int .u64 0] 25 (0, 0)), (gd, Obj.cells #[.int .u64 0, .int .u64 1000000000] 25 (0, 0))] w w9) := Lib.hid (stays_cons (stays_row hC9 (List.mem_cons_self ..)) (stays_cons (stays_row hC9 (List.mem_cons_of_mem _ (List.mem_cons_self ..))) (stays_cons (stays_row hC9 (List.mem_cons_of_mem _ (List.mem_cons_of_mem _ (List.mem_cons_self ..)))) (stays_cons (stays_row hC9 (List.mem_cons_of_mem _ (List.mem_cons_of_mem _ (List.mem_cons_of_mem _ (List.mem_cons_self ..))))) (stays_cons (stays_row hC9 (List.mem_cons_of_mem _ (List.mem_cons_of_mem _ (List.mem_cons_of_mem _ (List.mem_cons_of_mem _ (List.mem_cons_self ..)))))) (stays_nil (stays_below hC9)))))))
  clear S8
  clear hC9 hh9
  go_wp2_with fail
  refine bodyPost_ret (v := .bool true) (by simp [results, Try.results7, go_sem]) rfl ⟨rfl, stays_below S9.out⟩
end Go.Proofs.Ythpdfacdjgkmpaa.Wi
