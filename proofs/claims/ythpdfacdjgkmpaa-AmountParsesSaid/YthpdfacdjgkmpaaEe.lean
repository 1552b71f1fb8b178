/- Amounts: units and thousandths, by walks. -/
import Derived.Test.YthpdfacdjgkmpaaEd
namespace Go.Proofs.Ythpdfacdjgkmpaa.Wi
open Go.RowKit K

attribute [local go_sem] lookTo stepTo Maker.step
/-- So many parts, rounded up. -/
def ceilOf (X u : Nat) : Nat := X / u + (if X % u = 0 then 0 else 1)
set_option maxHeartbeats 4000000 in
set_option maxRecDepth 100000 in
theorem parts_any (w : World) (a0 b0 : Int) (X u : Nat) (hX : wval a0 b0 = (X : Int)) (ha : U a0) (hb : U b0) (hm : (X : Int) ≤ Most) (hu0 : 0 < u) (hu : U (u : Int)) (hc : ceilOf X u ≤ 1152921504606846976) : Calls Try.prog 43 #[wv a0 b0, .int .u64 u] w (Ret w (.tuple #[.int .i64 (ceilOf X u : Nat), .int .i64 0])) := by
  have hx := wval_lt ha hb
  obtain ⟨q1, q2, r, hw, u1, u2, hv, hr⟩ := wby_open hx.1 hx.2 (show (0 : Int) < (u : Int) by omega) hu
  rw [hX] at hv hr
  obtain ⟨Q, hQ⟩ : ∃ Q, X / u = Q := ⟨_, rfl⟩
  obtain ⟨R, hR⟩ : ∃ R, X % u = R := ⟨_, rfl⟩
  have hv2 : wval q1 q2 = (Q : Int) := by rw [hv, ← hQ]; rfl
  have hr2 : r = (R : Int) := by rw [hr, ← hR]; rfl
  subst hr2
  obtain ⟨C, hC0⟩ : ∃ C, ceilOf X u = C := ⟨_, rfl⟩
  have hcc : C = Q + (if R = 0 then 0 else 1) := by rw [← hC0, ceilOf, hQ, hR]
  rw [hC0] at hc ⊢
  have hQC : Q ≤ C := by omega
  have hq1 : q1 = 0 := by unfold wval U at *; omega
  have hq2 : q2 = (Q : Int) := by unfold wval at hv2; omega
  subst hq1 hq2
  have HU1 : Hid (uintV 0 (Q : Int) = .tuple #[.int .u64 (Q : Int), .bool true]) := Lib.hid (by rw [uintV, if_pos rfl])
  have HW := Lib.hid hw
  have HA := Lib.hid ha
  have HB := Lib.hid hb
  have HU := Lib.hid hu
  have HF : Hid (decide (wval a0 b0 ≤ Most) = true) := Lib.hid (by rw [hX]; exact decide_eq_true hm)
  have c1 : ¬ (1152921504606846976 : Int) < (C : Int) := by omega
  have cw : wrap64 (C : Int) = (C : Int) := by
    simp only [wrap64]
    omega
  clear hX ha hb hm hu0 hu hx hw u1 u2 hv hr hQ hR hv2 hC0
  have S0 : Hid (Stays [] w w) := Lib.hid (stays_nil (Below.refl _ _))
  by_cases hR0 : R = 0
  · have hCQ : Q = C := by rw [hcc, if_pos hR0]; rfl
    subst hCQ hR0
    clear hcc hQC
    go_enter Try.func43, Try.ntmps43
    go_upto_region 0 with fail
    refine reg_plain (Stays [] w) (Turns [] w) (kdOf [(0, .make (fun _ => allocM (.cells #[.int .u64 a0, .int .u64 b0] 25)))]) none0 (stays_good _ _) (S0.out) (holds0 _) ?_
    refine g_alloc (stays_good _ _) (.cells #[.int .u64 a0, .int .u64 b0] 25) rfl rfl (fun w' hC => ?_) (fun gx tx nx => ?_)
    · clear hC
      go_simp
      first | done | rfl | exact ⟨rfl, rfl⟩
    clear nx
    replace tx := Lib.hid tx
    simp only [Act.put, List.setIfInBounds_toArray, List.set_cons_zero, List.set_cons_succ]
    refine g_look rfl rfl ?_ (fun w' hC => ?_) ?_
    rotate_left
    · go_simp
      first | done | rfl
    simp only [Act.put, List.setIfInBounds_toArray, List.set_cons_zero, List.set_cons_succ]
    refine g_look rfl rfl ?_ (fun w' hC => ?_) ?_
    rotate_left
    · go_simp
      first | done | rfl
    simp only [Act.put, List.setIfInBounds_toArray, List.set_cons_zero, List.set_cons_succ]
    refine g_end ?_
    intro w1 hC1 hh1
    have S1 : Hid (Stays [(gx, Obj.cells #[.int .u64 a0, .int .u64 b0] 25 (0, 0))] w w1) := Lib.hid (stays_cons ((hh1 _ _ _ (own_new _ _ _ _)).1) (stays_nil (stays_below hC1)))
    clear hC1 hh1
    go_upto_region 1 with fail
    refine reg_plain (Stays [(gx, Obj.cells #[.int .u64 a0, .int .u64 b0] 25 (0, 0))] w) (Turns [(gx, Obj.cells #[.int .u64 a0, .int .u64 b0] 25 (0, 0))] w) (kdOf [(2, .make (fun _ => callM (.tuple #[.agg #[.int .u64 0, .int .u64 (Q : Int)], .int .u64 ((0 : Nat) : Int), .bool true]))), (7, .make (fun _ => allocM (.cells #[.int .u64 0, .int .u64 0] 25))), (8, .touch)]) none0 (stays_good _ _) (S1.out) (holds0 _) ?_
    (refine g_load 25 _ gx 25 #[.int .u64 a0, .int .u64 b0] (0, 0) _ rfl rfl rfl rfl (fun w' hC => stays_row hC (List.mem_cons_self ..)) Try.underlying25 rfl (rfl) ?_)
    simp only [Act.put, List.setIfInBounds_toArray, List.set_cons_zero, List.set_cons_succ]
    refine g_look rfl rfl ?_ (fun w' hC => ?_) ?_
    rotate_left
    · go_simp
      first | done | rfl
    simp only [Act.put, List.setIfInBounds_toArray, List.set_cons_zero, List.set_cons_succ]
    refine g_call (stays_good _ _) (.tuple #[.agg #[.int .u64 0, .int .u64 (Q : Int)], .int .u64 ((0 : Nat) : Int), .bool true]) rfl rfl (fun w' hC => ?_) ?_
    · clear hC
      go_simp
      refine (wby_any _ a0 b0 (u : Int) HA.out HB.out HU.out).mono (fun e w2 h => ?_)
      obtain ⟨h1, h2⟩ := h
      rw [HW.out] at h1
      exact gives h1 h2
    simp only [Act.put, List.setIfInBounds_toArray, List.set_cons_zero, List.set_cons_succ]
    refine g_look rfl rfl ?_ (fun w' hC => ?_) ?_
    rotate_left
    · go_simp
      first | done | rfl
    simp only [Act.put, List.setIfInBounds_toArray, List.set_cons_zero, List.set_cons_succ]
    refine g_look rfl rfl ?_ (fun w' hC => ?_) ?_
    rotate_left
    · go_simp
      first | done | rfl
    simp only [Act.put, List.setIfInBounds_toArray, List.set_cons_zero, List.set_cons_succ]
    refine g_look rfl rfl ?_ (fun w' hC => ?_) ?_
    rotate_left
    · go_simp
      first | done | rfl
    simp only [Act.put, List.setIfInBounds_toArray, List.set_cons_zero, List.set_cons_succ]
    refine g_look rfl rfl ?_ (fun w' hC => ?_) ?_
    rotate_left
    · go_simp
      first | done | rfl
    simp only [Act.put, List.setIfInBounds_toArray, List.set_cons_zero, List.set_cons_succ]
    refine g_alloc (stays_good _ _) (.cells #[.int .u64 0, .int .u64 0] 25) rfl rfl (fun w' hC => ?_) (fun gq tq nq => ?_)
    · clear hC
      go_simp
      first | done | rfl | exact ⟨rfl, rfl⟩
    clear nq
    replace tq := Lib.hid tq
    simp only [Act.put, List.setIfInBounds_toArray, List.set_cons_zero, List.set_cons_succ]
    refine g_store gq (some 7) 25 25 _ _ #[.int .u64 0, .int .u64 0] #[.int .u64 0, .int .u64 (Q : Int)] rfl rfl rfl rfl rfl (own_new _ _ _ _) (by kernel_rfl) (rfl) (rfl) (one25 _ _) ?_
    simp only [Act.put]
    refine g_look rfl rfl ?_ (fun w' hC => ?_) ?_
    rotate_left
    · go_simp
      first | done | rfl
    simp only [Act.put, List.setIfInBounds_toArray, List.set_cons_zero, List.set_cons_succ]
    refine g_look rfl rfl ?_ (fun w' hC => ?_) ?_
    rotate_left
    · go_simp
      first | done | rfl
    simp only [Act.put, List.setIfInBounds_toArray, List.set_cons_zero, List.set_cons_succ]
    refine g_end ?_
    intro w2 hC2 hh2
    have S2 : Hid (Stays [(gx, Obj.cells #[.int .u64 a0, .int .u64 b0] 25 (0, 0)), (gq, Obj.cells #[.int .u64 0, .int .u64 (Q : Int)] 25 (0, 0))] w w2) := Lib.hid (stays_cons (stays_row hC2 (List.mem_cons_self ..)) (stays_cons ((hh2 _ _ _ (own_new _ _ _ _)).1) (stays_nil (stays_below hC2))))
    clear S1
    clear hC2 hh2
    go_upto_region 2 with fail
    refine reg_plain (Stays [(gx, Obj.cells #[.int .u64 a0, .int .u64 b0] 25 (0, 0)), (gq, Obj.cells #[.int .u64 0, .int .u64 (Q : Int)] 25 (0, 0))] w) (Turns [(gx, Obj.cells #[.int .u64 a0, .int .u64 b0] 25 (0, 0)), (gq, Obj.cells #[.int .u64 0, .int .u64 (Q : Int)] 25 (0, 0))] w) (kdOf [(1, .make (fun _ => callM (.tuple #[.int .u64 (Q : Int), .bool true])))]) none0 (stays_good _ _) (S2.out) (holds0 _) ?_
    (refine g_load 25 _ gq 25 #[.int .u64 0, .int .u64 (Q : Int)] (0, 0) _ rfl rfl rfl rfl (fun w' hC => stays_row hC (List.mem_cons_of_mem _ (List.mem_cons_self ..))) Try.underlying25 rfl (rfl) ?_)
    simp only [Act.put, List.setIfInBounds_toArray, List.set_cons_zero, List.set_cons_succ]
    refine g_call (stays_good _ _) (.tuple #[.int .u64 (Q : Int), .bool true]) rfl rfl (fun w' hC => ?_) ?_
    · clear hC
      go_simp
      refine (uint_any _ 0 (Q : Int)).mono (fun e w2 h => ?_)
      obtain ⟨h1, h2⟩ := h
      rw [HU1.out] at h1
      exact gives h1 h2
    simp only [Act.put, List.setIfInBounds_toArray, List.set_cons_zero, List.set_cons_succ]
    refine g_look rfl rfl ?_ (fun w' hC => ?_) ?_
    rotate_left
    · go_simp
      first | done | rfl
    simp only [Act.put, List.setIfInBounds_toArray, List.set_cons_zero, List.set_cons_succ]
    refine g_look rfl rfl ?_ (fun w' hC => ?_) ?_
    rotate_left
    · go_simp
      first | done | rfl
    simp only [Act.put, List.setIfInBounds_toArray, List.set_cons_zero, List.set_cons_succ]
    refine g_look rfl rfl ?_ (fun w' hC => ?_) ?_
    rotate_left
    · go_simp
      first | done | rfl
    simp only [Act.put, List.setIfInBounds_toArray, List.set_cons_zero, List.set_cons_succ]
    refine g_look rfl rfl ?_ (fun w' hC => ?_) ?_
    rotate_left
    · go_simp
      first | done | rfl
    simp only [Act.put, List.setIfInBounds_toArray, List.set_cons_zero, List.set_cons_succ]
    refine g_look rfl rfl ?_ (fun w' hC => ?_) ?_
    rotate_left
    · go_simp
      first | done | rfl
    simp only [Act.put, List.setIfInBounds_toArray, List.set_cons_zero, List.set_cons_succ]
    refine g_end ?_
    intro w3 hC3 hh3
    have S3 : Hid (Stays [(gx, Obj.cells #[.int .u64 a0, .int .u64 b0] 25 (0, 0)), (gq, Obj.cells #[.int .u64 0, .int .u64 (Q : Int)] 25 (0, 0))] w w3) := Lib.hid (stays_cons (stays_row hC3 (List.mem_cons_self ..)) (stays_cons (stays_row hC3 (List.mem_cons_of_mem _ (List.mem_cons_self ..))) (stays_nil (stays_below hC3))))
    clear S2
    clear hC3 hh3
    go_upto_region 3 with fail
    refine reg_plain (Stays [(gx, Obj.cells #[.int .u64 a0, .int .u64 b0] 25 (0, 0)), (gq, Obj.cells #[.int .u64 0, .int .u64 (Q : Int)] 25 (0, 0))] w) (Turns [(gx, Obj.cells #[.int .u64 a0, .int .u64 b0] 25 (0, 0)), (gq, Obj.cells #[.int .u64 0, .int .u64 (Q : Int)] 25 (0, 0))] w) (kdOf []) none0 (stays_good _ _) (S3.out) (holds0 _) ?_
    refine g_look rfl rfl ?_ (fun w' hC => ?_) ?_
    rotate_left
    · go_simp
      first | done | rfl
    simp only [Act.put, List.setIfInBounds_toArray, List.set_cons_zero, List.set_cons_succ]
    refine g_look rfl rfl (.bool false) (fun w' hC => ?_) ?_
    · clear hC
      go_simp
      first | done | rfl | omega | (simp; omega)
    simp only [Act.put, List.setIfInBounds_toArray, List.set_cons_zero, List.set_cons_succ]
    refine g_end ?_
    intro w4 hC4 hh4
    have S4 : Hid (Stays [(gx, Obj.cells #[.int .u64 a0, .int .u64 b0] 25 (0, 0)), (gq, Obj.cells #[.int .u64 0, .int .u64 (Q : Int)] 25 (0, 0))] w w4) := Lib.hid (stays_cons (stays_row hC4 (List.mem_cons_self ..)) (stays_cons (stays_row hC4 (List.mem_cons_of_mem _ (List.mem_cons_self ..))) (stays_nil (stays_below hC4))))
    clear S3
    clear hC4 hh4
    go_upto_region 5 with fail
    refine reg_plain (Stays [(gx, Obj.cells #[.int .u64 a0, .int .u64 b0] 25 (0, 0)), (gq, Obj.cells #[.int .u64 0, .int .u64 (Q : Int)] 25 (0, 0))] w) (Turns [(gx, Obj.cells #[.int .u64 a0, .int .u64 b0] 25 (0, 0)), (gq, Obj.cells #[.int .u64 0, .int .u64 (Q : Int)] 25 (0, 0))] w) (kdOf [(1, .make (fun _ => callM (.bool true)))]) none0 (stays_good _ _) (S4.out) (holds0 _) ?_
    (refine g_load 25 _ gx 25 #[.int .u64 a0, .int .u64 b0] (0, 0) _ rfl rfl rfl rfl (fun w' hC => stays_row hC (List.mem_cons_self ..)) Try.underlying25 rfl (rfl) ?_)
    simp only [Act.put, List.setIfInBounds_toArray, List.set_cons_zero, List.set_cons_succ]
    refine g_call (stays_good _ _) (.bool true) rfl rfl (fun w' hC => ?_) ?_
    · clear hC
      go_simp
      refine (fits_any _ a0 b0 HA.out HB.out).mono (fun e w2 h => ?_)
      obtain ⟨h1, h2⟩ := h
      rw [HF.out] at h1
      exact gives h1 h2
    simp only [Act.put, List.setIfInBounds_toArray, List.set_cons_zero, List.set_cons_succ]
    refine g_look rfl rfl ?_ (fun w' hC => ?_) ?_
    rotate_left
    · go_simp
      first | done | rfl
    simp only [Act.put, List.setIfInBounds_toArray, List.set_cons_zero, List.set_cons_succ]
    refine g_look rfl rfl ?_ (fun w' hC => ?_) ?_
    rotate_left
    · go_simp
      first | done | rfl
    simp only [Act.put, List.setIfInBounds_toArray, List.set_cons_zero, List.set_cons_succ]
    first
    | (refine g_skip rfl ?_)
    | (refine g_look rfl rfl ?_ (fun w' hC => ?_) ?_
       rotate_left
       · go_simp
         first | done | rfl)
    simp only [Act.put, List.setIfInBounds_toArray, List.set_cons_zero, List.set_cons_succ]
    first
    | (refine g_skip rfl ?_)
    | (refine g_look rfl rfl ?_ (fun w' hC => ?_) ?_
       rotate_left
       · go_simp
         first | done | rfl)
    simp only [Act.put, List.setIfInBounds_toArray, List.set_cons_zero, List.set_cons_succ]
    refine g_look rfl rfl ?_ (fun w' hC => ?_) ?_
    rotate_left
    · go_simp
      first | done | rfl
    simp only [Act.put, List.setIfInBounds_toArray, List.set_cons_zero, List.set_cons_succ]
    refine g_look rfl rfl ?_ (fun w' hC => ?_) ?_
    rotate_left
    · go_simp
      first | done | rfl
    simp only [Act.put, List.setIfInBounds_toArray, List.set_cons_zero, List.set_cons_succ]
    first
    | (refine g_skip rfl ?_)
    | (refine g_look rfl rfl ?_ (fun w' hC => ?_) ?_
       rotate_left
       · go_simp
         first | done | rfl)
    simp only [Act.put, List.setIfInBounds_toArray, List.set_cons_zero, List.set_cons_succ]
    first
    | (refine g_skip rfl ?_)
    | (refine g_look rfl rfl ?_ (fun w' hC => ?_) ?_
       rotate_left
       · go_simp
         first | done | rfl)
    simp only [Act.put, List.setIfInBounds_toArray, List.set_cons_zero, List.set_cons_succ]
    refine g_look rfl rfl (.bool false) (fun w' hC => ?_) ?_
    · clear hC
      go_simp
      first | done | rfl | omega
    simp only [Act.put, List.setIfInBounds_toArray, List.set_cons_zero, List.set_cons_succ]
    refine g_end ?_
    intro w5 hC5 hh5
    have S5 : Hid (Stays [(gx, Obj.cells #[.int .u64 a0, .int .u64 b0] 25 (0, 0)), (gq, Obj.cells #[.int .u64 0, .int .u64 (Q : Int)] 25 (0, 0))] w w5) := Lib.hid (stays_cons (stays_row hC5 (List.mem_cons_self ..)) (stays_cons (stays_row hC5 (List.mem_cons_of_mem _ (List.mem_cons_self ..))) (stays_nil (stays_below hC5))))
    clear S4
    clear hC5 hh5
    go_wp2_with fail
    refine bodyPost_ret (v := .tuple #[.int .i64 (Q : Int), .int .i64 0]) (by simp [results, Try.results43, go_sem]) rfl ⟨rfl, stays_below S5.out⟩
  · have hCQ : C = Q + 1 := by rw [hcc, if_neg hR0]
    have hR1 : (0 : Int) < (R : Int) := by omega
    have hq : IntKind.u64.wrap ((Q : Int) + 1) = (C : Int) := by rw [wu_small (by omega) (by omega)]; omega
    clear hcc hQC hR0 hCQ
    go_enter Try.func43, Try.ntmps43
    go_upto_region 0 with fail
    refine reg_plain (Stays [] w) (Turns [] w) (kdOf [(0, .make (fun _ => allocM (.cells #[.int .u64 a0, .int .u64 b0] 25)))]) none0 (stays_good _ _) (S0.out) (holds0 _) ?_
    refine g_alloc (stays_good _ _) (.cells #[.int .u64 a0, .int .u64 b0] 25) rfl rfl (fun w' hC => ?_) (fun gx tx nx => ?_)
    · clear hC
      go_simp
      first | done | rfl | exact ⟨rfl, rfl⟩
    clear nx
    replace tx := Lib.hid tx
    simp only [Act.put, List.setIfInBounds_toArray, List.set_cons_zero, List.set_cons_succ]
    refine g_look rfl rfl ?_ (fun w' hC => ?_) ?_
    rotate_left
    · go_simp
      first | done | rfl
    simp only [Act.put, List.setIfInBounds_toArray, List.set_cons_zero, List.set_cons_succ]
    refine g_look rfl rfl ?_ (fun w' hC => ?_) ?_
    rotate_left
    · go_simp
      first | done | rfl
    simp only [Act.put, List.setIfInBounds_toArray, List.set_cons_zero, List.set_cons_succ]
    refine g_end ?_
    intro w1 hC1 hh1
    have S1 : Hid (Stays [(gx, Obj.cells #[.int .u64 a0, .int .u64 b0] 25 (0, 0))] w w1) := Lib.hid (stays_cons ((hh1 _ _ _ (own_new _ _ _ _)).1) (stays_nil (stays_below hC1)))
    clear hC1 hh1
    go_upto_region 1 with fail
    refine reg_plain (Stays [(gx, Obj.cells #[.int .u64 a0, .int .u64 b0] 25 (0, 0))] w) (Turns [(gx, Obj.cells #[.int .u64 a0, .int .u64 b0] 25 (0, 0))] w) (kdOf [(2, .make (fun _ => callM (.tuple #[.agg #[.int .u64 0, .int .u64 (Q : Int)], .int .u64 (R : Int), .bool true]))), (7, .make (fun _ => allocM (.cells #[.int .u64 0, .int .u64 0] 25))), (8, .touch)]) none0 (stays_good _ _) (S1.out) (holds0 _) ?_
    (refine g_load 25 _ gx 25 #[.int .u64 a0, .int .u64 b0] (0, 0) _ rfl rfl rfl rfl (fun w' hC => stays_row hC (List.mem_cons_self ..)) Try.underlying25 rfl (rfl) ?_)
    simp only [Act.put, List.setIfInBounds_toArray, List.set_cons_zero, List.set_cons_succ]
    refine g_look rfl rfl ?_ (fun w' hC => ?_) ?_
    rotate_left
    · go_simp
      first | done | rfl
    simp only [Act.put, List.setIfInBounds_toArray, List.set_cons_zero, List.set_cons_succ]
    refine g_call (stays_good _ _) (.tuple #[.agg #[.int .u64 0, .int .u64 (Q : Int)], .int .u64 (R : Int), .bool true]) rfl rfl (fun w' hC => ?_) ?_
    · clear hC
      go_simp
      refine (wby_any _ a0 b0 (u : Int) HA.out HB.out HU.out).mono (fun e w2 h => ?_)
      obtain ⟨h1, h2⟩ := h
      rw [HW.out] at h1
      exact gives h1 h2
    simp only [Act.put, List.setIfInBounds_toArray, List.set_cons_zero, List.set_cons_succ]
    refine g_look rfl rfl ?_ (fun w' hC => ?_) ?_
    rotate_left
    · go_simp
      first | done | rfl
    simp only [Act.put, List.setIfInBounds_toArray, List.set_cons_zero, List.set_cons_succ]
    refine g_look rfl rfl ?_ (fun w' hC => ?_) ?_
    rotate_left
    · go_simp
      first | done | rfl
    simp only [Act.put, List.setIfInBounds_toArray, List.set_cons_zero, List.set_cons_succ]
    refine g_look rfl rfl ?_ (fun w' hC => ?_) ?_
    rotate_left
    · go_simp
      first | done | rfl
    simp only [Act.put, List.setIfInBounds_toArray, List.set_cons_zero, List.set_cons_succ]
    refine g_look rfl rfl ?_ (fun w' hC => ?_) ?_
    rotate_left
    · go_simp
      first | done | rfl
    simp only [Act.put, List.setIfInBounds_toArray, List.set_cons_zero, List.set_cons_succ]
    refine g_alloc (stays_good _ _) (.cells #[.int .u64 0, .int .u64 0] 25) rfl rfl (fun w' hC => ?_) (fun gq tq nq => ?_)
    · clear hC
      go_simp
      first | done | rfl | exact ⟨rfl, rfl⟩
    clear nq
    replace tq := Lib.hid tq
    simp only [Act.put, List.setIfInBounds_toArray, List.set_cons_zero, List.set_cons_succ]
    refine g_store gq (some 7) 25 25 _ _ #[.int .u64 0, .int .u64 0] #[.int .u64 0, .int .u64 (Q : Int)] rfl rfl rfl rfl rfl (own_new _ _ _ _) (by kernel_rfl) (rfl) (rfl) (one25 _ _) ?_
    simp only [Act.put]
    refine g_look rfl rfl ?_ (fun w' hC => ?_) ?_
    rotate_left
    · go_simp
      first | done | rfl
    simp only [Act.put, List.setIfInBounds_toArray, List.set_cons_zero, List.set_cons_succ]
    refine g_look rfl rfl ?_ (fun w' hC => ?_) ?_
    rotate_left
    · go_simp
      first | done | rfl
    simp only [Act.put, List.setIfInBounds_toArray, List.set_cons_zero, List.set_cons_succ]
    refine g_end ?_
    intro w2 hC2 hh2
    have S2 : Hid (Stays [(gx, Obj.cells #[.int .u64 a0, .int .u64 b0] 25 (0, 0)), (gq, Obj.cells #[.int .u64 0, .int .u64 (Q : Int)] 25 (0, 0))] w w2) := Lib.hid (stays_cons (stays_row hC2 (List.mem_cons_self ..)) (stays_cons ((hh2 _ _ _ (own_new _ _ _ _)).1) (stays_nil (stays_below hC2))))
    clear S1
    clear hC2 hh2
    go_upto_region 2 with fail
    refine reg_plain (Stays [(gx, Obj.cells #[.int .u64 a0, .int .u64 b0] 25 (0, 0)), (gq, Obj.cells #[.int .u64 0, .int .u64 (Q : Int)] 25 (0, 0))] w) (Turns [(gx, Obj.cells #[.int .u64 a0, .int .u64 b0] 25 (0, 0)), (gq, Obj.cells #[.int .u64 0, .int .u64 (Q : Int)] 25 (0, 0))] w) (kdOf [(1, .make (fun _ => callM (.tuple #[.int .u64 (Q : Int), .bool true])))]) none0 (stays_good _ _) (S2.out) (holds0 _) ?_
    (refine g_load 25 _ gq 25 #[.int .u64 0, .int .u64 (Q : Int)] (0, 0) _ rfl rfl rfl rfl (fun w' hC => stays_row hC (List.mem_cons_of_mem _ (List.mem_cons_self ..))) Try.underlying25 rfl (rfl) ?_)
    simp only [Act.put, List.setIfInBounds_toArray, List.set_cons_zero, List.set_cons_succ]
    refine g_call (stays_good _ _) (.tuple #[.int .u64 (Q : Int), .bool true]) rfl rfl (fun w' hC => ?_) ?_
    · clear hC
      go_simp
      refine (uint_any _ 0 (Q : Int)).mono (fun e w2 h => ?_)
      obtain ⟨h1, h2⟩ := h
      rw [HU1.out] at h1
      exact gives h1 h2
    simp only [Act.put, List.setIfInBounds_toArray, List.set_cons_zero, List.set_cons_succ]
    refine g_look rfl rfl ?_ (fun w' hC => ?_) ?_
    rotate_left
    · go_simp
      first | done | rfl
    simp only [Act.put, List.setIfInBounds_toArray, List.set_cons_zero, List.set_cons_succ]
    refine g_look rfl rfl ?_ (fun w' hC => ?_) ?_
    rotate_left
    · go_simp
      first | done | rfl
    simp only [Act.put, List.setIfInBounds_toArray, List.set_cons_zero, List.set_cons_succ]
    refine g_look rfl rfl ?_ (fun w' hC => ?_) ?_
    rotate_left
    · go_simp
      first | done | rfl
    simp only [Act.put, List.setIfInBounds_toArray, List.set_cons_zero, List.set_cons_succ]
    refine g_look rfl rfl ?_ (fun w' hC => ?_) ?_
    rotate_left
    · go_simp
      first | done | rfl
    simp only [Act.put, List.setIfInBounds_toArray, List.set_cons_zero, List.set_cons_succ]
    refine g_look rfl rfl ?_ (fun w' hC => ?_) ?_
    rotate_left
    · go_simp
      first | done | rfl
    simp only [Act.put, List.setIfInBounds_toArray, List.set_cons_zero, List.set_cons_succ]
    refine g_end ?_
    intro w3 hC3 hh3
    have S3 : Hid (Stays [(gx, Obj.cells #[.int .u64 a0, .int .u64 b0] 25 (0, 0)), (gq, Obj.cells #[.int .u64 0, .int .u64 (Q : Int)] 25 (0, 0))] w w3) := Lib.hid (stays_cons (stays_row hC3 (List.mem_cons_self ..)) (stays_cons (stays_row hC3 (List.mem_cons_of_mem _ (List.mem_cons_self ..))) (stays_nil (stays_below hC3))))
    clear S2
    clear hC3 hh3
    go_upto_region 3 with fail
    refine reg_plain (Stays [(gx, Obj.cells #[.int .u64 a0, .int .u64 b0] 25 (0, 0)), (gq, Obj.cells #[.int .u64 0, .int .u64 (Q : Int)] 25 (0, 0))] w) (Turns [(gx, Obj.cells #[.int .u64 a0, .int .u64 b0] 25 (0, 0)), (gq, Obj.cells #[.int .u64 0, .int .u64 (Q : Int)] 25 (0, 0))] w) (kdOf []) none0 (stays_good _ _) (S3.out) (holds0 _) ?_
    refine g_look rfl rfl ?_ (fun w' hC => ?_) ?_
    rotate_left
    · go_simp
      first | done | rfl
    simp only [Act.put, List.setIfInBounds_toArray, List.set_cons_zero, List.set_cons_succ]
    refine g_look rfl rfl (.bool true) (fun w' hC => ?_) ?_
    · clear hC
      go_simp
      first | done | rfl | omega | (simp; omega)
    simp only [Act.put, List.setIfInBounds_toArray, List.set_cons_zero, List.set_cons_succ]
    refine g_end ?_
    intro w4 hC4 hh4
    have S4 : Hid (Stays [(gx, Obj.cells #[.int .u64 a0, .int .u64 b0] 25 (0, 0)), (gq, Obj.cells #[.int .u64 0, .int .u64 (Q : Int)] 25 (0, 0))] w w4) := Lib.hid (stays_cons (stays_row hC4 (List.mem_cons_self ..)) (stays_cons (stays_row hC4 (List.mem_cons_of_mem _ (List.mem_cons_self ..))) (stays_nil (stays_below hC4))))
    clear S3
    clear hC4 hh4
    go_upto_region 5 with fail
    refine reg_plain (Stays [(gx, Obj.cells #[.int .u64 a0, .int .u64 b0] 25 (0, 0)), (gq, Obj.cells #[.int .u64 0, .int .u64 (Q : Int)] 25 (0, 0))] w) (Turns [(gx, Obj.cells #[.int .u64 a0, .int .u64 b0] 25 (0, 0)), (gq, Obj.cells #[.int .u64 0, .int .u64 (Q : Int)] 25 (0, 0))] w) (kdOf [(1, .make (fun _ => callM (.bool true)))]) none0 (stays_good _ _) (S4.out) (holds0 _) ?_
    (refine g_load 25 _ gx 25 #[.int .u64 a0, .int .u64 b0] (0, 0) _ rfl rfl rfl rfl (fun w' hC => stays_row hC (List.mem_cons_self ..)) Try.underlying25 rfl (rfl) ?_)
    simp only [Act.put, List.setIfInBounds_toArray, List.set_cons_zero, List.set_cons_succ]
    refine g_call (stays_good _ _) (.bool true) rfl rfl (fun w' hC => ?_) ?_
    · clear hC
      go_simp
      refine (fits_any _ a0 b0 HA.out HB.out).mono (fun e w2 h => ?_)
      obtain ⟨h1, h2⟩ := h
      rw [HF.out] at h1
      exact gives h1 h2
    simp only [Act.put, List.setIfInBounds_toArray, List.set_cons_zero, List.set_cons_succ]
    refine g_look rfl rfl ?_ (fun w' hC => ?_) ?_
    rotate_left
    · go_simp
      first | done | rfl
    simp only [Act.put, List.setIfInBounds_toArray, List.set_cons_zero, List.set_cons_succ]
    refine g_look rfl rfl ?_ (fun w' hC => ?_) ?_
    rotate_left
    · go_simp
      first | done | rfl
    simp only [Act.put, List.setIfInBounds_toArray, List.set_cons_zero, List.set_cons_succ]
    first
    | (refine g_skip rfl ?_)
    | (refine g_look rfl rfl ?_ (fun w' hC => ?_) ?_
       rotate_left
       · go_simp
         first | done | rfl)
    simp only [Act.put, List.setIfInBounds_toArray, List.set_cons_zero, List.set_cons_succ]
    first
    | (refine g_skip rfl ?_)
    | (refine g_look rfl rfl ?_ (fun w' hC => ?_) ?_
       rotate_left
       · go_simp
         first | done | rfl)
    simp only [Act.put, List.setIfInBounds_toArray, List.set_cons_zero, List.set_cons_succ]
    refine g_look rfl rfl ?_ (fun w' hC => ?_) ?_
    rotate_left
    · go_simp
      first | done | rfl
    simp only [Act.put, List.setIfInBounds_toArray, List.set_cons_zero, List.set_cons_succ]
    refine g_look rfl rfl ?_ (fun w' hC => ?_) ?_
    rotate_left
    · go_simp
      first | done | rfl
    simp only [Act.put, List.setIfInBounds_toArray, List.set_cons_zero, List.set_cons_succ]
    first
    | (refine g_skip rfl ?_)
    | (refine g_look rfl rfl ?_ (fun w' hC => ?_) ?_
       rotate_left
       · go_simp
         first | done | rfl)
    simp only [Act.put, List.setIfInBounds_toArray, List.set_cons_zero, List.set_cons_succ]
    first
    | (refine g_skip rfl ?_)
    | (refine g_look rfl rfl ?_ (fun w' hC => ?_) ?_
       rotate_left
       · go_simp
         first | done | rfl)
    simp only [Act.put, List.setIfInBounds_toArray, List.set_cons_zero, List.set_cons_succ]
    refine g_look rfl rfl (.bool false) (fun w' hC => ?_) ?_
    · clear hC
      go_simp
      first | done | rfl | omega
    simp only [Act.put, List.setIfInBounds_toArray, List.set_cons_zero, List.set_cons_succ]
    refine g_end ?_
    intro w5 hC5 hh5
    have S5 : Hid (Stays [(gx, Obj.cells #[.int .u64 a0, .int .u64 b0] 25 (0, 0)), (gq, Obj.cells #[.int .u64 0, .int .u64 (Q : Int)] 25 (0, 0))] w w5) := Lib.hid (stays_cons (stays_row hC5 (List.mem_cons_self ..)) (stays_cons (stays_row hC5 (List.mem_cons_of_mem _ (List.mem_cons_self ..))) (stays_nil (stays_below hC5))))
    clear S4
    clear hC5 hh5
    go_wp2_with fail
    refine bodyPost_ret (v := .tuple #[.int .i64 (C : Int), .int .i64 0]) (by simp [results, Try.results43, go_sem]) rfl ⟨rfl, stays_below S5.out⟩
set_option maxHeartbeats 4000000 in
theorem units_any (w : World) (a0 b0 : Int) (X : Nat) (hX : wval a0 b0 = (X : Int)) (ha : U a0) (hb : U b0) (hm : (X : Int) ≤ Most) (hc : ceilOf X 1000000000 ≤ 1152921504606846976) : Calls Try.prog 13 #[wv a0 b0] w (Ret w (.tuple #[.int .i64 (ceilOf X 1000000000 : Nat), .int .i64 0])) := by
  have HX := Lib.hid hX
  have HA := Lib.hid ha
  have HB := Lib.hid hb
  have HM := Lib.hid hm
  have HC := Lib.hid hc
  clear hX ha hb hm hc
  have S0 : Hid (Stays [] w w) := Lib.hid (stays_nil (Below.refl _ _))
  go_enter Try.func13, Try.ntmps13
  go_upto_region 0 with fail
  refine reg_plain (Stays [] w) (Turns [] w) (kdOf [(0, .make (fun _ => allocM (.cells #[.int .u64 a0, .int .u64 b0] 25)))]) none0 (stays_good _ _) (S0.out) (holds0 _) ?_
  refine g_alloc (stays_good _ _) (.cells #[.int .u64 a0, .int .u64 b0] 25) rfl rfl (fun w' hC => ?_) (fun gx tx nx => ?_)
  · clear hC
    go_simp
    first | done | rfl | exact ⟨rfl, rfl⟩
  clear nx
  replace tx := Lib.hid tx
  simp only [Act.put, List.setIfInBounds_toArray, List.set_cons_zero, List.set_cons_succ]
  refine g_look rfl rfl ?_ (fun w' hC => ?_) ?_
  rotate_left
  · go_simp
    first | done | rfl
  simp only [Act.put, List.setIfInBounds_toArray, List.set_cons_zero, List.set_cons_succ]
  refine g_look rfl rfl ?_ (fun w' hC => ?_) ?_
  rotate_left
  · go_simp
    first | done | rfl
  simp only [Act.put, List.setIfInBounds_toArray, List.set_cons_zero, List.set_cons_succ]
  refine g_end ?_
  intro w1 hC1 hh1
  have S1 : Hid (Stays [(gx, Obj.cells #[.int .u64 a0, .int .u64 b0] 25 (0, 0))] w w1) := Lib.hid (stays_cons ((hh1 _ _ _ (own_new _ _ _ _)).1) (stays_nil (stays_below hC1)))
  clear hC1 hh1
  go_upto_region 1 with fail
  refine reg_plain (Stays [(gx, Obj.cells #[.int .u64 a0, .int .u64 b0] 25 (0, 0))] w) (Turns [(gx, Obj.cells #[.int .u64 a0, .int .u64 b0] 25 (0, 0))] w) (kdOf [(1, .make (fun _ => callM (.tuple #[.int .i64 (ceilOf X 1000000000 : Nat), .int .i64 0])))]) none0 (stays_good _ _) (S1.out) (holds0 _) ?_
  (refine g_load 25 _ gx 25 #[.int .u64 a0, .int .u64 b0] (0, 0) _ rfl rfl rfl rfl (fun w' hC => stays_row hC (List.mem_cons_self ..)) Try.underlying25 rfl (rfl) ?_)
  simp only [Act.put, List.setIfInBounds_toArray, List.set_cons_zero, List.set_cons_succ]
  refine g_call (stays_good _ _) (.tuple #[.int .i64 (ceilOf X 1000000000 : Nat), .int .i64 0]) rfl rfl (fun w' hC => ?_) ?_
  · clear hC
    go_simp
    refine (parts_any _ a0 b0 X 1000000000 HX.out HA.out HB.out HM.out (by decide) (by unfold U; decide) HC.out).mono (fun e w2 h => ?_)
    obtain ⟨h1, h2⟩ := h
    exact gives h1 h2
  simp only [Act.put, List.setIfInBounds_toArray, List.set_cons_zero, List.set_cons_succ]
  refine g_look rfl rfl ?_ (fun w' hC => ?_) ?_
  rotate_left
  · go_simp
    first | done | rfl
  simp only [Act.put, List.setIfInBounds_toArray, List.set_cons_zero, List.set_cons_succ]
  refine g_look rfl rfl ?_ (fun w' hC => ?_) ?_
  rotate_left
  · go_simp
    first | done | rfl
  simp only [Act.put, List.setIfInBounds_toArray, List.set_cons_zero, List.set_cons_succ]
  refine g_look rfl rfl ?_ (fun w' hC => ?_) ?_
  rotate_left
  · go_simp
    first | done | rfl
  simp only [Act.put, List.setIfInBounds_toArray, List.set_cons_zero, List.set_cons_succ]
  refine g_look rfl rfl ?_ (fun w' hC => ?_) ?_
  rotate_left
  · go_simp
    first | done | rfl
  simp only [Act.put, List.setIfInBounds_toArray, List.set_cons_zero, List.set_cons_succ]
  refine g_end ?_
  intro w2 hC2 hh2
  have S2 : Hid (Stays [(gx, Obj.cells #[.int .u64 a0, .int .u64 b0] 25 (0, 0))] w w2) := Lib.hid (stays_cons (stays_row hC2 (List.mem_cons_self ..)) (stays_nil (stays_below hC2)))
  clear S1
  clear hC2 hh2
  go_wp2_with fail
  refine bodyPost_ret (v := .tuple #[.int .i64 (ceilOf X 1000000000 : Nat), .int .i64 0]) (by simp [results, Try.results13, go_sem]) rfl ⟨rfl, stays_below S2.out⟩
set_option maxHeartbeats 4000000 in
theorem milli_any (w : World) (a0 b0 : Int) (X : Nat) (hX : wval a0 b0 = (X : Int)) (ha : U a0) (hb : U b0) (hm : (X : Int) ≤ Most) (hc : ceilOf X 1000000 ≤ 1152921504606846976) : Calls Try.prog 15 #[wv a0 b0] w (Ret w (.tuple #[.int .i64 (ceilOf X 1000000 : Nat), .int .i64 0])) := by
  have HX := Lib.hid hX
  have HA := Lib.hid ha
  have HB := Lib.hid hb
  have HM := Lib.hid hm
  have HC := Lib.hid hc
  clear hX ha hb hm hc
  have S0 : Hid (Stays [] w w) := Lib.hid (stays_nil (Below.refl _ _))
  go_enter Try.func15, Try.ntmps15
  go_upto_region 0 with fail
  refine reg_plain (Stays [] w) (Turns [] w) (kdOf [(0, .make (fun _ => allocM (.cells #[.int .u64 a0, .int .u64 b0] 25)))]) none0 (stays_good _ _) (S0.out) (holds0 _) ?_
  refine g_alloc (stays_good _ _) (.cells #[.int .u64 a0, .int .u64 b0] 25) rfl rfl (fun w' hC => ?_) (fun gx tx nx => ?_)
  · clear hC
    go_simp
    first | done | rfl | exact ⟨rfl, rfl⟩
  clear nx
  replace tx := Lib.hid tx
  simp only [Act.put, List.setIfInBounds_toArray, List.set_cons_zero, List.set_cons_succ]
  refine g_look rfl rfl ?_ (fun w' hC => ?_) ?_
  rotate_left
  · go_simp
    first | done | rfl
  simp only [Act.put, List.setIfInBounds_toArray, List.set_cons_zero, List.set_cons_succ]
  refine g_look rfl rfl ?_ (fun w' hC => ?_) ?_
  rotate_left
  · go_simp
    first | done | rfl
  simp only [Act.put, List.setIfInBounds_toArray, List.set_cons_zero, List.set_cons_succ]
  refine g_end ?_
  intro w1 hC1 hh1
  have S1 : Hid (Stays [(gx, Obj.cells #[.int .u64 a0, .int .u64 b0] 25 (0, 0))] w w1) := Lib.hid (stays_cons ((hh1 _ _ _ (own_new _ _ _ _)).1) (stays_nil (stays_below hC1)))
  clear hC1 hh1
  go_upto_region 1 with fail
  refine reg_plain (Stays [(gx, Obj.cells #[.int .u64 a0, .int .u64 b0] 25 (0, 0))] w) (Turns [(gx, Obj.cells #[.int .u64 a0, .int .u64 b0] 25 (0, 0))] w) (kdOf [(1, .make (fun _ => callM (.tuple #[.int .i64 (ceilOf X 1000000 : Nat), .int .i64 0])))]) none0 (stays_good _ _) (S1.out) (holds0 _) ?_
  (refine g_load 25 _ gx 25 #[.int .u64 a0, .int .u64 b0] (0, 0) _ rfl rfl rfl rfl (fun w' hC => stays_row hC (List.mem_cons_self ..)) Try.underlying25 rfl (rfl) ?_)
  simp only [Act.put, List.setIfInBounds_toArray, List.set_cons_zero, List.set_cons_succ]
  refine g_call (stays_good _ _) (.tuple #[.int .i64 (ceilOf X 1000000 : Nat), .int .i64 0]) rfl rfl (fun w' hC => ?_) ?_
  · clear hC
    go_simp
    refine (parts_any _ a0 b0 X 1000000 HX.out HA.out HB.out HM.out (by decide) (by unfold U; decide) HC.out).mono (fun e w2 h => ?_)
    obtain ⟨h1, h2⟩ := h
    exact gives h1 h2
  simp only [Act.put, List.setIfInBounds_toArray, List.set_cons_zero, List.set_cons_succ]
  refine g_look rfl rfl ?_ (fun w' hC => ?_) ?_
  rotate_left
  · go_simp
    first | done | rfl
  simp only [Act.put, List.setIfInBounds_toArray, List.set_cons_zero, List.set_cons_succ]
  refine g_look rfl rfl ?_ (fun w' hC => ?_) ?_
  rotate_left
  · go_simp
    first | done | rfl
  simp only [Act.put, List.setIfInBounds_toArray, List.set_cons_zero, List.set_cons_succ]
  refine g_look rfl rfl ?_ (fun w' hC => ?_) ?_
  rotate_left
  · go_simp
    first | done | rfl
  simp only [Act.put, List.setIfInBounds_toArray, List.set_cons_zero, List.set_cons_succ]
  refine g_look rfl rfl ?_ (fun w' hC => ?_) ?_
  rotate_left
  · go_simp
    first | done | rfl
  simp only [Act.put, List.setIfInBounds_toArray, List.set_cons_zero, List.set_cons_succ]
  refine g_end ?_
  intro w2 hC2 hh2
  have S2 : Hid (Stays [(gx, Obj.cells #[.int .u64 a0, .int .u64 b0] 25 (0, 0))] w w2) := Lib.hid (stays_cons (stays_row hC2 (List.mem_cons_self ..)) (stays_nil (stays_below hC2)))
  clear S1
  clear hC2 hh2
  go_wp2_with fail
  refine bodyPost_ret (v := .tuple #[.int .i64 (ceilOf X 1000000 : Nat), .int .i64 0]) (by simp [results, Try.results15, go_sem]) rfl ⟨rfl, stays_below S2.out⟩
theorem results_err49 {W : World} {g : Nat} {x y t : Value} {tmps : Array Value} (h : W.heap[g]? = some (.cells #[x, y] 25 (0, 0))) (i24 : (Try.prog.info? 25).map (·.size) = some 2 := by rfl) (e4 : tmps.getD 4 undef = .pointer (some ⟨g, 0, none⟩) := by rfl) (e5 : tmps.getD 5 undef = t := by rfl) :
    (results Try.f49 tmps).run Try.prog W = .ok (.tuple #[.agg #[x, y], t]) W := by
  have h' := run_loadVar_row (P := Try.prog) W g 25 25 _ (0, 0) _ h Try.underlying25 rfl i24
  have e4' : tmps[4]?.getD undef = .pointer (some ⟨g, 0, none⟩) := by simpa using e4
  have e5' : tmps[5]?.getD undef = t := by simpa using e5
  simp [results, Try.results49, e4', e5', asAddr, h']
theorem results_err18 {W : World} {g : Nat} {x y t : Value} {tmps : Array Value} (h : W.heap[g]? = some (.cells #[x, y] 25 (0, 0))) (i24 : (Try.prog.info? 25).map (·.size) = some 2 := by rfl) (e4 : tmps.getD 2 undef = .pointer (some ⟨g, 0, none⟩) := by rfl) (e5 : tmps.getD 3 undef = t := by rfl) :
    (results Try.f18 tmps).run Try.prog W = .ok (.tuple #[.agg #[x, y], t]) W := by
  have h' := run_loadVar_row (P := Try.prog) W g 25 25 _ (0, 0) _ h Try.underlying25 rfl i24
  have e4' : tmps[2]?.getD undef = .pointer (some ⟨g, 0, none⟩) := by simpa using e4
  have e5' : tmps[3]?.getD undef = t := by simpa using e5
  simp [results, Try.results18, e4', e5', asAddr, h']
set_option maxHeartbeats 4000000 in
set_option maxRecDepth 100000 in
/-- So many parts, as an amount. -/
theorem of_parts (w : World) (n u : Nat) (hn : n ≤ 1152921504606846976) (hu : U (u : Int)) : Calls Try.prog 49 #[.int .i64 n, .int .u64 u] w (Ret w (.tuple #[wn (n * u : Nat), .int .i64 0])) := by
  have hl : ((n * u : Nat) : Int) < Lim := by
    have h1 : n * u ≤ 1152921504606846976 * 18446744073709551616 := Nat.mul_le_mul hn (by unfold U at hu; omega)
    unfold Lim
    generalize n * u = q at *
    omega
  obtain ⟨q1, q2, _, _, hv, he⟩ := wn_open (Int.natCast_nonneg (n * u)) hl
  have hw : wval 0 (n : Int) * (u : Int) = ((n * u : Nat) : Int) := by unfold wval; simp
  have HW : Hid (optV (wval 0 (n : Int) * (u : Int)) (wval 0 (n : Int) * (u : Int) < 340282366920938463463374607431768211456) = .tuple #[.agg #[.int .u64 q1, .int .u64 q2], .bool true]) := Lib.hid (by rw [hw, opt_yes hl, he])
  rw [he]
  have HU := Lib.hid hu
  have HN := Lib.hid (show U (n : Int) by unfold U; omega)
  have n1 : ¬ (n : Int) < 0 := by omega
  have n2 : ¬ (1152921504606846976 : Int) < (n : Int) := by omega
  have nw : IntKind.u64.wrap (n : Int) = (n : Int) := wu_small (by omega) (by omega)
  clear hv he hw hl hu hn
  have S0 : Hid (Stays [] w w) := Lib.hid (stays_nil (Below.refl _ _))
  go_enter Try.func49, Try.ntmps49
  go_upto_region 0 with fail
  refine reg_plain (Stays [] w) (Turns [] w) (kdOf [(0, .make (fun _ => allocM (.cells #[.int .u64 0, .int .u64 0] 25)))]) none0 (stays_good _ _) (S0.out) (holds0 _) ?_
  refine g_alloc (stays_good _ _) (.cells #[.int .u64 0, .int .u64 0] 25) rfl rfl (fun w' hC => ?_) (fun gr tr nr => ?_)
  · clear hC
    go_simp
    first | done | rfl | exact ⟨rfl, rfl⟩
  clear nr
  replace tr := Lib.hid tr
  simp only [Act.put, List.setIfInBounds_toArray, List.set_cons_zero, List.set_cons_succ]
  refine g_look rfl rfl ?_ (fun w' hC => ?_) ?_
  rotate_left
  · go_simp
    first | done | rfl
  simp only [Act.put, List.setIfInBounds_toArray, List.set_cons_zero, List.set_cons_succ]
  refine g_end ?_
  intro w1 hC1 hh1
  have S1 : Hid (Stays [(gr, Obj.cells #[.int .u64 0, .int .u64 0] 25 (0, 0))] w w1) := Lib.hid (stays_cons ((hh1 _ _ _ (own_new _ _ _ _)).1) (stays_nil (stays_below hC1)))
  clear hC1 hh1
  go_upto_region 1 with fail
  refine reg_plain (Stays [(gr, Obj.cells #[.int .u64 0, .int .u64 0] 25 (0, 0))] w) (Turns [(gr, Obj.cells #[.int .u64 0, .int .u64 0] 25 (0, 0))] w) (kdOf []) none0 (stays_good _ _) (S1.out) (holds0 _) ?_
  refine g_look rfl rfl ?_ (fun w' hC => ?_) ?_
  rotate_left
  · go_simp
    first | done | rfl
  simp only [Act.put, List.setIfInBounds_toArray, List.set_cons_zero, List.set_cons_succ]
  refine g_look rfl rfl (.bool false) (fun w' hC => ?_) ?_
  · clear hC
    go_simp
    first | done | rfl | omega
  simp only [Act.put, List.setIfInBounds_toArray, List.set_cons_zero, List.set_cons_succ]
  refine g_look rfl rfl ?_ (fun w' hC => ?_) ?_
  rotate_left
  · go_simp
    first | done | rfl
  simp only [Act.put, List.setIfInBounds_toArray, List.set_cons_zero, List.set_cons_succ]
  refine g_end ?_
  intro w2 hC2 hh2
  have S2 : Hid (Stays [(gr, Obj.cells #[.int .u64 0, .int .u64 0] 25 (0, 0))] w w2) := Lib.hid (stays_cons (stays_row hC2 (List.mem_cons_self ..)) (stays_nil (stays_below hC2)))
  clear S1
  clear hC2 hh2
  go_upto_region 3 with fail
  refine reg_plain (Stays [(gr, Obj.cells #[.int .u64 0, .int .u64 0] 25 (0, 0))] w) (Turns [(gr, Obj.cells #[.int .u64 0, .int .u64 0] 25 (0, 0))] w) (kdOf []) none0 (stays_good _ _) (S2.out) (holds0 _) ?_
  refine g_look rfl rfl ?_ (fun w' hC => ?_) ?_
  rotate_left
  · go_simp
    first | done | rfl
  simp only [Act.put, List.setIfInBounds_toArray, List.set_cons_zero, List.set_cons_succ]
  refine g_look rfl rfl (.bool false) (fun w' hC => ?_) ?_
  · clear hC
    go_simp
    first | done | rfl | omega
  simp only [Act.put, List.setIfInBounds_toArray, List.set_cons_zero, List.set_cons_succ]
  refine g_look rfl rfl ?_ (fun w' hC => ?_) ?_
  rotate_left
  · go_simp
    first | done | rfl
  simp only [Act.put, List.setIfInBounds_toArray, List.set_cons_zero, List.set_cons_succ]
  refine g_end ?_
  intro w3 hC3 hh3
  have S3 : Hid (Stays [(gr, Obj.cells #[.int .u64 0, .int .u64 0] 25 (0, 0))] w w3) := Lib.hid (stays_cons (stays_row hC3 (List.mem_cons_self ..)) (stays_nil (stays_below hC3)))
  clear S2
  clear hC3 hh3
  go_upto_region 5 with fail
  refine reg_plain (Stays [(gr, Obj.cells #[.int .u64 0, .int .u64 0] 25 (0, 0))] w) (Turns [(gr, Obj.cells #[.int .u64 0, .int .u64 0] 25 (0, 0))] w) (kdOf [(2, .make (fun _ => callM (wv 0 (n : Int)))), (4, .make (fun _ => callM (.tuple #[.agg #[.int .u64 q1, .int .u64 q2], .bool true]))), (8, .make (fun _ => allocM (.cells #[.int .u64 0, .int .u64 0] 25))), (9, .touch)]) none0 (stays_good _ _) (S3.out) (holds0 _) ?_
  refine g_look rfl rfl ?_ (fun w' hC => ?_) ?_
  rotate_left
  · go_simp
    first | done | rfl
  simp only [Act.put, List.setIfInBounds_toArray, List.set_cons_zero, List.set_cons_succ]
  refine g_look rfl rfl ?_ (fun w' hC => ?_) ?_
  rotate_left
  · go_simp
    first | done | rfl
  simp only [Act.put, List.setIfInBounds_toArray, List.set_cons_zero, List.set_cons_succ]
  refine g_call (stays_good _ _) (wv 0 (n : Int)) rfl rfl (fun w' hC => ?_) ?_
  · clear hC
    go_simp
    refine (of1_any _ (n : Int)).mono (fun e w2 h => ?_)
    obtain ⟨h1, h2⟩ := h
    exact gives h1 h2
  simp only [Act.put, List.setIfInBounds_toArray, List.set_cons_zero, List.set_cons_succ]
  refine g_look rfl rfl ?_ (fun w' hC => ?_) ?_
  rotate_left
  · go_simp
    first | done | rfl
  simp only [Act.put, List.setIfInBounds_toArray, List.set_cons_zero, List.set_cons_succ]
  refine g_call (stays_good _ _) (.tuple #[.agg #[.int .u64 q1, .int .u64 q2], .bool true]) rfl rfl (fun w' hC => ?_) ?_
  · clear hC
    go_simp
    refine (times_word_any _ 0 (n : Int) (u : Int) u_zero HN.out HU.out).mono (fun e w2 h => ?_)
    obtain ⟨h1, h2⟩ := h
    rw [HW.out] at h1
    exact gives h1 h2
  simp only [Act.put, List.setIfInBounds_toArray, List.set_cons_zero, List.set_cons_succ]
  refine g_look rfl rfl ?_ (fun w' hC => ?_) ?_
  rotate_left
  · go_simp
    first | done | rfl
  simp only [Act.put, List.setIfInBounds_toArray, List.set_cons_zero, List.set_cons_succ]
  refine g_look rfl rfl ?_ (fun w' hC => ?_) ?_
  rotate_left
  · go_simp
    first | done | rfl
  simp only [Act.put, List.setIfInBounds_toArray, List.set_cons_zero, List.set_cons_succ]
  refine g_look rfl rfl ?_ (fun w' hC => ?_) ?_
  rotate_left
  · go_simp
    first | done | rfl
  simp only [Act.put, List.setIfInBounds_toArray, List.set_cons_zero, List.set_cons_succ]
  refine g_alloc (stays_good _ _) (.cells #[.int .u64 0, .int .u64 0] 25) rfl rfl (fun w' hC => ?_) (fun ga ta na => ?_)
  · clear hC
    go_simp
    first | done | rfl | exact ⟨rfl, rfl⟩
  clear na
  replace ta := Lib.hid ta
  simp only [Act.put, List.setIfInBounds_toArray, List.set_cons_zero, List.set_cons_succ]
  refine g_store ga (some 8) 25 25 _ _ #[.int .u64 0, .int .u64 0] #[.int .u64 q1, .int .u64 q2] rfl rfl rfl rfl rfl (own_new _ _ _ _) (by kernel_rfl) (rfl) (rfl) (one25 _ _) ?_
  simp only [Act.put]
  refine g_look rfl rfl ?_ (fun w' hC => ?_) ?_
  rotate_left
  · go_simp
    first | done | rfl
  simp only [Act.put, List.setIfInBounds_toArray, List.set_cons_zero, List.set_cons_succ]
  refine g_end ?_
  intro w4 hC4 hh4
  have S4 : Hid (Stays [(gr, Obj.cells #[.int .u64 0, .int .u64 0] 25 (0, 0)), (ga, Obj.cells #[.int .u64 q1, .int .u64 q2] 25 (0, 0))] w w4) := Lib.hid (stays_cons (stays_row hC4 (List.mem_cons_self ..)) (stays_cons ((hh4 _ _ _ (own_new _ _ _ _)).1) (stays_nil (stays_below hC4))))
  clear S3
  clear hC4 hh4
  go_upto_region 6 with fail
  refine reg_plain (Stays [(ga, Obj.cells #[.int .u64 q1, .int .u64 q2] 25 (0, 0))] w) (Turns [(ga, Obj.cells #[.int .u64 q1, .int .u64 q2] 25 (0, 0))] w) (kdOf [(1, .touch)]) (Own.has none0 gr (Obj.cells #[.int .u64 0, .int .u64 0] 25 (0, 0))) (stays_good _ _) (stays_cons (stays_row S4.out (List.mem_cons_of_mem _ (List.mem_cons_self ..))) (stays_nil (stays_below S4.out))) (holds_has (holds0 _) (stays_row S4.out (List.mem_cons_self ..)) (turns_cons (turns_head ta.out).symm (turns_nil tr.out.2))) ?_
  (refine g_load 25 _ ga 25 #[.int .u64 q1, .int .u64 q2] (0, 0) _ rfl rfl rfl rfl (fun w' hC => stays_row hC (List.mem_cons_self ..)) Try.underlying25 rfl (rfl) ?_)
  simp only [Act.put, List.setIfInBounds_toArray, List.set_cons_zero, List.set_cons_succ]
  refine g_store gr none 25 25 _ _ #[.int .u64 0, .int .u64 0] #[.int .u64 q1, .int .u64 q2] rfl rfl rfl rfl rfl (has_same _ _ _) (by kernel_rfl) (rfl) (rfl) (one25 _ _) ?_
  simp only [Act.put]
  refine g_look rfl rfl ?_ (fun w' hC => ?_) ?_
  rotate_left
  · go_simp
    first | done | rfl
  simp only [Act.put, List.setIfInBounds_toArray, List.set_cons_zero, List.set_cons_succ]
  refine g_end ?_
  intro w5 hC5 hh5
  have S5 : Hid (Stays [(gr, Obj.cells #[.int .u64 q1, .int .u64 q2] 25 (0, 0)), (ga, Obj.cells #[.int .u64 q1, .int .u64 q2] 25 (0, 0))] w w5) := Lib.hid (stays_cons ((hh5 _ _ _ (own_new _ _ _ _)).1) (stays_cons (stays_row hC5 (List.mem_cons_self ..)) (stays_nil (stays_below hC5))))
  clear S4
  clear hC5 hh5
  go_wp2_with fail
  refine bodyPost_ret (v := .tuple #[.agg #[.int .u64 q1, .int .u64 q2], .int .i64 0]) (results_err49 (stays_head S5.out)) rfl ⟨rfl, stays_below S5.out⟩
set_option maxHeartbeats 4000000 in
theorem of_units (w : World) (n : Nat) (hn : n ≤ 1152921504606846976) : Calls Try.prog 18 #[.int .i64 n] w (Ret w (.tuple #[wn (n * 1000000000 : Nat), .int .i64 0])) := by
  have hl : ((n * 1000000000 : Nat) : Int) < Lim := by unfold Lim; omega
  obtain ⟨q1, q2, _, _, _, he⟩ := wn_open (Int.natCast_nonneg (n * 1000000000)) hl
  rw [he]
  have HE := Lib.hid he
  clear he hl
  have S0 : Hid (Stays [] w w) := Lib.hid (stays_nil (Below.refl _ _))
  go_enter Try.func18, Try.ntmps18
  go_upto_region 0 with fail
  refine reg_plain (Stays [] w) (Turns [] w) (kdOf [(0, .make (fun _ => allocM (.cells #[.int .u64 0, .int .u64 0] 25)))]) none0 (stays_good _ _) (S0.out) (holds0 _) ?_
  refine g_alloc (stays_good _ _) (.cells #[.int .u64 0, .int .u64 0] 25) rfl rfl (fun w' hC => ?_) (fun gr tr nr => ?_)
  · clear hC
    go_simp
    first | done | rfl | exact ⟨rfl, rfl⟩
  clear nr
  replace tr := Lib.hid tr
  simp only [Act.put, List.setIfInBounds_toArray, List.set_cons_zero, List.set_cons_succ]
  refine g_look rfl rfl ?_ (fun w' hC => ?_) ?_
  rotate_left
  · go_simp
    first | done | rfl
  simp only [Act.put, List.setIfInBounds_toArray, List.set_cons_zero, List.set_cons_succ]
  refine g_end ?_
  intro w1 hC1 hh1
  have S1 : Hid (Stays [(gr, Obj.cells #[.int .u64 0, .int .u64 0] 25 (0, 0))] w w1) := Lib.hid (stays_cons ((hh1 _ _ _ (own_new _ _ _ _)).1) (stays_nil (stays_below hC1)))
  clear hC1 hh1
  go_upto_region 1 with fail
  refine reg_plain (Stays [] w) (Turns [] w) (kdOf [(1, .make (fun _ => callM (.tuple #[.agg #[.int .u64 q1, .int .u64 q2], .int .i64 0]))), (4, .touch)]) (Own.has none0 gr (Obj.cells #[.int .u64 0, .int .u64 0] 25 (0, 0))) (stays_good _ _) (stays_nil (stays_below S1.out)) (holds_has (holds0 _) (stays_row S1.out (List.mem_cons_self ..)) (turns_nil tr.out.2)) ?_
  refine g_look rfl rfl ?_ (fun w' hC => ?_) ?_
  rotate_left
  · go_simp
    first | done | rfl
  simp only [Act.put, List.setIfInBounds_toArray, List.set_cons_zero, List.set_cons_succ]
  refine g_call (stays_good _ _) (.tuple #[.agg #[.int .u64 q1, .int .u64 q2], .int .i64 0]) rfl rfl (fun w' hC => ?_) ?_
  · clear hC
    go_simp
    refine (of_parts _ n 1000000000 hn (by unfold U; decide)).mono (fun e w2 h => ?_)
    obtain ⟨h1, h2⟩ := h
    rw [HE.out] at h1
    exact gives h1 h2
  simp only [Act.put, List.setIfInBounds_toArray, List.set_cons_zero, List.set_cons_succ]
  refine g_look rfl rfl ?_ (fun w' hC => ?_) ?_
  rotate_left
  · go_simp
    first | done | rfl
  simp only [Act.put, List.setIfInBounds_toArray, List.set_cons_zero, List.set_cons_succ]
  refine g_look rfl rfl ?_ (fun w' hC => ?_) ?_
  rotate_left
  · go_simp
    first | done | rfl
  simp only [Act.put, List.setIfInBounds_toArray, List.set_cons_zero, List.set_cons_succ]
  refine g_store gr none 25 25 _ _ #[.int .u64 0, .int .u64 0] #[.int .u64 q1, .int .u64 q2] rfl rfl rfl rfl rfl (has_same _ _ _) (by kernel_rfl) (rfl) (rfl) (one25 _ _) ?_
  simp only [Act.put]
  refine g_look rfl rfl ?_ (fun w' hC => ?_) ?_
  rotate_left
  · go_simp
    first | done | rfl
  simp only [Act.put, List.setIfInBounds_toArray, List.set_cons_zero, List.set_cons_succ]
  refine g_end ?_
  intro w2 hC2 hh2
  have S2 : Hid (Stays [(gr, Obj.cells #[.int .u64 q1, .int .u64 q2] 25 (0, 0))] w w2) := Lib.hid (stays_cons ((hh2 _ _ _ (own_new _ _ _ _)).1) (stays_nil (stays_below hC2)))
  clear S1
  clear hC2 hh2
  go_wp2_with fail
  refine bodyPost_ret (v := .tuple #[.agg #[.int .u64 q1, .int .u64 q2], .int .i64 0]) (results_err18 (stays_head S2.out)) rfl ⟨rfl, stays_below S2.out⟩
end Go.Proofs.Ythpdfacdjgkmpaa.Wi
