/- The binary text of an amount, by a walk. -/
import Derived.Test.YthpdfacdjgkmpaaEm
import Derived.Laws.Bits64b
namespace Go.Proofs.Ythpdfacdjgkmpaa.Wi
open Go.RowKit K

attribute [local go_sem] lookTo stepTo Maker.step
attribute [local go_sem ↓] idxL st_size one_size st_list add_st
def sufB (k : Nat) : List UInt8 := ([[], [75, 105], [77, 105], [71, 105], [84, 105], [80, 105], [69, 105]] : List (List UInt8)).getD k []
def sevT : Array Value := #[.string ⟨#[]⟩, .string ⟨#[75, 105]⟩, .string ⟨#[77, 105]⟩, .string ⟨#[71, 105]⟩, .string ⟨#[84, 105]⟩, .string ⟨#[80, 105]⟩, .string ⟨#[69, 105]⟩]
theorem sev_at {k : Nat} (h : k ≤ 6) : sevT[k]? = some (.string ⟨(sufB k).toArray⟩) := by
  rcases (show k = 0 ∨ k = 1 ∨ k = 2 ∨ k = 3 ∨ k = 4 ∨ k = 5 ∨ k = 6 by omega) with rfl | rfl | rfl | rfl | rfl | rfl | rfl <;> rfl
theorem sufB_le {k : Nat} (h : k ≤ 6) : (sufB k).length ≤ 2 := by
  rcases (show k = 0 ∨ k = 1 ∨ k = 2 ∨ k = 3 ∨ k = 4 ∨ k = 5 ∨ k = 6 by omega) with rfl | rfl | rfl | rfl | rfl | rfl | rfl <;> decide
/-- An amount's binary text. -/
def binL (X : Nat) : List UInt8 := if (X : Int) ≤ Most ∧ X % 1000000000 = 0 ∧ X / 1000000000 ≠ 0 ∧ X / 1000000000 % 1024 = 0 then Lib.decDigits (cutB 1024 6 (X / 1000000000)).1 ++ sufB (cutB 1024 6 (X / 1000000000)).2 else textL X
theorem and_1023 (n : Nat) (h : n < 18446744073709551616) : bits .and .u64 (n : Int) 1023 = ((n % 1024 : Nat) : Int) := by
  have h1 := bits_and_u64_nat n 1023 h (by decide)
  rw [show ((1023 : Nat) : Int) = 1023 from rfl] at h1
  rw [h1, show 1023 = 2 ^ 10 - 1 from rfl, Nat.and_two_pow_sub_one_eq_mod]
theorem bcat_len {Y k : Nat} (hY : Y < 18446744073709551616) (hk : k ≤ 6) : ¬ 9223372036854775807 < (Lib.decDigits Y).length + (sufB k).length := by
  have h1 := dec_len (X := Y) (by unfold Lim; omega)
  have h2 := sufB_le hk
  omega
theorem bin_end {X Y k Q : Nat} {V : List UInt8} (hV : binL X = V) (hQ : X / 1000000000 = Q) (hm : (X : Int) ≤ Most) (h0 : X % 1000000000 = 0) (h1 : ¬ Q = 0) (h2 : Q % 1024 = 0) (hc : cutB 1024 6 Q = ((cutB 1024 (6 - k) Y).1, (cutB 1024 (6 - k) Y).2 + k)) (he : k = 6 ∨ Y % 1024 ≠ 0) : Lib.decDigits Y ++ sufB k = V := by
  rw [← hV, binL, hQ, if_pos ⟨hm, h0, h1, h2⟩, cut_end hc he]
theorem six_step {k : Nat} (h : k < 6) : (k : Int) < 6 ∧ IntKind.i64.wrap ((k : Int) + 1) = (k : Int) + 1 ∧ k + 1 ≤ 6 ∧ 6 - ((k : Int) + 1).toNat < 6 - (k : Int).toNat := by
  have h1 : wrap64 ((k : Int) + 1) = (k : Int) + 1 := wrap_small (by omega) (by omega)
  exact ⟨by omega, by rw [i64w, h1], by omega, by omega⟩
theorem six_end {k : Nat} (h : k ≤ 6) (h2 : ¬ k < 6) : k = 6 ∧ ¬ (k : Int) < 6 := by omega
theorem q_most {X : Nat} (h : (X : Int) ≤ Most) : X / 1000000000 < 18446744073709551616 := by unfold Most at h; omega
theorem u_nat {Y : Nat} (h : Y < 18446744073709551616) : U (Y : Int) ∧ wval 0 (Y : Int) = (Y : Int) := by unfold U wval; omega
theorem q_small {q1 q2 : Int} {Q : Nat} (h1 : U q1) (h2 : U q2) (hv : wval q1 q2 = (Q : Int)) (hQ : Q < 18446744073709551616) : q1 = 0 ∧ q2 = (Q : Int) := by
  unfold U wval at *
  omega
theorem uint_any_open (a b : Int) : ∃ (n : Int) (ok : Bool), uintV a b = .tuple #[.int .u64 n, .bool ok] := by
  unfold uintV
  split
  · exact ⟨_, _, rfl⟩
  · exact ⟨_, _, rfl⟩
theorem shr_1024 (Y : Nat) : (Y : Int) / 1024 = ((Y / 1024 : Nat) : Int) := by simp
theorem ne_int {R : Nat} (h : ¬ R = 0) : ¬ (R : Int) = 0 := fun h' => h (Int.ofNat.inj h')
set_option maxHeartbeats 4000000 in
set_option maxRecDepth 100000 in
theorem abin_any (w : World) (a0 b0 : Int) (X : Nat) (hX : wval a0 b0 = (X : Int)) (ha : U a0) (hb : U b0) : Calls Try.prog 17 #[wv a0 b0] w (Ret w (.string ⟨(binL X).toArray⟩)) := by
  obtain ⟨V, hV⟩ : ∃ V, binL X = V := ⟨_, rfl⟩
  rw [hV]
  have hx := wval_lt ha hb
  obtain ⟨q1, q2, r, hw, u1, u2, hv, hr⟩ := wby_open hx.1 hx.2 (show (0 : Int) < 1000000000 by decide) (show U 1000000000 by unfold U; decide)
  rw [hX] at hv hr
  obtain ⟨hv2, hr2⟩ := q_facts (B := 1000000000) hv hr
  obtain ⟨Q, hQ⟩ : ∃ Q, X / 1000000000 = Q := ⟨_, rfl⟩
  obtain ⟨R, hR⟩ : ∃ R, X % 1000000000 = R := ⟨_, rfl⟩
  rw [hQ] at hv2
  rw [hR] at hr2
  subst hr2
  have HV := Lib.hid hV
  have HX := Lib.hid hX
  have HA := Lib.hid ha
  have HB := Lib.hid hb
  have HW := Lib.hid hw
  have HU1 := Lib.hid u1
  have HU2 := Lib.hid u2
  have HV2 := Lib.hid hv2
  have HQ := Lib.hid hQ
  have HR := Lib.hid hR
  clear hX ha hb hV hx hw u1 u2 hv hr hv2 hQ hR
  have S0 : Hid (Stays [] w w) := Lib.hid (stays_nil (Below.refl _ _))
  by_cases hm : (X : Int) ≤ Most
  · have HF : Hid (decide (wval a0 b0 ≤ Most) = true) := Lib.hid (by rw [HX.out]; exact decide_eq_true hm)
    have HM := Lib.hid hm
    have HQ64 := Lib.hid (show Q < 18446744073709551616 by rw [← HQ.out]; exact q_most hm)
    clear hm
    obtain ⟨rfl, rfl⟩ := q_small HU1.out HU2.out HV2.out HQ64.out
    have HU : Hid (uintV 0 (Q : Int) = .tuple #[.int .u64 (Q : Int), .bool true]) := Lib.hid (by rw [uintV, if_pos rfl])
    go_enter Try.func17, Try.ntmps17
    go_upto_region 0 with fail
    refine reg_plain (Stays [] w) (Turns [] w) (kdOf [(0, .make (fun _ => allocM (.cells #[.int .u64 a0, .int .u64 b0] 25)))]) none0 (stays_good _ _) (S0.out) (holds0 _) ?_
    refine g_alloc (stays_good _ _) (.cells #[.int .u64 a0, .int .u64 b0] 25) rfl rfl (fun w' hC => ?_) (fun gx tx nx => ?_)
    · clear hC
      go_simp
      first | done | rfl | exact ⟨rfl, rfl⟩
    clear nx
    replace tx := Lib.hid tx
    simp only [Act.put, List.setIfInBounds_toArray, List.set_cons_zero, List.set_cons_succ]
    refine g_look rfl rfl ?_ (fun w' hC => ?_) ?_
    rotate_left
    · go_simp
      first | done | rfl
    simp only [Act.put, List.setIfInBounds_toArray, List.set_cons_zero, List.set_cons_succ]
    refine g_end ?_
    intro w1 hC1 hh1
    have S1 : Hid (Stays [(gx, Obj.cells #[.int .u64 a0, .int .u64 b0] 25 (0, 0))] w w1) := Lib.hid (stays_cons ((hh1 _ _ _ (own_new _ _ _ _)).1) (stays_nil (stays_below hC1)))
    clear hC1 hh1
    go_upto_region 1 with fail
    refine reg_plain (Stays [(gx, Obj.cells #[.int .u64 a0, .int .u64 b0] 25 (0, 0))] w) (Turns [(gx, Obj.cells #[.int .u64 a0, .int .u64 b0] 25 (0, 0))] w) (kdOf [(1, .make (fun _ => callM (.tuple #[.agg #[.int .u64 0, .int .u64 (Q : Int)], .int .u64 (R : Int), .bool true]))), (6, .make (fun _ => allocM (.cells #[.int .u64 0, .int .u64 0] 25))), (7, .touch)]) none0 (stays_good _ _) (S1.out) (holds0 _) ?_
    (refine g_load 25 _ gx 25 #[.int .u64 a0, .int .u64 b0] (0, 0) _ rfl rfl rfl rfl (fun w' hC => stays_row hC (List.mem_cons_self ..)) Try.underlying25 rfl (rfl) ?_)
    simp only [Act.put, List.setIfInBounds_toArray, List.set_cons_zero, List.set_cons_succ]
    refine g_call (stays_good _ _) (.tuple #[.agg #[.int .u64 0, .int .u64 (Q : Int)], .int .u64 (R : Int), .bool true]) rfl rfl (fun w' hC => ?_) ?_
    · clear hC
      go_simp
      refine (wby_any _ a0 b0 1000000000 HA.out HB.out (by unfold U; decide)).mono (fun e w2 h => ?_)
      obtain ⟨h1, h2⟩ := h
      rw [HW.out] at h1
      exact gives h1 h2
    simp only [Act.put, List.setIfInBounds_toArray, List.set_cons_zero, List.set_cons_succ]
    refine g_look rfl rfl ?_ (fun w' hC => ?_) ?_
    rotate_left
    · go_simp
      first | done | rfl
    simp only [Act.put, List.setIfInBounds_toArray, List.set_cons_zero, List.set_cons_succ]
    refine g_look rfl rfl ?_ (fun w' hC => ?_) ?_
    rotate_left
    · go_simp
      first | done | rfl
    simp only [Act.put, List.setIfInBounds_toArray, List.set_cons_zero, List.set_cons_succ]
    refine g_look rfl rfl ?_ (fun w' hC => ?_) ?_
    rotate_left
    · go_simp
      first | done | rfl
    simp only [Act.put, List.setIfInBounds_toArray, List.set_cons_zero, List.set_cons_succ]
    refine g_look rfl rfl ?_ (fun w' hC => ?_) ?_
    rotate_left
    · go_simp
      first | done | rfl
    simp only [Act.put, List.setIfInBounds_toArray, List.set_cons_zero, List.set_cons_succ]
    refine g_alloc (stays_good _ _) (.cells #[.int .u64 0, .int .u64 0] 25) rfl rfl (fun w' hC => ?_) (fun gq tq nq => ?_)
    · clear hC
      go_simp
      first | done | rfl | exact ⟨rfl, rfl⟩
    clear nq
    replace tq := Lib.hid tq
    simp only [Act.put, List.setIfInBounds_toArray, List.set_cons_zero, List.set_cons_succ]
    refine g_store gq (some 6) 25 25 _ _ #[.int .u64 0, .int .u64 0] #[.int .u64 0, .int .u64 (Q : Int)] rfl rfl rfl rfl rfl (own_new _ _ _ _) (by kernel_rfl) (rfl) (rfl) (one25 _ _) ?_
    simp only [Act.put]
    refine g_look rfl rfl ?_ (fun w' hC => ?_) ?_
    rotate_left
    · go_simp
      first | done | rfl
    simp only [Act.put, List.setIfInBounds_toArray, List.set_cons_zero, List.set_cons_succ]
    refine g_look rfl rfl ?_ (fun w' hC => ?_) ?_
    rotate_left
    · go_simp
      first | done | rfl
    simp only [Act.put, List.setIfInBounds_toArray, List.set_cons_zero, List.set_cons_succ]
    refine g_end ?_
    intro w2 hC2 hh2
    have S2 : Hid (Stays [(gx, Obj.cells #[.int .u64 a0, .int .u64 b0] 25 (0, 0)), (gq, Obj.cells #[.int .u64 0, .int .u64 (Q : Int)] 25 (0, 0))] w w2) := Lib.hid (stays_cons (stays_row hC2 (List.mem_cons_self ..)) (stays_cons ((hh2 _ _ _ (own_new _ _ _ _)).1) (stays_nil (stays_below hC2))))
    clear S1
    clear hC2 hh2
    go_upto_region 2 with fail
    refine reg_plain (Stays [(gx, Obj.cells #[.int .u64 a0, .int .u64 b0] 25 (0, 0)), (gq, Obj.cells #[.int .u64 0, .int .u64 (Q : Int)] 25 (0, 0))] w) (Turns [(gx, Obj.cells #[.int .u64 a0, .int .u64 b0] 25 (0, 0)), (gq, Obj.cells #[.int .u64 0, .int .u64 (Q : Int)] 25 (0, 0))] w) (kdOf [(1, .make (fun _ => callM (.tuple #[.int .u64 (Q : Int), .bool true])))]) none0 (stays_good _ _) (S2.out) (holds0 _) ?_
    (refine g_load 25 _ gq 25 #[.int .u64 0, .int .u64 (Q : Int)] (0, 0) _ rfl rfl rfl rfl (fun w' hC => stays_row hC (List.mem_cons_of_mem _ (List.mem_cons_self ..))) Try.underlying25 rfl (rfl) ?_)
    simp only [Act.put, List.setIfInBounds_toArray, List.set_cons_zero, List.set_cons_succ]
    refine g_call (stays_good _ _) (.tuple #[.int .u64 (Q : Int), .bool true]) rfl rfl (fun w' hC => ?_) ?_
    · clear hC
      go_simp
      refine (uint_any _ 0 (Q : Int)).mono (fun e w2 h => ?_)
      obtain ⟨h1, h2⟩ := h
      rw [HU.out] at h1
      exact gives h1 h2
    simp only [Act.put, List.setIfInBounds_toArray, List.set_cons_zero, List.set_cons_succ]
    refine g_look rfl rfl ?_ (fun w' hC => ?_) ?_
    rotate_left
    · go_simp
      first | done | rfl
    simp only [Act.put, List.setIfInBounds_toArray, List.set_cons_zero, List.set_cons_succ]
    refine g_look rfl rfl ?_ (fun w' hC => ?_) ?_
    rotate_left
    · go_simp
      first | done | rfl
    simp only [Act.put, List.setIfInBounds_toArray, List.set_cons_zero, List.set_cons_succ]
    refine g_look rfl rfl ?_ (fun w' hC => ?_) ?_
    rotate_left
    · go_simp
      first | done | rfl
    simp only [Act.put, List.setIfInBounds_toArray, List.set_cons_zero, List.set_cons_succ]
    refine g_look rfl rfl ?_ (fun w' hC => ?_) ?_
    rotate_left
    · go_simp
      first | done | rfl
    simp only [Act.put, List.setIfInBounds_toArray, List.set_cons_zero, List.set_cons_succ]
    refine g_look rfl rfl ?_ (fun w' hC => ?_) ?_
    rotate_left
    · go_simp
      first | done | rfl
    simp only [Act.put, List.setIfInBounds_toArray, List.set_cons_zero, List.set_cons_succ]
    refine g_end ?_
    intro w3 hC3 hh3
    have S3 : Hid (Stays [(gx, Obj.cells #[.int .u64 a0, .int .u64 b0] 25 (0, 0)), (gq, Obj.cells #[.int .u64 0, .int .u64 (Q : Int)] 25 (0, 0))] w w3) := Lib.hid (stays_cons (stays_row hC3 (List.mem_cons_self ..)) (stays_cons (stays_row hC3 (List.mem_cons_of_mem _ (List.mem_cons_self ..))) (stays_nil (stays_below hC3))))
    clear S2
    clear hC3 hh3
    by_cases hr0 : R = 0
    · subst hr0
      by_cases hq0 : Q = 0
      · have hzi : (Q : Int) = 0 := by rw [hq0]; rfl
        have HQ0 := Lib.hid hq0
        clear hq0
        go_upto_region 3 with fail
        refine reg_plain (Stays [(gx, Obj.cells #[.int .u64 a0, .int .u64 b0] 25 (0, 0)), (gq, Obj.cells #[.int .u64 0, .int .u64 (Q : Int)] 25 (0, 0))] w) (Turns [(gx, Obj.cells #[.int .u64 a0, .int .u64 b0] 25 (0, 0)), (gq, Obj.cells #[.int .u64 0, .int .u64 (Q : Int)] 25 (0, 0))] w) (kdOf [(1, .make (fun _ => callM (.bool true)))]) none0 (stays_good _ _) (S3.out) (holds0 _) ?_
        (refine g_load 25 _ gx 25 #[.int .u64 a0, .int .u64 b0] (0, 0) _ rfl rfl rfl rfl (fun w' hC => stays_row hC (List.mem_cons_self ..)) Try.underlying25 rfl (rfl) ?_)
        simp only [Act.put, List.setIfInBounds_toArray, List.set_cons_zero, List.set_cons_succ]
        refine g_call (stays_good _ _) (.bool true) rfl rfl (fun w' hC => ?_) ?_
        · clear hC
          go_simp
          refine (fits_any _ a0 b0 HA.out HB.out).mono (fun e w2 h => ?_)
          obtain ⟨h1, h2⟩ := h
          rw [HF.out] at h1
          exact gives h1 h2
        simp only [Act.put, List.setIfInBounds_toArray, List.set_cons_zero, List.set_cons_succ]
        refine g_look rfl rfl ?_ (fun w' hC => ?_) ?_
        rotate_left
        · go_simp
          first | done | rfl
        simp only [Act.put, List.setIfInBounds_toArray, List.set_cons_zero, List.set_cons_succ]
        refine g_look rfl rfl ?_ (fun w' hC => ?_) ?_
        rotate_left
        · go_simp
          first | done | rfl
        simp only [Act.put, List.setIfInBounds_toArray, List.set_cons_zero, List.set_cons_succ]
        first
        | (refine g_skip rfl ?_)
        | (refine g_look rfl rfl ?_ (fun w' hC => ?_) ?_
           rotate_left
           · go_simp
             first | done | rfl)
        simp only [Act.put, List.setIfInBounds_toArray, List.set_cons_zero, List.set_cons_succ]
        first
        | (refine g_skip rfl ?_)
        | (refine g_look rfl rfl (.bool false) (fun w' hC => ?_) ?_
           · clear hC
             go_simp
             first | done | rfl | exact hri | (simpa using hri))
        simp only [Act.put, List.setIfInBounds_toArray, List.set_cons_zero, List.set_cons_succ]
        refine g_look rfl rfl ?_ (fun w' hC => ?_) ?_
        rotate_left
        · go_simp
          first | done | rfl
        simp only [Act.put, List.setIfInBounds_toArray, List.set_cons_zero, List.set_cons_succ]
        refine g_look rfl rfl ?_ (fun w' hC => ?_) ?_
        rotate_left
        · go_simp
          first | done | rfl
        simp only [Act.put, List.setIfInBounds_toArray, List.set_cons_zero, List.set_cons_succ]
        first
        | (refine g_skip rfl ?_)
        | (refine g_look rfl rfl ?_ (fun w' hC => ?_) ?_
           rotate_left
           · go_simp
             first | done | rfl)
        simp only [Act.put, List.setIfInBounds_toArray, List.set_cons_zero, List.set_cons_succ]
        first
        | (refine g_skip rfl ?_)
        | (refine g_look rfl rfl (.bool true) (fun w' hC => ?_) ?_
           · clear hC
             go_simp
             first | done | rfl | exact hzi | (simpa using hzi))
        simp only [Act.put, List.setIfInBounds_toArray, List.set_cons_zero, List.set_cons_succ]
        refine g_look rfl rfl ?_ (fun w' hC => ?_) ?_
        rotate_left
        · go_simp
          first | done | rfl
        simp only [Act.put, List.setIfInBounds_toArray, List.set_cons_zero, List.set_cons_succ]
        refine g_look rfl rfl ?_ (fun w' hC => ?_) ?_
        rotate_left
        · go_simp
          first | done | rfl
        simp only [Act.put, List.setIfInBounds_toArray, List.set_cons_zero, List.set_cons_succ]
        first
        | (refine g_skip rfl ?_)
        | (refine g_look rfl rfl ?_ (fun w' hC => ?_) ?_
           rotate_left
           · go_simp
             first | done | rfl)
        simp only [Act.put, List.setIfInBounds_toArray, List.set_cons_zero, List.set_cons_succ]
        first
        | (refine g_skip rfl ?_)
        | (refine g_look rfl rfl ?_ (fun w' hC => ?_) ?_
           rotate_left
           · go_simp
             first | done | rfl)
        simp only [Act.put, List.setIfInBounds_toArray, List.set_cons_zero, List.set_cons_succ]
        first
        | (refine g_skip rfl ?_)
        | (refine g_look rfl rfl ?_ (fun w' hC => ?_) ?_
           rotate_left
           · go_simp
             first | done | rfl)
        simp only [Act.put, List.setIfInBounds_toArray, List.set_cons_zero, List.set_cons_succ]
        refine g_look rfl rfl ?_ (fun w' hC => ?_) ?_
        rotate_left
        · go_simp
          first | done | rfl
        simp only [Act.put, List.setIfInBounds_toArray, List.set_cons_zero, List.set_cons_succ]
        refine g_end ?_
        intro w4 hC4 hh4
        have S4 : Hid (Stays [(gx, Obj.cells #[.int .u64 a0, .int .u64 b0] 25 (0, 0)), (gq, Obj.cells #[.int .u64 0, .int .u64 (Q : Int)] 25 (0, 0))] w w4) := Lib.hid (stays_cons (stays_row hC4 (List.mem_cons_self ..)) (stays_cons (stays_row hC4 (List.mem_cons_of_mem _ (List.mem_cons_self ..))) (stays_nil (stays_below hC4))))
        clear S3
        clear hC4 hh4
        have HT : Hid (textL X = V) := Lib.hid (by rw [← HV.out, binL, if_neg (fun h => h.2.2.1 (HQ.out.trans HQ0.out))])
        go_upto_region 4 with fail
        refine reg_plain (Stays [(gx, Obj.cells #[.int .u64 a0, .int .u64 b0] 25 (0, 0)), (gq, Obj.cells #[.int .u64 0, .int .u64 (Q : Int)] 25 (0, 0))] w) (Turns [(gx, Obj.cells #[.int .u64 a0, .int .u64 b0] 25 (0, 0)), (gq, Obj.cells #[.int .u64 0, .int .u64 (Q : Int)] 25 (0, 0))] w) (kdOf [(1, .make (fun _ => callM (.string ⟨V.toArray⟩)))]) none0 (stays_good _ _) (S4.out) (holds0 _) ?_
        (refine g_load 25 _ gx 25 #[.int .u64 a0, .int .u64 b0] (0, 0) _ rfl rfl rfl rfl (fun w' hC => stays_row hC (List.mem_cons_self ..)) Try.underlying25 rfl (rfl) ?_)
        simp only [Act.put, List.setIfInBounds_toArray, List.set_cons_zero, List.set_cons_succ]
        refine g_call (stays_good _ _) (.string ⟨V.toArray⟩) rfl rfl (fun w' hC => ?_) ?_
        · clear hC
          go_simp
          refine (atext_any _ a0 b0 X HX.out HA.out HB.out).mono (fun e w2 h => ?_)
          obtain ⟨h1, h2⟩ := h
          rw [HT.out] at h1
          exact gives h1 h2
        simp only [Act.put, List.setIfInBounds_toArray, List.set_cons_zero, List.set_cons_succ]
        refine g_look rfl rfl ?_ (fun w' hC => ?_) ?_
        rotate_left
        · go_simp
          first | done | rfl
        simp only [Act.put, List.setIfInBounds_toArray, List.set_cons_zero, List.set_cons_succ]
        refine g_end ?_
        intro w5 hC5 hh5
        have S5 : Hid (Stays [(gx, Obj.cells #[.int .u64 a0, .int .u64 b0] 25 (0, 0)), (gq, Obj.cells #[.int .u64 0, .int .u64 (Q : Int)] 25 (0, 0))] w w5) := Lib.hid (stays_cons (stays_row hC5 (List.mem_cons_self ..)) (stays_cons (stays_row hC5 (List.mem_cons_of_mem _ (List.mem_cons_self ..))) (stays_nil (stays_below hC5))))
        clear S4
        clear hC5 hh5
        go_wp2_with fail
        refine bodyPost_ret (v := .string ⟨V.toArray⟩) (by simp [results, Try.results17, go_sem]) rfl ⟨congrArg Ending.returned (rfl), stays_below S5.out⟩
      · have hzi : ¬ (Q : Int) = 0 := ne_int hq0
        have HQ0 := Lib.hid hq0
        clear hq0
        obtain ⟨M, hM⟩ : ∃ M, Q % 1024 = M := ⟨_, rfl⟩
        have HAND : Hid (bits .and .u64 (Q : Int) 1023 = (M : Int)) := Lib.hid (by rw [and_1023 Q HQ64.out, hM])
        have HMM := Lib.hid hM
        clear hM
        by_cases hm0 : M = 0
        · subst hm0
          go_upto_region 3 with fail
          refine reg_plain (Stays [(gx, Obj.cells #[.int .u64 a0, .int .u64 b0] 25 (0, 0)), (gq, Obj.cells #[.int .u64 0, .int .u64 (Q : Int)] 25 (0, 0))] w) (Turns [(gx, Obj.cells #[.int .u64 a0, .int .u64 b0] 25 (0, 0)), (gq, Obj.cells #[.int .u64 0, .int .u64 (Q : Int)] 25 (0, 0))] w) (kdOf [(1, .make (fun _ => callM (.bool true)))]) none0 (stays_good _ _) (S3.out) (holds0 _) ?_
          (refine g_load 25 _ gx 25 #[.int .u64 a0, .int .u64 b0] (0, 0) _ rfl rfl rfl rfl (fun w' hC => stays_row hC (List.mem_cons_self ..)) Try.underlying25 rfl (rfl) ?_)
          simp only [Act.put, List.setIfInBounds_toArray, List.set_cons_zero, List.set_cons_succ]
          refine g_call (stays_good _ _) (.bool true) rfl rfl (fun w' hC => ?_) ?_
          · clear hC
            go_simp
            refine (fits_any _ a0 b0 HA.out HB.out).mono (fun e w2 h => ?_)
            obtain ⟨h1, h2⟩ := h
            rw [HF.out] at h1
            exact gives h1 h2
          simp only [Act.put, List.setIfInBounds_toArray, List.set_cons_zero, List.set_cons_succ]
          refine g_look rfl rfl ?_ (fun w' hC => ?_) ?_
          rotate_left
          · go_simp
            first | done | rfl
          simp only [Act.put, List.setIfInBounds_toArray, List.set_cons_zero, List.set_cons_succ]
          refine g_look rfl rfl ?_ (fun w' hC => ?_) ?_
          rotate_left
          · go_simp
            first | done | rfl
          simp only [Act.put, List.setIfInBounds_toArray, List.set_cons_zero, List.set_cons_succ]
          first
          | (refine g_skip rfl ?_)
          | (refine g_look rfl rfl ?_ (fun w' hC => ?_) ?_
             rotate_left
             · go_simp
               first | done | rfl)
          simp only [Act.put, List.setIfInBounds_toArray, List.set_cons_zero, List.set_cons_succ]
          first
          | (refine g_skip rfl ?_)
          | (refine g_look rfl rfl (.bool false) (fun w' hC => ?_) ?_
             · clear hC
               go_simp
               first | done | rfl | exact hri | (simpa using hri))
          simp only [Act.put, List.setIfInBounds_toArray, List.set_cons_zero, List.set_cons_succ]
          refine g_look rfl rfl ?_ (fun w' hC => ?_) ?_
          rotate_left
          · go_simp
            first | done | rfl
          simp only [Act.put, List.setIfInBounds_toArray, List.set_cons_zero, List.set_cons_succ]
          refine g_look rfl rfl ?_ (fun w' hC => ?_) ?_
          rotate_left
          · go_simp
            first | done | rfl
          simp only [Act.put, List.setIfInBounds_toArray, List.set_cons_zero, List.set_cons_succ]
          first
          | (refine g_skip rfl ?_)
          | (refine g_look rfl rfl ?_ (fun w' hC => ?_) ?_
             rotate_left
             · go_simp
               first | done | rfl)
          simp only [Act.put, List.setIfInBounds_toArray, List.set_cons_zero, List.set_cons_succ]
          first
          | (refine g_skip rfl ?_)
          | (refine g_look rfl rfl (.bool false) (fun w' hC => ?_) ?_
             · clear hC
               go_simp
               first | done | rfl | exact hzi | (simpa using hzi))
          simp only [Act.put, List.setIfInBounds_toArray, List.set_cons_zero, List.set_cons_succ]
          refine g_look rfl rfl ?_ (fun w' hC => ?_) ?_
          rotate_left
          · go_simp
            first | done | rfl
          simp only [Act.put, List.setIfInBounds_toArray, List.set_cons_zero, List.set_cons_succ]
          refine g_look rfl rfl ?_ (fun w' hC => ?_) ?_
          rotate_left
          · go_simp
            first | done | rfl
          simp only [Act.put, List.setIfInBounds_toArray, List.set_cons_zero, List.set_cons_succ]
          first
          | (refine g_skip rfl ?_)
          | (refine g_look rfl rfl ?_ (fun w' hC => ?_) ?_
             rotate_left
             · go_simp
               first | done | rfl)
          simp only [Act.put, List.setIfInBounds_toArray, List.set_cons_zero, List.set_cons_succ]
          first
          | (refine g_skip rfl ?_)
          | (refine g_look rfl rfl (.int .u64 0) (fun w' hC => ?_) ?_
             · clear hC
               go_simp
               first | done | exact HAND.out | (rw [HAND.out]; done))
          simp only [Act.put, List.setIfInBounds_toArray, List.set_cons_zero, List.set_cons_succ]
          first
          | (refine g_skip rfl ?_)
          | (refine g_look rfl rfl (.bool false) (fun w' hC => ?_) ?_
             · clear hC
               go_simp
               first | done | rfl | (exact hmi) | (simpa using hmi) | (simp; done))
          simp only [Act.put, List.setIfInBounds_toArray, List.set_cons_zero, List.set_cons_succ]
          refine g_look rfl rfl ?_ (fun w' hC => ?_) ?_
          rotate_left
          · go_simp
            first | done | rfl
          simp only [Act.put, List.setIfInBounds_toArray, List.set_cons_zero, List.set_cons_succ]
          refine g_end ?_
          intro w4 hC4 hh4
          have S4 : Hid (Stays [(gx, Obj.cells #[.int .u64 a0, .int .u64 b0] 25 (0, 0)), (gq, Obj.cells #[.int .u64 0, .int .u64 (Q : Int)] 25 (0, 0))] w w4) := Lib.hid (stays_cons (stays_row hC4 (List.mem_cons_self ..)) (stays_cons (stays_row hC4 (List.mem_cons_of_mem _ (List.mem_cons_self ..))) (stays_nil (stays_below hC4))))
          clear S3
          clear hC4 hh4
          clear hzi
          go_upto_region 6 with fail
          have S30 : Hid (Stays [(w4.heap.size, Obj.cells sevT 9 (0, 0)), (gx, Obj.cells #[.int .u64 a0, .int .u64 b0] 25 (0, 0)), (gq, Obj.cells #[.int .u64 0, .int .u64 (Q : Int)] 25 (0, 0))] w (w4.alloc (Obj.cells sevT 9 (0, 0)))) := Lib.hid (stays_cons (blk_new rfl) (stays_cons (blk_alloc (stays_row S4.out (List.mem_cons_self ..)) _) (stays_cons (blk_alloc (stays_row S4.out (List.mem_cons_of_mem _ (List.mem_cons_self ..))) _) (stays_nil (b_alloc (stays_below S4.out) _)))))
          clear S4
          generalize w4.heap.size = gs at *
          generalize hwx : w4.alloc (Obj.cells sevT 9 (0, 0)) = wx at *
          try (unfold sevT at hwx; rw [hwx])
          clear hwx
          go_upto_region 6 with fail
          refine reg_plain (Stays [(gs, Obj.cells sevT 9 (0, 0)), (gx, Obj.cells #[.int .u64 a0, .int .u64 b0] 25 (0, 0)), (gq, Obj.cells #[.int .u64 0, .int .u64 (Q : Int)] 25 (0, 0))] w) (Turns [(gs, Obj.cells sevT 9 (0, 0)), (gx, Obj.cells #[.int .u64 a0, .int .u64 b0] 25 (0, 0)), (gq, Obj.cells #[.int .u64 0, .int .u64 (Q : Int)] 25 (0, 0))] w) (kdOf []) none0 (stays_good _ _) (S30.out) (holds0 _) ?_
          refine g_look rfl rfl ?_ (fun w' hC => ?_) ?_
          rotate_left
          · go_simp
            first | done | rfl
          simp only [Act.put, List.setIfInBounds_toArray, List.set_cons_zero, List.set_cons_succ]
          refine g_end ?_
          intro w31 hC31 hh31
          have S31 : Hid (Stays [(gs, Obj.cells sevT 9 (0, 0))] w w31) := Lib.hid (stays_cons (stays_row hC31 (List.mem_cons_self ..)) (stays_nil (stays_below hC31)))
          clear S30
          clear hC31 hh31
          go_wp2_with fail
          go_loopw [6, 9] (fun v i wr => ∃ (k Y : Nat), k ≤ 6 ∧ v = .int .u64 (Y : Int) ∧ i = .int .i64 k ∧ Hid (Y < 18446744073709551616) ∧ Hid (cutB 1024 6 Q = ((cutB 1024 (6 - k) Y).1, (cutB 1024 (6 - k) Y).2 + k)) ∧ Hid (Stays [(gs, Obj.cells sevT 9 (0, 0))] w wr)) (fun _ i _ => 6 - (intOf i).toNat)
          case atStart => exact ⟨0, Q, Nat.zero_le _, rfl, rfl, HQ64, Lib.hid rfl, S31⟩
          case round =>
            obtain ⟨k, Y, hk, rfl, rfl, HY, HCUT, S32⟩ := hrel
            clear S31
            have HK := Lib.hid hk
            by_cases hlt : k < 6
            · obtain ⟨hlti, hwi, hk1, hms⟩ := six_step hlt
              replace hwi := Lib.hid hwi
              replace hk1 := Lib.hid hk1
              replace hms := Lib.hid hms
              obtain ⟨L, hL⟩ : ∃ L, Y % 1024 = L := ⟨_, rfl⟩
              have HANY : Hid (bits .and .u64 (Y : Int) 1023 = (L : Int)) := Lib.hid (by rw [and_1023 Y HY.out, hL])
              have HL := Lib.hid hL
              clear hL
              by_cases hl0 : L = 0
              · subst hl0
                go_upto_region 7 with fail
                refine reg_plain (Stays [(gs, Obj.cells sevT 9 (0, 0))] w) (Turns [(gs, Obj.cells sevT 9 (0, 0))] w) (kdOf []) none0 (stays_good _ _) (S32.out) (holds0 _) ?_
                refine g_look rfl rfl ?_ (fun w' hC => ?_) ?_
                rotate_left
                · go_simp
                  first | done | rfl
                simp only [Act.put, List.setIfInBounds_toArray, List.set_cons_zero, List.set_cons_succ]
                refine g_look rfl rfl ?_ (fun w' hC => ?_) ?_
                rotate_left
                · go_simp
                  first | done | rfl
                simp only [Act.put, List.setIfInBounds_toArray, List.set_cons_zero, List.set_cons_succ]
                refine g_look rfl rfl ?_ (fun w' hC => ?_) ?_
                rotate_left
                · go_simp
                  first | done | rfl
                simp only [Act.put, List.setIfInBounds_toArray, List.set_cons_zero, List.set_cons_succ]
                refine g_look rfl rfl ?_ (fun w' hC => ?_) ?_
                rotate_left
                · go_simp
                  first | done | rfl
                simp only [Act.put, List.setIfInBounds_toArray, List.set_cons_zero, List.set_cons_succ]
                refine g_look rfl rfl (.bool true) (fun w' hC => ?_) ?_
                · clear hC
                  go_simp
                  first | done | rfl | exact hlti | (rw [show IntKind.i64.wrap 6 = 6 from rfl]; omega)
                simp only [Act.put, List.setIfInBounds_toArray, List.set_cons_zero, List.set_cons_succ]
                refine g_look rfl rfl ?_ (fun w' hC => ?_) ?_
                rotate_left
                · go_simp
                  first | done | rfl
                simp only [Act.put, List.setIfInBounds_toArray, List.set_cons_zero, List.set_cons_succ]
                first
                | (refine g_skip rfl ?_)
                | (refine g_look rfl rfl ?_ (fun w' hC => ?_) ?_
                   rotate_left
                   · go_simp
                     first | done | rfl)
                simp only [Act.put, List.setIfInBounds_toArray, List.set_cons_zero, List.set_cons_succ]
                first
                | (refine g_skip rfl ?_)
                | (refine g_look rfl rfl (.int .u64 0) (fun w' hC => ?_) ?_
                   · clear hC
                     go_simp
                     first | done | exact HANY.out | (rw [HANY.out]; done))
                simp only [Act.put, List.setIfInBounds_toArray, List.set_cons_zero, List.set_cons_succ]
                first
                | (refine g_skip rfl ?_)
                | (refine g_look rfl rfl (.bool true) (fun w' hC => ?_) ?_
                   · clear hC
                     go_simp
                     first | done | rfl | exact hyi | (simpa using hyi))
                simp only [Act.put, List.setIfInBounds_toArray, List.set_cons_zero, List.set_cons_succ]
                refine g_look rfl rfl ?_ (fun w' hC => ?_) ?_
                rotate_left
                · go_simp
                  first | done | rfl
                simp only [Act.put, List.setIfInBounds_toArray, List.set_cons_zero, List.set_cons_succ]
                refine g_end ?_
                intro w33 hC33 hh33
                have S33 : Hid (Stays [(gs, Obj.cells sevT 9 (0, 0))] w w33) := Lib.hid (stays_cons (stays_row hC33 (List.mem_cons_self ..)) (stays_nil (stays_below hC33)))
                clear S32
                clear hC33 hh33
                go_upto_region 8 with fail
                refine reg_plain (Stays [(gs, Obj.cells sevT 9 (0, 0))] w) (Turns [(gs, Obj.cells sevT 9 (0, 0))] w) (kdOf []) none0 (stays_good _ _) (S33.out) (holds0 _) ?_
                refine g_look rfl rfl ?_ (fun w' hC => ?_) ?_
                rotate_left
                · go_simp
                  first | done | rfl
                simp only [Act.put, List.setIfInBounds_toArray, List.set_cons_zero, List.set_cons_succ]
                refine g_look rfl rfl (.int .u64 ((Y / 1024 : Nat) : Int)) (fun w' hC => ?_) ?_
                · clear hC
                  go_simp
                  first | done | rfl | exact shr_1024 Y | (rw [shr_1024]; done)
                simp only [Act.put, List.setIfInBounds_toArray, List.set_cons_zero, List.set_cons_succ]
                refine g_look rfl rfl ?_ (fun w' hC => ?_) ?_
                rotate_left
                · go_simp
                  first | done | rfl
                simp only [Act.put, List.setIfInBounds_toArray, List.set_cons_zero, List.set_cons_succ]
                refine g_end ?_
                intro w34 hC34 hh34
                have S34 : Hid (Stays [(gs, Obj.cells sevT 9 (0, 0))] w w34) := Lib.hid (stays_cons (stays_row hC34 (List.mem_cons_self ..)) (stays_nil (stays_below hC34)))
                clear S33
                clear hC34 hh34
                go_upto_region 9 with fail
                refine reg_plain (Stays [(gs, Obj.cells sevT 9 (0, 0))] w) (Turns [(gs, Obj.cells sevT 9 (0, 0))] w) (kdOf []) none0 (stays_good _ _) (S34.out) (holds0 _) ?_
                refine g_look rfl rfl ?_ (fun w' hC => ?_) ?_
                rotate_left
                · go_simp
                  first | done | rfl
                simp only [Act.put, List.setIfInBounds_toArray, List.set_cons_zero, List.set_cons_succ]
                refine g_look rfl rfl (.int .i64 ((k : Int) + 1)) (fun w' hC => ?_) ?_
                · clear hC
                  go_simp
                  first | done | exact hwi.out
                simp only [Act.put, List.setIfInBounds_toArray, List.set_cons_zero, List.set_cons_succ]
                refine g_look rfl rfl ?_ (fun w' hC => ?_) ?_
                rotate_left
                · go_simp
                  first | done | rfl
                simp only [Act.put, List.setIfInBounds_toArray, List.set_cons_zero, List.set_cons_succ]
                refine g_end ?_
                intro w35 hC35 hh35
                have S35 : Hid (Stays [(gs, Obj.cells sevT 9 (0, 0))] w w35) := Lib.hid (stays_cons (stays_row hC35 (List.mem_cons_self ..)) (stays_nil (stays_below hC35)))
                clear S34
                clear hC35 hh35
                go_wp2_with fail
                go_roundw
                case rel => exact ⟨k + 1, Y / 1024, hk1.out, rfl, rfl, Lib.hid (Nat.lt_of_le_of_lt (Nat.div_le_self _ _) HY.out), Lib.hid (cut_more HCUT.out hlt HL.out), S35⟩
                case measure => exact hms.out
              · have hyi := ne_int hl0
                have HL0 : Hid (Y % 1024 ≠ 0) := Lib.hid (by rw [HL.out]; exact hl0)
                go_upto_region 7 with fail
                refine reg_plain (Stays [(gs, Obj.cells sevT 9 (0, 0))] w) (Turns [(gs, Obj.cells sevT 9 (0, 0))] w) (kdOf []) none0 (stays_good _ _) (S32.out) (holds0 _) ?_
                refine g_look rfl rfl ?_ (fun w' hC => ?_) ?_
                rotate_left
                · go_simp
                  first | done | rfl
                simp only [Act.put, List.setIfInBounds_toArray, List.set_cons_zero, List.set_cons_succ]
                refine g_look rfl rfl ?_ (fun w' hC => ?_) ?_
                rotate_left
                · go_simp
                  first | done | rfl
                simp only [Act.put, List.setIfInBounds_toArray, List.set_cons_zero, List.set_cons_succ]
                refine g_look rfl rfl ?_ (fun w' hC => ?_) ?_
                rotate_left
                · go_simp
                  first | done | rfl
                simp only [Act.put, List.setIfInBounds_toArray, List.set_cons_zero, List.set_cons_succ]
                refine g_look rfl rfl ?_ (fun w' hC => ?_) ?_
                rotate_left
                · go_simp
                  first | done | rfl
                simp only [Act.put, List.setIfInBounds_toArray, List.set_cons_zero, List.set_cons_succ]
                refine g_look rfl rfl (.bool true) (fun w' hC => ?_) ?_
                · clear hC
                  go_simp
                  first | done | rfl | exact hlti | (rw [show IntKind.i64.wrap 6 = 6 from rfl]; omega)
                simp only [Act.put, List.setIfInBounds_toArray, List.set_cons_zero, List.set_cons_succ]
                refine g_look rfl rfl ?_ (fun w' hC => ?_) ?_
                rotate_left
                · go_simp
                  first | done | rfl
                simp only [Act.put, List.setIfInBounds_toArray, List.set_cons_zero, List.set_cons_succ]
                first
                | (refine g_skip rfl ?_)
                | (refine g_look rfl rfl ?_ (fun w' hC => ?_) ?_
                   rotate_left
                   · go_simp
                     first | done | rfl)
                simp only [Act.put, List.setIfInBounds_toArray, List.set_cons_zero, List.set_cons_succ]
                first
                | (refine g_skip rfl ?_)
                | (refine g_look rfl rfl (.int .u64 (L : Int)) (fun w' hC => ?_) ?_
                   · clear hC
                     go_simp
                     first | done | exact HANY.out | (rw [HANY.out]; done))
                simp only [Act.put, List.setIfInBounds_toArray, List.set_cons_zero, List.set_cons_succ]
                first
                | (refine g_skip rfl ?_)
                | (refine g_look rfl rfl (.bool false) (fun w' hC => ?_) ?_
                   · clear hC
                     go_simp
                     first | done | rfl | exact hyi | (simpa using hyi))
                simp only [Act.put, List.setIfInBounds_toArray, List.set_cons_zero, List.set_cons_succ]
                refine g_look rfl rfl ?_ (fun w' hC => ?_) ?_
                rotate_left
                · go_simp
                  first | done | rfl
                simp only [Act.put, List.setIfInBounds_toArray, List.set_cons_zero, List.set_cons_succ]
                refine g_end ?_
                intro w33 hC33 hh33
                have S33 : Hid (Stays [(gs, Obj.cells sevT 9 (0, 0))] w w33) := Lib.hid (stays_cons (stays_row hC33 (List.mem_cons_self ..)) (stays_nil (stays_below hC33)))
                clear S32
                clear hC33 hh33
                have HCAT := Lib.hid (bcat_len HY.out HK.out)
                have HEND := Lib.hid (bin_end HV.out HQ.out HM.out HR.out HQ0.out HMM.out HCUT.out (.inr HL0.out))
                have HTEN := Lib.hid (sev_at HK.out)
                have HYU := Lib.hid (u_nat HY.out)
                have hk10 : (k : Int) < 7 := by have := HK.out; omega
                generalize hD : Lib.decDigits Y = dl at *
                generalize hS : sufB k = sl at *
                replace hD := Lib.hid hD
                clear hS HCUT
                go_upto_region 10 with fail
                refine reg (Stays [(gs, Obj.cells sevT 9 (0, 0))] w) (Turns [(gs, Obj.cells sevT 9 (0, 0))] w) (kdOf [(1, .make (fun _ => callM (.agg #[.int .u64 0, .int .u64 (Y : Int)]))), (2, .make (fun _ => callM (.string ⟨dl.toArray⟩)))]) none0 (stays_good _ _) (by kernel_rfl) (by kernel_rfl) (stays_drew (S33.out)) (holds0 _) ?_
                refine g_look rfl rfl ?_ (fun w' hC => ?_) ?_
                rotate_left
                · go_simp
                  first | done | rfl
                simp only [Act.put, List.setIfInBounds_toArray, List.set_cons_zero, List.set_cons_succ]
                refine g_call (stays_good _ _) (.agg #[.int .u64 0, .int .u64 (Y : Int)]) rfl rfl (fun w' hC => ?_) ?_
                · clear hC
                  go_simp
                  refine (of1_any _ (Y : Int)).mono (fun e w2 h => ?_)
                  obtain ⟨h1, h2⟩ := h
                  exact gives h1 h2
                simp only [Act.put, List.setIfInBounds_toArray, List.set_cons_zero, List.set_cons_succ]
                refine g_call (stays_good _ _) (.string ⟨dl.toArray⟩) rfl rfl (fun w' hC => ?_) ?_
                · clear hC
                  go_simp
                  refine (text_any _ 0 (Y : Int) Y HYU.out.2 u_zero HYU.out.1).mono (fun e w2 h => ?_)
                  obtain ⟨h1, h2⟩ := h
                  rw [hD.out] at h1
                  exact gives h1 h2
                simp only [Act.put, List.setIfInBounds_toArray, List.set_cons_zero, List.set_cons_succ]
                refine g_look rfl rfl ?_ (fun w' hC => ?_) ?_
                rotate_left
                · go_simp
                  first | done | rfl
                simp only [Act.put, List.setIfInBounds_toArray, List.set_cons_zero, List.set_cons_succ]
                refine g_look rfl rfl ?_ (fun w' hC => ?_) ?_
                rotate_left
                · go_simp
                  first | done | rfl
                simp only [Act.put, List.setIfInBounds_toArray, List.set_cons_zero, List.set_cons_succ]
                refine g_look rfl rfl (.pointer (some ⟨gs, k, none⟩)) (fun w' hC => ?_) ?_
                · clear hC
                  go_simp
                  first | done | rfl | exact ⟨rfl, rfl⟩ | (rw [if_pos hk10]; exact ⟨rfl, rfl⟩)
                simp only [Act.put, List.setIfInBounds_toArray, List.set_cons_zero, List.set_cons_succ]
                refine g_look rfl rfl (.string ⟨sl.toArray⟩) (fun w' hC => ?_) ?_
                · have c : w'.heap[gs]? = some (.cells sevT 9 (0, 0)) := stays_row hC (List.mem_cons_self ..)
                  have c0 : w'.cell? ⟨gs, k, none⟩ = some (.string ⟨sl.toArray⟩) := (cell_of_row _ _ _ _ _ _ c).trans HTEN.out
                  clear hC c
                  go_simp
                  first | done | rfl
                simp only [Act.put, List.setIfInBounds_toArray, List.set_cons_zero, List.set_cons_succ]
                refine g_look rfl rfl (.string ⟨V.toArray⟩) (fun w' hC => ?_) ?_
                · clear hC
                  go_simp
                  first | done | rfl | (rw [if_neg HCAT.out, HEND.out]; exact ⟨rfl, rfl⟩) | (simp [HCAT.out, HEND.out]; done)
                simp only [Act.put, List.setIfInBounds_toArray, List.set_cons_zero, List.set_cons_succ]
                refine g_look rfl rfl ?_ (fun w' hC => ?_) ?_
                rotate_left
                · go_simp
                  first | done | rfl
                simp only [Act.put, List.setIfInBounds_toArray, List.set_cons_zero, List.set_cons_succ]
                refine g_end ?_
                intro w34 hC34 hh34
                have S34 : Hid (Stays [(gs, Obj.cells sevT 9 (0, 0))] w w34) := Lib.hid (stays_cons (stays_row hC34 (List.mem_cons_self ..)) (stays_nil (stays_below hC34)))
                clear S33
                clear hC34 hh34
                go_wp2_with fail
                refine bodyPost_ret (v := .string ⟨V.toArray⟩) (by simp [results, Try.results17, go_sem]) rfl ⟨congrArg Ending.returned (rfl), stays_below S34.out⟩
            · obtain ⟨hk6, hlti⟩ := six_end hk hlt
              replace hk6 := Lib.hid hk6
              go_upto_region 7 with fail
              refine reg_plain (Stays [(gs, Obj.cells sevT 9 (0, 0))] w) (Turns [(gs, Obj.cells sevT 9 (0, 0))] w) (kdOf []) none0 (stays_good _ _) (S32.out) (holds0 _) ?_
              refine g_look rfl rfl ?_ (fun w' hC => ?_) ?_
              rotate_left
              · go_simp
                first | done | rfl
              simp only [Act.put, List.setIfInBounds_toArray, List.set_cons_zero, List.set_cons_succ]
              refine g_look rfl rfl ?_ (fun w' hC => ?_) ?_
              rotate_left
              · go_simp
                first | done | rfl
              simp only [Act.put, List.setIfInBounds_toArray, List.set_cons_zero, List.set_cons_succ]
              refine g_look rfl rfl ?_ (fun w' hC => ?_) ?_
              rotate_left
              · go_simp
                first | done | rfl
              simp only [Act.put, List.setIfInBounds_toArray, List.set_cons_zero, List.set_cons_succ]
              refine g_look rfl rfl ?_ (fun w' hC => ?_) ?_
              rotate_left
              · go_simp
                first | done | rfl
              simp only [Act.put, List.setIfInBounds_toArray, List.set_cons_zero, List.set_cons_succ]
              refine g_look rfl rfl (.bool false) (fun w' hC => ?_) ?_
              · clear hC
                go_simp
                first | done | rfl | exact hlti | (rw [show IntKind.i64.wrap 6 = 6 from rfl]; omega)
              simp only [Act.put, List.setIfInBounds_toArray, List.set_cons_zero, List.set_cons_succ]
              refine g_look rfl rfl ?_ (fun w' hC => ?_) ?_
              rotate_left
              · go_simp
                first | done | rfl
              simp only [Act.put, List.setIfInBounds_toArray, List.set_cons_zero, List.set_cons_succ]
              first
              | (refine g_skip rfl ?_)
              | (refine g_look rfl rfl ?_ (fun w' hC => ?_) ?_
                 rotate_left
                 · go_simp
                   first | done | rfl)
              simp only [Act.put, List.setIfInBounds_toArray, List.set_cons_zero, List.set_cons_succ]
              first
              | (refine g_skip rfl ?_)
              | (refine g_look rfl rfl ?_ (fun w' hC => ?_) ?_
                 rotate_left
                 · go_simp
                   first | done | rfl)
              simp only [Act.put, List.setIfInBounds_toArray, List.set_cons_zero, List.set_cons_succ]
              first
              | (refine g_skip rfl ?_)
              | (refine g_look rfl rfl ?_ (fun w' hC => ?_) ?_
                 rotate_left
                 · go_simp
                   first | done | rfl)
              simp only [Act.put, List.setIfInBounds_toArray, List.set_cons_zero, List.set_cons_succ]
              refine g_look rfl rfl ?_ (fun w' hC => ?_) ?_
              rotate_left
              · go_simp
                first | done | rfl
              simp only [Act.put, List.setIfInBounds_toArray, List.set_cons_zero, List.set_cons_succ]
              refine g_end ?_
              intro w33 hC33 hh33
              have S33 : Hid (Stays [(gs, Obj.cells sevT 9 (0, 0))] w w33) := Lib.hid (stays_cons (stays_row hC33 (List.mem_cons_self ..)) (stays_nil (stays_below hC33)))
              clear S32
              clear hC33 hh33
              have HCAT := Lib.hid (bcat_len HY.out HK.out)
              have HEND := Lib.hid (bin_end HV.out HQ.out HM.out HR.out HQ0.out HMM.out HCUT.out (.inl hk6.out))
              have HTEN := Lib.hid (sev_at HK.out)
              have HYU := Lib.hid (u_nat HY.out)
              have hk10 : (k : Int) < 7 := by have := HK.out; omega
              generalize hD : Lib.decDigits Y = dl at *
              generalize hS : sufB k = sl at *
              replace hD := Lib.hid hD
              clear hS HCUT
              go_upto_region 10 with fail
              refine reg (Stays [(gs, Obj.cells sevT 9 (0, 0))] w) (Turns [(gs, Obj.cells sevT 9 (0, 0))] w) (kdOf [(1, .make (fun _ => callM (.agg #[.int .u64 0, .int .u64 (Y : Int)]))), (2, .make (fun _ => callM (.string ⟨dl.toArray⟩)))]) none0 (stays_good _ _) (by kernel_rfl) (by kernel_rfl) (stays_drew (S33.out)) (holds0 _) ?_
              refine g_look rfl rfl ?_ (fun w' hC => ?_) ?_
              rotate_left
              · go_simp
                first | done | rfl
              simp only [Act.put, List.setIfInBounds_toArray, List.set_cons_zero, List.set_cons_succ]
              refine g_call (stays_good _ _) (.agg #[.int .u64 0, .int .u64 (Y : Int)]) rfl rfl (fun w' hC => ?_) ?_
              · clear hC
                go_simp
                refine (of1_any _ (Y : Int)).mono (fun e w2 h => ?_)
                obtain ⟨h1, h2⟩ := h
                exact gives h1 h2
              simp only [Act.put, List.setIfInBounds_toArray, List.set_cons_zero, List.set_cons_succ]
              refine g_call (stays_good _ _) (.string ⟨dl.toArray⟩) rfl rfl (fun w' hC => ?_) ?_
              · clear hC
                go_simp
                refine (text_any _ 0 (Y : Int) Y HYU.out.2 u_zero HYU.out.1).mono (fun e w2 h => ?_)
                obtain ⟨h1, h2⟩ := h
                rw [hD.out] at h1
                exact gives h1 h2
              simp only [Act.put, List.setIfInBounds_toArray, List.set_cons_zero, List.set_cons_succ]
              refine g_look rfl rfl ?_ (fun w' hC => ?_) ?_
              rotate_left
              · go_simp
                first | done | rfl
              simp only [Act.put, List.setIfInBounds_toArray, List.set_cons_zero, List.set_cons_succ]
              refine g_look rfl rfl ?_ (fun w' hC => ?_) ?_
              rotate_left
              · go_simp
                first | done | rfl
              simp only [Act.put, List.setIfInBounds_toArray, List.set_cons_zero, List.set_cons_succ]
              refine g_look rfl rfl (.pointer (some ⟨gs, k, none⟩)) (fun w' hC => ?_) ?_
              · clear hC
                go_simp
                first | done | rfl | exact ⟨rfl, rfl⟩ | (rw [if_pos hk10]; exact ⟨rfl, rfl⟩)
              simp only [Act.put, List.setIfInBounds_toArray, List.set_cons_zero, List.set_cons_succ]
              refine g_look rfl rfl (.string ⟨sl.toArray⟩) (fun w' hC => ?_) ?_
              · have c : w'.heap[gs]? = some (.cells sevT 9 (0, 0)) := stays_row hC (List.mem_cons_self ..)
                have c0 : w'.cell? ⟨gs, k, none⟩ = some (.string ⟨sl.toArray⟩) := (cell_of_row _ _ _ _ _ _ c).trans HTEN.out
                clear hC c
                go_simp
                first | done | rfl
              simp only [Act.put, List.setIfInBounds_toArray, List.set_cons_zero, List.set_cons_succ]
              refine g_look rfl rfl (.string ⟨V.toArray⟩) (fun w' hC => ?_) ?_
              · clear hC
                go_simp
                first | done | rfl | (rw [if_neg HCAT.out, HEND.out]; exact ⟨rfl, rfl⟩) | (simp [HCAT.out, HEND.out]; done)
              simp only [Act.put, List.setIfInBounds_toArray, List.set_cons_zero, List.set_cons_succ]
              refine g_look rfl rfl ?_ (fun w' hC => ?_) ?_
              rotate_left
              · go_simp
                first | done | rfl
              simp only [Act.put, List.setIfInBounds_toArray, List.set_cons_zero, List.set_cons_succ]
              refine g_end ?_
              intro w34 hC34 hh34
              have S34 : Hid (Stays [(gs, Obj.cells sevT 9 (0, 0))] w w34) := Lib.hid (stays_cons (stays_row hC34 (List.mem_cons_self ..)) (stays_nil (stays_below hC34)))
              clear S33
              clear hC34 hh34
              go_wp2_with fail
              refine bodyPost_ret (v := .string ⟨V.toArray⟩) (by simp [results, Try.results17, go_sem]) rfl ⟨congrArg Ending.returned (rfl), stays_below S34.out⟩
        · have hmi := ne_int hm0
          have HM0 := Lib.hid hm0
          go_upto_region 3 with fail
          refine reg_plain (Stays [(gx, Obj.cells #[.int .u64 a0, .int .u64 b0] 25 (0, 0)), (gq, Obj.cells #[.int .u64 0, .int .u64 (Q : Int)] 25 (0, 0))] w) (Turns [(gx, Obj.cells #[.int .u64 a0, .int .u64 b0] 25 (0, 0)), (gq, Obj.cells #[.int .u64 0, .int .u64 (Q : Int)] 25 (0, 0))] w) (kdOf [(1, .make (fun _ => callM (.bool true)))]) none0 (stays_good _ _) (S3.out) (holds0 _) ?_
          (refine g_load 25 _ gx 25 #[.int .u64 a0, .int .u64 b0] (0, 0) _ rfl rfl rfl rfl (fun w' hC => stays_row hC (List.mem_cons_self ..)) Try.underlying25 rfl (rfl) ?_)
          simp only [Act.put, List.setIfInBounds_toArray, List.set_cons_zero, List.set_cons_succ]
          refine g_call (stays_good _ _) (.bool true) rfl rfl (fun w' hC => ?_) ?_
          · clear hC
            go_simp
            refine (fits_any _ a0 b0 HA.out HB.out).mono (fun e w2 h => ?_)
            obtain ⟨h1, h2⟩ := h
            rw [HF.out] at h1
            exact gives h1 h2
          simp only [Act.put, List.setIfInBounds_toArray, List.set_cons_zero, List.set_cons_succ]
          refine g_look rfl rfl ?_ (fun w' hC => ?_) ?_
          rotate_left
          · go_simp
            first | done | rfl
          simp only [Act.put, List.setIfInBounds_toArray, List.set_cons_zero, List.set_cons_succ]
          refine g_look rfl rfl ?_ (fun w' hC => ?_) ?_
          rotate_left
          · go_simp
            first | done | rfl
          simp only [Act.put, List.setIfInBounds_toArray, List.set_cons_zero, List.set_cons_succ]
          first
          | (refine g_skip rfl ?_)
          | (refine g_look rfl rfl ?_ (fun w' hC => ?_) ?_
             rotate_left
             · go_simp
               first | done | rfl)
          simp only [Act.put, List.setIfInBounds_toArray, List.set_cons_zero, List.set_cons_succ]
          first
          | (refine g_skip rfl ?_)
          | (refine g_look rfl rfl (.bool false) (fun w' hC => ?_) ?_
             · clear hC
               go_simp
               first | done | rfl | exact hri | (simpa using hri))
          simp only [Act.put, List.setIfInBounds_toArray, List.set_cons_zero, List.set_cons_succ]
          refine g_look rfl rfl ?_ (fun w' hC => ?_) ?_
          rotate_left
          · go_simp
            first | done | rfl
          simp only [Act.put, List.setIfInBounds_toArray, List.set_cons_zero, List.set_cons_succ]
          refine g_look rfl rfl ?_ (fun w' hC => ?_) ?_
          rotate_left
          · go_simp
            first | done | rfl
          simp only [Act.put, List.setIfInBounds_toArray, List.set_cons_zero, List.set_cons_succ]
          first
          | (refine g_skip rfl ?_)
          | (refine g_look rfl rfl ?_ (fun w' hC => ?_) ?_
             rotate_left
             · go_simp
               first | done | rfl)
          simp only [Act.put, List.setIfInBounds_toArray, List.set_cons_zero, List.set_cons_succ]
          first
          | (refine g_skip rfl ?_)
          | (refine g_look rfl rfl (.bool false) (fun w' hC => ?_) ?_
             · clear hC
               go_simp
               first | done | rfl | exact hzi | (simpa using hzi))
          simp only [Act.put, List.setIfInBounds_toArray, List.set_cons_zero, List.set_cons_succ]
          refine g_look rfl rfl ?_ (fun w' hC => ?_) ?_
          rotate_left
          · go_simp
            first | done | rfl
          simp only [Act.put, List.setIfInBounds_toArray, List.set_cons_zero, List.set_cons_succ]
          refine g_look rfl rfl ?_ (fun w' hC => ?_) ?_
          rotate_left
          · go_simp
            first | done | rfl
          simp only [Act.put, List.setIfInBounds_toArray, List.set_cons_zero, List.set_cons_succ]
          first
          | (refine g_skip rfl ?_)
          | (refine g_look rfl rfl ?_ (fun w' hC => ?_) ?_
             rotate_left
             · go_simp
               first | done | rfl)
          simp only [Act.put, List.setIfInBounds_toArray, List.set_cons_zero, List.set_cons_succ]
          first
          | (refine g_skip rfl ?_)
          | (refine g_look rfl rfl (.int .u64 (M : Int)) (fun w' hC => ?_) ?_
             · clear hC
               go_simp
               first | done | exact HAND.out | (rw [HAND.out]; done))
          simp only [Act.put, List.setIfInBounds_toArray, List.set_cons_zero, List.set_cons_succ]
          first
          | (refine g_skip rfl ?_)
          | (refine g_look rfl rfl (.bool true) (fun w' hC => ?_) ?_
             · clear hC
               go_simp
               first | done | rfl | (exact hmi) | (simpa using hmi) | (simp; done))
          simp only [Act.put, List.setIfInBounds_toArray, List.set_cons_zero, List.set_cons_succ]
          refine g_look rfl rfl ?_ (fun w' hC => ?_) ?_
          rotate_left
          · go_simp
            first | done | rfl
          simp only [Act.put, List.setIfInBounds_toArray, List.set_cons_zero, List.set_cons_succ]
          refine g_end ?_
          intro w4 hC4 hh4
          have S4 : Hid (Stays [(gx, Obj.cells #[.int .u64 a0, .int .u64 b0] 25 (0, 0)), (gq, Obj.cells #[.int .u64 0, .int .u64 (Q : Int)] 25 (0, 0))] w w4) := Lib.hid (stays_cons (stays_row hC4 (List.mem_cons_self ..)) (stays_cons (stays_row hC4 (List.mem_cons_of_mem _ (List.mem_cons_self ..))) (stays_nil (stays_below hC4))))
          clear S3
          clear hC4 hh4
          have HT : Hid (textL X = V) := Lib.hid (by rw [← HV.out, binL, if_neg (fun h => HM0.out (HMM.out.symm.trans (by have := h.2.2.2; rw [HQ.out] at this; exact this)))])
          go_upto_region 4 with fail
          refine reg_plain (Stays [(gx, Obj.cells #[.int .u64 a0, .int .u64 b0] 25 (0, 0)), (gq, Obj.cells #[.int .u64 0, .int .u64 (Q : Int)] 25 (0, 0))] w) (Turns [(gx, Obj.cells #[.int .u64 a0, .int .u64 b0] 25 (0, 0)), (gq, Obj.cells #[.int .u64 0, .int .u64 (Q : Int)] 25 (0, 0))] w) (kdOf [(1, .make (fun _ => callM (.string ⟨V.toArray⟩)))]) none0 (stays_good _ _) (S4.out) (holds0 _) ?_
          (refine g_load 25 _ gx 25 #[.int .u64 a0, .int .u64 b0] (0, 0) _ rfl rfl rfl rfl (fun w' hC => stays_row hC (List.mem_cons_self ..)) Try.underlying25 rfl (rfl) ?_)
          simp only [Act.put, List.setIfInBounds_toArray, List.set_cons_zero, List.set_cons_succ]
          refine g_call (stays_good _ _) (.string ⟨V.toArray⟩) rfl rfl (fun w' hC => ?_) ?_
          · clear hC
            go_simp
            refine (atext_any _ a0 b0 X HX.out HA.out HB.out).mono (fun e w2 h => ?_)
            obtain ⟨h1, h2⟩ := h
            rw [HT.out] at h1
            exact gives h1 h2
          simp only [Act.put, List.setIfInBounds_toArray, List.set_cons_zero, List.set_cons_succ]
          refine g_look rfl rfl ?_ (fun w' hC => ?_) ?_
          rotate_left
          · go_simp
            first | done | rfl
          simp only [Act.put, List.setIfInBounds_toArray, List.set_cons_zero, List.set_cons_succ]
          refine g_end ?_
          intro w5 hC5 hh5
          have S5 : Hid (Stays [(gx, Obj.cells #[.int .u64 a0, .int .u64 b0] 25 (0, 0)), (gq, Obj.cells #[.int .u64 0, .int .u64 (Q : Int)] 25 (0, 0))] w w5) := Lib.hid (stays_cons (stays_row hC5 (List.mem_cons_self ..)) (stays_cons (stays_row hC5 (List.mem_cons_of_mem _ (List.mem_cons_self ..))) (stays_nil (stays_below hC5))))
          clear S4
          clear hC5 hh5
          go_wp2_with fail
          refine bodyPost_ret (v := .string ⟨V.toArray⟩) (by simp [results, Try.results17, go_sem]) rfl ⟨congrArg Ending.returned (rfl), stays_below S5.out⟩
    · have hri := ne_int hr0
      have HR0 := Lib.hid hr0
      go_upto_region 3 with fail
      refine reg_plain (Stays [(gx, Obj.cells #[.int .u64 a0, .int .u64 b0] 25 (0, 0)), (gq, Obj.cells #[.int .u64 0, .int .u64 (Q : Int)] 25 (0, 0))] w) (Turns [(gx, Obj.cells #[.int .u64 a0, .int .u64 b0] 25 (0, 0)), (gq, Obj.cells #[.int .u64 0, .int .u64 (Q : Int)] 25 (0, 0))] w) (kdOf [(1, .make (fun _ => callM (.bool true)))]) none0 (stays_good _ _) (S3.out) (holds0 _) ?_
      (refine g_load 25 _ gx 25 #[.int .u64 a0, .int .u64 b0] (0, 0) _ rfl rfl rfl rfl (fun w' hC => stays_row hC (List.mem_cons_self ..)) Try.underlying25 rfl (rfl) ?_)
      simp only [Act.put, List.setIfInBounds_toArray, List.set_cons_zero, List.set_cons_succ]
      refine g_call (stays_good _ _) (.bool true) rfl rfl (fun w' hC => ?_) ?_
      · clear hC
        go_simp
        refine (fits_any _ a0 b0 HA.out HB.out).mono (fun e w2 h => ?_)
        obtain ⟨h1, h2⟩ := h
        rw [HF.out] at h1
        exact gives h1 h2
      simp only [Act.put, List.setIfInBounds_toArray, List.set_cons_zero, List.set_cons_succ]
      refine g_look rfl rfl ?_ (fun w' hC => ?_) ?_
      rotate_left
      · go_simp
        first | done | rfl
      simp only [Act.put, List.setIfInBounds_toArray, List.set_cons_zero, List.set_cons_succ]
      refine g_look rfl rfl ?_ (fun w' hC => ?_) ?_
      rotate_left
      · go_simp
        first | done | rfl
      simp only [Act.put, List.setIfInBounds_toArray, List.set_cons_zero, List.set_cons_succ]
      first
      | (refine g_skip rfl ?_)
      | (refine g_look rfl rfl ?_ (fun w' hC => ?_) ?_
         rotate_left
         · go_simp
           first | done | rfl)
      simp only [Act.put, List.setIfInBounds_toArray, List.set_cons_zero, List.set_cons_succ]
      first
      | (refine g_skip rfl ?_)
      | (refine g_look rfl rfl (.bool true) (fun w' hC => ?_) ?_
         · clear hC
           go_simp
           first | done | rfl | exact hri | (simpa using hri))
      simp only [Act.put, List.setIfInBounds_toArray, List.set_cons_zero, List.set_cons_succ]
      refine g_look rfl rfl ?_ (fun w' hC => ?_) ?_
      rotate_left
      · go_simp
        first | done | rfl
      simp only [Act.put, List.setIfInBounds_toArray, List.set_cons_zero, List.set_cons_succ]
      refine g_look rfl rfl ?_ (fun w' hC => ?_) ?_
      rotate_left
      · go_simp
        first | done | rfl
      simp only [Act.put, List.setIfInBounds_toArray, List.set_cons_zero, List.set_cons_succ]
      first
      | (refine g_skip rfl ?_)
      | (refine g_look rfl rfl ?_ (fun w' hC => ?_) ?_
         rotate_left
         · go_simp
           first | done | rfl)
      simp only [Act.put, List.setIfInBounds_toArray, List.set_cons_zero, List.set_cons_succ]
      first
      | (refine g_skip rfl ?_)
      | (refine g_look rfl rfl ?_ (fun w' hC => ?_) ?_
         rotate_left
         · go_simp
           first | done | rfl)
      simp only [Act.put, List.setIfInBounds_toArray, List.set_cons_zero, List.set_cons_succ]
      refine g_look rfl rfl ?_ (fun w' hC => ?_) ?_
      rotate_left
      · go_simp
        first | done | rfl
      simp only [Act.put, List.setIfInBounds_toArray, List.set_cons_zero, List.set_cons_succ]
      refine g_look rfl rfl ?_ (fun w' hC => ?_) ?_
      rotate_left
      · go_simp
        first | done | rfl
      simp only [Act.put, List.setIfInBounds_toArray, List.set_cons_zero, List.set_cons_succ]
      first
      | (refine g_skip rfl ?_)
      | (refine g_look rfl rfl ?_ (fun w' hC => ?_) ?_
         rotate_left
         · go_simp
           first | done | rfl)
      simp only [Act.put, List.setIfInBounds_toArray, List.set_cons_zero, List.set_cons_succ]
      first
      | (refine g_skip rfl ?_)
      | (refine g_look rfl rfl ?_ (fun w' hC => ?_) ?_
         rotate_left
         · go_simp
           first | done | rfl)
      simp only [Act.put, List.setIfInBounds_toArray, List.set_cons_zero, List.set_cons_succ]
      first
      | (refine g_skip rfl ?_)
      | (refine g_look rfl rfl ?_ (fun w' hC => ?_) ?_
         rotate_left
         · go_simp
           first | done | rfl)
      simp only [Act.put, List.setIfInBounds_toArray, List.set_cons_zero, List.set_cons_succ]
      refine g_look rfl rfl ?_ (fun w' hC => ?_) ?_
      rotate_left
      · go_simp
        first | done | rfl
      simp only [Act.put, List.setIfInBounds_toArray, List.set_cons_zero, List.set_cons_succ]
      refine g_end ?_
      intro w4 hC4 hh4
      have S4 : Hid (Stays [(gx, Obj.cells #[.int .u64 a0, .int .u64 b0] 25 (0, 0)), (gq, Obj.cells #[.int .u64 0, .int .u64 (Q : Int)] 25 (0, 0))] w w4) := Lib.hid (stays_cons (stays_row hC4 (List.mem_cons_self ..)) (stays_cons (stays_row hC4 (List.mem_cons_of_mem _ (List.mem_cons_self ..))) (stays_nil (stays_below hC4))))
      clear S3
      clear hC4 hh4
      have HT : Hid (textL X = V) := Lib.hid (by rw [← HV.out, binL, if_neg (fun h => HR0.out (HR.out.symm.trans h.2.1))])
      go_upto_region 4 with fail
      refine reg_plain (Stays [(gx, Obj.cells #[.int .u64 a0, .int .u64 b0] 25 (0, 0)), (gq, Obj.cells #[.int .u64 0, .int .u64 (Q : Int)] 25 (0, 0))] w) (Turns [(gx, Obj.cells #[.int .u64 a0, .int .u64 b0] 25 (0, 0)), (gq, Obj.cells #[.int .u64 0, .int .u64 (Q : Int)] 25 (0, 0))] w) (kdOf [(1, .make (fun _ => callM (.string ⟨V.toArray⟩)))]) none0 (stays_good _ _) (S4.out) (holds0 _) ?_
      (refine g_load 25 _ gx 25 #[.int .u64 a0, .int .u64 b0] (0, 0) _ rfl rfl rfl rfl (fun w' hC => stays_row hC (List.mem_cons_self ..)) Try.underlying25 rfl (rfl) ?_)
      simp only [Act.put, List.setIfInBounds_toArray, List.set_cons_zero, List.set_cons_succ]
      refine g_call (stays_good _ _) (.string ⟨V.toArray⟩) rfl rfl (fun w' hC => ?_) ?_
      · clear hC
        go_simp
        refine (atext_any _ a0 b0 X HX.out HA.out HB.out).mono (fun e w2 h => ?_)
        obtain ⟨h1, h2⟩ := h
        rw [HT.out] at h1
        exact gives h1 h2
      simp only [Act.put, List.setIfInBounds_toArray, List.set_cons_zero, List.set_cons_succ]
      refine g_look rfl rfl ?_ (fun w' hC => ?_) ?_
      rotate_left
      · go_simp
        first | done | rfl
      simp only [Act.put, List.setIfInBounds_toArray, List.set_cons_zero, List.set_cons_succ]
      refine g_end ?_
      intro w5 hC5 hh5
      have S5 : Hid (Stays [(gx, Obj.cells #[.int .u64 a0, .int .u64 b0] 25 (0, 0)), (gq, Obj.cells #[.int .u64 0, .int .u64 (Q : Int)] 25 (0, 0))] w w5) := Lib.hid (stays_cons (stays_row hC5 (List.mem_cons_self ..)) (stays_cons (stays_row hC5 (List.mem_cons_of_mem _ (List.mem_cons_self ..))) (stays_nil (stays_below hC5))))
      clear S4
      clear hC5 hh5
      go_wp2_with fail
      refine bodyPost_ret (v := .string ⟨V.toArray⟩) (by simp [results, Try.results17, go_sem]) rfl ⟨congrArg Ending.returned (rfl), stays_below S5.out⟩
  · have HF : Hid (decide (wval a0 b0 ≤ Most) = false) := Lib.hid (by rw [HX.out]; exact decide_eq_false hm)
    have HM := Lib.hid hm
    clear hm
    obtain ⟨n, ok, hu⟩ := uint_any_open q1 q2
    have HU := Lib.hid hu
    clear hu
    go_enter Try.func17, Try.ntmps17
    go_upto_region 0 with fail
    refine reg_plain (Stays [] w) (Turns [] w) (kdOf [(0, .make (fun _ => allocM (.cells #[.int .u64 a0, .int .u64 b0] 25)))]) none0 (stays_good _ _) (S0.out) (holds0 _) ?_
    refine g_alloc (stays_good _ _) (.cells #[.int .u64 a0, .int .u64 b0] 25) rfl rfl (fun w' hC => ?_) (fun gx tx nx => ?_)
    · clear hC
      go_simp
      first | done | rfl | exact ⟨rfl, rfl⟩
    clear nx
    replace tx := Lib.hid tx
    simp only [Act.put, List.setIfInBounds_toArray, List.set_cons_zero, List.set_cons_succ]
    refine g_look rfl rfl ?_ (fun w' hC => ?_) ?_
    rotate_left
    · go_simp
      first | done | rfl
    simp only [Act.put, List.setIfInBounds_toArray, List.set_cons_zero, List.set_cons_succ]
    refine g_end ?_
    intro w1 hC1 hh1
    have S1 : Hid (Stays [(gx, Obj.cells #[.int .u64 a0, .int .u64 b0] 25 (0, 0))] w w1) := Lib.hid (stays_cons ((hh1 _ _ _ (own_new _ _ _ _)).1) (stays_nil (stays_below hC1)))
    clear hC1 hh1
    go_upto_region 1 with fail
    refine reg_plain (Stays [(gx, Obj.cells #[.int .u64 a0, .int .u64 b0] 25 (0, 0))] w) (Turns [(gx, Obj.cells #[.int .u64 a0, .int .u64 b0] 25 (0, 0))] w) (kdOf [(1, .make (fun _ => callM (.tuple #[.agg #[.int .u64 q1, .int .u64 q2], .int .u64 (R : Int), .bool true]))), (6, .make (fun _ => allocM (.cells #[.int .u64 0, .int .u64 0] 25))), (7, .touch)]) none0 (stays_good _ _) (S1.out) (holds0 _) ?_
    (refine g_load 25 _ gx 25 #[.int .u64 a0, .int .u64 b0] (0, 0) _ rfl rfl rfl rfl (fun w' hC => stays_row hC (List.mem_cons_self ..)) Try.underlying25 rfl (rfl) ?_)
    simp only [Act.put, List.setIfInBounds_toArray, List.set_cons_zero, List.set_cons_succ]
    refine g_call (stays_good _ _) (.tuple #[.agg #[.int .u64 q1, .int .u64 q2], .int .u64 (R : Int), .bool true]) rfl rfl (fun w' hC => ?_) ?_
    · clear hC
      go_simp
      refine (wby_any _ a0 b0 1000000000 HA.out HB.out (by unfold U; decide)).mono (fun e w2 h => ?_)
      obtain ⟨h1, h2⟩ := h
      rw [HW.out] at h1
      exact gives h1 h2
    simp only [Act.put, List.setIfInBounds_toArray, List.set_cons_zero, List.set_cons_succ]
    refine g_look rfl rfl ?_ (fun w' hC => ?_) ?_
    rotate_left
    · go_simp
      first | done | rfl
    simp only [Act.put, List.setIfInBounds_toArray, List.set_cons_zero, List.set_cons_succ]
    refine g_look rfl rfl ?_ (fun w' hC => ?_) ?_
    rotate_left
    · go_simp
      first | done | rfl
    simp only [Act.put, List.setIfInBounds_toArray, List.set_cons_zero, List.set_cons_succ]
    refine g_look rfl rfl ?_ (fun w' hC => ?_) ?_
    rotate_left
    · go_simp
      first | done | rfl
    simp only [Act.put, List.setIfInBounds_toArray, List.set_cons_zero, List.set_cons_succ]
    refine g_look rfl rfl ?_ (fun w' hC => ?_) ?_
    rotate_left
    · go_simp
      first | done | rfl
    simp only [Act.put, List.setIfInBounds_toArray, List.set_cons_zero, List.set_cons_succ]
    refine g_alloc (stays_good _ _) (.cells #[.int .u64 0, .int .u64 0] 25) rfl rfl (fun w' hC => ?_) (fun gq tq nq => ?_)
    · clear hC
      go_simp
      first | done | rfl | exact ⟨rfl, rfl⟩
    clear nq
    replace tq := Lib.hid tq
    simp only [Act.put, List.setIfInBounds_toArray, List.set_cons_zero, List.set_cons_succ]
    refine g_store gq (some 6) 25 25 _ _ #[.int .u64 0, .int .u64 0] #[.int .u64 q1, .int .u64 q2] rfl rfl rfl rfl rfl (own_new _ _ _ _) (by kernel_rfl) (rfl) (rfl) (one25 _ _) ?_
    simp only [Act.put]
    refine g_look rfl rfl ?_ (fun w' hC => ?_) ?_
    rotate_left
    · go_simp
      first | done | rfl
    simp only [Act.put, List.setIfInBounds_toArray, List.set_cons_zero, List.set_cons_succ]
    refine g_look rfl rfl ?_ (fun w' hC => ?_) ?_
    rotate_left
    · go_simp
      first | done | rfl
    simp only [Act.put, List.setIfInBounds_toArray, List.set_cons_zero, List.set_cons_succ]
    refine g_end ?_
    intro w2 hC2 hh2
    have S2 : Hid (Stays [(gx, Obj.cells #[.int .u64 a0, .int .u64 b0] 25 (0, 0)), (gq, Obj.cells #[.int .u64 q1, .int .u64 q2] 25 (0, 0))] w w2) := Lib.hid (stays_cons (stays_row hC2 (List.mem_cons_self ..)) (stays_cons ((hh2 _ _ _ (own_new _ _ _ _)).1) (stays_nil (stays_below hC2))))
    clear S1
    clear hC2 hh2
    go_upto_region 2 with fail
    refine reg_plain (Stays [(gx, Obj.cells #[.int .u64 a0, .int .u64 b0] 25 (0, 0)), (gq, Obj.cells #[.int .u64 q1, .int .u64 q2] 25 (0, 0))] w) (Turns [(gx, Obj.cells #[.int .u64 a0, .int .u64 b0] 25 (0, 0)), (gq, Obj.cells #[.int .u64 q1, .int .u64 q2] 25 (0, 0))] w) (kdOf [(1, .make (fun _ => callM (.tuple #[.int .u64 n, .bool ok])))]) none0 (stays_good _ _) (S2.out) (holds0 _) ?_
    (refine g_load 25 _ gq 25 #[.int .u64 q1, .int .u64 q2] (0, 0) _ rfl rfl rfl rfl (fun w' hC => stays_row hC (List.mem_cons_of_mem _ (List.mem_cons_self ..))) Try.underlying25 rfl (rfl) ?_)
    simp only [Act.put, List.setIfInBounds_toArray, List.set_cons_zero, List.set_cons_succ]
    refine g_call (stays_good _ _) (.tuple #[.int .u64 n, .bool ok]) rfl rfl (fun w' hC => ?_) ?_
    · clear hC
      go_simp
      refine (uint_any _ q1 q2).mono (fun e w2 h => ?_)
      obtain ⟨h1, h2⟩ := h
      rw [HU.out] at h1
      exact gives h1 h2
    simp only [Act.put, List.setIfInBounds_toArray, List.set_cons_zero, List.set_cons_succ]
    refine g_look rfl rfl ?_ (fun w' hC => ?_) ?_
    rotate_left
    · go_simp
      first | done | rfl
    simp only [Act.put, List.setIfInBounds_toArray, List.set_cons_zero, List.set_cons_succ]
    refine g_look rfl rfl ?_ (fun w' hC => ?_) ?_
    rotate_left
    · go_simp
      first | done | rfl
    simp only [Act.put, List.setIfInBounds_toArray, List.set_cons_zero, List.set_cons_succ]
    refine g_look rfl rfl ?_ (fun w' hC => ?_) ?_
    rotate_left
    · go_simp
      first | done | rfl
    simp only [Act.put, List.setIfInBounds_toArray, List.set_cons_zero, List.set_cons_succ]
    refine g_look rfl rfl ?_ (fun w' hC => ?_) ?_
    rotate_left
    · go_simp
      first | done | rfl
    simp only [Act.put, List.setIfInBounds_toArray, List.set_cons_zero, List.set_cons_succ]
    refine g_look rfl rfl ?_ (fun w' hC => ?_) ?_
    rotate_left
    · go_simp
      first | done | rfl
    simp only [Act.put, List.setIfInBounds_toArray, List.set_cons_zero, List.set_cons_succ]
    refine g_end ?_
    intro w3 hC3 hh3
    have S3 : Hid (Stays [(gx, Obj.cells #[.int .u64 a0, .int .u64 b0] 25 (0, 0)), (gq, Obj.cells #[.int .u64 q1, .int .u64 q2] 25 (0, 0))] w w3) := Lib.hid (stays_cons (stays_row hC3 (List.mem_cons_self ..)) (stays_cons (stays_row hC3 (List.mem_cons_of_mem _ (List.mem_cons_self ..))) (stays_nil (stays_below hC3))))
    clear S2
    clear hC3 hh3
    go_upto_region 3 with fail
    refine reg_plain (Stays [(gx, Obj.cells #[.int .u64 a0, .int .u64 b0] 25 (0, 0)), (gq, Obj.cells #[.int .u64 q1, .int .u64 q2] 25 (0, 0))] w) (Turns [(gx, Obj.cells #[.int .u64 a0, .int .u64 b0] 25 (0, 0)), (gq, Obj.cells #[.int .u64 q1, .int .u64 q2] 25 (0, 0))] w) (kdOf [(1, .make (fun _ => callM (.bool false)))]) none0 (stays_good _ _) (S3.out) (holds0 _) ?_
    (refine g_load 25 _ gx 25 #[.int .u64 a0, .int .u64 b0] (0, 0) _ rfl rfl rfl rfl (fun w' hC => stays_row hC (List.mem_cons_self ..)) Try.underlying25 rfl (rfl) ?_)
    simp only [Act.put, List.setIfInBounds_toArray, List.set_cons_zero, List.set_cons_succ]
    refine g_call (stays_good _ _) (.bool false) rfl rfl (fun w' hC => ?_) ?_
    · clear hC
      go_simp
      refine (fits_any _ a0 b0 HA.out HB.out).mono (fun e w2 h => ?_)
      obtain ⟨h1, h2⟩ := h
      rw [HF.out] at h1
      exact gives h1 h2
    simp only [Act.put, List.setIfInBounds_toArray, List.set_cons_zero, List.set_cons_succ]
    refine g_look rfl rfl ?_ (fun w' hC => ?_) ?_
    rotate_left
    · go_simp
      first | done | rfl
    simp only [Act.put, List.setIfInBounds_toArray, List.set_cons_zero, List.set_cons_succ]
    refine g_look rfl rfl ?_ (fun w' hC => ?_) ?_
    rotate_left
    · go_simp
      first | done | rfl
    simp only [Act.put, List.setIfInBounds_toArray, List.set_cons_zero, List.set_cons_succ]
    first
    | (refine g_skip rfl ?_)
    | (refine g_look rfl rfl ?_ (fun w' hC => ?_) ?_
       rotate_left
       · go_simp
         first | done | rfl)
    simp only [Act.put, List.setIfInBounds_toArray, List.set_cons_zero, List.set_cons_succ]
    first
    | (refine g_skip rfl ?_)
    | (refine g_look rfl rfl ?_ (fun w' hC => ?_) ?_
       rotate_left
       · go_simp
         first | done | rfl)
    simp only [Act.put, List.setIfInBounds_toArray, List.set_cons_zero, List.set_cons_succ]
    refine g_look rfl rfl ?_ (fun w' hC => ?_) ?_
    rotate_left
    · go_simp
      first | done | rfl
    simp only [Act.put, List.setIfInBounds_toArray, List.set_cons_zero, List.set_cons_succ]
    refine g_look rfl rfl ?_ (fun w' hC => ?_) ?_
    rotate_left
    · go_simp
      first | done | rfl
    simp only [Act.put, List.setIfInBounds_toArray, List.set_cons_zero, List.set_cons_succ]
    first
    | (refine g_skip rfl ?_)
    | (refine g_look rfl rfl ?_ (fun w' hC => ?_) ?_
       rotate_left
       · go_simp
         first | done | rfl)
    simp only [Act.put, List.setIfInBounds_toArray, List.set_cons_zero, List.set_cons_succ]
    first
    | (refine g_skip rfl ?_)
    | (refine g_look rfl rfl ?_ (fun w' hC => ?_) ?_
       rotate_left
       · go_simp
         first | done | rfl)
    simp only [Act.put, List.setIfInBounds_toArray, List.set_cons_zero, List.set_cons_succ]
    refine g_look rfl rfl ?_ (fun w' hC => ?_) ?_
    rotate_left
    · go_simp
      first | done | rfl
    simp only [Act.put, List.setIfInBounds_toArray, List.set_cons_zero, List.set_cons_succ]
    refine g_look rfl rfl ?_ (fun w' hC => ?_) ?_
    rotate_left
    · go_simp
      first | done | rfl
    simp only [Act.put, List.setIfInBounds_toArray, List.set_cons_zero, List.set_cons_succ]
    first
    | (refine g_skip rfl ?_)
    | (refine g_look rfl rfl ?_ (fun w' hC => ?_) ?_
       rotate_left
       · go_simp
         first | done | rfl)
    simp only [Act.put, List.setIfInBounds_toArray, List.set_cons_zero, List.set_cons_succ]
    first
    | (refine g_skip rfl ?_)
    | (refine g_look rfl rfl ?_ (fun w' hC => ?_) ?_
       rotate_left
       · go_simp
         first | done | rfl)
    simp only [Act.put, List.setIfInBounds_toArray, List.set_cons_zero, List.set_cons_succ]
    first
    | (refine g_skip rfl ?_)
    | (refine g_look rfl rfl ?_ (fun w' hC => ?_) ?_
       rotate_left
       · go_simp
         first | done | rfl)
    simp only [Act.put, List.setIfInBounds_toArray, List.set_cons_zero, List.set_cons_succ]
    refine g_look rfl rfl ?_ (fun w' hC => ?_) ?_
    rotate_left
    · go_simp
      first | done | rfl
    simp only [Act.put, List.setIfInBounds_toArray, List.set_cons_zero, List.set_cons_succ]
    refine g_end ?_
    intro w4 hC4 hh4
    have S4 : Hid (Stays [(gx, Obj.cells #[.int .u64 a0, .int .u64 b0] 25 (0, 0)), (gq, Obj.cells #[.int .u64 q1, .int .u64 q2] 25 (0, 0))] w w4) := Lib.hid (stays_cons (stays_row hC4 (List.mem_cons_self ..)) (stays_cons (stays_row hC4 (List.mem_cons_of_mem _ (List.mem_cons_self ..))) (stays_nil (stays_below hC4))))
    clear S3
    clear hC4 hh4
    have HT : Hid (textL X = V) := Lib.hid (by rw [← HV.out, binL, if_neg (fun h => by have := HM.out; have := h.1; omega)])
    go_upto_region 4 with fail
    refine reg_plain (Stays [(gx, Obj.cells #[.int .u64 a0, .int .u64 b0] 25 (0, 0)), (gq, Obj.cells #[.int .u64 q1, .int .u64 q2] 25 (0, 0))] w) (Turns [(gx, Obj.cells #[.int .u64 a0, .int .u64 b0] 25 (0, 0)), (gq, Obj.cells #[.int .u64 q1, .int .u64 q2] 25 (0, 0))] w) (kdOf [(1, .make (fun _ => callM (.string ⟨V.toArray⟩)))]) none0 (stays_good _ _) (S4.out) (holds0 _) ?_
    (refine g_load 25 _ gx 25 #[.int .u64 a0, .int .u64 b0] (0, 0) _ rfl rfl rfl rfl (fun w' hC => stays_row hC (List.mem_cons_self ..)) Try.underlying25 rfl (rfl) ?_)
    simp only [Act.put, List.setIfInBounds_toArray, List.set_cons_zero, List.set_cons_succ]
    refine g_call (stays_good _ _) (.string ⟨V.toArray⟩) rfl rfl (fun w' hC => ?_) ?_
    · clear hC
      go_simp
      refine (atext_any _ a0 b0 X HX.out HA.out HB.out).mono (fun e w2 h => ?_)
      obtain ⟨h1, h2⟩ := h
      rw [HT.out] at h1
      exact gives h1 h2
    simp only [Act.put, List.setIfInBounds_toArray, List.set_cons_zero, List.set_cons_succ]
    refine g_look rfl rfl ?_ (fun w' hC => ?_) ?_
    rotate_left
    · go_simp
      first | done | rfl
    simp only [Act.put, List.setIfInBounds_toArray, List.set_cons_zero, List.set_cons_succ]
    refine g_end ?_
    intro w5 hC5 hh5
    have S5 : Hid (Stays [(gx, Obj.cells #[.int .u64 a0, .int .u64 b0] 25 (0, 0)), (gq, Obj.cells #[.int .u64 q1, .int .u64 q2] 25 (0, 0))] w w5) := Lib.hid (stays_cons (stays_row hC5 (List.mem_cons_self ..)) (stays_cons (stays_row hC5 (List.mem_cons_of_mem _ (List.mem_cons_self ..))) (stays_nil (stays_below hC5))))
    clear S4
    clear hC5 hh5
    go_wp2_with fail
    refine bodyPost_ret (v := .string ⟨V.toArray⟩) (by simp [results, Try.results17, go_sem]) rfl ⟨congrArg Ending.returned (rfl), stays_below S5.out⟩
end Go.Proofs.Ythpdfacdjgkmpaa.Wi
