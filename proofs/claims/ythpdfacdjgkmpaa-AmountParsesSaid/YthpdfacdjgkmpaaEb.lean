/- Amounts: a power of ten down, rounded up, by a walk. -/
import Derived.Test.YthpdfacdjgkmpaaEa
namespace Go.Proofs.Ythpdfacdjgkmpaa.Wi
open Go.RowKit K

attribute [local go_sem] lookTo stepTo Maker.step
theorem results_cell56 {W : World} {g : Nat} {x y : Value} {tmps : Array Value} (h : W.heap[g]? = some (.cells #[x, y] 25 (0, 0))) (i24 : (Try.prog.info? 25).map (·.size) = some 2 := by rfl) (e4 : tmps.getD 4 undef = .pointer (some ⟨g, 0, none⟩) := by rfl) :
    (results Try.f56 tmps).run Try.prog W = .ok (.agg #[x, y]) W := by
  have h' := run_loadVar_row (P := Try.prog) W g 25 25 _ (0, 0) _ h Try.underlying25 rfl i24
  have e4' : tmps[4]?.getD undef = .pointer (some ⟨g, 0, none⟩) := by simpa using e4
  simp [results, Try.results56, e4', asAddr, h']
theorem wby_open {X u : Int} (h0 : 0 ≤ X) (h1 : X < Lim) (hu : 0 < u) (_ : U u) : ∃ q1 q2 r : Int, wbyV X u = .tuple #[.agg #[.int .u64 q1, .int .u64 q2], .int .u64 r, .bool true] ∧ U q1 ∧ U q2 ∧ wval q1 q2 = X / u ∧ r = X % u := by
  have h2 : 0 ≤ X / u := Int.ediv_nonneg h0 (by omega)
  have h3 : X / u ≤ X := Int.ediv_le_self _ h0
  obtain ⟨a, b, ha, hb, hv, he⟩ := wn_open h2 (by omega)
  refine ⟨a, b, X % u, ?_, ha, hb, hv, rfl⟩
  rw [wbyV, if_neg (by omega), he]
/-- How much over a power of ten, rounded up. -/
def byUp (X e : Nat) : Nat := X / 10 ^ e + (if X % 10 ^ e = 0 then 0 else 1)
theorem up_step {X k : Nat} : X / 10 ^ (k + 1) = X / 10 ^ k / 10 ∧ (X % 10 ^ (k + 1) = 0 ↔ X % 10 ^ k = 0 ∧ X / 10 ^ k % 10 = 0) := by
  have hp : 0 < 10 ^ k := Nat.pow_pos (by decide)
  rw [Nat.pow_succ, ← Nat.div_div_eq_div_mul, Nat.mod_mul]
  refine ⟨rfl, ?_⟩
  constructor
  · intro h
    have h1 : X % 10 ^ k = 0 := by omega
    have h2 : 10 ^ k * (X / 10 ^ k % 10) = 0 := by omega
    rcases Nat.mul_eq_zero.1 h2 with h3 | h3
    · omega
    · exact ⟨h1, h3⟩
  · rintro ⟨h1, h2⟩
    rw [h1, h2]
    simp
set_option maxHeartbeats 4000000 in
theorem up_any (w : World) (a0 b0 : Int) (X e : Nat) (hX : wval a0 b0 = (X : Int)) (ha : U a0) (hb : U b0) (he : e ≤ 1000) : Calls Try.prog 56 #[wv a0 b0, .int .i64 e] w (Ret w (wn (byUp X e : Nat))) := by
  obtain ⟨V, hV⟩ : ∃ V, wn ((byUp X e : Nat) : Int) = V := ⟨_, rfl⟩
  rw [hV]
  have HV := Lib.hid hV
  have HX := Lib.hid (show (X : Int) < Lim by rw [← hX]; exact (wval_lt ha hb).2)
  have HAB : Hid (U a0 ∧ U b0 ∧ wval a0 b0 = ((X / 10 ^ 0 : Nat) : Int)) := ⟨ha, hb, by simpa using hX⟩
  have m1 : max (e : Int) 0 = (e : Int) := by omega
  clear hV hX ha hb
  have S0 : Hid (Stays [] w w) := Lib.hid (stays_nil (Below.refl _ _))
  go_enter Try.func56, Try.ntmps56
  go_upto_region 0 with fail
  refine reg_plain (Stays [] w) (Turns [] w) (kdOf [(0, .make (fun _ => allocM (.cells #[.int .u64 a0, .int .u64 b0] 25))), (1, .make (fun _ => allocM (.cells #[.int .u64 0, .int .u64 0] 25)))]) none0 (stays_good _ _) (S0.out) (holds0 _) ?_
  refine g_alloc (stays_good _ _) (.cells #[.int .u64 a0, .int .u64 b0] 25) rfl rfl (fun w' hC => ?_) (fun gx tx nx => ?_)
  · clear hC
    go_simp
    first | done | rfl | exact ⟨rfl, rfl⟩
  clear nx
  replace tx := Lib.hid tx
  simp only [Act.put, List.setIfInBounds_toArray, List.set_cons_zero, List.set_cons_succ]
  refine g_alloc (stays_good _ _) (.cells #[.int .u64 0, .int .u64 0] 25) rfl rfl (fun w' hC => ?_) (fun gr tr nr => ?_)
  · clear hC
    go_simp
    first | done | rfl | exact ⟨rfl, rfl⟩
  obtain ⟨d_x_r, nr⟩ := own_none nr
  clear nr
  replace tr := Lib.hid tr
  simp only [Act.put, List.setIfInBounds_toArray, List.set_cons_zero, List.set_cons_succ]
  refine g_end ?_
  intro w1 hC1 hh1
  have S1 : Hid (Stays [(gx, Obj.cells #[.int .u64 a0, .int .u64 b0] 25 (0, 0)), (gr, Obj.cells #[.int .u64 0, .int .u64 0] 25 (0, 0))] w w1) := Lib.hid (stays_cons ((hh1 _ _ _ ((own_off _ (Ne.symm d_x_r)).trans (own_new _ _ _ _))).1) (stays_cons ((hh1 _ _ _ (own_new _ _ _ _)).1) (stays_nil (stays_below hC1))))
  clear hC1 hh1
  go_wp2_with fail
  go_loopw [5, 11] (fun up i wr => ∃ (k : Nat) (a b : Int), k ≤ e ∧ i = .int .i64 k ∧ up = .bool (decide (X % 10 ^ k ≠ 0)) ∧ Hid (U a ∧ U b ∧ wval a b = ((X / 10 ^ k : Nat) : Int)) ∧ Hid (Stays [(gx, Obj.cells #[.int .u64 a, .int .u64 b] 25 (0, 0)), (gr, Obj.cells #[.int .u64 0, .int .u64 0] 25 (0, 0))] w wr)) (fun _ i _ => e - (intOf i).toNat)
  case atStart => exact ⟨0, a0, b0, by omega, rfl, by simp [Nat.mod_one], HAB, S1⟩
  case round =>
    obtain ⟨k, a, b, hk, rfl, rfl, HQ, S2⟩ := hrel
    clear S1 HAB
    by_cases hlt : k < e
    · have hlti : (k : Int) < (e : Int) := by omega
      have hwk : wrap64 ((k : Int) + 1) = (k : Int) + 1 := by
        simp only [wrap64]
        omega
      have HWK := Lib.hid hwk
      clear hwk
      have hq0 : (0 : Int) ≤ wval a b ∧ wval a b < Lim := wval_lt HQ.out.1 HQ.out.2.1
      obtain ⟨q1, q2, r, hw, u1, u2, hv, hr⟩ := wby_open hq0.1 hq0.2 (show (0 : Int) < 10 by decide) (by unfold U; decide)
      have HW := Lib.hid hw
      have HQ2 : Hid (U q1 ∧ U q2 ∧ wval q1 q2 = ((X / 10 ^ (k + 1) : Nat) : Int)) := Lib.hid ⟨u1, u2, by rw [hv, HQ.out.2.2, (up_step).1]; omega⟩
      have hrN : r = ((X / 10 ^ k % 10 : Nat) : Int) := by rw [hr, HQ.out.2.2]; omega
      have HUP := Lib.hid (up_step (X := X) (k := k)).2
      obtain ⟨m, hm⟩ : ∃ m : Nat, X / 10 ^ k % 10 = m := ⟨_, rfl⟩
      rw [hm] at hrN
      have HM := Lib.hid hm
      clear hw u1 u2 hv hr hq0 hm
      subst hrN
      obtain ⟨u, hu⟩ : ∃ u, decide (X % 10 ^ k ≠ 0) = u := ⟨_, rfl⟩
      rw [hu]
      have HU := Lib.hid hu
      clear hu
      go_upto_region 4 with fail
      refine reg_plain (Stays [(gx, Obj.cells #[.int .u64 a, .int .u64 b] 25 (0, 0)), (gr, Obj.cells #[.int .u64 0, .int .u64 0] 25 (0, 0))] w) (Turns [(gx, Obj.cells #[.int .u64 a, .int .u64 b] 25 (0, 0)), (gr, Obj.cells #[.int .u64 0, .int .u64 0] 25 (0, 0))] w) (kdOf [(1, .make (fun _ => callM (.tuple #[.agg #[.int .u64 q1, .int .u64 q2], .int .u64 (m : Int), .bool true]))), (6, .make (fun _ => allocM (.cells #[.int .u64 0, .int .u64 0] 25))), (7, .touch)]) none0 (stays_good _ _) (S2.out) (holds0 _) ?_
      (refine g_load 25 _ gx 25 #[.int .u64 a, .int .u64 b] (0, 0) _ rfl rfl rfl rfl (fun w' hC => stays_row hC (List.mem_cons_self ..)) Try.underlying25 rfl (rfl) ?_)
      simp only [Act.put, List.setIfInBounds_toArray, List.set_cons_zero, List.set_cons_succ]
      refine g_call (stays_good _ _) (.tuple #[.agg #[.int .u64 q1, .int .u64 q2], .int .u64 (m : Int), .bool true]) rfl rfl (fun w' hC => ?_) ?_
      · clear hC
        go_simp
        refine (wby_any _ a b 10 HQ.out.1 HQ.out.2.1 (by unfold U; decide)).mono (fun e w2 h => ?_)
        obtain ⟨h1, h2⟩ := h
        rw [HW.out] at h1
        exact gives h1 h2
      simp only [Act.put, List.setIfInBounds_toArray, List.set_cons_zero, List.set_cons_succ]
      refine g_look rfl rfl ?_ (fun w' hC => ?_) ?_
      rotate_left
      · go_simp
        first | done | rfl
      simp only [Act.put, List.setIfInBounds_toArray, List.set_cons_zero, List.set_cons_succ]
      refine g_look rfl rfl ?_ (fun w' hC => ?_) ?_
      rotate_left
      · go_simp
        first | done | rfl
      simp only [Act.put, List.setIfInBounds_toArray, List.set_cons_zero, List.set_cons_succ]
      refine g_look rfl rfl ?_ (fun w' hC => ?_) ?_
      rotate_left
      · go_simp
        first | done | rfl
      simp only [Act.put, List.setIfInBounds_toArray, List.set_cons_zero, List.set_cons_succ]
      refine g_look rfl rfl ?_ (fun w' hC => ?_) ?_
      rotate_left
      · go_simp
        first | done | rfl
      simp only [Act.put, List.setIfInBounds_toArray, List.set_cons_zero, List.set_cons_succ]
      refine g_alloc (stays_good _ _) (.cells #[.int .u64 0, .int .u64 0] 25) rfl rfl (fun w' hC => ?_) (fun gq tq nq => ?_)
      · clear hC
        go_simp
        first | done | rfl | exact ⟨rfl, rfl⟩
      clear nq
      replace tq := Lib.hid tq
      simp only [Act.put, List.setIfInBounds_toArray, List.set_cons_zero, List.set_cons_succ]
      refine g_store gq (some 6) 25 25 _ _ #[.int .u64 0, .int .u64 0] #[.int .u64 q1, .int .u64 q2] rfl rfl rfl rfl rfl (own_new _ _ _ _) (by kernel_rfl) (rfl) (rfl) (one25 _ _) ?_
      simp only [Act.put]
      refine g_look rfl rfl ?_ (fun w' hC => ?_) ?_
      rotate_left
      · go_simp
        first | done | rfl
      simp only [Act.put, List.setIfInBounds_toArray, List.set_cons_zero, List.set_cons_succ]
      refine g_look rfl rfl ?_ (fun w' hC => ?_) ?_
      rotate_left
      · go_simp
        first | done | rfl
      simp only [Act.put, List.setIfInBounds_toArray, List.set_cons_zero, List.set_cons_succ]
      refine g_end ?_
      intro w3 hC3 hh3
      have S3 : Hid (Stays [(gx, Obj.cells #[.int .u64 a, .int .u64 b] 25 (0, 0)), (gr, Obj.cells #[.int .u64 0, .int .u64 0] 25 (0, 0)), (gq, Obj.cells #[.int .u64 q1, .int .u64 q2] 25 (0, 0))] w w3) := Lib.hid (stays_cons (stays_row hC3 (List.mem_cons_self ..)) (stays_cons (stays_row hC3 (List.mem_cons_of_mem _ (List.mem_cons_self ..))) (stays_cons ((hh3 _ _ _ (own_new _ _ _ _)).1) (stays_nil (stays_below hC3)))))
      clear S2
      clear hC3 hh3
      cases u with
      | true =>
        go_upto_region 5 with fail
        refine reg_plain (Stays [(gr, Obj.cells #[.int .u64 0, .int .u64 0] 25 (0, 0)), (gq, Obj.cells #[.int .u64 q1, .int .u64 q2] 25 (0, 0))] w) (Turns [(gr, Obj.cells #[.int .u64 0, .int .u64 0] 25 (0, 0)), (gq, Obj.cells #[.int .u64 q1, .int .u64 q2] 25 (0, 0))] w) (kdOf [(6, .touch)]) (Own.has none0 gx (Obj.cells #[.int .u64 a, .int .u64 b] 25 (0, 0))) (stays_good _ _) (stays_cons (stays_row S3.out (List.mem_cons_of_mem _ (List.mem_cons_self ..))) (stays_cons (stays_row S3.out (List.mem_cons_of_mem _ (List.mem_cons_of_mem _ (List.mem_cons_self ..)))) (stays_nil (stays_below S3.out)))) (holds_has (holds0 _) (stays_row S3.out (List.mem_cons_self ..)) (turns_cons (Ne.symm d_x_r) (turns_cons (turns_head tq.out).symm (turns_nil tx.out.2)))) ?_
        (refine g_load 25 _ gq 25 #[.int .u64 q1, .int .u64 q2] (0, 0) _ rfl rfl rfl rfl (fun w' hC => stays_row hC (List.mem_cons_of_mem _ (List.mem_cons_self ..))) Try.underlying25 rfl (rfl) ?_)
        simp only [Act.put, List.setIfInBounds_toArray, List.set_cons_zero, List.set_cons_succ]
        refine g_look rfl rfl ?_ (fun w' hC => ?_) ?_
        rotate_left
        · go_simp
          first | done | rfl
        simp only [Act.put, List.setIfInBounds_toArray, List.set_cons_zero, List.set_cons_succ]
        refine g_look rfl rfl ?_ (fun w' hC => ?_) ?_
        rotate_left
        · go_simp
          first | done | rfl
        simp only [Act.put, List.setIfInBounds_toArray, List.set_cons_zero, List.set_cons_succ]
        first
        | (refine g_skip rfl ?_)
        | (refine g_look rfl rfl ?_ (fun w' hC => ?_) ?_
           rotate_left
           · go_simp
             first | done | rfl)
        simp only [Act.put, List.setIfInBounds_toArray, List.set_cons_zero, List.set_cons_succ]
        first
        | (refine g_skip rfl ?_)
        | (refine g_look rfl rfl ?_ (fun w' hC => ?_) ?_
           rotate_left
           · go_simp
             first | done | rfl)
        simp only [Act.put, List.setIfInBounds_toArray, List.set_cons_zero, List.set_cons_succ]
        refine g_look rfl rfl ?_ (fun w' hC => ?_) ?_
        rotate_left
        · go_simp
          first | done | rfl
        simp only [Act.put, List.setIfInBounds_toArray, List.set_cons_zero, List.set_cons_succ]
        refine g_store gx none 25 25 _ _ #[.int .u64 a, .int .u64 b] #[.int .u64 q1, .int .u64 q2] rfl rfl rfl rfl rfl (has_same _ _ _) (by kernel_rfl) (rfl) (rfl) (one25 _ _) ?_
        simp only [Act.put]
        refine g_look rfl rfl ?_ (fun w' hC => ?_) ?_
        rotate_left
        · go_simp
          first | done | rfl
        simp only [Act.put, List.setIfInBounds_toArray, List.set_cons_zero, List.set_cons_succ]
        refine g_end ?_
        intro w4 hC4 hh4
        have S4 : Hid (Stays [(gx, Obj.cells #[.int .u64 q1, .int .u64 q2] 25 (0, 0)), (gr, Obj.cells #[.int .u64 0, .int .u64 0] 25 (0, 0))] w w4) := Lib.hid (stays_cons ((hh4 _ _ _ (own_new _ _ _ _)).1) (stays_cons (stays_row hC4 (List.mem_cons_self ..)) (stays_nil (stays_below hC4))))
        clear S3
        clear hC4 hh4
        go_wp2_with fail
        go_roundw
        case rel => exact ⟨k + 1, q1, q2, by omega, rfl, by
          have h1 := HU.out
          have h2 := HUP.out
          have h3 := HM.out
          simp at h1 ⊢
          first | omega | (rw [Bool.eq_iff_iff]; simp; omega), HQ2, S4⟩
        case measure =>
        
          show e - ((k : Int) + 1).toNat < e - (k : Int).toNat
          omega
      | false =>
        by_cases hz : m = 0
        · have hz1 : ¬ (0 : Int) < (m : Int) := by omega
          go_upto_region 5 with fail
          refine reg_plain (Stays [(gr, Obj.cells #[.int .u64 0, .int .u64 0] 25 (0, 0)), (gq, Obj.cells #[.int .u64 q1, .int .u64 q2] 25 (0, 0))] w) (Turns [(gr, Obj.cells #[.int .u64 0, .int .u64 0] 25 (0, 0)), (gq, Obj.cells #[.int .u64 q1, .int .u64 q2] 25 (0, 0))] w) (kdOf [(6, .touch)]) (Own.has none0 gx (Obj.cells #[.int .u64 a, .int .u64 b] 25 (0, 0))) (stays_good _ _) (stays_cons (stays_row S3.out (List.mem_cons_of_mem _ (List.mem_cons_self ..))) (stays_cons (stays_row S3.out (List.mem_cons_of_mem _ (List.mem_cons_of_mem _ (List.mem_cons_self ..)))) (stays_nil (stays_below S3.out)))) (holds_has (holds0 _) (stays_row S3.out (List.mem_cons_self ..)) (turns_cons (Ne.symm d_x_r) (turns_cons (turns_head tq.out).symm (turns_nil tx.out.2)))) ?_
          (refine g_load 25 _ gq 25 #[.int .u64 q1, .int .u64 q2] (0, 0) _ rfl rfl rfl rfl (fun w' hC => stays_row hC (List.mem_cons_of_mem _ (List.mem_cons_self ..))) Try.underlying25 rfl (rfl) ?_)
          simp only [Act.put, List.setIfInBounds_toArray, List.set_cons_zero, List.set_cons_succ]
          refine g_look rfl rfl ?_ (fun w' hC => ?_) ?_
          rotate_left
          · go_simp
            first | done | rfl
          simp only [Act.put, List.setIfInBounds_toArray, List.set_cons_zero, List.set_cons_succ]
          refine g_look rfl rfl ?_ (fun w' hC => ?_) ?_
          rotate_left
          · go_simp
            first | done | rfl
          simp only [Act.put, List.setIfInBounds_toArray, List.set_cons_zero, List.set_cons_succ]
          first
          | (refine g_skip rfl ?_)
          | (refine g_look rfl rfl ?_ (fun w' hC => ?_) ?_
             rotate_left
             · go_simp
               first | done | rfl)
          simp only [Act.put, List.setIfInBounds_toArray, List.set_cons_zero, List.set_cons_succ]
          first
          | (refine g_skip rfl ?_)
          | (refine g_look rfl rfl ?_ (fun w' hC => ?_) ?_
             rotate_left
             · go_simp
               first | done | rfl)
          simp only [Act.put, List.setIfInBounds_toArray, List.set_cons_zero, List.set_cons_succ]
          refine g_look rfl rfl ?_ (fun w' hC => ?_) ?_
          rotate_left
          · go_simp
            first | done | rfl
          simp only [Act.put, List.setIfInBounds_toArray, List.set_cons_zero, List.set_cons_succ]
          refine g_store gx none 25 25 _ _ #[.int .u64 a, .int .u64 b] #[.int .u64 q1, .int .u64 q2] rfl rfl rfl rfl rfl (has_same _ _ _) (by kernel_rfl) (rfl) (rfl) (one25 _ _) ?_
          simp only [Act.put]
          refine g_look rfl rfl ?_ (fun w' hC => ?_) ?_
          rotate_left
          · go_simp
            first | done | rfl
          simp only [Act.put, List.setIfInBounds_toArray, List.set_cons_zero, List.set_cons_succ]
          refine g_end ?_
          intro w4 hC4 hh4
          have S4 : Hid (Stays [(gx, Obj.cells #[.int .u64 q1, .int .u64 q2] 25 (0, 0)), (gr, Obj.cells #[.int .u64 0, .int .u64 0] 25 (0, 0))] w w4) := Lib.hid (stays_cons ((hh4 _ _ _ (own_new _ _ _ _)).1) (stays_cons (stays_row hC4 (List.mem_cons_self ..)) (stays_nil (stays_below hC4))))
          clear S3
          clear hC4 hh4
          go_wp2_with fail
          go_roundw
          case rel => exact ⟨k + 1, q1, q2, by omega, rfl, by
            have h1 := HU.out
            have h2 := HUP.out
            have h3 := HM.out
            simp at h1 ⊢
            first | omega | (rw [Bool.eq_iff_iff]; simp; omega), HQ2, S4⟩
          case measure =>
          
            show e - ((k : Int) + 1).toNat < e - (k : Int).toNat
            omega
        · have hz1 : (0 : Int) < (m : Int) := by omega
          go_upto_region 5 with fail
          refine reg_plain (Stays [(gr, Obj.cells #[.int .u64 0, .int .u64 0] 25 (0, 0)), (gq, Obj.cells #[.int .u64 q1, .int .u64 q2] 25 (0, 0))] w) (Turns [(gr, Obj.cells #[.int .u64 0, .int .u64 0] 25 (0, 0)), (gq, Obj.cells #[.int .u64 q1, .int .u64 q2] 25 (0, 0))] w) (kdOf [(6, .touch)]) (Own.has none0 gx (Obj.cells #[.int .u64 a, .int .u64 b] 25 (0, 0))) (stays_good _ _) (stays_cons (stays_row S3.out (List.mem_cons_of_mem _ (List.mem_cons_self ..))) (stays_cons (stays_row S3.out (List.mem_cons_of_mem _ (List.mem_cons_of_mem _ (List.mem_cons_self ..)))) (stays_nil (stays_below S3.out)))) (holds_has (holds0 _) (stays_row S3.out (List.mem_cons_self ..)) (turns_cons (Ne.symm d_x_r) (turns_cons (turns_head tq.out).symm (turns_nil tx.out.2)))) ?_
          (refine g_load 25 _ gq 25 #[.int .u64 q1, .int .u64 q2] (0, 0) _ rfl rfl rfl rfl (fun w' hC => stays_row hC (List.mem_cons_of_mem _ (List.mem_cons_self ..))) Try.underlying25 rfl (rfl) ?_)
          simp only [Act.put, List.setIfInBounds_toArray, List.set_cons_zero, List.set_cons_succ]
          refine g_look rfl rfl ?_ (fun w' hC => ?_) ?_
          rotate_left
          · go_simp
            first | done | rfl
          simp only [Act.put, List.setIfInBounds_toArray, List.set_cons_zero, List.set_cons_succ]
          refine g_look rfl rfl ?_ (fun w' hC => ?_) ?_
          rotate_left
          · go_simp
            first | done | rfl
          simp only [Act.put, List.setIfInBounds_toArray, List.set_cons_zero, List.set_cons_succ]
          first
          | (refine g_skip rfl ?_)
          | (refine g_look rfl rfl ?_ (fun w' hC => ?_) ?_
             rotate_left
             · go_simp
               first | done | rfl)
          simp only [Act.put, List.setIfInBounds_toArray, List.set_cons_zero, List.set_cons_succ]
          first
          | (refine g_skip rfl ?_)
          | (refine g_look rfl rfl ?_ (fun w' hC => ?_) ?_
             rotate_left
             · go_simp
               first | done | rfl)
          simp only [Act.put, List.setIfInBounds_toArray, List.set_cons_zero, List.set_cons_succ]
          refine g_look rfl rfl ?_ (fun w' hC => ?_) ?_
          rotate_left
          · go_simp
            first | done | rfl
          simp only [Act.put, List.setIfInBounds_toArray, List.set_cons_zero, List.set_cons_succ]
          refine g_store gx none 25 25 _ _ #[.int .u64 a, .int .u64 b] #[.int .u64 q1, .int .u64 q2] rfl rfl rfl rfl rfl (has_same _ _ _) (by kernel_rfl) (rfl) (rfl) (one25 _ _) ?_
          simp only [Act.put]
          refine g_look rfl rfl ?_ (fun w' hC => ?_) ?_
          rotate_left
          · go_simp
            first | done | rfl
          simp only [Act.put, List.setIfInBounds_toArray, List.set_cons_zero, List.set_cons_succ]
          refine g_end ?_
          intro w4 hC4 hh4
          have S4 : Hid (Stays [(gx, Obj.cells #[.int .u64 q1, .int .u64 q2] 25 (0, 0)), (gr, Obj.cells #[.int .u64 0, .int .u64 0] 25 (0, 0))] w w4) := Lib.hid (stays_cons ((hh4 _ _ _ (own_new _ _ _ _)).1) (stays_cons (stays_row hC4 (List.mem_cons_self ..)) (stays_nil (stays_below hC4))))
          clear S3
          clear hC4 hh4
          go_wp2_with fail
          go_roundw
          case rel => exact ⟨k + 1, q1, q2, by omega, rfl, by
            have h1 := HU.out
            have h2 := HUP.out
            have h3 := HM.out
            simp at h1 ⊢
            first | omega | (rw [Bool.eq_iff_iff]; simp; omega), HQ2, S4⟩
          case measure =>
          
            show e - ((k : Int) + 1).toNat < e - (k : Int).toNat
            omega
    · obtain rfl : k = e := by omega
      have hlti : ¬ (k : Int) < (k : Int) := by omega
      obtain ⟨u, hu⟩ : ∃ u, decide (X % 10 ^ k ≠ 0) = u := ⟨_, rfl⟩
      rw [hu]
      have HU := Lib.hid hu
      clear hu
      cases u with
      | true =>
        have hne : X % 10 ^ k ≠ 0 := by simpa using HU.out
        have hle : X / 10 ^ k + 1 ≤ X := by
          have h1 := Nat.div_add_mod X (10 ^ k)
          have h2 : 1 ≤ 10 ^ k := Nat.pow_pos (by decide)
          have h3 : X / 10 ^ k ≤ 10 ^ k * (X / 10 ^ k) := Nat.le_mul_of_pos_left _ h2
          omega
        have hsum : wval a b + wval 0 1 = ((X / 10 ^ k + 1 : Nat) : Int) := by rw [HQ.out.2.2]; unfold wval; omega
        obtain ⟨p1, p2, hp1, hp2, hpv, hpe⟩ := wn_open (X := ((X / 10 ^ k + 1 : Nat) : Int)) (Int.natCast_nonneg _) (Int.lt_of_le_of_lt (Int.ofNat_le.2 hle) HX.out)
        have HP : Hid (optV (wval a b + wval 0 1) (wval a b + wval 0 1 < 340282366920938463463374607431768211456) = .tuple #[.agg #[.int .u64 p1, .int .u64 p2], .bool true]) := Lib.hid (by rw [opt_yes (by rw [hsum]; exact Int.lt_of_le_of_lt (Int.ofNat_le.2 hle) HX.out), hsum, hpe])
        have HF : Hid (wv p1 p2 = V) := Lib.hid (by rw [← HV.out, byUp, if_neg hne, hpe]; rfl)
        clear hne hle hsum hp1 hp2 hpv hpe
        go_upto_region 8 with fail
        refine reg (Stays [(gr, Obj.cells #[.int .u64 0, .int .u64 0] 25 (0, 0))] w) (Turns [(gr, Obj.cells #[.int .u64 0, .int .u64 0] 25 (0, 0))] w) (kdOf [(0, .touch), (1, .make (fun _ => callM (wv 0 1))), (2, .make (fun _ => callM (.tuple #[.agg #[.int .u64 p1, .int .u64 p2], .bool true]))), (6, .touch)]) (Own.has none0 gx (Obj.cells #[.int .u64 a, .int .u64 b] 25 (0, 0))) (stays_good _ _) (by kernel_rfl) (by kernel_rfl) (stays_drew (stays_cons (stays_row S2.out (List.mem_cons_of_mem _ (List.mem_cons_self ..))) (stays_nil (stays_below S2.out)))) (holds_has (holds0 _) (stays_row (stays_drew S2.out) (List.mem_cons_self ..)) (turns_cons (Ne.symm d_x_r) (turns_nil tx.out.2))) ?_
        refine g_load_own 25 _ gx none 25 #[.int .u64 a, .int .u64 b] (0, 0) _ rfl rfl rfl rfl (has_same _ _ _) (by kernel_rfl) Try.underlying25 rfl (rfl) ?_
        simp only [Act.put, List.setIfInBounds_toArray, List.set_cons_zero, List.set_cons_succ]
        refine g_call (stays_good _ _) (wv 0 1) rfl rfl (fun w' hC => ?_) ?_
        · clear hC
          go_simp
          refine (of1_any _ 1).mono (fun e w2 h => ?_)
          obtain ⟨h1, h2⟩ := h
          exact gives h1 h2
        simp only [Act.put, List.setIfInBounds_toArray, List.set_cons_zero, List.set_cons_succ]
        refine g_call (stays_good _ _) (.tuple #[.agg #[.int .u64 p1, .int .u64 p2], .bool true]) rfl rfl (fun w' hC => ?_) ?_
        · clear hC
          go_simp
          refine (add_any _ a b 0 1 HQ.out.1 HQ.out.2.1 u_zero u_one).mono (fun e w2 h => ?_)
          obtain ⟨h1, h2⟩ := h
          rw [HP.out] at h1
          exact gives h1 h2
        simp only [Act.put, List.setIfInBounds_toArray, List.set_cons_zero, List.set_cons_succ]
        refine g_look rfl rfl ?_ (fun w' hC => ?_) ?_
        rotate_left
        · go_simp
          first | done | rfl
        simp only [Act.put, List.setIfInBounds_toArray, List.set_cons_zero, List.set_cons_succ]
        refine g_look rfl rfl ?_ (fun w' hC => ?_) ?_
        rotate_left
        · go_simp
          first | done | rfl
        simp only [Act.put, List.setIfInBounds_toArray, List.set_cons_zero, List.set_cons_succ]
        refine g_look rfl rfl ?_ (fun w' hC => ?_) ?_
        rotate_left
        · go_simp
          first | done | rfl
        simp only [Act.put, List.setIfInBounds_toArray, List.set_cons_zero, List.set_cons_succ]
        refine g_store gx (some 0) 25 25 _ _ #[.int .u64 a, .int .u64 b] #[.int .u64 p1, .int .u64 p2] rfl rfl rfl rfl rfl (own_new _ _ _ _) (by kernel_rfl) (rfl) (rfl) (one25 _ _) ?_
        simp only [Act.put]
        refine g_end ?_
        intro w3 hC3 hh3
        have S3 : Hid (Stays [(gx, Obj.cells #[.int .u64 p1, .int .u64 p2] 25 (0, 0)), (gr, Obj.cells #[.int .u64 0, .int .u64 0] 25 (0, 0))] w w3) := Lib.hid (stays_cons ((hh3 _ _ _ (own_new _ _ _ _)).1) (stays_cons (stays_row hC3 (List.mem_cons_self ..)) (stays_nil (stays_below hC3))))
        clear S2
        clear hC3 hh3
        go_upto_region 9 with fail
        refine reg_plain (Stays [(gx, Obj.cells #[.int .u64 p1, .int .u64 p2] 25 (0, 0))] w) (Turns [(gx, Obj.cells #[.int .u64 p1, .int .u64 p2] 25 (0, 0))] w) (kdOf [(1, .touch)]) (Own.has none0 gr (Obj.cells #[.int .u64 0, .int .u64 0] 25 (0, 0))) (stays_good _ _) (stays_cons (stays_row S3.out (List.mem_cons_self ..)) (stays_nil (stays_below S3.out))) (holds_has (holds0 _) (stays_row S3.out (List.mem_cons_of_mem _ (List.mem_cons_self ..))) (turns_cons d_x_r (turns_nil tr.out.2))) ?_
        (refine g_load 25 _ gx 25 #[.int .u64 p1, .int .u64 p2] (0, 0) _ rfl rfl rfl rfl (fun w' hC => stays_row hC (List.mem_cons_self ..)) Try.underlying25 rfl (rfl) ?_)
        simp only [Act.put, List.setIfInBounds_toArray, List.set_cons_zero, List.set_cons_succ]
        refine g_store gr none 25 25 _ _ #[.int .u64 0, .int .u64 0] #[.int .u64 p1, .int .u64 p2] rfl rfl rfl rfl rfl (has_same _ _ _) (by kernel_rfl) (rfl) (rfl) (one25 _ _) ?_
        simp only [Act.put]
        refine g_end ?_
        intro w4 hC4 hh4
        have S4 : Hid (Stays [(gx, Obj.cells #[.int .u64 p1, .int .u64 p2] 25 (0, 0)), (gr, Obj.cells #[.int .u64 p1, .int .u64 p2] 25 (0, 0))] w w4) := Lib.hid (stays_cons (stays_row hC4 (List.mem_cons_self ..)) (stays_cons ((hh4 _ _ _ (own_new _ _ _ _)).1) (stays_nil (stays_below hC4))))
        clear S3
        clear hC4 hh4
        go_wp2_with fail
        refine bodyPost_ret (v := wv p1 p2) (results_cell56 (stays_head (stays_tail S4.out))) rfl ⟨congrArg Ending.returned (HF.out), stays_below S4.out⟩
      | false =>
        have HF : Hid (wv a b = V) := Lib.hid (by
          have h0 : X % 10 ^ k = 0 := by simpa using HU.out
          rw [wval_wn HQ.out.1 HQ.out.2.1 HQ.out.2.2, ← HV.out, byUp, if_pos h0]
          rfl)
        go_upto_region 9 with fail
        refine reg_plain (Stays [(gx, Obj.cells #[.int .u64 a, .int .u64 b] 25 (0, 0))] w) (Turns [(gx, Obj.cells #[.int .u64 a, .int .u64 b] 25 (0, 0))] w) (kdOf [(1, .touch)]) (Own.has none0 gr (Obj.cells #[.int .u64 0, .int .u64 0] 25 (0, 0))) (stays_good _ _) (stays_cons (stays_row S2.out (List.mem_cons_self ..)) (stays_nil (stays_below S2.out))) (holds_has (holds0 _) (stays_row S2.out (List.mem_cons_of_mem _ (List.mem_cons_self ..))) (turns_cons d_x_r (turns_nil tr.out.2))) ?_
        (refine g_load 25 _ gx 25 #[.int .u64 a, .int .u64 b] (0, 0) _ rfl rfl rfl rfl (fun w' hC => stays_row hC (List.mem_cons_self ..)) Try.underlying25 rfl (rfl) ?_)
        simp only [Act.put, List.setIfInBounds_toArray, List.set_cons_zero, List.set_cons_succ]
        refine g_store gr none 25 25 _ _ #[.int .u64 0, .int .u64 0] #[.int .u64 a, .int .u64 b] rfl rfl rfl rfl rfl (has_same _ _ _) (by kernel_rfl) (rfl) (rfl) (one25 _ _) ?_
        simp only [Act.put]
        refine g_end ?_
        intro w3 hC3 hh3
        have S3 : Hid (Stays [(gx, Obj.cells #[.int .u64 a, .int .u64 b] 25 (0, 0)), (gr, Obj.cells #[.int .u64 a, .int .u64 b] 25 (0, 0))] w w3) := Lib.hid (stays_cons (stays_row hC3 (List.mem_cons_self ..)) (stays_cons ((hh3 _ _ _ (own_new _ _ _ _)).1) (stays_nil (stays_below hC3))))
        clear S2
        clear hC3 hh3
        go_wp2_with fail
        refine bodyPost_ret (v := wv a b) (results_cell56 (stays_head (stays_tail S3.out))) rfl ⟨congrArg Ending.returned (HF.out), stays_below S3.out⟩
end Go.Proofs.Ythpdfacdjgkmpaa.Wi
