/- The text of an amount, by a walk. -/
import Derived.Test.YthpdfacdjgkmpaaEl
namespace Go.Proofs.Ythpdfacdjgkmpaa.Wi
open Go.RowKit K

attribute [local go_sem] lookTo stepTo Maker.step
attribute [local go_sem ↓] idxL st_size one_size st_list add_st
/-- So often (at most n times) a number is divided without a rest: what is left, and how often. -/
def cutB (B : Nat) : Nat → Nat → Nat × Nat
  | 0, X => (X, 0)
  | n + 1, X => if X % B = 0 then ((cutB B n (X / B)).1, (cutB B n (X / B)).2 + 1) else (X, 0)
theorem cut_mul {B : Nat} : ∀ (n X : Nat), (cutB B n X).1 * B ^ (cutB B n X).2 = X ∧ (cutB B n X).2 ≤ n
  | 0, X => by simp [cutB]
  | n + 1, X => by
    rw [cutB]
    split
    · rename_i h
      have ih := cut_mul (B := B) n (X / B)
      refine ⟨?_, by have := ih.2; show (cutB B n (X / B)).2 + 1 ≤ n + 1; omega⟩
      show (cutB B n (X / B)).1 * B ^ ((cutB B n (X / B)).2 + 1) = X
      rw [Nat.pow_succ, ← Nat.mul_assoc, ih.1]
      exact Nat.div_mul_cancel (Nat.dvd_of_mod_eq_zero h)
    · simp
/-- The suffixes of a text, from a billionth up. -/
def sufK (k : Nat) : List UInt8 := ([[110], [117], [109], [], [107], [77], [71], [84], [80], [69]] : List (List UInt8)).getD k []
def tenT : Array Value := #[.string ⟨#[110]⟩, .string ⟨#[117]⟩, .string ⟨#[109]⟩, .string ⟨#[]⟩, .string ⟨#[107]⟩, .string ⟨#[77]⟩, .string ⟨#[71]⟩, .string ⟨#[84]⟩, .string ⟨#[80]⟩, .string ⟨#[69]⟩]
theorem ten_at {k : Nat} (h : k ≤ 9) : tenT[k]? = some (.string ⟨(sufK k).toArray⟩) := by
  rcases (show k = 0 ∨ k = 1 ∨ k = 2 ∨ k = 3 ∨ k = 4 ∨ k = 5 ∨ k = 6 ∨ k = 7 ∨ k = 8 ∨ k = 9 by omega) with rfl | rfl | rfl | rfl | rfl | rfl | rfl | rfl | rfl | rfl <;> rfl
theorem suf_le {k : Nat} (h : k ≤ 9) : (sufK k).length ≤ 2 := by
  rcases (show k = 0 ∨ k = 1 ∨ k = 2 ∨ k = 3 ∨ k = 4 ∨ k = 5 ∨ k = 6 ∨ k = 7 ∨ k = 8 ∨ k = 9 by omega) with rfl | rfl | rfl | rfl | rfl | rfl | rfl | rfl | rfl | rfl <;> decide
/-- An amount's text. -/
def textL (X : Nat) : List UInt8 := if (X : Int) ≤ Most then (if X = 0 then [48] else Lib.decDigits (cutB 1000 9 X).1 ++ sufK (cutB 1000 9 X).2) else []
/-- So many digits, at most. -/
theorem dec_len {X : Nat} (h : (X : Int) < Lim) : (Lib.decDigits X).length ≤ 39 := by
  rw [Lib.decDigits_length]
  by_cases h39 : Lib.nDigits X ≤ 39
  · exact h39
  · exfalso
    have hl : 10 ^ 39 ≤ X := by
      clear h
      have aux : ∀ (k u : Nat), k + 1 ≤ Lib.nDigits u → 10 ^ k ≤ u ∨ k = 0 := by
        intro k
        induction k with
        | zero => intro u _; exact .inr rfl
        | succ k ih =>
          intro u hu
          by_cases hs : u < 10
          · rw [Lib.nDigits_small hs] at hu; omega
          · rw [Lib.nDigits_big hs] at hu
            refine .inl ?_
            rcases ih (u / 10) (by omega) with h1 | h1
            · rw [Nat.pow_succ]
              have := Nat.div_mul_le_self u 10
              omega
            · subst h1; omega
      rcases aux 39 X (by omega) with h1 | h1
      · exact h1
      · cases h1
    have h2 : 10 ^ 39 = 1000000000000000000000000000000000000000 := by decide
    rw [h2] at hl
    unfold Lim at h
    omega
theorem cat_len {Y k : Nat} (hY : (Y : Int) < Lim) (hk : k ≤ 9) : ¬ 9223372036854775807 < (Lib.decDigits Y).length + (sufK k).length := by
  have h1 := dec_len hY
  have h2 := suf_le hk
  omega
theorem cut_more {B X Y k n : Nat} (hc : cutB B n X = ((cutB B (n - k) Y).1, (cutB B (n - k) Y).2 + k)) (hk : k < n) (h0 : Y % B = 0) : cutB B n X = ((cutB B (n - (k + 1)) (Y / B)).1, (cutB B (n - (k + 1)) (Y / B)).2 + (k + 1)) := by
  obtain ⟨m, hm⟩ : ∃ m, n - k = m + 1 := ⟨n - k - 1, by omega⟩
  rw [hm, cutB, if_pos h0] at hc
  rw [hc, show n - (k + 1) = m by omega]
  show ((cutB B m (Y / B)).1, (cutB B m (Y / B)).2 + 1 + k) = _
  rw [show (cutB B m (Y / B)).2 + 1 + k = (cutB B m (Y / B)).2 + (k + 1) by omega]
theorem cut_end {B X Y k n : Nat} (hc : cutB B n X = ((cutB B (n - k) Y).1, (cutB B (n - k) Y).2 + k)) (h0 : k = n ∨ Y % B ≠ 0) : cutB B n X = (Y, k) := by
  rw [hc]
  rcases h0 with rfl | h0
  · simp [cutB]
  · cases n - k with
    | zero => simp [cutB]
    | succ m => simp [cutB, h0]
theorem atext_end {X Y k : Nat} {V : List UInt8} (hV : textL X = V) (hm : (X : Int) ≤ Most) (h0 : X ≠ 0) (hc : cutB 1000 9 X = ((cutB 1000 (9 - k) Y).1, (cutB 1000 (9 - k) Y).2 + k)) (he : k = 9 ∨ Y % 1000 ≠ 0) : Lib.decDigits Y ++ sufK k = V := by
  rw [← hV, textL, if_pos hm, if_neg h0, cut_end hc he]
theorem q_facts {q1 q2 r : Int} {Y B : Nat} (hv : wval q1 q2 = (Y : Int) / (B : Int)) (hr : r = (Y : Int) % (B : Int)) : wval q1 q2 = ((Y / B : Nat) : Int) ∧ r = ((Y % B : Nat) : Int) := by
  refine ⟨?_, ?_⟩
  · rw [hv]; simp
  · rw [hr]; simp
theorem nine_step {k : Nat} (h : k < 9) : (k : Int) < 9 ∧ wrap64 ((k : Int) + 1) = (k : Int) + 1 ∧ IntKind.i64.wrap ((k : Int) + 1) = (k : Int) + 1 ∧ k + 1 ≤ 9 ∧ 9 - ((k : Int) + 1).toNat < 9 - (k : Int).toNat := by
  have h1 : wrap64 ((k : Int) + 1) = (k : Int) + 1 := wrap_small (by omega) (by omega)
  exact ⟨by omega, h1, by rw [i64w, h1], by omega, by omega⟩
theorem nine_end {k : Nat} (h : k ≤ 9) (h2 : ¬ k < 9) : k = 9 := by omega
theorem wn_zero {a b : Int} {X : Nat} (hX : wval a b = (X : Int)) (ha : U a) (hb : U b) : (X = 0 → a = 0 ∧ b = 0) ∧ (X ≠ 0 → ¬ (a = 0 ∧ b = 0)) := by
  unfold wval U at *
  exact ⟨fun h => ⟨by omega, by omega⟩, fun h h' => by obtain ⟨rfl, rfl⟩ := h'; omega⟩
set_option maxHeartbeats 4000000 in
set_option maxRecDepth 100000 in
theorem atext_any (w : World) (a0 b0 : Int) (X : Nat) (hX : wval a0 b0 = (X : Int)) (ha : U a0) (hb : U b0) : Calls Try.prog 16 #[wv a0 b0] w (Ret w (.string ⟨(textL X).toArray⟩)) := by
  obtain ⟨V, hV⟩ : ∃ V, textL X = V := ⟨_, rfl⟩
  rw [hV]
  have HV := Lib.hid hV
  have HX := Lib.hid hX
  have HA := Lib.hid ha
  have HB := Lib.hid hb
  obtain ⟨hz1, hz2⟩ := wn_zero hX ha hb
  clear hX ha hb hV
  have S0 : Hid (Stays [] w w) := Lib.hid (stays_nil (Below.refl _ _))
  go_enter Try.func16, Try.ntmps16
  go_upto_region 0 with fail
  refine reg_plain (Stays [] w) (Turns [] w) (kdOf [(0, .make (fun _ => allocM (.cells #[.int .u64 a0, .int .u64 b0] 25)))]) none0 (stays_good _ _) (S0.out) (holds0 _) ?_
  refine g_alloc (stays_good _ _) (.cells #[.int .u64 a0, .int .u64 b0] 25) rfl rfl (fun w' hC => ?_) (fun gx tx nx => ?_)
  · clear hC
    go_simp
    first | done | rfl | exact ⟨rfl, rfl⟩
  clear nx
  replace tx := Lib.hid tx
  simp only [Act.put, List.setIfInBounds_toArray, List.set_cons_zero, List.set_cons_succ]
  refine g_look rfl rfl ?_ (fun w' hC => ?_) ?_
  rotate_left
  · go_simp
    first | done | rfl
  simp only [Act.put, List.setIfInBounds_toArray, List.set_cons_zero, List.set_cons_succ]
  refine g_end ?_
  intro w1 hC1 hh1
  have S1 : Hid (Stays [(gx, Obj.cells #[.int .u64 a0, .int .u64 b0] 25 (0, 0))] w w1) := Lib.hid (stays_cons ((hh1 _ _ _ (own_new _ _ _ _)).1) (stays_nil (stays_below hC1)))
  clear hC1 hh1
  by_cases hm : (X : Int) ≤ Most
  · have HF : Hid (decide (wval a0 b0 ≤ Most) = true) := Lib.hid (by rw [HX.out]; exact decide_eq_true hm)
    have HM := Lib.hid hm
    clear hm
    go_upto_region 1 with fail
    refine reg_plain (Stays [(gx, Obj.cells #[.int .u64 a0, .int .u64 b0] 25 (0, 0))] w) (Turns [(gx, Obj.cells #[.int .u64 a0, .int .u64 b0] 25 (0, 0))] w) (kdOf [(1, .make (fun _ => callM (.bool true)))]) none0 (stays_good _ _) (S1.out) (holds0 _) ?_
    (refine g_load 25 _ gx 25 #[.int .u64 a0, .int .u64 b0] (0, 0) _ rfl rfl rfl rfl (fun w' hC => stays_row hC (List.mem_cons_self ..)) Try.underlying25 rfl (rfl) ?_)
    simp only [Act.put, List.setIfInBounds_toArray, List.set_cons_zero, List.set_cons_succ]
    refine g_call (stays_good _ _) (.bool true) rfl rfl (fun w' hC => ?_) ?_
    · clear hC
      go_simp
      refine (fits_any _ a0 b0 HA.out HB.out).mono (fun e w2 h => ?_)
      obtain ⟨h1, h2⟩ := h
      rw [HF.out] at h1
      exact gives h1 h2
    simp only [Act.put, List.setIfInBounds_toArray, List.set_cons_zero, List.set_cons_succ]
    refine g_look rfl rfl ?_ (fun w' hC => ?_) ?_
    rotate_left
    · go_simp
      first | done | rfl
    simp only [Act.put, List.setIfInBounds_toArray, List.set_cons_zero, List.set_cons_succ]
    refine g_end ?_
    intro w2 hC2 hh2
    have S2 : Hid (Stays [(gx, Obj.cells #[.int .u64 a0, .int .u64 b0] 25 (0, 0))] w w2) := Lib.hid (stays_cons (stays_row hC2 (List.mem_cons_self ..)) (stays_nil (stays_below hC2)))
    clear S1
    clear hC2 hh2
    by_cases h0 : X = 0
    · obtain ⟨rfl, rfl⟩ := hz1 h0
      have H0 := Lib.hid h0
      clear hz1 hz2 h0
      go_upto_region 3 with fail
      refine reg_plain (Stays [(gx, Obj.cells #[.int .u64 0, .int .u64 0] 25 (0, 0))] w) (Turns [(gx, Obj.cells #[.int .u64 0, .int .u64 0] 25 (0, 0))] w) (kdOf []) none0 (stays_good _ _) (S2.out) (holds0 _) ?_
      (refine g_load 25 _ gx 25 #[.int .u64 0, .int .u64 0] (0, 0) _ rfl rfl rfl rfl (fun w' hC => stays_row hC (List.mem_cons_self ..)) Try.underlying25 rfl (rfl) ?_)
      simp only [Act.put, List.setIfInBounds_toArray, List.set_cons_zero, List.set_cons_succ]
      refine g_look rfl rfl ?_ (fun w' hC => ?_) ?_
      rotate_left
      · go_simp
        first | done | rfl
      simp only [Act.put, List.setIfInBounds_toArray, List.set_cons_zero, List.set_cons_succ]
      refine g_look rfl rfl (.bool true) (fun w' hC => ?_) ?_
      · clear hC
        go_simp
        first | done | rfl | (simp; done)
      simp only [Act.put, List.setIfInBounds_toArray, List.set_cons_zero, List.set_cons_succ]
      refine g_end ?_
      intro w3 hC3 hh3
      have S3 : Hid (Stays [(gx, Obj.cells #[.int .u64 0, .int .u64 0] 25 (0, 0))] w w3) := Lib.hid (stays_cons (stays_row hC3 (List.mem_cons_self ..)) (stays_nil (stays_below hC3)))
      clear S2
      clear hC3 hh3
      go_upto_region 4 with fail
      refine reg_plain (Stays [(gx, Obj.cells #[.int .u64 0, .int .u64 0] 25 (0, 0))] w) (Turns [(gx, Obj.cells #[.int .u64 0, .int .u64 0] 25 (0, 0))] w) (kdOf []) none0 (stays_good _ _) (S3.out) (holds0 _) ?_
      refine g_look rfl rfl ?_ (fun w' hC => ?_) ?_
      rotate_left
      · go_simp
        first | done | rfl
      simp only [Act.put, List.setIfInBounds_toArray, List.set_cons_zero, List.set_cons_succ]
      refine g_end ?_
      intro w4 hC4 hh4
      have S4 : Hid (Stays [(gx, Obj.cells #[.int .u64 0, .int .u64 0] 25 (0, 0))] w w4) := Lib.hid (stays_cons (stays_row hC4 (List.mem_cons_self ..)) (stays_nil (stays_below hC4)))
      clear S3
      clear hC4 hh4
      go_wp2_with fail
      refine bodyPost_ret (v := .string ⟨#[48]⟩) (by simp [results, Try.results16, go_sem]) rfl ⟨congrArg Ending.returned (by rw [← HV.out, textL, if_pos HM.out, if_pos H0.out]), stays_below S4.out⟩
    · have HZ := Lib.hid (hz2 h0)
      have H0 := Lib.hid h0
      clear hz1 hz2 h0
      go_upto_region 3 with fail
      refine reg_plain (Stays [(gx, Obj.cells #[.int .u64 a0, .int .u64 b0] 25 (0, 0))] w) (Turns [(gx, Obj.cells #[.int .u64 a0, .int .u64 b0] 25 (0, 0))] w) (kdOf []) none0 (stays_good _ _) (S2.out) (holds0 _) ?_
      (refine g_load 25 _ gx 25 #[.int .u64 a0, .int .u64 b0] (0, 0) _ rfl rfl rfl rfl (fun w' hC => stays_row hC (List.mem_cons_self ..)) Try.underlying25 rfl (rfl) ?_)
      simp only [Act.put, List.setIfInBounds_toArray, List.set_cons_zero, List.set_cons_succ]
      refine g_look rfl rfl ?_ (fun w' hC => ?_) ?_
      rotate_left
      · go_simp
        first | done | rfl
      simp only [Act.put, List.setIfInBounds_toArray, List.set_cons_zero, List.set_cons_succ]
      refine g_look rfl rfl (.bool false) (fun w' hC => ?_) ?_
      · clear hC
        go_simp
        first | done | rfl | (by_cases ha0 : a0 = 0 <;> by_cases hb0 : b0 = 0 <;> first | (rw [if_neg ha0]; exact ⟨rfl, rfl⟩) | (rw [if_pos ha0, if_neg hb0]; exact ⟨rfl, rfl⟩) | (exact (HZ.out (And.intro ha0 hb0)).elim))
      simp only [Act.put, List.setIfInBounds_toArray, List.set_cons_zero, List.set_cons_succ]
      refine g_end ?_
      intro w3 hC3 hh3
      have S3 : Hid (Stays [(gx, Obj.cells #[.int .u64 a0, .int .u64 b0] 25 (0, 0))] w w3) := Lib.hid (stays_cons (stays_row hC3 (List.mem_cons_self ..)) (stays_nil (stays_below hC3)))
      clear S2
      clear hC3 hh3
      clear HZ
      go_upto_region 6 with fail
      have S20 : Hid (Stays [(w3.heap.size, Obj.cells tenT 9 (0, 0)), (gx, Obj.cells #[.int .u64 a0, .int .u64 b0] 25 (0, 0))] w (w3.alloc (Obj.cells tenT 9 (0, 0)))) := Lib.hid (stays_cons (blk_new rfl) (stays_cons (blk_alloc (stays_head S3.out) _) (stays_nil (b_alloc (stays_below S3.out) _))))
      have hgs : Hid (w3.heap.size ≠ gx) := Lib.hid (Nat.ne_of_gt (blk_lt (stays_head S3.out)))
      clear S3
      generalize w3.heap.size = gs at *
      generalize hwx : w3.alloc (Obj.cells tenT 9 (0, 0)) = wx at *
      try (unfold tenT at hwx; rw [hwx])
      clear hwx
      have tx2 : Hid (Turns [(gs, Obj.cells tenT 9 (0, 0))] w gx) := Lib.hid (turns_cons hgs.out (turns_nil tx.out.2))
      go_upto_region 6 with fail
      refine reg_plain (Stays [(gs, Obj.cells tenT 9 (0, 0)), (gx, Obj.cells #[.int .u64 a0, .int .u64 b0] 25 (0, 0))] w) (Turns [(gs, Obj.cells tenT 9 (0, 0)), (gx, Obj.cells #[.int .u64 a0, .int .u64 b0] 25 (0, 0))] w) (kdOf []) none0 (stays_good _ _) (S20.out) (holds0 _) ?_
      refine g_look rfl rfl ?_ (fun w' hC => ?_) ?_
      rotate_left
      · go_simp
        first | done | rfl
      simp only [Act.put, List.setIfInBounds_toArray, List.set_cons_zero, List.set_cons_succ]
      refine g_end ?_
      intro w21 hC21 hh21
      have S21 : Hid (Stays [(gs, Obj.cells tenT 9 (0, 0)), (gx, Obj.cells #[.int .u64 a0, .int .u64 b0] 25 (0, 0))] w w21) := Lib.hid (stays_cons (stays_row hC21 (List.mem_cons_self ..)) (stays_cons (stays_row hC21 (List.mem_cons_of_mem _ (List.mem_cons_self ..))) (stays_nil (stays_below hC21))))
      clear S20
      clear hC21 hh21
      go_wp2_with fail
      go_loopw [4] (fun i wr => ∃ (k Y : Nat) (a b : Int), k ≤ 9 ∧ i = .int .i64 k ∧ Hid (U a ∧ U b ∧ wval a b = (Y : Int)) ∧ Hid (cutB 1000 9 X = ((cutB 1000 (9 - k) Y).1, (cutB 1000 (9 - k) Y).2 + k)) ∧ Hid (Stays [(gs, Obj.cells tenT 9 (0, 0)), (gx, Obj.cells #[.int .u64 a, .int .u64 b] 25 (0, 0))] w wr)) (fun i _ => 9 - (intOf i).toNat)
      case atStart => exact ⟨0, X, a0, b0, Nat.zero_le _, rfl, Lib.hid ⟨HA.out, HB.out, HX.out⟩, Lib.hid rfl, S21⟩
      case round =>
        obtain ⟨k, Y, a, b, hk, rfl, HAB, HCUT, S22⟩ := hrel
        clear S21
        have HK := Lib.hid hk
        by_cases hlt : k < 9
        · obtain ⟨hlti, hwk, hwi, hk1, hms⟩ := nine_step hlt
          replace hwk := Lib.hid hwk
          replace hwi := Lib.hid hwi
          replace hk1 := Lib.hid hk1
          replace hms := Lib.hid hms
          have hxl := wval_lt HAB.out.1 HAB.out.2.1
          obtain ⟨q1, q2, r, hw, u1, u2, hv, hr⟩ := wby_open hxl.1 hxl.2 (show (0 : Int) < 1000 by decide) (show U 1000 by unfold U; decide)
          rw [HAB.out.2.2] at hv hr
          obtain ⟨hv2, hr2⟩ := q_facts (B := 1000) hv hr
          have HW := Lib.hid hw
          have HU1 := Lib.hid u1
          have HU2 := Lib.hid u2
          have HUA := Lib.hid HAB.out.1
          have HUB := Lib.hid HAB.out.2.1
          have HV2 := Lib.hid hv2
          clear hxl hw u1 u2 hv hr hv2
          obtain ⟨R, hR⟩ : ∃ R, Y % 1000 = R := ⟨_, rfl⟩
          rw [hR] at hr2
          subst hr2
          have HR := Lib.hid hR
          clear hR
          go_upto_region 7 with fail
          refine reg_plain (Stays [(gs, Obj.cells tenT 9 (0, 0)), (gx, Obj.cells #[.int .u64 a, .int .u64 b] 25 (0, 0))] w) (Turns [(gs, Obj.cells tenT 9 (0, 0)), (gx, Obj.cells #[.int .u64 a, .int .u64 b] 25 (0, 0))] w) (kdOf []) none0 (stays_good _ _) (S22.out) (holds0 _) ?_
          refine g_look rfl rfl ?_ (fun w' hC => ?_) ?_
          rotate_left
          · go_simp
            first | done | rfl
          simp only [Act.put, List.setIfInBounds_toArray, List.set_cons_zero, List.set_cons_succ]
          refine g_look rfl rfl ?_ (fun w' hC => ?_) ?_
          rotate_left
          · go_simp
            first | done | rfl
          simp only [Act.put, List.setIfInBounds_toArray, List.set_cons_zero, List.set_cons_succ]
          refine g_look rfl rfl ?_ (fun w' hC => ?_) ?_
          rotate_left
          · go_simp
            first | done | rfl
          simp only [Act.put, List.setIfInBounds_toArray, List.set_cons_zero, List.set_cons_succ]
          refine g_look rfl rfl ?_ (fun w' hC => ?_) ?_
          rotate_left
          · go_simp
            first | done | rfl
          simp only [Act.put, List.setIfInBounds_toArray, List.set_cons_zero, List.set_cons_succ]
          refine g_look rfl rfl (.bool true) (fun w' hC => ?_) ?_
          · clear hC
            go_simp
            first | done | rfl | exact hlti | (rw [show IntKind.i64.wrap 9 = 9 from rfl]; omega)
          simp only [Act.put, List.setIfInBounds_toArray, List.set_cons_zero, List.set_cons_succ]
          refine g_end ?_
          intro w23 hC23 hh23
          have S23 : Hid (Stays [(gs, Obj.cells tenT 9 (0, 0)), (gx, Obj.cells #[.int .u64 a, .int .u64 b] 25 (0, 0))] w w23) := Lib.hid (stays_cons (stays_row hC23 (List.mem_cons_self ..)) (stays_cons (stays_row hC23 (List.mem_cons_of_mem _ (List.mem_cons_self ..))) (stays_nil (stays_below hC23))))
          clear S22
          clear hC23 hh23
          go_upto_region 8 with fail
          refine reg_plain (Stays [(gs, Obj.cells tenT 9 (0, 0)), (gx, Obj.cells #[.int .u64 a, .int .u64 b] 25 (0, 0))] w) (Turns [(gs, Obj.cells tenT 9 (0, 0)), (gx, Obj.cells #[.int .u64 a, .int .u64 b] 25 (0, 0))] w) (kdOf [(1, .make (fun _ => callM (.tuple #[.agg #[.int .u64 q1, .int .u64 q2], .int .u64 (R : Int), .bool true]))), (6, .make (fun _ => allocM (.cells #[.int .u64 0, .int .u64 0] 25))), (7, .touch)]) none0 (stays_good _ _) (S23.out) (holds0 _) ?_
          (refine g_load 25 _ gx 25 #[.int .u64 a, .int .u64 b] (0, 0) _ rfl rfl rfl rfl (fun w' hC => stays_row hC (List.mem_cons_of_mem _ (List.mem_cons_self ..))) Try.underlying25 rfl (rfl) ?_)
          simp only [Act.put, List.setIfInBounds_toArray, List.set_cons_zero, List.set_cons_succ]
          refine g_call (stays_good _ _) (.tuple #[.agg #[.int .u64 q1, .int .u64 q2], .int .u64 (R : Int), .bool true]) rfl rfl (fun w' hC => ?_) ?_
          · clear hC
            go_simp
            refine (wby_any _ a b 1000 HUA.out HUB.out (by unfold U; decide)).mono (fun e w2 h => ?_)
            obtain ⟨h1, h2⟩ := h
            rw [HW.out] at h1
            exact gives h1 h2
          simp only [Act.put, List.setIfInBounds_toArray, List.set_cons_zero, List.set_cons_succ]
          refine g_look rfl rfl ?_ (fun w' hC => ?_) ?_
          rotate_left
          · go_simp
            first | done | rfl
          simp only [Act.put, List.setIfInBounds_toArray, List.set_cons_zero, List.set_cons_succ]
          refine g_look rfl rfl ?_ (fun w' hC => ?_) ?_
          rotate_left
          · go_simp
            first | done | rfl
          simp only [Act.put, List.setIfInBounds_toArray, List.set_cons_zero, List.set_cons_succ]
          refine g_look rfl rfl ?_ (fun w' hC => ?_) ?_
          rotate_left
          · go_simp
            first | done | rfl
          simp only [Act.put, List.setIfInBounds_toArray, List.set_cons_zero, List.set_cons_succ]
          refine g_look rfl rfl ?_ (fun w' hC => ?_) ?_
          rotate_left
          · go_simp
            first | done | rfl
          simp only [Act.put, List.setIfInBounds_toArray, List.set_cons_zero, List.set_cons_succ]
          refine g_alloc (stays_good _ _) (.cells #[.int .u64 0, .int .u64 0] 25) rfl rfl (fun w' hC => ?_) (fun gq tq nq => ?_)
          · clear hC
            go_simp
            first | done | rfl | exact ⟨rfl, rfl⟩
          clear nq
          replace tq := Lib.hid tq
          simp only [Act.put, List.setIfInBounds_toArray, List.set_cons_zero, List.set_cons_succ]
          refine g_store gq (some 6) 25 25 _ _ #[.int .u64 0, .int .u64 0] #[.int .u64 q1, .int .u64 q2] rfl rfl rfl rfl rfl (own_new _ _ _ _) (by kernel_rfl) (rfl) (rfl) (one25 _ _) ?_
          simp only [Act.put]
          refine g_look rfl rfl ?_ (fun w' hC => ?_) ?_
          rotate_left
          · go_simp
            first | done | rfl
          simp only [Act.put, List.setIfInBounds_toArray, List.set_cons_zero, List.set_cons_succ]
          refine g_look rfl rfl ?_ (fun w' hC => ?_) ?_
          rotate_left
          · go_simp
            first | done | rfl
          simp only [Act.put, List.setIfInBounds_toArray, List.set_cons_zero, List.set_cons_succ]
          refine g_end ?_
          intro w24 hC24 hh24
          have S24 : Hid (Stays [(gs, Obj.cells tenT 9 (0, 0)), (gx, Obj.cells #[.int .u64 a, .int .u64 b] 25 (0, 0)), (gq, Obj.cells #[.int .u64 q1, .int .u64 q2] 25 (0, 0))] w w24) := Lib.hid (stays_cons (stays_row hC24 (List.mem_cons_self ..)) (stays_cons (stays_row hC24 (List.mem_cons_of_mem _ (List.mem_cons_self ..))) (stays_cons ((hh24 _ _ _ (own_new _ _ _ _)).1) (stays_nil (stays_below hC24)))))
          clear S23
          clear hC24 hh24
          by_cases hr0 : R = 0
          · subst hr0
            go_upto_region 9 with fail
            refine reg_plain (Stays [(gs, Obj.cells tenT 9 (0, 0)), (gx, Obj.cells #[.int .u64 a, .int .u64 b] 25 (0, 0)), (gq, Obj.cells #[.int .u64 q1, .int .u64 q2] 25 (0, 0))] w) (Turns [(gs, Obj.cells tenT 9 (0, 0)), (gx, Obj.cells #[.int .u64 a, .int .u64 b] 25 (0, 0)), (gq, Obj.cells #[.int .u64 q1, .int .u64 q2] 25 (0, 0))] w) (kdOf []) none0 (stays_good _ _) (S24.out) (holds0 _) ?_
            refine g_look rfl rfl ?_ (fun w' hC => ?_) ?_
            rotate_left
            · go_simp
              first | done | rfl
            simp only [Act.put, List.setIfInBounds_toArray, List.set_cons_zero, List.set_cons_succ]
            refine g_look rfl rfl (.bool false) (fun w' hC => ?_) ?_
            · clear hC
              go_simp
              first | done | rfl | (simp; done)
            simp only [Act.put, List.setIfInBounds_toArray, List.set_cons_zero, List.set_cons_succ]
            refine g_end ?_
            intro w25 hC25 hh25
            have S25 : Hid (Stays [(gs, Obj.cells tenT 9 (0, 0)), (gx, Obj.cells #[.int .u64 a, .int .u64 b] 25 (0, 0)), (gq, Obj.cells #[.int .u64 q1, .int .u64 q2] 25 (0, 0))] w w25) := Lib.hid (stays_cons (stays_row hC25 (List.mem_cons_self ..)) (stays_cons (stays_row hC25 (List.mem_cons_of_mem _ (List.mem_cons_self ..))) (stays_cons (stays_row hC25 (List.mem_cons_of_mem _ (List.mem_cons_of_mem _ (List.mem_cons_self ..)))) (stays_nil (stays_below hC25)))))
            clear S24
            clear hC25 hh25
            go_upto_region 10 with fail
            refine reg_plain (Stays [(gs, Obj.cells tenT 9 (0, 0)), (gq, Obj.cells #[.int .u64 q1, .int .u64 q2] 25 (0, 0))] w) (Turns [(gs, Obj.cells tenT 9 (0, 0)), (gq, Obj.cells #[.int .u64 q1, .int .u64 q2] 25 (0, 0))] w) (kdOf [(1, .touch)]) (Own.has none0 gx (Obj.cells #[.int .u64 a, .int .u64 b] 25 (0, 0))) (stays_good _ _) (stays_cons (stays_row S25.out (List.mem_cons_self ..)) (stays_cons (stays_row S25.out (List.mem_cons_of_mem _ (List.mem_cons_of_mem _ (List.mem_cons_self ..)))) (stays_nil (stays_below S25.out)))) (holds_has (holds0 _) (stays_row S25.out (List.mem_cons_of_mem _ (List.mem_cons_self ..))) (turns_cons hgs.out (turns_cons (turns_head (turns_tail tq.out)).symm (turns_nil tx.out.2)))) ?_
            (refine g_load 25 _ gq 25 #[.int .u64 q1, .int .u64 q2] (0, 0) _ rfl rfl rfl rfl (fun w' hC => stays_row hC (List.mem_cons_of_mem _ (List.mem_cons_self ..))) Try.underlying25 rfl (rfl) ?_)
            simp only [Act.put, List.setIfInBounds_toArray, List.set_cons_zero, List.set_cons_succ]
            refine g_store gx none 25 25 _ _ #[.int .u64 a, .int .u64 b] #[.int .u64 q1, .int .u64 q2] rfl rfl rfl rfl rfl (has_same _ _ _) (by kernel_rfl) (rfl) (rfl) (one25 _ _) ?_
            simp only [Act.put]
            refine g_end ?_
            intro w26 hC26 hh26
            have S26 : Hid (Stays [(gs, Obj.cells tenT 9 (0, 0)), (gx, Obj.cells #[.int .u64 q1, .int .u64 q2] 25 (0, 0))] w w26) := Lib.hid (stays_cons (stays_row hC26 (List.mem_cons_self ..)) (stays_cons ((hh26 _ _ _ (own_new _ _ _ _)).1) (stays_nil (stays_below hC26))))
            clear S25
            clear hC26 hh26
            go_upto_region 11 with fail
            refine reg_plain (Stays [(gs, Obj.cells tenT 9 (0, 0)), (gx, Obj.cells #[.int .u64 q1, .int .u64 q2] 25 (0, 0))] w) (Turns [(gs, Obj.cells tenT 9 (0, 0)), (gx, Obj.cells #[.int .u64 q1, .int .u64 q2] 25 (0, 0))] w) (kdOf []) none0 (stays_good _ _) (S26.out) (holds0 _) ?_
            refine g_look rfl rfl ?_ (fun w' hC => ?_) ?_
            rotate_left
            · go_simp
              first | done | rfl
            simp only [Act.put, List.setIfInBounds_toArray, List.set_cons_zero, List.set_cons_succ]
            refine g_look rfl rfl (.int .i64 ((k : Int) + 1)) (fun w' hC => ?_) ?_
            · clear hC
              go_simp
              first | done | exact hwi.out | (rw [i64w, hwk.out]; done)
            simp only [Act.put, List.setIfInBounds_toArray, List.set_cons_zero, List.set_cons_succ]
            refine g_look rfl rfl ?_ (fun w' hC => ?_) ?_
            rotate_left
            · go_simp
              first | done | rfl
            simp only [Act.put, List.setIfInBounds_toArray, List.set_cons_zero, List.set_cons_succ]
            refine g_end ?_
            intro w27 hC27 hh27
            have S27 : Hid (Stays [(gs, Obj.cells tenT 9 (0, 0)), (gx, Obj.cells #[.int .u64 q1, .int .u64 q2] 25 (0, 0))] w w27) := Lib.hid (stays_cons (stays_row hC27 (List.mem_cons_self ..)) (stays_cons (stays_row hC27 (List.mem_cons_of_mem _ (List.mem_cons_self ..))) (stays_nil (stays_below hC27))))
            clear S26
            clear hC27 hh27
            go_wp2_with fail
            go_roundw
            case rel => exact ⟨k + 1, Y / 1000, q1, q2, hk1.out, rfl, Lib.hid ⟨HU1.out, HU2.out, HV2.out⟩, Lib.hid (cut_more HCUT.out hlt HR.out), S27⟩
            case measure => exact hms.out
          · have hri : ¬ (R : Int) = 0 := fun h => hr0 (Int.ofNat.inj h)
            have HR0 : Hid (Y % 1000 ≠ 0) := Lib.hid (by rw [HR.out]; exact hr0)
            go_upto_region 9 with fail
            refine reg_plain (Stays [(gs, Obj.cells tenT 9 (0, 0)), (gx, Obj.cells #[.int .u64 a, .int .u64 b] 25 (0, 0)), (gq, Obj.cells #[.int .u64 q1, .int .u64 q2] 25 (0, 0))] w) (Turns [(gs, Obj.cells tenT 9 (0, 0)), (gx, Obj.cells #[.int .u64 a, .int .u64 b] 25 (0, 0)), (gq, Obj.cells #[.int .u64 q1, .int .u64 q2] 25 (0, 0))] w) (kdOf []) none0 (stays_good _ _) (S24.out) (holds0 _) ?_
            refine g_look rfl rfl ?_ (fun w' hC => ?_) ?_
            rotate_left
            · go_simp
              first | done | rfl
            simp only [Act.put, List.setIfInBounds_toArray, List.set_cons_zero, List.set_cons_succ]
            refine g_look rfl rfl (.bool true) (fun w' hC => ?_) ?_
            · clear hC
              go_simp
              first | done | rfl | exact hri | exact hr0 | (simpa using hri)
            simp only [Act.put, List.setIfInBounds_toArray, List.set_cons_zero, List.set_cons_succ]
            refine g_end ?_
            intro w25 hC25 hh25
            have S25 : Hid (Stays [(gs, Obj.cells tenT 9 (0, 0)), (gx, Obj.cells #[.int .u64 a, .int .u64 b] 25 (0, 0)), (gq, Obj.cells #[.int .u64 q1, .int .u64 q2] 25 (0, 0))] w w25) := Lib.hid (stays_cons (stays_row hC25 (List.mem_cons_self ..)) (stays_cons (stays_row hC25 (List.mem_cons_of_mem _ (List.mem_cons_self ..))) (stays_cons (stays_row hC25 (List.mem_cons_of_mem _ (List.mem_cons_of_mem _ (List.mem_cons_self ..)))) (stays_nil (stays_below hC25)))))
            clear S24
            clear hC25 hh25
            have HCAT : Hid (¬ 9223372036854775807 < (Lib.decDigits Y).length + (sufK k).length) := Lib.hid (cat_len (by rw [← HAB.out.2.2]; exact (wval_lt HAB.out.1 HAB.out.2.1).2) HK.out)
            have HEND := Lib.hid (atext_end HV.out HM.out H0.out HCUT.out (.inr HR0.out))
            have HTEN := Lib.hid (ten_at HK.out)
            obtain ⟨hua, hub, hva⟩ := HAB.out
            replace hua := Lib.hid hua
            replace hub := Lib.hid hub
            replace hva := Lib.hid hva
            have hdl : Hid (Value.string ⟨(Lib.decDigits Y).toArray⟩ = .string ⟨(Lib.decDigits Y).toArray⟩) := Lib.hid rfl
            generalize hD : Lib.decDigits Y = dl at *
            generalize hS : sufK k = sl at *
            replace hD := Lib.hid hD
            clear hS hdl HAB HCUT
            have hk10 : (k : Int) < 10 := by have := HK.out; omega
            go_upto_region 12 with fail
            refine reg (Stays [(gs, Obj.cells tenT 9 (0, 0)), (gx, Obj.cells #[.int .u64 a, .int .u64 b] 25 (0, 0)), (gq, Obj.cells #[.int .u64 q1, .int .u64 q2] 25 (0, 0))] w) (Turns [(gs, Obj.cells tenT 9 (0, 0)), (gx, Obj.cells #[.int .u64 a, .int .u64 b] 25 (0, 0)), (gq, Obj.cells #[.int .u64 q1, .int .u64 q2] 25 (0, 0))] w) (kdOf [(1, .make (fun _ => callM (.string ⟨dl.toArray⟩)))]) none0 (stays_good _ _) (by kernel_rfl) (by kernel_rfl) (stays_drew (S25.out)) (holds0 _) ?_
            (refine g_load 25 _ gx 25 #[.int .u64 a, .int .u64 b] (0, 0) _ rfl rfl rfl rfl (fun w' hC => stays_row hC (List.mem_cons_of_mem _ (List.mem_cons_self ..))) Try.underlying25 rfl (rfl) ?_)
            simp only [Act.put, List.setIfInBounds_toArray, List.set_cons_zero, List.set_cons_succ]
            refine g_call (stays_good _ _) (.string ⟨dl.toArray⟩) rfl rfl (fun w' hC => ?_) ?_
            · clear hC
              go_simp
              refine (text_any _ a b Y hva.out hua.out hub.out).mono (fun e w2 h => ?_)
              obtain ⟨h1, h2⟩ := h
              rw [hD.out] at h1
              exact gives h1 h2
            simp only [Act.put, List.setIfInBounds_toArray, List.set_cons_zero, List.set_cons_succ]
            refine g_look rfl rfl ?_ (fun w' hC => ?_) ?_
            rotate_left
            · go_simp
              first | done | rfl
            simp only [Act.put, List.setIfInBounds_toArray, List.set_cons_zero, List.set_cons_succ]
            refine g_look rfl rfl ?_ (fun w' hC => ?_) ?_
            rotate_left
            · go_simp
              first | done | rfl
            simp only [Act.put, List.setIfInBounds_toArray, List.set_cons_zero, List.set_cons_succ]
            refine g_look rfl rfl (.pointer (some ⟨gs, k, none⟩)) (fun w' hC => ?_) ?_
            · clear hC
              go_simp
              first | done | rfl | exact ⟨rfl, rfl⟩ | (rw [if_pos hk10]; exact ⟨rfl, rfl⟩)
            simp only [Act.put, List.setIfInBounds_toArray, List.set_cons_zero, List.set_cons_succ]
            refine g_look rfl rfl (.string ⟨sl.toArray⟩) (fun w' hC => ?_) ?_
            · have c : w'.heap[gs]? = some (.cells tenT 9 (0, 0)) := stays_row hC (List.mem_cons_self ..)
              have c0 : w'.cell? ⟨gs, k, none⟩ = some (.string ⟨sl.toArray⟩) := (cell_of_row _ _ _ _ _ _ c).trans HTEN.out
              clear hC c
              go_simp
              first | done | rfl
            simp only [Act.put, List.setIfInBounds_toArray, List.set_cons_zero, List.set_cons_succ]
            refine g_look rfl rfl (.string ⟨V.toArray⟩) (fun w' hC => ?_) ?_
            · clear hC
              go_simp
              first | done | rfl | (rw [if_neg HCAT.out, HEND.out]; exact ⟨rfl, rfl⟩) | (simp [HCAT.out, HEND.out]; done)
            simp only [Act.put, List.setIfInBounds_toArray, List.set_cons_zero, List.set_cons_succ]
            refine g_look rfl rfl ?_ (fun w' hC => ?_) ?_
            rotate_left
            · go_simp
              first | done | rfl
            simp only [Act.put, List.setIfInBounds_toArray, List.set_cons_zero, List.set_cons_succ]
            refine g_end ?_
            intro w26 hC26 hh26
            have S26 : Hid (Stays [(gs, Obj.cells tenT 9 (0, 0)), (gx, Obj.cells #[.int .u64 a, .int .u64 b] 25 (0, 0)), (gq, Obj.cells #[.int .u64 q1, .int .u64 q2] 25 (0, 0))] w w26) := Lib.hid (stays_cons (stays_row hC26 (List.mem_cons_self ..)) (stays_cons (stays_row hC26 (List.mem_cons_of_mem _ (List.mem_cons_self ..))) (stays_cons (stays_row hC26 (List.mem_cons_of_mem _ (List.mem_cons_of_mem _ (List.mem_cons_self ..)))) (stays_nil (stays_below hC26)))))
            clear S25
            clear hC26 hh26
            go_wp2_with fail
            refine bodyPost_ret (v := .string ⟨V.toArray⟩) (by simp [results, Try.results16, go_sem]) rfl ⟨congrArg Ending.returned (rfl), stays_below S26.out⟩
        · have hlti : ¬ (k : Int) < 9 := by omega
          have HK9 := Lib.hid (nine_end hk hlt)
          go_upto_region 7 with fail
          refine reg_plain (Stays [(gs, Obj.cells tenT 9 (0, 0)), (gx, Obj.cells #[.int .u64 a, .int .u64 b] 25 (0, 0))] w) (Turns [(gs, Obj.cells tenT 9 (0, 0)), (gx, Obj.cells #[.int .u64 a, .int .u64 b] 25 (0, 0))] w) (kdOf []) none0 (stays_good _ _) (S22.out) (holds0 _) ?_
          refine g_look rfl rfl ?_ (fun w' hC => ?_) ?_
          rotate_left
          · go_simp
            first | done | rfl
          simp only [Act.put, List.setIfInBounds_toArray, List.set_cons_zero, List.set_cons_succ]
          refine g_look rfl rfl ?_ (fun w' hC => ?_) ?_
          rotate_left
          · go_simp
            first | done | rfl
          simp only [Act.put, List.setIfInBounds_toArray, List.set_cons_zero, List.set_cons_succ]
          refine g_look rfl rfl ?_ (fun w' hC => ?_) ?_
          rotate_left
          · go_simp
            first | done | rfl
          simp only [Act.put, List.setIfInBounds_toArray, List.set_cons_zero, List.set_cons_succ]
          refine g_look rfl rfl ?_ (fun w' hC => ?_) ?_
          rotate_left
          · go_simp
            first | done | rfl
          simp only [Act.put, List.setIfInBounds_toArray, List.set_cons_zero, List.set_cons_succ]
          refine g_look rfl rfl (.bool false) (fun w' hC => ?_) ?_
          · clear hC
            go_simp
            first | done | rfl | exact hlti | (rw [show IntKind.i64.wrap 9 = 9 from rfl]; omega)
          simp only [Act.put, List.setIfInBounds_toArray, List.set_cons_zero, List.set_cons_succ]
          refine g_end ?_
          intro w23 hC23 hh23
          have S23 : Hid (Stays [(gs, Obj.cells tenT 9 (0, 0)), (gx, Obj.cells #[.int .u64 a, .int .u64 b] 25 (0, 0))] w w23) := Lib.hid (stays_cons (stays_row hC23 (List.mem_cons_self ..)) (stays_cons (stays_row hC23 (List.mem_cons_of_mem _ (List.mem_cons_self ..))) (stays_nil (stays_below hC23))))
          clear S22
          clear hC23 hh23
          have HCAT : Hid (¬ 9223372036854775807 < (Lib.decDigits Y).length + (sufK k).length) := Lib.hid (cat_len (by rw [← HAB.out.2.2]; exact (wval_lt HAB.out.1 HAB.out.2.1).2) HK.out)
          have HEND := Lib.hid (atext_end HV.out HM.out H0.out HCUT.out (.inl HK9.out))
          have HTEN := Lib.hid (ten_at HK.out)
          obtain ⟨hua, hub, hva⟩ := HAB.out
          replace hua := Lib.hid hua
          replace hub := Lib.hid hub
          replace hva := Lib.hid hva
          have hdl : Hid (Value.string ⟨(Lib.decDigits Y).toArray⟩ = .string ⟨(Lib.decDigits Y).toArray⟩) := Lib.hid rfl
          generalize hD : Lib.decDigits Y = dl at *
          generalize hS : sufK k = sl at *
          replace hD := Lib.hid hD
          clear hS hdl HAB HCUT
          have hk10 : (k : Int) < 10 := by have := HK.out; omega
          go_upto_region 12 with fail
          refine reg (Stays [(gs, Obj.cells tenT 9 (0, 0)), (gx, Obj.cells #[.int .u64 a, .int .u64 b] 25 (0, 0))] w) (Turns [(gs, Obj.cells tenT 9 (0, 0)), (gx, Obj.cells #[.int .u64 a, .int .u64 b] 25 (0, 0))] w) (kdOf [(1, .make (fun _ => callM (.string ⟨dl.toArray⟩)))]) none0 (stays_good _ _) (by kernel_rfl) (by kernel_rfl) (stays_drew (S23.out)) (holds0 _) ?_
          (refine g_load 25 _ gx 25 #[.int .u64 a, .int .u64 b] (0, 0) _ rfl rfl rfl rfl (fun w' hC => stays_row hC (List.mem_cons_of_mem _ (List.mem_cons_self ..))) Try.underlying25 rfl (rfl) ?_)
          simp only [Act.put, List.setIfInBounds_toArray, List.set_cons_zero, List.set_cons_succ]
          refine g_call (stays_good _ _) (.string ⟨dl.toArray⟩) rfl rfl (fun w' hC => ?_) ?_
          · clear hC
            go_simp
            refine (text_any _ a b Y hva.out hua.out hub.out).mono (fun e w2 h => ?_)
            obtain ⟨h1, h2⟩ := h
            rw [hD.out] at h1
            exact gives h1 h2
          simp only [Act.put, List.setIfInBounds_toArray, List.set_cons_zero, List.set_cons_succ]
          refine g_look rfl rfl ?_ (fun w' hC => ?_) ?_
          rotate_left
          · go_simp
            first | done | rfl
          simp only [Act.put, List.setIfInBounds_toArray, List.set_cons_zero, List.set_cons_succ]
          refine g_look rfl rfl ?_ (fun w' hC => ?_) ?_
          rotate_left
          · go_simp
            first | done | rfl
          simp only [Act.put, List.setIfInBounds_toArray, List.set_cons_zero, List.set_cons_succ]
          refine g_look rfl rfl (.pointer (some ⟨gs, k, none⟩)) (fun w' hC => ?_) ?_
          · clear hC
            go_simp
            first | done | rfl | exact ⟨rfl, rfl⟩ | (rw [if_pos hk10]; exact ⟨rfl, rfl⟩)
          simp only [Act.put, List.setIfInBounds_toArray, List.set_cons_zero, List.set_cons_succ]
          refine g_look rfl rfl (.string ⟨sl.toArray⟩) (fun w' hC => ?_) ?_
          · have c : w'.heap[gs]? = some (.cells tenT 9 (0, 0)) := stays_row hC (List.mem_cons_self ..)
            have c0 : w'.cell? ⟨gs, k, none⟩ = some (.string ⟨sl.toArray⟩) := (cell_of_row _ _ _ _ _ _ c).trans HTEN.out
            clear hC c
            go_simp
            first | done | rfl
          simp only [Act.put, List.setIfInBounds_toArray, List.set_cons_zero, List.set_cons_succ]
          refine g_look rfl rfl (.string ⟨V.toArray⟩) (fun w' hC => ?_) ?_
          · clear hC
            go_simp
            first | done | rfl | (rw [if_neg HCAT.out, HEND.out]; exact ⟨rfl, rfl⟩) | (simp [HCAT.out, HEND.out]; done)
          simp only [Act.put, List.setIfInBounds_toArray, List.set_cons_zero, List.set_cons_succ]
          refine g_look rfl rfl ?_ (fun w' hC => ?_) ?_
          rotate_left
          · go_simp
            first | done | rfl
          simp only [Act.put, List.setIfInBounds_toArray, List.set_cons_zero, List.set_cons_succ]
          refine g_end ?_
          intro w24 hC24 hh24
          have S24 : Hid (Stays [(gs, Obj.cells tenT 9 (0, 0)), (gx, Obj.cells #[.int .u64 a, .int .u64 b] 25 (0, 0))] w w24) := Lib.hid (stays_cons (stays_row hC24 (List.mem_cons_self ..)) (stays_cons (stays_row hC24 (List.mem_cons_of_mem _ (List.mem_cons_self ..))) (stays_nil (stays_below hC24))))
          clear S23
          clear hC24 hh24
          go_wp2_with fail
          refine bodyPost_ret (v := .string ⟨V.toArray⟩) (by simp [results, Try.results16, go_sem]) rfl ⟨congrArg Ending.returned (rfl), stays_below S24.out⟩
  · have HF : Hid (decide (wval a0 b0 ≤ Most) = false) := Lib.hid (by rw [HX.out]; exact decide_eq_false hm)
    have HM := Lib.hid hm
    clear hm
    go_upto_region 1 with fail
    refine reg_plain (Stays [(gx, Obj.cells #[.int .u64 a0, .int .u64 b0] 25 (0, 0))] w) (Turns [(gx, Obj.cells #[.int .u64 a0, .int .u64 b0] 25 (0, 0))] w) (kdOf [(1, .make (fun _ => callM (.bool false)))]) none0 (stays_good _ _) (S1.out) (holds0 _) ?_
    (refine g_load 25 _ gx 25 #[.int .u64 a0, .int .u64 b0] (0, 0) _ rfl rfl rfl rfl (fun w' hC => stays_row hC (List.mem_cons_self ..)) Try.underlying25 rfl (rfl) ?_)
    simp only [Act.put, List.setIfInBounds_toArray, List.set_cons_zero, List.set_cons_succ]
    refine g_call (stays_good _ _) (.bool false) rfl rfl (fun w' hC => ?_) ?_
    · clear hC
      go_simp
      refine (fits_any _ a0 b0 HA.out HB.out).mono (fun e w2 h => ?_)
      obtain ⟨h1, h2⟩ := h
      rw [HF.out] at h1
      exact gives h1 h2
    simp only [Act.put, List.setIfInBounds_toArray, List.set_cons_zero, List.set_cons_succ]
    refine g_look rfl rfl ?_ (fun w' hC => ?_) ?_
    rotate_left
    · go_simp
      first | done | rfl
    simp only [Act.put, List.setIfInBounds_toArray, List.set_cons_zero, List.set_cons_succ]
    refine g_end ?_
    intro w2 hC2 hh2
    have S2 : Hid (Stays [(gx, Obj.cells #[.int .u64 a0, .int .u64 b0] 25 (0, 0))] w w2) := Lib.hid (stays_cons (stays_row hC2 (List.mem_cons_self ..)) (stays_nil (stays_below hC2)))
    clear S1
    clear hC2 hh2
    go_upto_region 2 with fail
    refine reg_plain (Stays [(gx, Obj.cells #[.int .u64 a0, .int .u64 b0] 25 (0, 0))] w) (Turns [(gx, Obj.cells #[.int .u64 a0, .int .u64 b0] 25 (0, 0))] w) (kdOf []) none0 (stays_good _ _) (S2.out) (holds0 _) ?_
    refine g_look rfl rfl ?_ (fun w' hC => ?_) ?_
    rotate_left
    · go_simp
      first | done | rfl
    simp only [Act.put, List.setIfInBounds_toArray, List.set_cons_zero, List.set_cons_succ]
    refine g_end ?_
    intro w3 hC3 hh3
    have S3 : Hid (Stays [(gx, Obj.cells #[.int .u64 a0, .int .u64 b0] 25 (0, 0))] w w3) := Lib.hid (stays_cons (stays_row hC3 (List.mem_cons_self ..)) (stays_nil (stays_below hC3)))
    clear S2
    clear hC3 hh3
    go_wp2_with fail
    refine bodyPost_ret (v := .string ⟨#[]⟩) (by simp [results, Try.results16, go_sem]) rfl ⟨congrArg Ending.returned (by rw [← HV.out, textL, if_neg (fun h => by have := HM.out; omega)]), stays_below S3.out⟩
end Go.Proofs.Ythpdfacdjgkmpaa.Wi
