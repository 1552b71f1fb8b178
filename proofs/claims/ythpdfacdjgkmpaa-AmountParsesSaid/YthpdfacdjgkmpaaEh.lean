/- The exponent of ten, by a walk. -/
import Derived.Test.YthpdfacdjgkmpaaEg
namespace Go.Proofs.Ythpdfacdjgkmpaa.Wi
open Go.RowKit K

attribute [local go_sem] lookTo stepTo Maker.step
attribute [local go_sem ↓] idxL st_size one_size
theorem st_list (l : List UInt8) : (⟨l.toArray⟩ : ByteArray).toList = l := by rw [ByteArray.toList_eq]
attribute [local go_sem ↓] st_list
/-- The number of decimal digits. -/
def valD (l : List UInt8) : Nat := l.foldl (fun n c => n * 10 + (c.toNat - 48)) 0
theorem val_step {l : List UInt8} {k : Nat} (hk : k < l.length) : valD (l.take (k + 1)) = valD (l.take k) * 10 + (byteL l k - 48) := by
  have hc : l[k]? = some l[k] := List.getElem?_eq_getElem hk
  rw [byteL_at hc, valD, valD, List.take_add_one, hc, List.foldl_append]
  rfl
theorem val_lt {l : List UInt8} (h : cntD l = l.length) : ∀ k, k ≤ l.length → valD (l.take k) < 10 ^ k := by
  intro k
  induction k with
  | zero => intro _; simp [valD]
  | succ k ih =>
    intro hk
    have h1 := ih (by omega)
    have h2 := (cnt_more (l := l) (k := k) (by omega) (by omega)).1 (by omega)
    rw [val_step (by omega), Nat.pow_succ]
    omega
/-- The sign, and what stands behind it. -/
def signed (l : List UInt8) : Int × List UInt8 := match l with
  | [] => (1, [])
  | a :: t => if a = 45 then (-1, t) else if a = 43 then (1, t) else (1, a :: t)
theorem signed_len (l : List UInt8) : (signed l).2.length ≤ l.length ∧ ((signed l).1 = 1 ∨ (signed l).1 = -1) := by
  cases l with
  | nil => simp [signed]
  | cons a t =>
    by_cases h1 : a = 45
    · subst h1; simp [signed]
    · by_cases h2 : a = 43
      · subst h2; simp [signed]
      · simp [signed, h1, h2]
/-- The exponent that a text tells. -/
def expV (l : List UInt8) : Value := if cntD (signed l).2 = (signed l).2.length ∧ 1 ≤ (signed l).2.length ∧ (signed l).2.length ≤ 2 then .tuple #[.int .i64 ((signed l).1 * (valD (signed l).2 : Nat)), .bool true] else .tuple #[.int .i64 0, .bool false]
theorem wrap_small {x : Int} (h0 : -100000 ≤ x) (h1 : x ≤ 100000) : wrap64 x = x := by
  simp only [wrap64]
  omega
theorem round_facts {v d : Nat} {b : Int} {n : Nat} (hn : (n : Int) = b) (h1 : 48 ≤ n ∧ n ≤ 57) (hd : n - 48 = d) (hv : v < 10) : IntKind.u8.wrap (b - 48) = (d : Int) ∧ wrap64 ((v : Int) * 10) = (v : Int) * 10 ∧ wrap64 (d : Int) = (d : Int) ∧ wrap64 ((v : Int) * 10 + (d : Int)) = (v : Int) * 10 + (d : Int) := by
  have e : b - 48 = (d : Int) := by omega
  refine ⟨?_, wrap_small (by omega) (by omega), wrap_small (by omega) (by omega), wrap_small (by omega) (by omega)⟩
  rw [e]
  simp [IntKind.wrap, IntKind.signed, IntKind.bits]
  omega
theorem drop_one (a : UInt8) (t : List UInt8) : (⟨(a :: t).toArray⟩ : ByteArray).extract 1 (t.length + 1) = ⟨t.toArray⟩ := drop_st (l := a :: t) 1
set_option maxHeartbeats 4000000 in
set_option maxRecDepth 100000 in
theorem exponent_any (w : World) (l : List UInt8) (hl : l.length ≤ maxLen) : Calls Try.prog 53 #[.string ⟨l.toArray⟩] w (Ret w (expV l)) := by
  obtain ⟨V, hV⟩ : ∃ V, expV l = V := ⟨_, rfl⟩
  rw [hV]
  have HV0 := Lib.hid hV
  have HL := Lib.hid hl
  clear hl hV
  have S0 : Hid (Stays [] w w) := Lib.hid (stays_nil (Below.refl _ _))
  go_enter Try.func53, Try.ntmps53
  go_upto_region 0 with fail
  refine reg_plain (Stays [] w) (Turns [] w) (kdOf []) none0 (stays_good _ _) (S0.out) (holds0 _) ?_
  refine g_look rfl rfl ?_ (fun w' hC => ?_) ?_
  rotate_left
  · go_simp
    first | done | rfl
  simp only [Act.put, List.setIfInBounds_toArray, List.set_cons_zero, List.set_cons_succ]
  refine g_look rfl rfl ?_ (fun w' hC => ?_) ?_
  rotate_left
  · go_simp
    first | done | rfl
  simp only [Act.put, List.setIfInBounds_toArray, List.set_cons_zero, List.set_cons_succ]
  refine g_end ?_
  intro w1 hC1 hh1
  have S1 : Hid (Stays [] w w1) := Lib.hid (stays_nil (stays_below hC1))
  clear hC1 hh1
  go_upto_region 1 with fail
  refine reg_plain (Stays [] w) (Turns [] w) (kdOf []) none0 (stays_good _ _) (S1.out) (holds0 _) ?_
  refine g_look rfl rfl ?_ (fun w' hC => ?_) ?_
  rotate_left
  · go_simp
    first | done | rfl
  simp only [Act.put, List.setIfInBounds_toArray, List.set_cons_zero, List.set_cons_succ]
  refine g_end ?_
  intro w2 hC2 hh2
  have S2 : Hid (Stays [] w w2) := Lib.hid (stays_nil (stays_below hC2))
  clear S1
  clear hC2 hh2
  rename_i K hK
  refine hK _ _ ?_
  clear hK K
  apply wp_seq_k; intro _ _
  go_cut [0, 4] (fun s g wx => s = .string ⟨(signed l).2.toArray⟩ ∧ g = .int .i64 (signed l).1 ∧ Hid (Stays [] w wx))
  case first =>
    go_upto_region 2 with fail
    refine reg_plain (Stays [] w) (Turns [] w) (kdOf [(1, .make (fun _ => callM (.bool (head l 45))))]) none0 (stays_good _ _) (S2.out) (holds0 _) ?_
    refine g_look rfl rfl ?_ (fun w' hC => ?_) ?_
    rotate_left
    · go_simp
      first | done | rfl
    simp only [Act.put, List.setIfInBounds_toArray, List.set_cons_zero, List.set_cons_succ]
    refine g_call (stays_good _ _) (.bool (head l 45)) rfl rfl (fun w' hC => ?_) ?_
    · clear hC
      go_simp
      refine (pre_any _ l 45).mono (fun e w2 h => ?_)
      obtain ⟨h1, h2⟩ := h
      exact gives h1 h2
    simp only [Act.put, List.setIfInBounds_toArray, List.set_cons_zero, List.set_cons_succ]
    refine g_look rfl rfl ?_ (fun w' hC => ?_) ?_
    rotate_left
    · go_simp
      first | done | rfl
    simp only [Act.put, List.setIfInBounds_toArray, List.set_cons_zero, List.set_cons_succ]
    refine g_end ?_
    intro w3 hC3 hh3
    have S3 : Hid (Stays [] w w3) := Lib.hid (stays_nil (stays_below hC3))
    clear S2
    clear hC3 hh3
    cases l with
    | nil =>
      have hd1 : head [] 45 = false := rfl
      have hd2 : head [] 43 = false := rfl
      rw [hd1]
      go_upto_region 4 with fail
      refine reg_plain (Stays [] w) (Turns [] w) (kdOf [(1, .make (fun _ => callM (.bool false)))]) none0 (stays_good _ _) (S3.out) (holds0 _) ?_
      refine g_look rfl rfl ?_ (fun w' hC => ?_) ?_
      rotate_left
      · go_simp
        first | done | rfl
      simp only [Act.put, List.setIfInBounds_toArray, List.set_cons_zero, List.set_cons_succ]
      refine g_call (stays_good _ _) (.bool false) rfl rfl (fun w' hC => ?_) ?_
      · clear hC
        go_simp
        refine (pre_any _ [] 43).mono (fun e w2 h => ?_)
        obtain ⟨h1, h2⟩ := h
        rw [hd2] at h1
        exact gives h1 h2
      simp only [Act.put, List.setIfInBounds_toArray, List.set_cons_zero, List.set_cons_succ]
      refine g_look rfl rfl ?_ (fun w' hC => ?_) ?_
      rotate_left
      · go_simp
        first | done | rfl
      simp only [Act.put, List.setIfInBounds_toArray, List.set_cons_zero, List.set_cons_succ]
      refine g_end ?_
      intro w4 hC4 hh4
      have S4 : Hid (Stays [] w w4) := Lib.hid (stays_nil (stays_below hC4))
      clear S3
      clear hC4 hh4
      go_wp2_with fail
      go_meet
      exact ⟨rfl, rfl, S4⟩
    | cons a t =>
      have l1 : 1 ≤ t.length + 1 := by omega
      have l2 : (1 : Int) ≤ (t.length : Int) + 1 := by omega
      have l3 : (1 : Int) ≤ ((t.length + 1 : Nat) : Int) := by omega
      by_cases h1 : a = 45
      · subst h1
        have hs : signed ((45 : UInt8) :: t) = (-1, t) := rfl
        have hd1 : head ((45 : UInt8) :: t) 45 = true := by simp [head]
        rw [hd1]
        go_upto_region 3 with fail
        refine reg (Stays [] w) (Turns [] w) (kdOf []) none0 (stays_good _ _) (by kernel_rfl) (by kernel_rfl) (stays_drew (S3.out)) (holds0 _) ?_
        refine g_look rfl rfl ?_ (fun w' hC => ?_) ?_
        rotate_left
        · go_simp
          first | done | rfl
        simp only [Act.put, List.setIfInBounds_toArray, List.set_cons_zero, List.set_cons_succ]
        refine g_look rfl rfl (.string ⟨t.toArray⟩) (fun w' hC => ?_) ?_
        · clear hC
          go_simp
          first | done | exact drop_one _ t | (rw [drop_one]; done) | (simp [drop_one]; done)
        simp only [Act.put, List.setIfInBounds_toArray, List.set_cons_zero, List.set_cons_succ]
        refine g_look rfl rfl ?_ (fun w' hC => ?_) ?_
        rotate_left
        · go_simp
          first | done | rfl
        simp only [Act.put, List.setIfInBounds_toArray, List.set_cons_zero, List.set_cons_succ]
        refine g_look rfl rfl ?_ (fun w' hC => ?_) ?_
        rotate_left
        · go_simp
          first | done | rfl
        simp only [Act.put, List.setIfInBounds_toArray, List.set_cons_zero]
        refine g_end ?_
        intro w4 hC4 hh4
        have S4 : Hid (Stays [] w w4) := Lib.hid (stays_nil (stays_below hC4))
        clear S3
        clear hC4 hh4
        go_wp2_with fail
        go_meet
        exact ⟨by rw [hs], by rw [hs], S4⟩
      · by_cases h2 : a = 43
        · subst h2
          have hs : signed ((43 : UInt8) :: t) = (1, t) := rfl
          have hd1 : head ((43 : UInt8) :: t) 45 = false := by simp [head]
          have hd2 : head ((43 : UInt8) :: t) 43 = true := by simp [head]
          rw [hd1]
          go_upto_region 4 with fail
          refine reg_plain (Stays [] w) (Turns [] w) (kdOf [(1, .make (fun _ => callM (.bool true)))]) none0 (stays_good _ _) (S3.out) (holds0 _) ?_
          refine g_look rfl rfl ?_ (fun w' hC => ?_) ?_
          rotate_left
          · go_simp
            first | done | rfl
          simp only [Act.put, List.setIfInBounds_toArray, List.set_cons_zero, List.set_cons_succ]
          refine g_call (stays_good _ _) (.bool true) rfl rfl (fun w' hC => ?_) ?_
          · clear hC
            go_simp
            refine (pre_any _ _ 43).mono (fun e w2 h => ?_)
            obtain ⟨h1, h2⟩ := h
            rw [hd2] at h1
            exact gives h1 h2
          simp only [Act.put, List.setIfInBounds_toArray, List.set_cons_zero, List.set_cons_succ]
          refine g_look rfl rfl ?_ (fun w' hC => ?_) ?_
          rotate_left
          · go_simp
            first | done | rfl
          simp only [Act.put, List.setIfInBounds_toArray, List.set_cons_zero, List.set_cons_succ]
          refine g_end ?_
          intro w4 hC4 hh4
          have S4 : Hid (Stays [] w w4) := Lib.hid (stays_nil (stays_below hC4))
          clear S3
          clear hC4 hh4
          go_upto_region 5 with fail
          refine reg_plain (Stays [] w) (Turns [] w) (kdOf []) none0 (stays_good _ _) (S4.out) (holds0 _) ?_
          refine g_look rfl rfl ?_ (fun w' hC => ?_) ?_
          rotate_left
          · go_simp
            first | done | rfl
          simp only [Act.put, List.setIfInBounds_toArray, List.set_cons_zero, List.set_cons_succ]
          refine g_look rfl rfl (.string ⟨t.toArray⟩) (fun w' hC => ?_) ?_
          · clear hC
            go_simp
            first | done | exact drop_one _ t | (rw [drop_one]; done) | (simp [drop_one]; done)
          simp only [Act.put, List.setIfInBounds_toArray, List.set_cons_zero, List.set_cons_succ]
          refine g_look rfl rfl ?_ (fun w' hC => ?_) ?_
          rotate_left
          · go_simp
            first | done | rfl
          simp only [Act.put, List.setIfInBounds_toArray, List.set_cons_zero]
          refine g_end ?_
          intro w5 hC5 hh5
          have S5 : Hid (Stays [] w w5) := Lib.hid (stays_nil (stays_below hC5))
          clear S4
          clear hC5 hh5
          go_wp2_with fail
          go_meet
          exact ⟨by rw [hs], by rw [hs], S5⟩
        · have hs : signed (a :: t) = (1, a :: t) := by simp [signed, h1, h2]
          have hd1 : head (a :: t) 45 = false := by simp [head, h1]
          have hd2 : head (a :: t) 43 = false := by simp [head, h2]
          clear h1 h2
          rw [hd1]
          go_upto_region 4 with fail
          refine reg_plain (Stays [] w) (Turns [] w) (kdOf [(1, .make (fun _ => callM (.bool false)))]) none0 (stays_good _ _) (S3.out) (holds0 _) ?_
          refine g_look rfl rfl ?_ (fun w' hC => ?_) ?_
          rotate_left
          · go_simp
            first | done | rfl
          simp only [Act.put, List.setIfInBounds_toArray, List.set_cons_zero, List.set_cons_succ]
          refine g_call (stays_good _ _) (.bool false) rfl rfl (fun w' hC => ?_) ?_
          · clear hC
            go_simp
            refine (pre_any _ (a :: t) 43).mono (fun e w2 h => ?_)
            obtain ⟨h1, h2⟩ := h
            rw [hd2] at h1
            exact gives h1 h2
          simp only [Act.put, List.setIfInBounds_toArray, List.set_cons_zero, List.set_cons_succ]
          refine g_look rfl rfl ?_ (fun w' hC => ?_) ?_
          rotate_left
          · go_simp
            first | done | rfl
          simp only [Act.put, List.setIfInBounds_toArray, List.set_cons_zero, List.set_cons_succ]
          refine g_end ?_
          intro w4 hC4 hh4
          have S4 : Hid (Stays [] w w4) := Lib.hid (stays_nil (stays_below hC4))
          clear S3
          clear hC4 hh4
          go_wp2_with fail
          go_meet
          exact ⟨by rw [hs], by rw [hs], S4⟩
  case rest =>
    obtain ⟨rfl, rfl, S9⟩ := hcut
    clear S2
    obtain ⟨hlen, hsg⟩ := signed_len l
    have hV : (if cntD (signed l).2 = (signed l).2.length ∧ 1 ≤ (signed l).2.length ∧ (signed l).2.length ≤ 2 then Value.tuple #[.int .i64 ((signed l).1 * (valD (signed l).2 : Nat)), .bool true] else .tuple #[.int .i64 0, .bool false]) = V := HV0.out
    clear HV0
    generalize (signed l).1 = sg at *
    generalize (signed l).2 = m at *
    have HM : Hid (m.length ≤ maxLen) := Lib.hid (Nat.le_trans hlen HL.out)
    have HV := Lib.hid hV
    have HSG := Lib.hid hsg
    clear hV hlen hsg
    have hcl := cnt_le m
    go_upto_region 6 with fail
    refine reg_plain (Stays [] w) (Turns [] w) (kdOf [(1, .make (fun _ => callM (.tuple #[.string ⟨(m.take (cntD m)).toArray⟩, .string ⟨(m.drop (cntD m)).toArray⟩])))]) none0 (stays_good _ _) (S9.out) (holds0 _) ?_
    refine g_look rfl rfl ?_ (fun w' hC => ?_) ?_
    rotate_left
    · go_simp
      first | done | rfl
    simp only [Act.put, List.setIfInBounds_toArray, List.set_cons_zero, List.set_cons_succ]
    refine g_call (stays_good _ _) (.tuple #[.string ⟨(m.take (cntD m)).toArray⟩, .string ⟨(m.drop (cntD m)).toArray⟩]) rfl rfl (fun w' hC => ?_) ?_
    · clear hC
      go_simp
      refine (digits_any _ m HM.out).mono (fun e w2 h => ?_)
      obtain ⟨h1, h2⟩ := h
      exact gives h1 h2
    simp only [Act.put, List.setIfInBounds_toArray, List.set_cons_zero, List.set_cons_succ]
    refine g_look rfl rfl ?_ (fun w' hC => ?_) ?_
    rotate_left
    · go_simp
      first | done | rfl
    simp only [Act.put, List.setIfInBounds_toArray, List.set_cons_zero, List.set_cons_succ]
    refine g_look rfl rfl ?_ (fun w' hC => ?_) ?_
    rotate_left
    · go_simp
      first | done | rfl
    simp only [Act.put, List.setIfInBounds_toArray, List.set_cons_zero, List.set_cons_succ]
    refine g_look rfl rfl ?_ (fun w' hC => ?_) ?_
    rotate_left
    · go_simp
      first | done | rfl
    simp only [Act.put, List.setIfInBounds_toArray, List.set_cons_zero, List.set_cons_succ]
    refine g_look rfl rfl ?_ (fun w' hC => ?_) ?_
    rotate_left
    · go_simp
      first | done | rfl
    simp only [Act.put, List.setIfInBounds_toArray, List.set_cons_zero, List.set_cons_succ]
    refine g_look rfl rfl ?_ (fun w' hC => ?_) ?_
    rotate_left
    · go_simp
      first | done | rfl
    simp only [Act.put, List.setIfInBounds_toArray, List.set_cons_zero, List.set_cons_succ]
    refine g_end ?_
    intro w10 hC10 hh10
    have S10 : Hid (Stays [] w w10) := Lib.hid (stays_nil (stays_below hC10))
    clear S9
    clear hC10 hh10
    by_cases hc : cntD m = m.length
    · have hd : m.drop (cntD m) = [] := by rw [hc, List.drop_length]
      have ht : m.take (cntD m) = m := by rw [hc, List.take_length]
      have HCC := Lib.hid hc
      rw [hd, ht]
      clear hcl hc hd ht
      by_cases hn0 : m.length < 1
      · have i1 : (m.length : Int) < 1 := by omega
        have HN := Lib.hid hn0
        go_upto_region 7 with fail
        refine reg_plain (Stays [] w) (Turns [] w) (kdOf []) none0 (stays_good _ _) (S10.out) (holds0 _) ?_
        refine g_look rfl rfl ?_ (fun w' hC => ?_) ?_
        rotate_left
        · go_simp
          first | done | rfl
        simp only [Act.put, List.setIfInBounds_toArray, List.set_cons_zero, List.set_cons_succ]
        refine g_look rfl rfl ?_ (fun w' hC => ?_) ?_
        rotate_left
        · go_simp
          first | done | rfl
        simp only [Act.put, List.setIfInBounds_toArray, List.set_cons_zero, List.set_cons_succ]
        refine g_look rfl rfl ?_ (fun w' hC => ?_) ?_
        rotate_left
        · go_simp
          first | done | rfl
        simp only [Act.put, List.setIfInBounds_toArray, List.set_cons_zero, List.set_cons_succ]
        first
        | (refine g_skip rfl ?_)
        | (refine g_look rfl rfl ?_ (fun w' hC => ?_) ?_
           rotate_left
           · go_simp
             first | done | rfl)
        simp only [Act.put, List.setIfInBounds_toArray, List.set_cons_zero, List.set_cons_succ]
        first
        | (refine g_skip rfl ?_)
        | (refine g_look rfl rfl ?_ (fun w' hC => ?_) ?_
           rotate_left
           · go_simp
             first | done | rfl)
        simp only [Act.put, List.setIfInBounds_toArray, List.set_cons_zero, List.set_cons_succ]
        first
        | (refine g_skip rfl ?_)
        | (refine g_look rfl rfl ?_ (fun w' hC => ?_) ?_
           rotate_left
           · go_simp
             first | done | rfl)
        simp only [Act.put, List.setIfInBounds_toArray, List.set_cons_zero, List.set_cons_succ]
        refine g_look rfl rfl ?_ (fun w' hC => ?_) ?_
        rotate_left
        · go_simp
          first | done | rfl
        simp only [Act.put, List.setIfInBounds_toArray, List.set_cons_zero, List.set_cons_succ]
        refine g_look rfl rfl ?_ (fun w' hC => ?_) ?_
        rotate_left
        · go_simp
          first | done | rfl
        simp only [Act.put, List.setIfInBounds_toArray, List.set_cons_zero, List.set_cons_succ]
        first
        | (refine g_skip rfl ?_)
        | (refine g_look rfl rfl ?_ (fun w' hC => ?_) ?_
           rotate_left
           · go_simp
             first | done | rfl)
        simp only [Act.put, List.setIfInBounds_toArray, List.set_cons_zero, List.set_cons_succ]
        first
        | (refine g_skip rfl ?_)
        | (refine g_look rfl rfl ?_ (fun w' hC => ?_) ?_
           rotate_left
           · go_simp
             first | done | rfl)
        simp only [Act.put, List.setIfInBounds_toArray, List.set_cons_zero, List.set_cons_succ]
        first
        | (refine g_skip rfl ?_)
        | (refine g_look rfl rfl ?_ (fun w' hC => ?_) ?_
           rotate_left
           · go_simp
             first | done | rfl)
        simp only [Act.put, List.setIfInBounds_toArray, List.set_cons_zero, List.set_cons_succ]
        refine g_look rfl rfl ?_ (fun w' hC => ?_) ?_
        rotate_left
        · go_simp
          first | done | rfl
        simp only [Act.put, List.setIfInBounds_toArray, List.set_cons_zero, List.set_cons_succ]
        refine g_end ?_
        intro w11 hC11 hh11
        have S11 : Hid (Stays [] w w11) := Lib.hid (stays_nil (stays_below hC11))
        clear S10
        clear hC11 hh11
        go_wp2_with fail
        refine bodyPost_ret (v := .tuple #[.int .i64 0, .bool false]) (by simp [results, Try.results53, go_sem]) rfl ⟨congrArg Ending.returned (by rw [← HV.out, if_neg (fun h => by have := HN.out; omega)]), stays_below S11.out⟩
      · have i1 : ¬ (m.length : Int) < 1 := by omega
        by_cases hn2 : 2 < m.length
        · have i2 : (2 : Int) < (m.length : Int) := by omega
          have HN := Lib.hid hn2
          go_upto_region 7 with fail
          refine reg_plain (Stays [] w) (Turns [] w) (kdOf []) none0 (stays_good _ _) (S10.out) (holds0 _) ?_
          refine g_look rfl rfl ?_ (fun w' hC => ?_) ?_
          rotate_left
          · go_simp
            first | done | rfl
          simp only [Act.put, List.setIfInBounds_toArray, List.set_cons_zero, List.set_cons_succ]
          refine g_look rfl rfl ?_ (fun w' hC => ?_) ?_
          rotate_left
          · go_simp
            first | done | rfl
          simp only [Act.put, List.setIfInBounds_toArray, List.set_cons_zero, List.set_cons_succ]
          refine g_look rfl rfl ?_ (fun w' hC => ?_) ?_
          rotate_left
          · go_simp
            first | done | rfl
          simp only [Act.put, List.setIfInBounds_toArray, List.set_cons_zero, List.set_cons_succ]
          first
          | (refine g_skip rfl ?_)
          | (refine g_look rfl rfl ?_ (fun w' hC => ?_) ?_
             rotate_left
             · go_simp
               first | done | rfl)
          simp only [Act.put, List.setIfInBounds_toArray, List.set_cons_zero, List.set_cons_succ]
          first
          | (refine g_skip rfl ?_)
          | (refine g_look rfl rfl ?_ (fun w' hC => ?_) ?_
             rotate_left
             · go_simp
               first | done | rfl)
          simp only [Act.put, List.setIfInBounds_toArray, List.set_cons_zero, List.set_cons_succ]
          first
          | (refine g_skip rfl ?_)
          | (refine g_look rfl rfl ?_ (fun w' hC => ?_) ?_
             rotate_left
             · go_simp
               first | done | rfl)
          simp only [Act.put, List.setIfInBounds_toArray, List.set_cons_zero, List.set_cons_succ]
          refine g_look rfl rfl ?_ (fun w' hC => ?_) ?_
          rotate_left
          · go_simp
            first | done | rfl
          simp only [Act.put, List.setIfInBounds_toArray, List.set_cons_zero, List.set_cons_succ]
          refine g_look rfl rfl ?_ (fun w' hC => ?_) ?_
          rotate_left
          · go_simp
            first | done | rfl
          simp only [Act.put, List.setIfInBounds_toArray, List.set_cons_zero, List.set_cons_succ]
          first
          | (refine g_skip rfl ?_)
          | (refine g_look rfl rfl ?_ (fun w' hC => ?_) ?_
             rotate_left
             · go_simp
               first | done | rfl)
          simp only [Act.put, List.setIfInBounds_toArray, List.set_cons_zero, List.set_cons_succ]
          first
          | (refine g_skip rfl ?_)
          | (refine g_look rfl rfl ?_ (fun w' hC => ?_) ?_
             rotate_left
             · go_simp
               first | done | rfl)
          simp only [Act.put, List.setIfInBounds_toArray, List.set_cons_zero, List.set_cons_succ]
          first
          | (refine g_skip rfl ?_)
          | (refine g_look rfl rfl ?_ (fun w' hC => ?_) ?_
             rotate_left
             · go_simp
               first | done | rfl)
          simp only [Act.put, List.setIfInBounds_toArray, List.set_cons_zero, List.set_cons_succ]
          refine g_look rfl rfl ?_ (fun w' hC => ?_) ?_
          rotate_left
          · go_simp
            first | done | rfl
          simp only [Act.put, List.setIfInBounds_toArray, List.set_cons_zero, List.set_cons_succ]
          refine g_end ?_
          intro w11 hC11 hh11
          have S11 : Hid (Stays [] w w11) := Lib.hid (stays_nil (stays_below hC11))
          clear S10
          clear hC11 hh11
          go_wp2_with fail
          refine bodyPost_ret (v := .tuple #[.int .i64 0, .bool false]) (by simp [results, Try.results53, go_sem]) rfl ⟨congrArg Ending.returned (by rw [← HV.out, if_neg (fun h => by have := HN.out; omega)]), stays_below S11.out⟩
        · have i2 : ¬ (2 : Int) < (m.length : Int) := by omega
          have HN := Lib.hid (show 1 ≤ m.length ∧ m.length ≤ 2 by omega)
          clear hn0 hn2
          go_upto_region 7 with fail
          refine reg_plain (Stays [] w) (Turns [] w) (kdOf []) none0 (stays_good _ _) (S10.out) (holds0 _) ?_
          refine g_look rfl rfl ?_ (fun w' hC => ?_) ?_
          rotate_left
          · go_simp
            first | done | rfl
          simp only [Act.put, List.setIfInBounds_toArray, List.set_cons_zero, List.set_cons_succ]
          refine g_look rfl rfl ?_ (fun w' hC => ?_) ?_
          rotate_left
          · go_simp
            first | done | rfl
          simp only [Act.put, List.setIfInBounds_toArray, List.set_cons_zero, List.set_cons_succ]
          refine g_look rfl rfl ?_ (fun w' hC => ?_) ?_
          rotate_left
          · go_simp
            first | done | rfl
          simp only [Act.put, List.setIfInBounds_toArray, List.set_cons_zero, List.set_cons_succ]
          first
          | (refine g_skip rfl ?_)
          | (refine g_look rfl rfl ?_ (fun w' hC => ?_) ?_
             rotate_left
             · go_simp
               first | done | rfl)
          simp only [Act.put, List.setIfInBounds_toArray, List.set_cons_zero, List.set_cons_succ]
          first
          | (refine g_skip rfl ?_)
          | (refine g_look rfl rfl ?_ (fun w' hC => ?_) ?_
             rotate_left
             · go_simp
               first | done | rfl)
          simp only [Act.put, List.setIfInBounds_toArray, List.set_cons_zero, List.set_cons_succ]
          first
          | (refine g_skip rfl ?_)
          | (refine g_look rfl rfl ?_ (fun w' hC => ?_) ?_
             rotate_left
             · go_simp
               first | done | rfl)
          simp only [Act.put, List.setIfInBounds_toArray, List.set_cons_zero, List.set_cons_succ]
          refine g_look rfl rfl ?_ (fun w' hC => ?_) ?_
          rotate_left
          · go_simp
            first | done | rfl
          simp only [Act.put, List.setIfInBounds_toArray, List.set_cons_zero, List.set_cons_succ]
          refine g_look rfl rfl ?_ (fun w' hC => ?_) ?_
          rotate_left
          · go_simp
            first | done | rfl
          simp only [Act.put, List.setIfInBounds_toArray, List.set_cons_zero, List.set_cons_succ]
          first
          | (refine g_skip rfl ?_)
          | (refine g_look rfl rfl ?_ (fun w' hC => ?_) ?_
             rotate_left
             · go_simp
               first | done | rfl)
          simp only [Act.put, List.setIfInBounds_toArray, List.set_cons_zero, List.set_cons_succ]
          first
          | (refine g_skip rfl ?_)
          | (refine g_look rfl rfl ?_ (fun w' hC => ?_) ?_
             rotate_left
             · go_simp
               first | done | rfl)
          simp only [Act.put, List.setIfInBounds_toArray, List.set_cons_zero, List.set_cons_succ]
          first
          | (refine g_skip rfl ?_)
          | (refine g_look rfl rfl ?_ (fun w' hC => ?_) ?_
             rotate_left
             · go_simp
               first | done | rfl)
          simp only [Act.put, List.setIfInBounds_toArray, List.set_cons_zero, List.set_cons_succ]
          refine g_look rfl rfl ?_ (fun w' hC => ?_) ?_
          rotate_left
          · go_simp
            first | done | rfl
          simp only [Act.put, List.setIfInBounds_toArray, List.set_cons_zero, List.set_cons_succ]
          refine g_end ?_
          intro w11 hC11 hh11
          have S11 : Hid (Stays [] w w11) := Lib.hid (stays_nil (stays_below hC11))
          clear S10
          clear hC11 hh11
          go_wp2_with fail
          go_loopw [7, 38] (fun v i wr => ∃ k : Nat, k ≤ m.length ∧ i = .int .i64 k ∧ v = .int .i64 (valD (m.take k) : Nat) ∧ Hid (Stays [] w wr)) (fun _ i _ => m.length - (intOf i).toNat)
          case atStart => exact ⟨0, by omega, rfl, by simp [valD], S11⟩
          case round =>
            obtain ⟨k, hk, rfl, rfl, S20⟩ := hrel
            clear S11
            by_cases hlt : k < m.length
            · have hlti : (k : Int) < (m.length : Int) := by omega
              have hk2 : k < 2 := by have := HN.out; omega
              have hwk : wrap64 ((k : Int) + 1) = (k : Int) + 1 := wrap_small (by omega) (by omega)
              have hb := (cnt_more (l := m) (k := k) (by have := HCC.out; omega) hlt).1 (by have := HCC.out; omega)
              have hv := val_lt HCC.out k hk
              have hv9 : valD (m.take k) < 10 := by
                have : 10 ^ k ≤ 10 ^ 1 := Nat.pow_le_pow_right (by decide) (by have := HN.out; omega)
                exact Nat.lt_of_lt_of_le hv this
              clear hv
              have HS := Lib.hid (val_step hlt)
              obtain ⟨v, hvv⟩ : ∃ v, valD (m.take k) = v := ⟨_, rfl⟩
              rw [hvv] at hv9 HS ⊢
              obtain ⟨d, hd⟩ : ∃ d : Nat, byteL m k - 48 = d := ⟨_, rfl⟩
              obtain ⟨b, hbb⟩ : ∃ b : Int, (byteL m k : Int) = b := ⟨_, rfl⟩
              obtain ⟨w1, w2, w3, w4⟩ := round_facts hbb hb hd hv9
              have HS2 : Hid (((valD (m.take (k + 1)) : Nat) : Int) = (v : Int) * 10 + (d : Int)) := Lib.hid (by rw [HS.out, hd]; exact Int.natCast_add _ _)
              clear HS hvv hd hb
              go_wp2_with fail
              go_roundw
              case rel => exact ⟨k + 1, by omega, rfl, by rw [HS2.out, w4], S20⟩
              case measure =>
                show m.length - ((k : Int) + 1).toNat < m.length - (k : Int).toNat
                omega
            · have hlti : ¬ (k : Int) < (m.length : Int) := by omega
              obtain rfl : k = m.length := by omega
              rw [List.take_length]
              have hv := val_lt HCC.out m.length (Nat.le_refl _)
              rw [List.take_length] at hv
              have hv99 : valD m < 100 := by
                have : 10 ^ m.length ≤ 10 ^ 2 := Nat.pow_le_pow_right (by decide) HN.out.2
                exact Nat.lt_of_lt_of_le hv this
              have HV2 := HV.out
              rw [if_pos ⟨HCC.out, HN.out.1, HN.out.2⟩] at HV2
              generalize valD m = v at *
              have w1 : wrap64 (sg * (v : Int)) = sg * (v : Int) := by
                rcases HSG.out with rfl | rfl
                · exact wrap_small (by omega) (by omega)
                · exact wrap_small (by omega) (by omega)
              have HV3 := Lib.hid HV2
              clear hv HV2 HV
              go_wp2_with fail
              refine bodyPost_ret (v := .tuple #[.int .i64 (sg * (v : Int)), .bool true]) (by simp [results, Try.results53, go_sem]) rfl ⟨congrArg Ending.returned HV3.out, stays_below S20.out⟩
    · have HC := Lib.hid hc
      obtain ⟨x, xs, hd⟩ : ∃ x xs, m.drop (cntD m) = x :: xs := by
        cases hd : m.drop (cntD m) with
        | nil => have := List.drop_eq_nil_iff.1 hd; omega
        | cons x xs => exact ⟨x, xs, rfl⟩
      rw [hd]
      clear hcl hc hd
      go_upto_region 7 with fail
      refine reg_plain (Stays [] w) (Turns [] w) (kdOf []) none0 (stays_good _ _) (S10.out) (holds0 _) ?_
      refine g_look rfl rfl ?_ (fun w' hC => ?_) ?_
      rotate_left
      · go_simp
        first | done | rfl
      simp only [Act.put, List.setIfInBounds_toArray, List.set_cons_zero, List.set_cons_succ]
      refine g_look rfl rfl ?_ (fun w' hC => ?_) ?_
      rotate_left
      · go_simp
        first | done | rfl
      simp only [Act.put, List.setIfInBounds_toArray, List.set_cons_zero, List.set_cons_succ]
      refine g_look rfl rfl ?_ (fun w' hC => ?_) ?_
      rotate_left
      · go_simp
        first | done | rfl
      simp only [Act.put, List.setIfInBounds_toArray, List.set_cons_zero, List.set_cons_succ]
      first
      | (refine g_skip rfl ?_)
      | (refine g_look rfl rfl ?_ (fun w' hC => ?_) ?_
         rotate_left
         · go_simp
           first | done | rfl)
      simp only [Act.put, List.setIfInBounds_toArray, List.set_cons_zero, List.set_cons_succ]
      first
      | (refine g_skip rfl ?_)
      | (refine g_look rfl rfl ?_ (fun w' hC => ?_) ?_
         rotate_left
         · go_simp
           first | done | rfl)
      simp only [Act.put, List.setIfInBounds_toArray, List.set_cons_zero, List.set_cons_succ]
      first
      | (refine g_skip rfl ?_)
      | (refine g_look rfl rfl ?_ (fun w' hC => ?_) ?_
         rotate_left
         · go_simp
           first | done | rfl)
      simp only [Act.put, List.setIfInBounds_toArray, List.set_cons_zero, List.set_cons_succ]
      refine g_look rfl rfl ?_ (fun w' hC => ?_) ?_
      rotate_left
      · go_simp
        first | done | rfl
      simp only [Act.put, List.setIfInBounds_toArray, List.set_cons_zero, List.set_cons_succ]
      refine g_look rfl rfl ?_ (fun w' hC => ?_) ?_
      rotate_left
      · go_simp
        first | done | rfl
      simp only [Act.put, List.setIfInBounds_toArray, List.set_cons_zero, List.set_cons_succ]
      first
      | (refine g_skip rfl ?_)
      | (refine g_look rfl rfl ?_ (fun w' hC => ?_) ?_
         rotate_left
         · go_simp
           first | done | rfl)
      simp only [Act.put, List.setIfInBounds_toArray, List.set_cons_zero, List.set_cons_succ]
      first
      | (refine g_skip rfl ?_)
      | (refine g_look rfl rfl ?_ (fun w' hC => ?_) ?_
         rotate_left
         · go_simp
           first | done | rfl)
      simp only [Act.put, List.setIfInBounds_toArray, List.set_cons_zero, List.set_cons_succ]
      first
      | (refine g_skip rfl ?_)
      | (refine g_look rfl rfl ?_ (fun w' hC => ?_) ?_
         rotate_left
         · go_simp
           first | done | rfl)
      simp only [Act.put, List.setIfInBounds_toArray, List.set_cons_zero, List.set_cons_succ]
      refine g_look rfl rfl ?_ (fun w' hC => ?_) ?_
      rotate_left
      · go_simp
        first | done | rfl
      simp only [Act.put, List.setIfInBounds_toArray, List.set_cons_zero, List.set_cons_succ]
      refine g_end ?_
      intro w11 hC11 hh11
      have S11 : Hid (Stays [] w w11) := Lib.hid (stays_nil (stays_below hC11))
      clear S10
      clear hC11 hh11
      go_wp2_with fail
      refine bodyPost_ret (v := .tuple #[.int .i64 0, .bool false]) (by simp [results, Try.results53, go_sem]) rfl ⟨congrArg Ending.returned (by rw [← HV.out, if_neg (fun h => HC.out h.1)]), stays_below S11.out⟩
end Go.Proofs.Ythpdfacdjgkmpaa.Wi
