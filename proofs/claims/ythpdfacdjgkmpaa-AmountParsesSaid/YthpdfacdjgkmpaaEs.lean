/- The document's digit and scale, by walks. -/
import Derived.Test.YthpdfacdjgkmpaaEp
namespace Go.Proofs.Ythpdfacdjgkmpaa.Wi
open Go.RowKit K

attribute [local go_sem] lookTo stepTo Maker.step
attribute [local go_sem ↓] idxL st_size one_size st_list
theorem sa {α : Type} (l : List α) (i : Nat) (a : α) : l.toArray.setIfInBounds i a = (l.set i a).toArray := by simp
theorem sb {α : Type} (a b : α) (l : List α) : (a :: l).set 0 b = b :: l := rfl
theorem sc {α : Type} (a b : α) (l : List α) (n : Nat) : (a :: l).set (n + 1) b = a :: l.set n b := rfl
theorem isD_iff (x : UInt8) : isD x = true ↔ 48 ≤ x.toNat ∧ x.toNat ≤ 57 := by simp [isD]
set_option maxHeartbeats 4000000 in
/-- Is a byte a digit? -/
theorem digit_same (w : World) (x : UInt8) : Calls Try.prog 34 #[.int .u8 (x.toNat : Int)] w (fun e w' => e = .returned (.bool (isD x)) ∧ w' = w) := by
  have h0 := isD_iff x
  obtain ⟨n, hn⟩ : ∃ n, x.toNat = n := ⟨_, rfl⟩
  rw [hn] at h0 ⊢
  have H0 := Lib.hid h0
  clear h0 hn
  by_cases h1 : 48 ≤ n
  · have i1 : (48 : Int) ≤ (n : Int) := by omega
    by_cases h2 : n ≤ 57
    · have i2 : (n : Int) ≤ 57 := by omega
      have hv : isD x = true := H0.out.2 ⟨h1, h2⟩
      go_enter Try.func34, Try.ntmps34
      go_wp2_with fail
      exact bodyPost_ret (v := .bool true) (by simp [results, Try.results34, go_sem]) rfl ⟨by first | rfl | rw [hv], rfl⟩
    · have i2 : ¬ (n : Int) ≤ 57 := by omega
      have hv : isD x = false := by
        cases h : isD x with
        | false => rfl
        | true => exact absurd (H0.out.1 h).2 h2
      go_enter Try.func34, Try.ntmps34
      go_wp2_with fail
      exact bodyPost_ret (v := .bool false) (by simp [results, Try.results34, go_sem]) rfl ⟨by first | rfl | rw [hv], rfl⟩
  · have i1 : ¬ (48 : Int) ≤ (n : Int) := by omega
    have hv : isD x = false := by
      cases h : isD x with
      | false => rfl
      | true => exact absurd (H0.out.1 h).1 h1
    go_enter Try.func34, Try.ntmps34
    go_wp2_with fail
    exact bodyPost_ret (v := .bool false) (by simp [results, Try.results34, go_sem]) rfl ⟨by first | rfl | rw [hv], rfl⟩
theorem digit_any (w : World) (x : UInt8) : Calls Try.prog 34 #[.int .u8 (x.toNat : Int)] w (Ret w (.bool (isD x))) :=
  (digit_same w x).mono fun _ _ ⟨h1, h2⟩ => ⟨h1, by rw [h2]; exact Below.refl _ _⟩
/-- What the document's scale tells. -/
def rscaleV (l : List UInt8) : Value := match sufP l with
  | some r => .tuple #[.int .i64 r.1, .int .i64 (r.2 : Int), .bool true]
  | none => .tuple #[.int .i64 0, .int .i64 0, .bool false]
theorem exp_of {t m : List UInt8} {sg : Int} (hs : signed t = (sg, m)) : expP t = if cntD m = m.length ∧ 1 ≤ m.length ∧ m.length ≤ 2 then some (sg * (valD m : Nat), 0) else none := by rw [expP, hs]
def restP : List UInt8 → Option (Int × Nat)
  | [] => none
  | a :: t => if a = 101 ∨ a = 69 then expP t else none
theorem suf_none {l : List UInt8} (h : ∀ r ∈ sufL, r.1 ≠ l) : sufP l = restP l := by
  have hf : sufL.find? (fun r => decide (r.1 = l)) = none := by
    rw [List.find?_eq_none]
    intro r hr
    have := h r hr
    simpa using this
  unfold sufP
  rw [hf]
  cases l <;> rfl
theorem x_facts {x : UInt8} (h : isD x = true) : ∃ d : Nat, x.toNat - 48 = d ∧ d ≤ 9 ∧ IntKind.u8.wrap ((x.toNat : Int) - 48) = (d : Int) ∧ IntKind.i64.wrap (d : Int) = (d : Int) := by
  have h1 := (isD_iff x).1 h
  obtain ⟨a1, a2, a3, a4⟩ := dig_facts (b := (x.toNat : Int)) rfl h1 rfl
  exact ⟨_, rfl, a3, a1, by rw [i64w, wrap_small (by omega) (by omega)]⟩
theorem exp_one {x : UInt8} {sg : Int} {t : List UInt8} {d : Nat} (hs : signed t = (sg, [x])) (h : isD x = true) (hd : x.toNat - 48 = d) : expP t = some (sg * (d : Int), 0) := by
  have hc : cntD [x] = 1 := allD_cnt (l := [x]) (by simpa using h)
  rw [exp_of hs, if_pos ⟨hc, by simp, by simp⟩]
  simp [valD, hd]
theorem exp_two {x y : UInt8} {sg : Int} {t : List UInt8} {d e : Nat} (hs : signed t = (sg, [x, y])) (h : isD x = true) (h' : isD y = true) (hd : x.toNat - 48 = d) (he : y.toNat - 48 = e) : expP t = some (sg * ((10 * d + e : Nat) : Int), 0) := by
  have hc : cntD [x, y] = 2 := allD_cnt (l := [x, y]) (by intro c hc; simp at hc; rcases hc with rfl | rfl <;> assumption)
  rw [exp_of hs, if_pos ⟨hc, by simp, by simp⟩]
  simp [valD, hd, he, Nat.mul_comm]
theorem exp_no {m t : List UInt8} {sg : Int} (hs : signed t = (sg, m)) (h : ¬ (cntD m = m.length ∧ 1 ≤ m.length ∧ m.length ≤ 2)) : expP t = none := by rw [exp_of hs, if_neg h]
theorem cnt_bad {x : UInt8} {m : List UInt8} (h : isD x = false) (hx : x ∈ m) : ¬ (cntD m = m.length ∧ 1 ≤ m.length ∧ m.length ≤ 2) := by
  rintro ⟨h1, _, _⟩
  have h2 := allD_take m
  rw [h1, List.take_length] at h2
  rw [h2 x hx] at h
  cases h
def SgOk (sg : Int) : Prop := Hid (sg = 1 ∨ sg = -1)
theorem sg_one {sg : Int} {d : Nat} (hs : sg = 1 ∨ sg = -1) (hd : d ≤ 9) : IntKind.i64.wrap (sg * (d : Int)) = sg * (d : Int) := by
  rw [i64w]
  rcases hs with rfl | rfl <;> exact wrap_small (by omega) (by omega)
theorem sg_two {sg : Int} {d e : Nat} (hs : sg = 1 ∨ sg = -1) (hd : d ≤ 9) (he : e ≤ 9) : IntKind.i64.wrap (10 * (d : Int)) = 10 * (d : Int) ∧ IntKind.i64.wrap (10 * (d : Int) + (e : Int)) = ((10 * d + e : Nat) : Int) ∧ IntKind.i64.wrap (sg * ((10 * d + e : Nat) : Int)) = sg * ((10 * d + e : Nat) : Int) := by
  refine ⟨by rw [i64w, wrap_small (by omega) (by omega)], by rw [i64w, wrap_small (by omega) (by omega)]; omega, ?_⟩
  rw [i64w]
  rcases hs with rfl | rfl <;> exact wrap_small (by omega) (by omega)
theorem rscale_none {l : List UInt8} (h : sufP l = none) : rscaleV l = .tuple #[.int .i64 0, .int .i64 0, .bool false] := by rw [rscaleV, h]
theorem rscale_some {l : List UInt8} {t : Int} {z : Nat} (h : sufP l = some (t, z)) : rscaleV l = .tuple #[.int .i64 t, .int .i64 (z : Int), .bool true] := by rw [rscaleV, h]
set_option maxHeartbeats 4000000 in
set_option maxRecDepth 100000 in
theorem rscale_any (w : World) (l : List UInt8) (hl : l.length ≤ maxLen) : Calls Try.prog 36 #[.string ⟨l.toArray⟩] w (Ret w (rscaleV l)) := by
  have HL := Lib.hid hl
  clear hl
  by_cases h0 : l = [110]
  · subst h0
    have hr : rscaleV [110] = .tuple #[.int .i64 (-9), .int .i64 0, .bool true] := by kernel_rfl
    rw [hr]
    clear hr
    go_enter Try.func36, Try.ntmps36
    go_wp2_with fail
    exact bodyPost_ret (v := .tuple #[.int .i64 (-9), .int .i64 0, .bool true]) (by simp [results, Try.results36, go_sem]) rfl ⟨rfl, Below.refl _ _⟩
  by_cases h1 : l = [117]
  · subst h1
    have hr : rscaleV [117] = .tuple #[.int .i64 (-6), .int .i64 0, .bool true] := by kernel_rfl
    rw [hr]
    clear hr
    go_enter Try.func36, Try.ntmps36
    go_wp2_with fail
    exact bodyPost_ret (v := .tuple #[.int .i64 (-6), .int .i64 0, .bool true]) (by simp [results, Try.results36, go_sem]) rfl ⟨rfl, Below.refl _ _⟩
  by_cases h2 : l = [109]
  · subst h2
    have hr : rscaleV [109] = .tuple #[.int .i64 (-3), .int .i64 0, .bool true] := by kernel_rfl
    rw [hr]
    clear hr
    go_enter Try.func36, Try.ntmps36
    go_wp2_with fail
    exact bodyPost_ret (v := .tuple #[.int .i64 (-3), .int .i64 0, .bool true]) (by simp [results, Try.results36, go_sem]) rfl ⟨rfl, Below.refl _ _⟩
  by_cases h3 : l = []
  · subst h3
    have hr : rscaleV [] = .tuple #[.int .i64 0, .int .i64 0, .bool true] := by kernel_rfl
    rw [hr]
    clear hr
    go_enter Try.func36, Try.ntmps36
    go_wp2_with fail
    exact bodyPost_ret (v := .tuple #[.int .i64 0, .int .i64 0, .bool true]) (by simp [results, Try.results36, go_sem]) rfl ⟨rfl, Below.refl _ _⟩
  by_cases h4 : l = [107]
  · subst h4
    have hr : rscaleV [107] = .tuple #[.int .i64 3, .int .i64 0, .bool true] := by kernel_rfl
    rw [hr]
    clear hr
    go_enter Try.func36, Try.ntmps36
    go_wp2_with fail
    exact bodyPost_ret (v := .tuple #[.int .i64 3, .int .i64 0, .bool true]) (by simp [results, Try.results36, go_sem]) rfl ⟨rfl, Below.refl _ _⟩
  by_cases h5 : l = [77]
  · subst h5
    have hr : rscaleV [77] = .tuple #[.int .i64 6, .int .i64 0, .bool true] := by kernel_rfl
    rw [hr]
    clear hr
    go_enter Try.func36, Try.ntmps36
    go_wp2_with fail
    exact bodyPost_ret (v := .tuple #[.int .i64 6, .int .i64 0, .bool true]) (by simp [results, Try.results36, go_sem]) rfl ⟨rfl, Below.refl _ _⟩
  by_cases h6 : l = [71]
  · subst h6
    have hr : rscaleV [71] = .tuple #[.int .i64 9, .int .i64 0, .bool true] := by kernel_rfl
    rw [hr]
    clear hr
    go_enter Try.func36, Try.ntmps36
    go_wp2_with fail
    exact bodyPost_ret (v := .tuple #[.int .i64 9, .int .i64 0, .bool true]) (by simp [results, Try.results36, go_sem]) rfl ⟨rfl, Below.refl _ _⟩
  by_cases h7 : l = [84]
  · subst h7
    have hr : rscaleV [84] = .tuple #[.int .i64 12, .int .i64 0, .bool true] := by kernel_rfl
    rw [hr]
    clear hr
    go_enter Try.func36, Try.ntmps36
    go_wp2_with fail
    exact bodyPost_ret (v := .tuple #[.int .i64 12, .int .i64 0, .bool true]) (by simp [results, Try.results36, go_sem]) rfl ⟨rfl, Below.refl _ _⟩
  by_cases h8 : l = [80]
  · subst h8
    have hr : rscaleV [80] = .tuple #[.int .i64 15, .int .i64 0, .bool true] := by kernel_rfl
    rw [hr]
    clear hr
    go_enter Try.func36, Try.ntmps36
    go_wp2_with fail
    exact bodyPost_ret (v := .tuple #[.int .i64 15, .int .i64 0, .bool true]) (by simp [results, Try.results36, go_sem]) rfl ⟨rfl, Below.refl _ _⟩
  by_cases h9 : l = [69]
  · subst h9
    have hr : rscaleV [69] = .tuple #[.int .i64 18, .int .i64 0, .bool true] := by kernel_rfl
    rw [hr]
    clear hr
    go_enter Try.func36, Try.ntmps36
    go_wp2_with fail
    exact bodyPost_ret (v := .tuple #[.int .i64 18, .int .i64 0, .bool true]) (by simp [results, Try.results36, go_sem]) rfl ⟨rfl, Below.refl _ _⟩
  by_cases h10 : l = [75, 105]
  · subst h10
    have hr : rscaleV [75, 105] = .tuple #[.int .i64 0, .int .i64 10, .bool true] := by kernel_rfl
    rw [hr]
    clear hr
    go_enter Try.func36, Try.ntmps36
    go_wp2_with fail
    exact bodyPost_ret (v := .tuple #[.int .i64 0, .int .i64 10, .bool true]) (by simp [results, Try.results36, go_sem]) rfl ⟨rfl, Below.refl _ _⟩
  by_cases h11 : l = [77, 105]
  · subst h11
    have hr : rscaleV [77, 105] = .tuple #[.int .i64 0, .int .i64 20, .bool true] := by kernel_rfl
    rw [hr]
    clear hr
    go_enter Try.func36, Try.ntmps36
    go_wp2_with fail
    exact bodyPost_ret (v := .tuple #[.int .i64 0, .int .i64 20, .bool true]) (by simp [results, Try.results36, go_sem]) rfl ⟨rfl, Below.refl _ _⟩
  by_cases h12 : l = [71, 105]
  · subst h12
    have hr : rscaleV [71, 105] = .tuple #[.int .i64 0, .int .i64 30, .bool true] := by kernel_rfl
    rw [hr]
    clear hr
    go_enter Try.func36, Try.ntmps36
    go_wp2_with fail
    exact bodyPost_ret (v := .tuple #[.int .i64 0, .int .i64 30, .bool true]) (by simp [results, Try.results36, go_sem]) rfl ⟨rfl, Below.refl _ _⟩
  by_cases h13 : l = [84, 105]
  · subst h13
    have hr : rscaleV [84, 105] = .tuple #[.int .i64 0, .int .i64 40, .bool true] := by kernel_rfl
    rw [hr]
    clear hr
    go_enter Try.func36, Try.ntmps36
    go_wp2_with fail
    exact bodyPost_ret (v := .tuple #[.int .i64 0, .int .i64 40, .bool true]) (by simp [results, Try.results36, go_sem]) rfl ⟨rfl, Below.refl _ _⟩
  by_cases h14 : l = [80, 105]
  · subst h14
    have hr : rscaleV [80, 105] = .tuple #[.int .i64 0, .int .i64 50, .bool true] := by kernel_rfl
    rw [hr]
    clear hr
    go_enter Try.func36, Try.ntmps36
    go_wp2_with fail
    exact bodyPost_ret (v := .tuple #[.int .i64 0, .int .i64 50, .bool true]) (by simp [results, Try.results36, go_sem]) rfl ⟨rfl, Below.refl _ _⟩
  by_cases h15 : l = [69, 105]
  · subst h15
    have hr : rscaleV [69, 105] = .tuple #[.int .i64 0, .int .i64 60, .bool true] := by kernel_rfl
    rw [hr]
    clear hr
    go_enter Try.func36, Try.ntmps36
    go_wp2_with fail
    exact bodyPost_ret (v := .tuple #[.int .i64 0, .int .i64 60, .bool true]) (by simp [results, Try.results36, go_sem]) rfl ⟨rfl, Below.refl _ _⟩
  have hn : ∀ r ∈ sufL, r.1 ≠ l := by
    intro r hr
    simp only [sufL, List.mem_cons, List.not_mem_nil, or_false] at hr
    rcases hr with rfl | rfl | rfl | rfl | rfl | rfl | rfl | rfl | rfl | rfl | rfl | rfl | rfl | rfl | rfl | rfl <;> intro e <;> first | exact h0 e.symm | exact h1 e.symm | exact h2 e.symm | exact h3 e.symm | exact h4 e.symm | exact h5 e.symm | exact h6 e.symm | exact h7 e.symm | exact h8 e.symm | exact h9 e.symm | exact h10 e.symm | exact h11 e.symm | exact h12 e.symm | exact h13 e.symm | exact h14 e.symm | exact h15 e.symm
  have HSP := Lib.hid (suf_none hn)
  replace h0 : (l == [110]) = false := beq_eq_false_iff_ne.2 h0
  replace h1 : (l == [117]) = false := beq_eq_false_iff_ne.2 h1
  replace h2 : (l == [109]) = false := beq_eq_false_iff_ne.2 h2
  replace h4 : (l == [107]) = false := beq_eq_false_iff_ne.2 h4
  replace h5 : (l == [77]) = false := beq_eq_false_iff_ne.2 h5
  replace h6 : (l == [71]) = false := beq_eq_false_iff_ne.2 h6
  replace h7 : (l == [84]) = false := beq_eq_false_iff_ne.2 h7
  replace h8 : (l == [80]) = false := beq_eq_false_iff_ne.2 h8
  replace h9 : (l == [69]) = false := beq_eq_false_iff_ne.2 h9
  replace h10 : (l == [75, 105]) = false := beq_eq_false_iff_ne.2 h10
  replace h11 : (l == [77, 105]) = false := beq_eq_false_iff_ne.2 h11
  replace h12 : (l == [71, 105]) = false := beq_eq_false_iff_ne.2 h12
  replace h13 : (l == [84, 105]) = false := beq_eq_false_iff_ne.2 h13
  replace h14 : (l == [80, 105]) = false := beq_eq_false_iff_ne.2 h14
  replace h15 : (l == [69, 105]) = false := beq_eq_false_iff_ne.2 h15
  have hne : (l == []) = false := beq_eq_false_iff_ne.2 h3
  have HNE := Lib.hid h3
  clear hn h3
  have S0 : Hid (Stays [] w w) := Lib.hid (stays_nil (Below.refl _ _))
  go_enter Try.func36, Try.ntmps36
  go_upto_region 34 with fail
  clear hne h0 h1 h2 h4 h5 h6 h7 h8 h9 h10 h11 h12 h13 h14 h15
  cases l with
  | nil => exact absurd rfl HNE.out
  | cons a t =>
    have hb : byteL (a :: t) 0 = a.toNat := rfl
    have l1 : 0 < (a :: t).length := by simp
    have l2 : 1 ≤ t.length + 1 := by omega
    have l3 : (1 : Int) ≤ (t.length : Int) + 1 := by omega
    by_cases h1 : a = 101
    · subst h1
      have HSE : Hid (sufP ((101 : UInt8) :: t) = expP t) := Lib.hid (HSP.out.trans (by rw [restP, if_pos (Or.inl rfl)]))
      clear HSP
      refine reg_plain (Stays [] w) (Turns [] w) (kdOf []) none0 (stays_good _ _) (S0.out) (holds0 _) ?_
      refine g_look rfl rfl ?_ (fun w' hC => ?_) ?_
      rotate_left
      · go_simp
        first | done | rfl
      simp only [Act.put, sa, sb, sc]
      refine g_look rfl rfl (.int .u8 101) (fun w' hC => ?_) ?_
      · clear hC
        go_simp
        first | done | rfl
      simp only [Act.put, sa, sb, sc]
      refine g_look rfl rfl (.bool true) (fun w' hC => ?_) ?_
      · clear hC
        go_simp
        first | done | rfl | exact hb3 | (simpa using hb3)
      simp only [Act.put, sa, sb, sc]
      refine g_look rfl rfl ?_ (fun w' hC => ?_) ?_
      rotate_left
      · go_simp
        first | done | rfl
      simp only [Act.put, sa, sb, sc]
      first
      | (refine g_skip rfl ?_)
      | (refine g_look rfl rfl ?_ (fun w' hC => ?_) ?_
         rotate_left
         · go_simp
           first | done | rfl)
      simp only [Act.put, sa, sb, sc]
      first
      | (refine g_skip rfl ?_)
      | (refine g_look rfl rfl (.int .u8 101) (fun w' hC => ?_) ?_
         · clear hC
           go_simp
           first | done | rfl)
      simp only [Act.put, sa, sb, sc]
      first
      | (refine g_skip rfl ?_)
      | (refine g_look rfl rfl (.bool false) (fun w' hC => ?_) ?_
         · clear hC
           go_simp
           first | done | rfl | exact hb2 | (simpa using hb2))
      simp only [Act.put, sa, sb, sc]
      refine g_look rfl rfl ?_ (fun w' hC => ?_) ?_
      rotate_left
      · go_simp
        first | done | rfl
      simp only [Act.put, sa, sb, sc]
      refine g_end ?_
      intro w1 hC1 hh1
      have S1 : Hid (Stays [] w w1) := Lib.hid (stays_nil (stays_below hC1))
      clear hC1 hh1
      go_upto_region 36 with fail
      refine reg_plain (Stays [] w) (Turns [] w) (kdOf []) none0 (stays_good _ _) (S1.out) (holds0 _) ?_
      refine g_look rfl rfl ?_ (fun w' hC => ?_) ?_
      rotate_left
      · go_simp
        first | done | rfl
      simp only [Act.put, sa, sb, sc]
      refine g_look rfl rfl (.string ⟨t.toArray⟩) (fun w' hC => ?_) ?_
      · clear hC
        go_simp
        first | done | exact drop_one _ t | (rw [drop_one]; done) | (simp [drop_one]; done)
      simp only [Act.put, sa, sb, sc]
      refine g_look rfl rfl ?_ (fun w' hC => ?_) ?_
      rotate_left
      · go_simp
        first | done | rfl
      simp only [Act.put, sa, sb]
      refine g_end ?_
      intro w2 hC2 hh2
      have S2 : Hid (Stays [] w w2) := Lib.hid (stays_nil (stays_below hC2))
      clear S1
      clear hC2 hh2
      go_upto_region 37 with fail
      refine reg_plain (Stays [] w) (Turns [] w) (kdOf []) none0 (stays_good _ _) (S2.out) (holds0 _) ?_
      refine g_look rfl rfl ?_ (fun w' hC => ?_) ?_
      rotate_left
      · go_simp
        first | done | rfl
      simp only [Act.put, sa, sb, sc]
      refine g_end ?_
      intro w3 hC3 hh3
      have S3 : Hid (Stays [] w w3) := Lib.hid (stays_nil (stays_below hC3))
      clear S2
      clear hC3 hh3
      clear hb l1 l2 l3
      rename_i K hK
      refine hK _ _ ?_
      clear hK K
      apply wp_seq_k; intro _ _
      go_cut [0, 5] (fun s g wx => ∃ (m : List UInt8) (sg : Int), s = .string ⟨m.toArray⟩ ∧ g = .int .i64 sg ∧ Hid (signed t = (sg, m)) ∧ SgOk sg ∧ Hid (Stays [] w wx))
      case first =>
        cases t with
        | nil =>
          have HSG : Hid (signed [] = ((1 : Int), ([] : List UInt8))) := Lib.hid rfl
          have HSO : SgOk 1 := Lib.hid (.inl rfl)
          go_upto_region 38 with fail
          refine reg_plain (Stays [] w) (Turns [] w) (kdOf []) none0 (stays_good _ _) (S3.out) (holds0 _) ?_
          refine g_look rfl rfl ?_ (fun w' hC => ?_) ?_
          rotate_left
          · go_simp
            first | done | rfl
          simp only [Act.put, sa, sb, sc]
          refine g_look rfl rfl ?_ (fun w' hC => ?_) ?_
          rotate_left
          · go_simp
            first | done | rfl
          simp only [Act.put, sa, sb, sc]
          refine g_look rfl rfl ?_ (fun w' hC => ?_) ?_
          rotate_left
          · go_simp
            first | done | rfl
          simp only [Act.put, sa, sb, sc]
          first
          | (refine g_skip rfl ?_)
          | (refine g_look rfl rfl ?_ (fun w' hC => ?_) ?_
             rotate_left
             · go_simp
               first | done | rfl)
          simp only [Act.put, sa, sb, sc]
          first
          | (refine g_skip rfl ?_)
          | (refine g_look rfl rfl ?_ (fun w' hC => ?_) ?_
             rotate_left
             · go_simp
               first | done | rfl)
          simp only [Act.put, sa, sb, sc]
          first
          | (refine g_skip rfl ?_)
          | (refine g_look rfl rfl ?_ (fun w' hC => ?_) ?_
             rotate_left
             · go_simp
               first | done | rfl)
          simp only [Act.put, sa, sb, sc]
          first
          | (refine g_skip rfl ?_)
          | (refine g_look rfl rfl ?_ (fun w' hC => ?_) ?_
             rotate_left
             · go_simp
               first | done | rfl)
          simp only [Act.put, sa, sb, sc]
          first
          | (refine g_skip rfl ?_)
          | (refine g_look rfl rfl ?_ (fun w' hC => ?_) ?_
             rotate_left
             · go_simp
               first | done | rfl)
          simp only [Act.put, sa, sb, sc]
          first
          | (refine g_skip rfl ?_)
          | (refine g_look rfl rfl ?_ (fun w' hC => ?_) ?_
             rotate_left
             · go_simp
               first | done | rfl)
          simp only [Act.put, sa, sb, sc]
          first
          | (refine g_skip rfl ?_)
          | (refine g_look rfl rfl ?_ (fun w' hC => ?_) ?_
             rotate_left
             · go_simp
               first | done | rfl)
          simp only [Act.put, sa, sb, sc]
          first
          | (refine g_skip rfl ?_)
          | (refine g_look rfl rfl ?_ (fun w' hC => ?_) ?_
             rotate_left
             · go_simp
               first | done | rfl)
          simp only [Act.put, sa, sb, sc]
          refine g_look rfl rfl ?_ (fun w' hC => ?_) ?_
          rotate_left
          · go_simp
            first | done | rfl
          simp only [Act.put, sa, sb, sc]
          refine g_end ?_
          intro w4 hC4 hh4
          have S4 : Hid (Stays [] w w4) := Lib.hid (stays_nil (stays_below hC4))
          clear S3
          clear hC4 hh4
          go_wp2_with fail
          go_meet
          exact ⟨_, _, rfl, rfl, HSG, HSO, S4⟩
        | cons b u =>
          have hb : byteL (b :: u) 0 = b.toNat := rfl
          have l1 : 0 < (b :: u).length := by simp
          have l2 : 1 ≤ u.length + 1 := by omega
          have l3 : (1 : Int) ≤ (u.length : Int) + 1 := by omega
          by_cases h45 : b = 45
          · subst h45
            have HSG : Hid (signed ((45 : UInt8) :: u) = ((-1 : Int), u)) := Lib.hid rfl
            have HSO : SgOk (-1) := Lib.hid (.inr rfl)
            go_upto_region 38 with fail
            refine reg_plain (Stays [] w) (Turns [] w) (kdOf []) none0 (stays_good _ _) (S3.out) (holds0 _) ?_
            refine g_look rfl rfl ?_ (fun w' hC => ?_) ?_
            rotate_left
            · go_simp
              first | done | rfl
            simp only [Act.put, sa, sb, sc]
            refine g_look rfl rfl (.bool true) (fun w' hC => ?_) ?_
            · clear hC
              go_simp
              first | done | rfl
            simp only [Act.put, sa, sb, sc]
            refine g_look rfl rfl ?_ (fun w' hC => ?_) ?_
            rotate_left
            · go_simp
              first | done | rfl
            simp only [Act.put, sa, sb, sc]
            first
            | (refine g_skip rfl ?_)
            | (refine g_look rfl rfl ?_ (fun w' hC => ?_) ?_
               rotate_left
               · go_simp
                 first | done | rfl)
            simp only [Act.put, sa, sb, sc]
            first
            | (refine g_skip rfl ?_)
            | (refine g_look rfl rfl (.int .u8 45) (fun w' hC => ?_) ?_
               · clear hC
                 go_simp
                 first | done | rfl)
            simp only [Act.put, sa, sb, sc]
            first
            | (refine g_skip rfl ?_)
            | (refine g_look rfl rfl (.bool false) (fun w' hC => ?_) ?_
               · clear hC
                 go_simp
                 first | done | rfl | exact hb43 | (simpa using hb43))
            simp only [Act.put, sa, sb, sc]
            first
            | (refine g_skip rfl ?_)
            | (refine g_look rfl rfl ?_ (fun w' hC => ?_) ?_
               rotate_left
               · go_simp
                 first | done | rfl)
            simp only [Act.put, sa, sb, sc]
            first
            | (refine g_skip rfl ?_)
            | (refine g_look rfl rfl ?_ (fun w' hC => ?_) ?_
               rotate_left
               · go_simp
                 first | done | rfl)
            simp only [Act.put, sa, sb, sc]
            first
            | (refine g_skip rfl ?_)
            | (refine g_look rfl rfl (.int .u8 45) (fun w' hC => ?_) ?_
               · clear hC
                 go_simp
                 first | done | rfl)
            simp only [Act.put, sa, sb, sc]
            first
            | (refine g_skip rfl ?_)
            | (refine g_look rfl rfl (.bool true) (fun w' hC => ?_) ?_
               · clear hC
                 go_simp
                 first | done | rfl | exact hb45 | (simpa using hb45))
            simp only [Act.put, sa, sb, sc]
            first
            | (refine g_skip rfl ?_)
            | (refine g_look rfl rfl ?_ (fun w' hC => ?_) ?_
               rotate_left
               · go_simp
                 first | done | rfl)
            simp only [Act.put, sa, sb, sc]
            refine g_look rfl rfl ?_ (fun w' hC => ?_) ?_
            rotate_left
            · go_simp
              first | done | rfl
            simp only [Act.put, sa, sb, sc]
            refine g_end ?_
            intro w4 hC4 hh4
            have S4 : Hid (Stays [] w w4) := Lib.hid (stays_nil (stays_below hC4))
            clear S3
            clear hC4 hh4
            go_upto_region 39 with fail
            refine reg_plain (Stays [] w) (Turns [] w) (kdOf []) none0 (stays_good _ _) (S4.out) (holds0 _) ?_
            refine g_look rfl rfl ?_ (fun w' hC => ?_) ?_
            rotate_left
            · go_simp
              first | done | rfl
            simp only [Act.put, sa, sb, sc]
            refine g_look rfl rfl (.int .u8 45) (fun w' hC => ?_) ?_
            · clear hC
              go_simp
              first | done | rfl
            simp only [Act.put, sa, sb, sc]
            refine g_look rfl rfl (.bool true) (fun w' hC => ?_) ?_
            · clear hC
              go_simp
              first | done | rfl
            simp only [Act.put, sa, sb, sc]
            refine g_end ?_
            intro w5 hC5 hh5
            have S5 : Hid (Stays [] w w5) := Lib.hid (stays_nil (stays_below hC5))
            clear S4
            clear hC5 hh5
            go_upto_region 40 with fail
            refine reg_plain (Stays [] w) (Turns [] w) (kdOf []) none0 (stays_good _ _) (S5.out) (holds0 _) ?_
            refine g_look rfl rfl ?_ (fun w' hC => ?_) ?_
            rotate_left
            · go_simp
              first | done | rfl
            simp only [Act.put, sa, sb, sc]
            refine g_end ?_
            intro w6 hC6 hh6
            have S6 : Hid (Stays [] w w6) := Lib.hid (stays_nil (stays_below hC6))
            clear S5
            clear hC6 hh6
            go_upto_region 41 with fail
            refine reg_plain (Stays [] w) (Turns [] w) (kdOf []) none0 (stays_good _ _) (S6.out) (holds0 _) ?_
            refine g_look rfl rfl ?_ (fun w' hC => ?_) ?_
            rotate_left
            · go_simp
              first | done | rfl
            simp only [Act.put, sa, sb, sc]
            refine g_look rfl rfl (.string ⟨u.toArray⟩) (fun w' hC => ?_) ?_
            · clear hC
              go_simp
              first | done | exact drop_one _ u | (rw [drop_one]; done) | (simp [drop_one]; done)
            simp only [Act.put, sa, sb, sc]
            refine g_look rfl rfl ?_ (fun w' hC => ?_) ?_
            rotate_left
            · go_simp
              first | done | rfl
            simp only [Act.put, sa, sb]
            refine g_end ?_
            intro w7 hC7 hh7
            have S7 : Hid (Stays [] w w7) := Lib.hid (stays_nil (stays_below hC7))
            clear S6
            clear hC7 hh7
            go_wp2_with fail
            go_meet
            exact ⟨_, _, rfl, rfl, HSG, HSO, S7⟩
          · by_cases h43 : b = 43
            · subst h43
              have HSG : Hid (signed ((43 : UInt8) :: u) = ((1 : Int), u)) := Lib.hid rfl
              have HSO : SgOk 1 := Lib.hid (.inl rfl)
              clear h45
              go_upto_region 38 with fail
              refine reg_plain (Stays [] w) (Turns [] w) (kdOf []) none0 (stays_good _ _) (S3.out) (holds0 _) ?_
              refine g_look rfl rfl ?_ (fun w' hC => ?_) ?_
              rotate_left
              · go_simp
                first | done | rfl
              simp only [Act.put, sa, sb, sc]
              refine g_look rfl rfl (.bool true) (fun w' hC => ?_) ?_
              · clear hC
                go_simp
                first | done | rfl
              simp only [Act.put, sa, sb, sc]
              refine g_look rfl rfl ?_ (fun w' hC => ?_) ?_
              rotate_left
              · go_simp
                first | done | rfl
              simp only [Act.put, sa, sb, sc]
              first
              | (refine g_skip rfl ?_)
              | (refine g_look rfl rfl ?_ (fun w' hC => ?_) ?_
                 rotate_left
                 · go_simp
                   first | done | rfl)
              simp only [Act.put, sa, sb, sc]
              first
              | (refine g_skip rfl ?_)
              | (refine g_look rfl rfl (.int .u8 43) (fun w' hC => ?_) ?_
                 · clear hC
                   go_simp
                   first | done | rfl)
              simp only [Act.put, sa, sb, sc]
              first
              | (refine g_skip rfl ?_)
              | (refine g_look rfl rfl (.bool true) (fun w' hC => ?_) ?_
                 · clear hC
                   go_simp
                   first | done | rfl | exact hb43 | (simpa using hb43))
              simp only [Act.put, sa, sb, sc]
              first
              | (refine g_skip rfl ?_)
              | (refine g_look rfl rfl ?_ (fun w' hC => ?_) ?_
                 rotate_left
                 · go_simp
                   first | done | rfl)
              simp only [Act.put, sa, sb, sc]
              first
              | (refine g_skip rfl ?_)
              | (refine g_look rfl rfl ?_ (fun w' hC => ?_) ?_
                 rotate_left
                 · go_simp
                   first | done | rfl)
              simp only [Act.put, sa, sb, sc]
              first
              | (refine g_skip rfl ?_)
              | (refine g_look rfl rfl (.int .u8 43) (fun w' hC => ?_) ?_
                 · clear hC
                   go_simp
                   first | done | rfl)
              simp only [Act.put, sa, sb, sc]
              first
              | (refine g_skip rfl ?_)
              | (refine g_look rfl rfl ?_ (fun w' hC => ?_) ?_
                 rotate_left
                 · go_simp
                   first | done | rfl)
              simp only [Act.put, sa, sb, sc]
              first
              | (refine g_skip rfl ?_)
              | (refine g_look rfl rfl ?_ (fun w' hC => ?_) ?_
                 rotate_left
                 · go_simp
                   first | done | rfl)
              simp only [Act.put, sa, sb, sc]
              refine g_look rfl rfl ?_ (fun w' hC => ?_) ?_
              rotate_left
              · go_simp
                first | done | rfl
              simp only [Act.put, sa, sb, sc]
              refine g_end ?_
              intro w4 hC4 hh4
              have S4 : Hid (Stays [] w w4) := Lib.hid (stays_nil (stays_below hC4))
              clear S3
              clear hC4 hh4
              go_upto_region 39 with fail
              refine reg_plain (Stays [] w) (Turns [] w) (kdOf []) none0 (stays_good _ _) (S4.out) (holds0 _) ?_
              refine g_look rfl rfl ?_ (fun w' hC => ?_) ?_
              rotate_left
              · go_simp
                first | done | rfl
              simp only [Act.put, sa, sb, sc]
              refine g_look rfl rfl (.int .u8 43) (fun w' hC => ?_) ?_
              · clear hC
                go_simp
                first | done | rfl
              simp only [Act.put, sa, sb, sc]
              refine g_look rfl rfl (.bool false) (fun w' hC => ?_) ?_
              · clear hC
                go_simp
                first | done | rfl
              simp only [Act.put, sa, sb, sc]
              refine g_end ?_
              intro w5 hC5 hh5
              have S5 : Hid (Stays [] w w5) := Lib.hid (stays_nil (stays_below hC5))
              clear S4
              clear hC5 hh5
              go_upto_region 41 with fail
              refine reg_plain (Stays [] w) (Turns [] w) (kdOf []) none0 (stays_good _ _) (S5.out) (holds0 _) ?_
              refine g_look rfl rfl ?_ (fun w' hC => ?_) ?_
              rotate_left
              · go_simp
                first | done | rfl
              simp only [Act.put, sa, sb, sc]
              refine g_look rfl rfl (.string ⟨u.toArray⟩) (fun w' hC => ?_) ?_
              · clear hC
                go_simp
                first | done | exact drop_one _ u | (rw [drop_one]; done) | (simp [drop_one]; done)
              simp only [Act.put, sa, sb, sc]
              refine g_look rfl rfl ?_ (fun w' hC => ?_) ?_
              rotate_left
              · go_simp
                first | done | rfl
              simp only [Act.put, sa, sb]
              refine g_end ?_
              intro w6 hC6 hh6
              have S6 : Hid (Stays [] w w6) := Lib.hid (stays_nil (stays_below hC6))
              clear S5
              clear hC6 hh6
              go_wp2_with fail
              go_meet
              exact ⟨_, _, rfl, rfl, HSG, HSO, S6⟩
            · have HSG : Hid (signed (b :: u) = ((1 : Int), b :: u)) := Lib.hid (by simp [signed, h45, h43])
              have HSO : SgOk 1 := Lib.hid (.inl rfl)
              have hb43 : ¬ (b.toNat : Int) = 43 := fun e => h43 (UInt8.toNat_inj.1 (by show b.toNat = 43; omega))
              have hb45 : ¬ (b.toNat : Int) = 45 := fun e => h45 (UInt8.toNat_inj.1 (by show b.toNat = 45; omega))
              go_upto_region 38 with fail
              refine reg_plain (Stays [] w) (Turns [] w) (kdOf []) none0 (stays_good _ _) (S3.out) (holds0 _) ?_
              refine g_look rfl rfl ?_ (fun w' hC => ?_) ?_
              rotate_left
              · go_simp
                first | done | rfl
              simp only [Act.put, sa, sb, sc]
              refine g_look rfl rfl (.bool true) (fun w' hC => ?_) ?_
              · clear hC
                go_simp
                first | done | rfl
              simp only [Act.put, sa, sb, sc]
              refine g_look rfl rfl ?_ (fun w' hC => ?_) ?_
              rotate_left
              · go_simp
                first | done | rfl
              simp only [Act.put, sa, sb, sc]
              first
              | (refine g_skip rfl ?_)
              | (refine g_look rfl rfl ?_ (fun w' hC => ?_) ?_
                 rotate_left
                 · go_simp
                   first | done | rfl)
              simp only [Act.put, sa, sb, sc]
              first
              | (refine g_skip rfl ?_)
              | (refine g_look rfl rfl (.int .u8 (b.toNat : Int)) (fun w' hC => ?_) ?_
                 · clear hC
                   go_simp
                   first | done | rfl)
              simp only [Act.put, sa, sb, sc]
              first
              | (refine g_skip rfl ?_)
              | (refine g_look rfl rfl (.bool false) (fun w' hC => ?_) ?_
                 · clear hC
                   go_simp
                   first | done | rfl | exact hb43 | (simpa using hb43))
              simp only [Act.put, sa, sb, sc]
              first
              | (refine g_skip rfl ?_)
              | (refine g_look rfl rfl ?_ (fun w' hC => ?_) ?_
                 rotate_left
                 · go_simp
                   first | done | rfl)
              simp only [Act.put, sa, sb, sc]
              first
              | (refine g_skip rfl ?_)
              | (refine g_look rfl rfl ?_ (fun w' hC => ?_) ?_
                 rotate_left
                 · go_simp
                   first | done | rfl)
              simp only [Act.put, sa, sb, sc]
              first
              | (refine g_skip rfl ?_)
              | (refine g_look rfl rfl (.int .u8 (b.toNat : Int)) (fun w' hC => ?_) ?_
                 · clear hC
                   go_simp
                   first | done | rfl)
              simp only [Act.put, sa, sb, sc]
              first
              | (refine g_skip rfl ?_)
              | (refine g_look rfl rfl (.bool false) (fun w' hC => ?_) ?_
                 · clear hC
                   go_simp
                   first | done | rfl | exact hb45 | (simpa using hb45))
              simp only [Act.put, sa, sb, sc]
              first
              | (refine g_skip rfl ?_)
              | (refine g_look rfl rfl ?_ (fun w' hC => ?_) ?_
                 rotate_left
                 · go_simp
                   first | done | rfl)
              simp only [Act.put, sa, sb, sc]
              refine g_look rfl rfl ?_ (fun w' hC => ?_) ?_
              rotate_left
              · go_simp
                first | done | rfl
              simp only [Act.put, sa, sb, sc]
              refine g_end ?_
              intro w4 hC4 hh4
              have S4 : Hid (Stays [] w w4) := Lib.hid (stays_nil (stays_below hC4))
              clear S3
              clear hC4 hh4
              go_wp2_with fail
              go_meet
              exact ⟨_, _, rfl, rfl, HSG, HSO, S4⟩
      case rest =>
        obtain ⟨m, sg, rfl, rfl, HSG, HSO, S90⟩ := hcut
        clear S3
        cases m with
        | nil =>
          go_upto_region 42 with fail
          refine reg_plain (Stays [] w) (Turns [] w) (kdOf []) none0 (stays_good _ _) (S90.out) (holds0 _) ?_
          refine g_look rfl rfl ?_ (fun w' hC => ?_) ?_
          rotate_left
          · go_simp
            first | done | rfl
          simp only [Act.put, sa, sb, sc]
          refine g_look rfl rfl ?_ (fun w' hC => ?_) ?_
          rotate_left
          · go_simp
            first | done | rfl
          simp only [Act.put, sa, sb, sc]
          refine g_look rfl rfl (.bool false) (fun w' hC => ?_) ?_
          · clear hC
            go_simp
            first | done | rfl | omega | (simp; done) | (simp; omega)
          simp only [Act.put, sa, sb, sc]
          refine g_look rfl rfl ?_ (fun w' hC => ?_) ?_
          rotate_left
          · go_simp
            first | done | rfl
          simp only [Act.put, sa, sb, sc]
          first
          | (refine g_skip rfl ?_)
          | (refine g_look rfl rfl ?_ (fun w' hC => ?_) ?_
             rotate_left
             · go_simp
               first | done | rfl)
          simp only [Act.put, sa, sb, sc]
          first
          | (refine g_skip rfl ?_)
          | (refine g_look rfl rfl (.int .u8 (x.toNat : Int)) (fun w' hC => ?_) ?_
             · clear hC
               go_simp
               first | done | rfl | (simp [byteL]; done))
          simp only [Act.put, sa, sb, sc]
          refine g_skip rfl ?_
          simp only [Act.put, sa, sb, sc]
          refine g_look rfl rfl ?_ (fun w' hC => ?_) ?_
          rotate_left
          · go_simp
            first | done | rfl
          simp only [Act.put, sa, sb, sc]
          refine g_end ?_
          intro w91 hC91 hh91
          have S91 : Hid (Stays [] w w91) := Lib.hid (stays_nil (stays_below hC91))
          clear S90
          clear hC91 hh91
          go_upto_region 44 with fail
          refine reg_plain (Stays [] w) (Turns [] w) (kdOf []) none0 (stays_good _ _) (S91.out) (holds0 _) ?_
          refine g_look rfl rfl ?_ (fun w' hC => ?_) ?_
          rotate_left
          · go_simp
            first | done | rfl
          simp only [Act.put, sa, sb, sc]
          refine g_look rfl rfl ?_ (fun w' hC => ?_) ?_
          rotate_left
          · go_simp
            first | done | rfl
          simp only [Act.put, sa, sb, sc]
          refine g_look rfl rfl (.bool false) (fun w' hC => ?_) ?_
          · clear hC
            go_simp
            first | done | rfl | omega | (simp; done) | (simp; omega)
          simp only [Act.put, sa, sb, sc]
          refine g_look rfl rfl ?_ (fun w' hC => ?_) ?_
          rotate_left
          · go_simp
            first | done | rfl
          simp only [Act.put, sa, sb, sc]
          first
          | (refine g_skip rfl ?_)
          | (refine g_look rfl rfl ?_ (fun w' hC => ?_) ?_
             rotate_left
             · go_simp
               first | done | rfl)
          simp only [Act.put, sa, sb, sc]
          first
          | (refine g_skip rfl ?_)
          | (refine g_look rfl rfl (.int .u8 (x.toNat : Int)) (fun w' hC => ?_) ?_
             · clear hC
               go_simp
               first | done | rfl | (simp [byteL]; done))
          simp only [Act.put, sa, sb, sc]
          refine g_skip rfl ?_
          simp only [Act.put, sa, sb, sc]
          refine g_look rfl rfl ?_ (fun w' hC => ?_) ?_
          rotate_left
          · go_simp
            first | done | rfl
          simp only [Act.put, sa, sb, sc]
          refine g_look rfl rfl ?_ (fun w' hC => ?_) ?_
          rotate_left
          · go_simp
            first | done | rfl
          simp only [Act.put, sa, sb, sc]
          first
          | (refine g_skip rfl ?_)
          | (refine g_look rfl rfl ?_ (fun w' hC => ?_) ?_
             rotate_left
             · go_simp
               first | done | rfl)
          simp only [Act.put, sa, sb, sc]
          first
          | (refine g_skip rfl ?_)
          | (refine g_look rfl rfl (.int .u8 (y.toNat : Int)) (fun w' hC => ?_) ?_
             · clear hC
               go_simp
               first | done | rfl | (simp [byteL]; done))
          simp only [Act.put, sa, sb, sc]
          refine g_skip rfl ?_
          simp only [Act.put, sa, sb, sc]
          refine g_look rfl rfl ?_ (fun w' hC => ?_) ?_
          rotate_left
          · go_simp
            first | done | rfl
          simp only [Act.put, sa, sb, sc]
          refine g_end ?_
          intro w92 hC92 hh92
          have S92 : Hid (Stays [] w w92) := Lib.hid (stays_nil (stays_below hC92))
          clear S91
          clear hC92 hh92
          go_upto_region 46 with fail
          refine reg_plain (Stays [] w) (Turns [] w) (kdOf []) none0 (stays_good _ _) (S92.out) (holds0 _) ?_
          refine g_look rfl rfl ?_ (fun w' hC => ?_) ?_
          rotate_left
          · go_simp
            first | done | rfl
          simp only [Act.put, sa, sb, sc]
          refine g_look rfl rfl ?_ (fun w' hC => ?_) ?_
          rotate_left
          · go_simp
            first | done | rfl
          simp only [Act.put, sa, sb, sc]
          refine g_look rfl rfl ?_ (fun w' hC => ?_) ?_
          rotate_left
          · go_simp
            first | done | rfl
          simp only [Act.put, sa, sb, sc]
          refine g_end ?_
          intro w93 hC93 hh93
          have S93 : Hid (Stays [] w w93) := Lib.hid (stays_nil (stays_below hC93))
          clear S92
          clear hC93 hh93
          go_wp2_with fail
          refine bodyPost_ret (v := .tuple #[.int .i64 0, .int .i64 0, .bool false]) (by simp [results, Try.results36, go_sem]) rfl ⟨congrArg Ending.returned ((rscale_none (HSE.out.trans (exp_no HSG.out (by simp)))).symm), stays_below S93.out⟩
        | cons x m1 =>
          cases m1 with
          | nil =>
            cases hx : isD x with
            | true =>
              obtain ⟨d, hd, hd9, w1, w2⟩ := x_facts hx
              have HX := Lib.hid hx
              have HD := Lib.hid hd
              have HW1 := Lib.hid w1
              have HW2 := Lib.hid w2
              have HW3 := Lib.hid (sg_one (d := d) HSO.out hd9)
              clear hx hd w1 w2
              go_upto_region 42 with fail
              refine reg_plain (Stays [] w) (Turns [] w) (kdOf [(6, .make (fun _ => callM (.bool true)))]) none0 (stays_good _ _) (S90.out) (holds0 _) ?_
              refine g_look rfl rfl ?_ (fun w' hC => ?_) ?_
              rotate_left
              · go_simp
                first | done | rfl
              simp only [Act.put, sa, sb, sc]
              refine g_look rfl rfl ?_ (fun w' hC => ?_) ?_
              rotate_left
              · go_simp
                first | done | rfl
              simp only [Act.put, sa, sb, sc]
              refine g_look rfl rfl (.bool true) (fun w' hC => ?_) ?_
              · clear hC
                go_simp
                first | done | rfl | omega | (simp; done) | (simp; omega)
              simp only [Act.put, sa, sb, sc]
              refine g_look rfl rfl ?_ (fun w' hC => ?_) ?_
              rotate_left
              · go_simp
                first | done | rfl
              simp only [Act.put, sa, sb, sc]
              first
              | (refine g_skip rfl ?_)
              | (refine g_look rfl rfl ?_ (fun w' hC => ?_) ?_
                 rotate_left
                 · go_simp
                   first | done | rfl)
              simp only [Act.put, sa, sb, sc]
              first
              | (refine g_skip rfl ?_)
              | (refine g_look rfl rfl (.int .u8 (x.toNat : Int)) (fun w' hC => ?_) ?_
                 · clear hC
                   go_simp
                   first | done | rfl | (simp [byteL]; done))
              simp only [Act.put, sa, sb, sc]
              refine g_call (stays_good _ _) (.bool true) rfl rfl (fun w' hC => ?_) ?_
              · clear hC
                go_simp
                refine (digit_any _ x).mono (fun e w2 h => ?_)
                obtain ⟨h1, h2⟩ := h
                rw [HX.out] at h1
                exact gives h1 h2
              simp only [Act.put, sa, sb, sc]
              refine g_look rfl rfl ?_ (fun w' hC => ?_) ?_
              rotate_left
              · go_simp
                first | done | rfl
              simp only [Act.put, sa, sb, sc]
              refine g_end ?_
              intro w91 hC91 hh91
              have S91 : Hid (Stays [] w w91) := Lib.hid (stays_nil (stays_below hC91))
              clear S90
              clear hC91 hh91
              go_upto_region 43 with fail
              refine reg_plain (Stays [] w) (Turns [] w) (kdOf []) none0 (stays_good _ _) (S91.out) (holds0 _) ?_
              refine g_look rfl rfl ?_ (fun w' hC => ?_) ?_
              rotate_left
              · go_simp
                first | done | rfl
              simp only [Act.put, sa, sb, sc]
              refine g_look rfl rfl ?_ (fun w' hC => ?_) ?_
              rotate_left
              · go_simp
                first | done | rfl
              simp only [Act.put, sa, sb, sc]
              refine g_look rfl rfl (.int .u8 (x.toNat : Int)) (fun w' hC => ?_) ?_
              · clear hC
                go_simp
                first | done | rfl | (simp [byteL]; done)
              simp only [Act.put, sa, sb, sc]
              refine g_look rfl rfl (.int .u8 (d : Int)) (fun w' hC => ?_) ?_
              · clear hC
                go_simp
                first | done | exact HW1.out | (rw [HW1.out]; done)
              simp only [Act.put, sa, sb, sc]
              refine g_look rfl rfl (.int .i64 (d : Int)) (fun w' hC => ?_) ?_
              · clear hC
                go_simp
                first | done | exact HW2.out | (rw [HW2.out]; done)
              simp only [Act.put, sa, sb, sc]
              refine g_look rfl rfl (.int .i64 (sg * (d : Int))) (fun w' hC => ?_) ?_
              · clear hC
                go_simp
                first | done | exact HW3.out | (simpa using HW3.out)
              simp only [Act.put, sa, sb, sc]
              refine g_look rfl rfl ?_ (fun w' hC => ?_) ?_
              rotate_left
              · go_simp
                first | done | rfl
              simp only [Act.put, sa, sb, sc]
              refine g_look rfl rfl ?_ (fun w' hC => ?_) ?_
              rotate_left
              · go_simp
                first | done | rfl
              simp only [Act.put, sa, sb, sc]
              refine g_look rfl rfl ?_ (fun w' hC => ?_) ?_
              rotate_left
              · go_simp
                first | done | rfl
              simp only [Act.put, sa, sb, sc]
              refine g_end ?_
              intro w92 hC92 hh92
              have S92 : Hid (Stays [] w w92) := Lib.hid (stays_nil (stays_below hC92))
              clear S91
              clear hC92 hh92
              go_wp2_with fail
              refine bodyPost_ret (v := .tuple #[.int .i64 (sg * (d : Int)), .int .i64 0, .bool true]) (by simp [results, Try.results36, go_sem]) rfl ⟨congrArg Ending.returned ((rscale_some (HSE.out.trans (exp_one HSG.out HX.out HD.out))).symm), stays_below S92.out⟩
            | false =>
              have HX := Lib.hid hx
              clear hx
              go_upto_region 42 with fail
              refine reg_plain (Stays [] w) (Turns [] w) (kdOf [(6, .make (fun _ => callM (.bool false)))]) none0 (stays_good _ _) (S90.out) (holds0 _) ?_
              refine g_look rfl rfl ?_ (fun w' hC => ?_) ?_
              rotate_left
              · go_simp
                first | done | rfl
              simp only [Act.put, sa, sb, sc]
              refine g_look rfl rfl ?_ (fun w' hC => ?_) ?_
              rotate_left
              · go_simp
                first | done | rfl
              simp only [Act.put, sa, sb, sc]
              refine g_look rfl rfl (.bool true) (fun w' hC => ?_) ?_
              · clear hC
                go_simp
                first | done | rfl | omega | (simp; done) | (simp; omega)
              simp only [Act.put, sa, sb, sc]
              refine g_look rfl rfl ?_ (fun w' hC => ?_) ?_
              rotate_left
              · go_simp
                first | done | rfl
              simp only [Act.put, sa, sb, sc]
              first
              | (refine g_skip rfl ?_)
              | (refine g_look rfl rfl ?_ (fun w' hC => ?_) ?_
                 rotate_left
                 · go_simp
                   first | done | rfl)
              simp only [Act.put, sa, sb, sc]
              first
              | (refine g_skip rfl ?_)
              | (refine g_look rfl rfl (.int .u8 (x.toNat : Int)) (fun w' hC => ?_) ?_
                 · clear hC
                   go_simp
                   first | done | rfl | (simp [byteL]; done))
              simp only [Act.put, sa, sb, sc]
              refine g_call (stays_good _ _) (.bool false) rfl rfl (fun w' hC => ?_) ?_
              · clear hC
                go_simp
                refine (digit_any _ x).mono (fun e w2 h => ?_)
                obtain ⟨h1, h2⟩ := h
                rw [HX.out] at h1
                exact gives h1 h2
              simp only [Act.put, sa, sb, sc]
              refine g_look rfl rfl ?_ (fun w' hC => ?_) ?_
              rotate_left
              · go_simp
                first | done | rfl
              simp only [Act.put, sa, sb, sc]
              refine g_end ?_
              intro w91 hC91 hh91
              have S91 : Hid (Stays [] w w91) := Lib.hid (stays_nil (stays_below hC91))
              clear S90
              clear hC91 hh91
              go_upto_region 44 with fail
              refine reg_plain (Stays [] w) (Turns [] w) (kdOf []) none0 (stays_good _ _) (S91.out) (holds0 _) ?_
              refine g_look rfl rfl ?_ (fun w' hC => ?_) ?_
              rotate_left
              · go_simp
                first | done | rfl
              simp only [Act.put, sa, sb, sc]
              refine g_look rfl rfl ?_ (fun w' hC => ?_) ?_
              rotate_left
              · go_simp
                first | done | rfl
              simp only [Act.put, sa, sb, sc]
              refine g_look rfl rfl (.bool false) (fun w' hC => ?_) ?_
              · clear hC
                go_simp
                first | done | rfl | omega | (simp; done) | (simp; omega)
              simp only [Act.put, sa, sb, sc]
              refine g_look rfl rfl ?_ (fun w' hC => ?_) ?_
              rotate_left
              · go_simp
                first | done | rfl
              simp only [Act.put, sa, sb, sc]
              first
              | (refine g_skip rfl ?_)
              | (refine g_look rfl rfl ?_ (fun w' hC => ?_) ?_
                 rotate_left
                 · go_simp
                   first | done | rfl)
              simp only [Act.put, sa, sb, sc]
              first
              | (refine g_skip rfl ?_)
              | (refine g_look rfl rfl (.int .u8 (x.toNat : Int)) (fun w' hC => ?_) ?_
                 · clear hC
                   go_simp
                   first | done | rfl | (simp [byteL]; done))
              simp only [Act.put, sa, sb, sc]
              refine g_skip rfl ?_
              simp only [Act.put, sa, sb, sc]
              refine g_look rfl rfl ?_ (fun w' hC => ?_) ?_
              rotate_left
              · go_simp
                first | done | rfl
              simp only [Act.put, sa, sb, sc]
              refine g_look rfl rfl ?_ (fun w' hC => ?_) ?_
              rotate_left
              · go_simp
                first | done | rfl
              simp only [Act.put, sa, sb, sc]
              first
              | (refine g_skip rfl ?_)
              | (refine g_look rfl rfl ?_ (fun w' hC => ?_) ?_
                 rotate_left
                 · go_simp
                   first | done | rfl)
              simp only [Act.put, sa, sb, sc]
              first
              | (refine g_skip rfl ?_)
              | (refine g_look rfl rfl (.int .u8 (y.toNat : Int)) (fun w' hC => ?_) ?_
                 · clear hC
                   go_simp
                   first | done | rfl | (simp [byteL]; done))
              simp only [Act.put, sa, sb, sc]
              refine g_skip rfl ?_
              simp only [Act.put, sa, sb, sc]
              refine g_look rfl rfl ?_ (fun w' hC => ?_) ?_
              rotate_left
              · go_simp
                first | done | rfl
              simp only [Act.put, sa, sb, sc]
              refine g_end ?_
              intro w92 hC92 hh92
              have S92 : Hid (Stays [] w w92) := Lib.hid (stays_nil (stays_below hC92))
              clear S91
              clear hC92 hh92
              go_upto_region 46 with fail
              refine reg_plain (Stays [] w) (Turns [] w) (kdOf []) none0 (stays_good _ _) (S92.out) (holds0 _) ?_
              refine g_look rfl rfl ?_ (fun w' hC => ?_) ?_
              rotate_left
              · go_simp
                first | done | rfl
              simp only [Act.put, sa, sb, sc]
              refine g_look rfl rfl ?_ (fun w' hC => ?_) ?_
              rotate_left
              · go_simp
                first | done | rfl
              simp only [Act.put, sa, sb, sc]
              refine g_look rfl rfl ?_ (fun w' hC => ?_) ?_
              rotate_left
              · go_simp
                first | done | rfl
              simp only [Act.put, sa, sb, sc]
              refine g_end ?_
              intro w93 hC93 hh93
              have S93 : Hid (Stays [] w w93) := Lib.hid (stays_nil (stays_below hC93))
              clear S92
              clear hC93 hh93
              go_wp2_with fail
              refine bodyPost_ret (v := .tuple #[.int .i64 0, .int .i64 0, .bool false]) (by simp [results, Try.results36, go_sem]) rfl ⟨congrArg Ending.returned ((rscale_none (HSE.out.trans (exp_no HSG.out (cnt_bad HX.out (by simp))))).symm), stays_below S93.out⟩
          | cons y m2 =>
            cases m2 with
            | nil =>
              cases hx : isD x with
              | true =>
                cases hy : isD y with
                | true =>
                  obtain ⟨d, hd, hd9, w1, w2⟩ := x_facts hx
                  obtain ⟨e, he, he9, w3, w4⟩ := x_facts hy
                  obtain ⟨w5, w6, w7⟩ := sg_two (d := d) (e := e) HSO.out hd9 he9
                  have HX := Lib.hid hx
                  have HY := Lib.hid hy
                  have HD := Lib.hid hd
                  have HE := Lib.hid he
                  have HW1 := Lib.hid w1
                  have HW2 := Lib.hid w2
                  have HW3 := Lib.hid w3
                  have HW4 := Lib.hid w4
                  have HW5 := Lib.hid w5
                  have HW6 := Lib.hid w6
                  have HW7 := Lib.hid w7
                  clear hx hy hd he w1 w2 w3 w4 w5 w6 w7
                  go_upto_region 42 with fail
                  refine reg_plain (Stays [] w) (Turns [] w) (kdOf []) none0 (stays_good _ _) (S90.out) (holds0 _) ?_
                  refine g_look rfl rfl ?_ (fun w' hC => ?_) ?_
                  rotate_left
                  · go_simp
                    first | done | rfl
                  simp only [Act.put, sa, sb, sc]
                  refine g_look rfl rfl ?_ (fun w' hC => ?_) ?_
                  rotate_left
                  · go_simp
                    first | done | rfl
                  simp only [Act.put, sa, sb, sc]
                  refine g_look rfl rfl (.bool false) (fun w' hC => ?_) ?_
                  · clear hC
                    go_simp
                    first | done | rfl | omega | (simp; done) | (simp; omega)
                  simp only [Act.put, sa, sb, sc]
                  refine g_look rfl rfl ?_ (fun w' hC => ?_) ?_
                  rotate_left
                  · go_simp
                    first | done | rfl
                  simp only [Act.put, sa, sb, sc]
                  first
                  | (refine g_skip rfl ?_)
                  | (refine g_look rfl rfl ?_ (fun w' hC => ?_) ?_
                     rotate_left
                     · go_simp
                       first | done | rfl)
                  simp only [Act.put, sa, sb, sc]
                  first
                  | (refine g_skip rfl ?_)
                  | (refine g_look rfl rfl (.int .u8 (x.toNat : Int)) (fun w' hC => ?_) ?_
                     · clear hC
                       go_simp
                       first | done | rfl | (simp [byteL]; done))
                  simp only [Act.put, sa, sb, sc]
                  refine g_skip rfl ?_
                  simp only [Act.put, sa, sb, sc]
                  refine g_look rfl rfl ?_ (fun w' hC => ?_) ?_
                  rotate_left
                  · go_simp
                    first | done | rfl
                  simp only [Act.put, sa, sb, sc]
                  refine g_end ?_
                  intro w91 hC91 hh91
                  have S91 : Hid (Stays [] w w91) := Lib.hid (stays_nil (stays_below hC91))
                  clear S90
                  clear hC91 hh91
                  go_upto_region 44 with fail
                  refine reg_plain (Stays [] w) (Turns [] w) (kdOf [(6, .make (fun _ => callM (.bool true))), (11, .make (fun _ => callM (.bool true)))]) none0 (stays_good _ _) (S91.out) (holds0 _) ?_
                  refine g_look rfl rfl ?_ (fun w' hC => ?_) ?_
                  rotate_left
                  · go_simp
                    first | done | rfl
                  simp only [Act.put, sa, sb, sc]
                  refine g_look rfl rfl ?_ (fun w' hC => ?_) ?_
                  rotate_left
                  · go_simp
                    first | done | rfl
                  simp only [Act.put, sa, sb, sc]
                  refine g_look rfl rfl (.bool true) (fun w' hC => ?_) ?_
                  · clear hC
                    go_simp
                    first | done | rfl | omega | (simp; done) | (simp; omega)
                  simp only [Act.put, sa, sb, sc]
                  refine g_look rfl rfl ?_ (fun w' hC => ?_) ?_
                  rotate_left
                  · go_simp
                    first | done | rfl
                  simp only [Act.put, sa, sb, sc]
                  first
                  | (refine g_skip rfl ?_)
                  | (refine g_look rfl rfl ?_ (fun w' hC => ?_) ?_
                     rotate_left
                     · go_simp
                       first | done | rfl)
                  simp only [Act.put, sa, sb, sc]
                  first
                  | (refine g_skip rfl ?_)
                  | (refine g_look rfl rfl (.int .u8 (x.toNat : Int)) (fun w' hC => ?_) ?_
                     · clear hC
                       go_simp
                       first | done | rfl | (simp [byteL]; done))
                  simp only [Act.put, sa, sb, sc]
                  refine g_call (stays_good _ _) (.bool true) rfl rfl (fun w' hC => ?_) ?_
                  · clear hC
                    go_simp
                    refine (digit_any _ x).mono (fun e w2 h => ?_)
                    obtain ⟨h1, h2⟩ := h
                    rw [HX.out] at h1
                    exact gives h1 h2
                  simp only [Act.put, sa, sb, sc]
                  refine g_look rfl rfl ?_ (fun w' hC => ?_) ?_
                  rotate_left
                  · go_simp
                    first | done | rfl
                  simp only [Act.put, sa, sb, sc]
                  refine g_look rfl rfl ?_ (fun w' hC => ?_) ?_
                  rotate_left
                  · go_simp
                    first | done | rfl
                  simp only [Act.put, sa, sb, sc]
                  first
                  | (refine g_skip rfl ?_)
                  | (refine g_look rfl rfl ?_ (fun w' hC => ?_) ?_
                     rotate_left
                     · go_simp
                       first | done | rfl)
                  simp only [Act.put, sa, sb, sc]
                  first
                  | (refine g_skip rfl ?_)
                  | (refine g_look rfl rfl (.int .u8 (y.toNat : Int)) (fun w' hC => ?_) ?_
                     · clear hC
                       go_simp
                       first | done | rfl | (simp [byteL]; done))
                  simp only [Act.put, sa, sb, sc]
                  refine g_call (stays_good _ _) (.bool true) rfl rfl (fun w' hC => ?_) ?_
                  · clear hC
                    go_simp
                    refine (digit_any _ y).mono (fun e w2 h => ?_)
                    obtain ⟨h1, h2⟩ := h
                    rw [HY.out] at h1
                    exact gives h1 h2
                  simp only [Act.put, sa, sb, sc]
                  refine g_look rfl rfl ?_ (fun w' hC => ?_) ?_
                  rotate_left
                  · go_simp
                    first | done | rfl
                  simp only [Act.put, sa, sb, sc]
                  refine g_end ?_
                  intro w92 hC92 hh92
                  have S92 : Hid (Stays [] w w92) := Lib.hid (stays_nil (stays_below hC92))
                  clear S91
                  clear hC92 hh92
                  go_upto_region 45 with fail
                  refine reg (Stays [] w) (Turns [] w) (kdOf []) none0 (stays_good _ _) (by kernel_rfl) (by kernel_rfl) (stays_drew (S92.out)) (holds0 _) ?_
                  refine g_look rfl rfl ?_ (fun w' hC => ?_) ?_
                  rotate_left
                  · go_simp
                    first | done | rfl
                  simp only [Act.put, sa, sb, sc]
                  refine g_look rfl rfl ?_ (fun w' hC => ?_) ?_
                  rotate_left
                  · go_simp
                    first | done | rfl
                  simp only [Act.put, sa, sb, sc]
                  refine g_look rfl rfl (.int .u8 (x.toNat : Int)) (fun w' hC => ?_) ?_
                  · clear hC
                    go_simp
                    first | done | rfl | (simp [byteL]; done)
                  simp only [Act.put, sa, sb, sc]
                  refine g_look rfl rfl (.int .u8 (d : Int)) (fun w' hC => ?_) ?_
                  · clear hC
                    go_simp
                    first | done | exact HW1.out | (rw [HW1.out]; done) | (simpa using HW1.out)
                  simp only [Act.put, sa, sb, sc]
                  refine g_look rfl rfl (.int .i64 (d : Int)) (fun w' hC => ?_) ?_
                  · clear hC
                    go_simp
                    first | done | exact HW2.out | (rw [HW2.out]; done) | (simpa using HW2.out)
                  simp only [Act.put, sa, sb, sc]
                  refine g_look rfl rfl (.int .i64 (10 * (d : Int))) (fun w' hC => ?_) ?_
                  · clear hC
                    go_simp
                    first | done | exact HW5.out | (rw [HW5.out]; done) | (simpa using HW5.out)
                  simp only [Act.put, sa, sb, sc]
                  refine g_look rfl rfl ?_ (fun w' hC => ?_) ?_
                  rotate_left
                  · go_simp
                    first | done | rfl
                  simp only [Act.put, sa, sb, sc]
                  refine g_look rfl rfl (.int .u8 (y.toNat : Int)) (fun w' hC => ?_) ?_
                  · clear hC
                    go_simp
                    first | done | rfl | (simp [byteL]; done)
                  simp only [Act.put, sa, sb, sc]
                  refine g_look rfl rfl (.int .u8 (e : Int)) (fun w' hC => ?_) ?_
                  · clear hC
                    go_simp
                    first | done | exact HW3.out | (rw [HW3.out]; done) | (simpa using HW3.out)
                  simp only [Act.put, sa, sb, sc]
                  refine g_look rfl rfl (.int .i64 (e : Int)) (fun w' hC => ?_) ?_
                  · clear hC
                    go_simp
                    first | done | exact HW4.out | (rw [HW4.out]; done) | (simpa using HW4.out)
                  simp only [Act.put, sa, sb, sc]
                  refine g_look rfl rfl (.int .i64 ((10 * d + e : Nat) : Int)) (fun w' hC => ?_) ?_
                  · clear hC
                    go_simp
                    first | done | exact HW6.out | (rw [HW6.out]; done) | (simpa using HW6.out)
                  simp only [Act.put, sa, sb, sc]
                  refine g_look rfl rfl (.int .i64 (sg * ((10 * d + e : Nat) : Int))) (fun w' hC => ?_) ?_
                  · clear hC
                    go_simp
                    first | done | exact HW7.out | (rw [HW7.out]; done) | (simpa using HW7.out)
                  simp only [Act.put, sa, sb, sc]
                  refine g_look rfl rfl ?_ (fun w' hC => ?_) ?_
                  rotate_left
                  · go_simp
                    first | done | rfl
                  simp only [Act.put, sa, sb, sc]
                  refine g_look rfl rfl ?_ (fun w' hC => ?_) ?_
                  rotate_left
                  · go_simp
                    first | done | rfl
                  simp only [Act.put, sa, sb, sc]
                  refine g_look rfl rfl ?_ (fun w' hC => ?_) ?_
                  rotate_left
                  · go_simp
                    first | done | rfl
                  simp only [Act.put, sa, sb, sc]
                  refine g_end ?_
                  intro w93 hC93 hh93
                  have S93 : Hid (Stays [] w w93) := Lib.hid (stays_nil (stays_below hC93))
                  clear S92
                  clear hC93 hh93
                  go_wp2_with fail
                  refine bodyPost_ret (v := .tuple #[.int .i64 (sg * ((10 * d + e : Nat) : Int)), .int .i64 0, .bool true]) (by simp [results, Try.results36, go_sem]) rfl ⟨congrArg Ending.returned ((rscale_some (HSE.out.trans (exp_two HSG.out HX.out HY.out HD.out HE.out))).symm), stays_below S93.out⟩
                | false =>
                  have HX := Lib.hid hx
                  have HY := Lib.hid hy
                  clear hx hy
                  go_upto_region 42 with fail
                  refine reg_plain (Stays [] w) (Turns [] w) (kdOf []) none0 (stays_good _ _) (S90.out) (holds0 _) ?_
                  refine g_look rfl rfl ?_ (fun w' hC => ?_) ?_
                  rotate_left
                  · go_simp
                    first | done | rfl
                  simp only [Act.put, sa, sb, sc]
                  refine g_look rfl rfl ?_ (fun w' hC => ?_) ?_
                  rotate_left
                  · go_simp
                    first | done | rfl
                  simp only [Act.put, sa, sb, sc]
                  refine g_look rfl rfl (.bool false) (fun w' hC => ?_) ?_
                  · clear hC
                    go_simp
                    first | done | rfl | omega | (simp; done) | (simp; omega)
                  simp only [Act.put, sa, sb, sc]
                  refine g_look rfl rfl ?_ (fun w' hC => ?_) ?_
                  rotate_left
                  · go_simp
                    first | done | rfl
                  simp only [Act.put, sa, sb, sc]
                  first
                  | (refine g_skip rfl ?_)
                  | (refine g_look rfl rfl ?_ (fun w' hC => ?_) ?_
                     rotate_left
                     · go_simp
                       first | done | rfl)
                  simp only [Act.put, sa, sb, sc]
                  first
                  | (refine g_skip rfl ?_)
                  | (refine g_look rfl rfl (.int .u8 (x.toNat : Int)) (fun w' hC => ?_) ?_
                     · clear hC
                       go_simp
                       first | done | rfl | (simp [byteL]; done))
                  simp only [Act.put, sa, sb, sc]
                  refine g_skip rfl ?_
                  simp only [Act.put, sa, sb, sc]
                  refine g_look rfl rfl ?_ (fun w' hC => ?_) ?_
                  rotate_left
                  · go_simp
                    first | done | rfl
                  simp only [Act.put, sa, sb, sc]
                  refine g_end ?_
                  intro w91 hC91 hh91
                  have S91 : Hid (Stays [] w w91) := Lib.hid (stays_nil (stays_below hC91))
                  clear S90
                  clear hC91 hh91
                  go_upto_region 44 with fail
                  refine reg_plain (Stays [] w) (Turns [] w) (kdOf [(6, .make (fun _ => callM (.bool true))), (11, .make (fun _ => callM (.bool false)))]) none0 (stays_good _ _) (S91.out) (holds0 _) ?_
                  refine g_look rfl rfl ?_ (fun w' hC => ?_) ?_
                  rotate_left
                  · go_simp
                    first | done | rfl
                  simp only [Act.put, sa, sb, sc]
                  refine g_look rfl rfl ?_ (fun w' hC => ?_) ?_
                  rotate_left
                  · go_simp
                    first | done | rfl
                  simp only [Act.put, sa, sb, sc]
                  refine g_look rfl rfl (.bool true) (fun w' hC => ?_) ?_
                  · clear hC
                    go_simp
                    first | done | rfl | omega | (simp; done) | (simp; omega)
                  simp only [Act.put, sa, sb, sc]
                  refine g_look rfl rfl ?_ (fun w' hC => ?_) ?_
                  rotate_left
                  · go_simp
                    first | done | rfl
                  simp only [Act.put, sa, sb, sc]
                  first
                  | (refine g_skip rfl ?_)
                  | (refine g_look rfl rfl ?_ (fun w' hC => ?_) ?_
                     rotate_left
                     · go_simp
                       first | done | rfl)
                  simp only [Act.put, sa, sb, sc]
                  first
                  | (refine g_skip rfl ?_)
                  | (refine g_look rfl rfl (.int .u8 (x.toNat : Int)) (fun w' hC => ?_) ?_
                     · clear hC
                       go_simp
                       first | done | rfl | (simp [byteL]; done))
                  simp only [Act.put, sa, sb, sc]
                  refine g_call (stays_good _ _) (.bool true) rfl rfl (fun w' hC => ?_) ?_
                  · clear hC
                    go_simp
                    refine (digit_any _ x).mono (fun e w2 h => ?_)
                    obtain ⟨h1, h2⟩ := h
                    rw [HX.out] at h1
                    exact gives h1 h2
                  simp only [Act.put, sa, sb, sc]
                  refine g_look rfl rfl ?_ (fun w' hC => ?_) ?_
                  rotate_left
                  · go_simp
                    first | done | rfl
                  simp only [Act.put, sa, sb, sc]
                  refine g_look rfl rfl ?_ (fun w' hC => ?_) ?_
                  rotate_left
                  · go_simp
                    first | done | rfl
                  simp only [Act.put, sa, sb, sc]
                  first
                  | (refine g_skip rfl ?_)
                  | (refine g_look rfl rfl ?_ (fun w' hC => ?_) ?_
                     rotate_left
                     · go_simp
                       first | done | rfl)
                  simp only [Act.put, sa, sb, sc]
                  first
                  | (refine g_skip rfl ?_)
                  | (refine g_look rfl rfl (.int .u8 (y.toNat : Int)) (fun w' hC => ?_) ?_
                     · clear hC
                       go_simp
                       first | done | rfl | (simp [byteL]; done))
                  simp only [Act.put, sa, sb, sc]
                  refine g_call (stays_good _ _) (.bool false) rfl rfl (fun w' hC => ?_) ?_
                  · clear hC
                    go_simp
                    refine (digit_any _ y).mono (fun e w2 h => ?_)
                    obtain ⟨h1, h2⟩ := h
                    rw [HY.out] at h1
                    exact gives h1 h2
                  simp only [Act.put, sa, sb, sc]
                  refine g_look rfl rfl ?_ (fun w' hC => ?_) ?_
                  rotate_left
                  · go_simp
                    first | done | rfl
                  simp only [Act.put, sa, sb, sc]
                  refine g_end ?_
                  intro w92 hC92 hh92
                  have S92 : Hid (Stays [] w w92) := Lib.hid (stays_nil (stays_below hC92))
                  clear S91
                  clear hC92 hh92
                  go_upto_region 46 with fail
                  refine reg_plain (Stays [] w) (Turns [] w) (kdOf []) none0 (stays_good _ _) (S92.out) (holds0 _) ?_
                  refine g_look rfl rfl ?_ (fun w' hC => ?_) ?_
                  rotate_left
                  · go_simp
                    first | done | rfl
                  simp only [Act.put, sa, sb, sc]
                  refine g_look rfl rfl ?_ (fun w' hC => ?_) ?_
                  rotate_left
                  · go_simp
                    first | done | rfl
                  simp only [Act.put, sa, sb, sc]
                  refine g_look rfl rfl ?_ (fun w' hC => ?_) ?_
                  rotate_left
                  · go_simp
                    first | done | rfl
                  simp only [Act.put, sa, sb, sc]
                  refine g_end ?_
                  intro w93 hC93 hh93
                  have S93 : Hid (Stays [] w w93) := Lib.hid (stays_nil (stays_below hC93))
                  clear S92
                  clear hC93 hh93
                  go_wp2_with fail
                  refine bodyPost_ret (v := .tuple #[.int .i64 0, .int .i64 0, .bool false]) (by simp [results, Try.results36, go_sem]) rfl ⟨congrArg Ending.returned ((rscale_none (HSE.out.trans (exp_no HSG.out (cnt_bad HY.out (by simp))))).symm), stays_below S93.out⟩
              | false =>
                have HX := Lib.hid hx
                clear hx
                go_upto_region 42 with fail
                refine reg_plain (Stays [] w) (Turns [] w) (kdOf []) none0 (stays_good _ _) (S90.out) (holds0 _) ?_
                refine g_look rfl rfl ?_ (fun w' hC => ?_) ?_
                rotate_left
                · go_simp
                  first | done | rfl
                simp only [Act.put, sa, sb, sc]
                refine g_look rfl rfl ?_ (fun w' hC => ?_) ?_
                rotate_left
                · go_simp
                  first | done | rfl
                simp only [Act.put, sa, sb, sc]
                refine g_look rfl rfl (.bool false) (fun w' hC => ?_) ?_
                · clear hC
                  go_simp
                  first | done | rfl | omega | (simp; done) | (simp; omega)
                simp only [Act.put, sa, sb, sc]
                refine g_look rfl rfl ?_ (fun w' hC => ?_) ?_
                rotate_left
                · go_simp
                  first | done | rfl
                simp only [Act.put, sa, sb, sc]
                first
                | (refine g_skip rfl ?_)
                | (refine g_look rfl rfl ?_ (fun w' hC => ?_) ?_
                   rotate_left
                   · go_simp
                     first | done | rfl)
                simp only [Act.put, sa, sb, sc]
                first
                | (refine g_skip rfl ?_)
                | (refine g_look rfl rfl (.int .u8 (x.toNat : Int)) (fun w' hC => ?_) ?_
                   · clear hC
                     go_simp
                     first | done | rfl | (simp [byteL]; done))
                simp only [Act.put, sa, sb, sc]
                refine g_skip rfl ?_
                simp only [Act.put, sa, sb, sc]
                refine g_look rfl rfl ?_ (fun w' hC => ?_) ?_
                rotate_left
                · go_simp
                  first | done | rfl
                simp only [Act.put, sa, sb, sc]
                refine g_end ?_
                intro w91 hC91 hh91
                have S91 : Hid (Stays [] w w91) := Lib.hid (stays_nil (stays_below hC91))
                clear S90
                clear hC91 hh91
                go_upto_region 44 with fail
                refine reg_plain (Stays [] w) (Turns [] w) (kdOf [(6, .make (fun _ => callM (.bool false)))]) none0 (stays_good _ _) (S91.out) (holds0 _) ?_
                refine g_look rfl rfl ?_ (fun w' hC => ?_) ?_
                rotate_left
                · go_simp
                  first | done | rfl
                simp only [Act.put, sa, sb, sc]
                refine g_look rfl rfl ?_ (fun w' hC => ?_) ?_
                rotate_left
                · go_simp
                  first | done | rfl
                simp only [Act.put, sa, sb, sc]
                refine g_look rfl rfl (.bool true) (fun w' hC => ?_) ?_
                · clear hC
                  go_simp
                  first | done | rfl | omega | (simp; done) | (simp; omega)
                simp only [Act.put, sa, sb, sc]
                refine g_look rfl rfl ?_ (fun w' hC => ?_) ?_
                rotate_left
                · go_simp
                  first | done | rfl
                simp only [Act.put, sa, sb, sc]
                first
                | (refine g_skip rfl ?_)
                | (refine g_look rfl rfl ?_ (fun w' hC => ?_) ?_
                   rotate_left
                   · go_simp
                     first | done | rfl)
                simp only [Act.put, sa, sb, sc]
                first
                | (refine g_skip rfl ?_)
                | (refine g_look rfl rfl (.int .u8 (x.toNat : Int)) (fun w' hC => ?_) ?_
                   · clear hC
                     go_simp
                     first | done | rfl | (simp [byteL]; done))
                simp only [Act.put, sa, sb, sc]
                refine g_call (stays_good _ _) (.bool false) rfl rfl (fun w' hC => ?_) ?_
                · clear hC
                  go_simp
                  refine (digit_any _ x).mono (fun e w2 h => ?_)
                  obtain ⟨h1, h2⟩ := h
                  rw [HX.out] at h1
                  exact gives h1 h2
                simp only [Act.put, sa, sb, sc]
                refine g_look rfl rfl ?_ (fun w' hC => ?_) ?_
                rotate_left
                · go_simp
                  first | done | rfl
                simp only [Act.put, sa, sb, sc]
                refine g_look rfl rfl ?_ (fun w' hC => ?_) ?_
                rotate_left
                · go_simp
                  first | done | rfl
                simp only [Act.put, sa, sb, sc]
                first
                | (refine g_skip rfl ?_)
                | (refine g_look rfl rfl ?_ (fun w' hC => ?_) ?_
                   rotate_left
                   · go_simp
                     first | done | rfl)
                simp only [Act.put, sa, sb, sc]
                first
                | (refine g_skip rfl ?_)
                | (refine g_look rfl rfl (.int .u8 (y.toNat : Int)) (fun w' hC => ?_) ?_
                   · clear hC
                     go_simp
                     first | done | rfl | (simp [byteL]; done))
                simp only [Act.put, sa, sb, sc]
                refine g_skip rfl ?_
                simp only [Act.put, sa, sb, sc]
                refine g_look rfl rfl ?_ (fun w' hC => ?_) ?_
                rotate_left
                · go_simp
                  first | done | rfl
                simp only [Act.put, sa, sb, sc]
                refine g_end ?_
                intro w92 hC92 hh92
                have S92 : Hid (Stays [] w w92) := Lib.hid (stays_nil (stays_below hC92))
                clear S91
                clear hC92 hh92
                go_upto_region 46 with fail
                refine reg_plain (Stays [] w) (Turns [] w) (kdOf []) none0 (stays_good _ _) (S92.out) (holds0 _) ?_
                refine g_look rfl rfl ?_ (fun w' hC => ?_) ?_
                rotate_left
                · go_simp
                  first | done | rfl
                simp only [Act.put, sa, sb, sc]
                refine g_look rfl rfl ?_ (fun w' hC => ?_) ?_
                rotate_left
                · go_simp
                  first | done | rfl
                simp only [Act.put, sa, sb, sc]
                refine g_look rfl rfl ?_ (fun w' hC => ?_) ?_
                rotate_left
                · go_simp
                  first | done | rfl
                simp only [Act.put, sa, sb, sc]
                refine g_end ?_
                intro w93 hC93 hh93
                have S93 : Hid (Stays [] w w93) := Lib.hid (stays_nil (stays_below hC93))
                clear S92
                clear hC93 hh93
                go_wp2_with fail
                refine bodyPost_ret (v := .tuple #[.int .i64 0, .int .i64 0, .bool false]) (by simp [results, Try.results36, go_sem]) rfl ⟨congrArg Ending.returned ((rscale_none (HSE.out.trans (exp_no HSG.out (cnt_bad HX.out (by simp))))).symm), stays_below S93.out⟩
            | cons z r =>
              have i1 : ¬ ((r.length : Int) + 1 + 1 + 1 = 1) := by omega
              have i2 : ¬ ((r.length : Int) + 1 + 1 + 1 = 2) := by omega
              go_upto_region 42 with fail
              refine reg_plain (Stays [] w) (Turns [] w) (kdOf []) none0 (stays_good _ _) (S90.out) (holds0 _) ?_
              refine g_look rfl rfl ?_ (fun w' hC => ?_) ?_
              rotate_left
              · go_simp
                first | done | rfl
              simp only [Act.put, sa, sb, sc]
              refine g_look rfl rfl ?_ (fun w' hC => ?_) ?_
              rotate_left
              · go_simp
                first | done | rfl
              simp only [Act.put, sa, sb, sc]
              refine g_look rfl rfl (.bool false) (fun w' hC => ?_) ?_
              · clear hC
                go_simp
                first | done | rfl | omega | (simp; done) | (simp; omega)
              simp only [Act.put, sa, sb, sc]
              refine g_look rfl rfl ?_ (fun w' hC => ?_) ?_
              rotate_left
              · go_simp
                first | done | rfl
              simp only [Act.put, sa, sb, sc]
              first
              | (refine g_skip rfl ?_)
              | (refine g_look rfl rfl ?_ (fun w' hC => ?_) ?_
                 rotate_left
                 · go_simp
                   first | done | rfl)
              simp only [Act.put, sa, sb, sc]
              first
              | (refine g_skip rfl ?_)
              | (refine g_look rfl rfl (.int .u8 (x.toNat : Int)) (fun w' hC => ?_) ?_
                 · clear hC
                   go_simp
                   first | done | rfl | (simp [byteL]; done))
              simp only [Act.put, sa, sb, sc]
              refine g_skip rfl ?_
              simp only [Act.put, sa, sb, sc]
              refine g_look rfl rfl ?_ (fun w' hC => ?_) ?_
              rotate_left
              · go_simp
                first | done | rfl
              simp only [Act.put, sa, sb, sc]
              refine g_end ?_
              intro w91 hC91 hh91
              have S91 : Hid (Stays [] w w91) := Lib.hid (stays_nil (stays_below hC91))
              clear S90
              clear hC91 hh91
              go_upto_region 44 with fail
              refine reg_plain (Stays [] w) (Turns [] w) (kdOf []) none0 (stays_good _ _) (S91.out) (holds0 _) ?_
              refine g_look rfl rfl ?_ (fun w' hC => ?_) ?_
              rotate_left
              · go_simp
                first | done | rfl
              simp only [Act.put, sa, sb, sc]
              refine g_look rfl rfl ?_ (fun w' hC => ?_) ?_
              rotate_left
              · go_simp
                first | done | rfl
              simp only [Act.put, sa, sb, sc]
              refine g_look rfl rfl (.bool false) (fun w' hC => ?_) ?_
              · clear hC
                go_simp
                first | done | rfl | omega | (simp; done) | (simp; omega)
              simp only [Act.put, sa, sb, sc]
              refine g_look rfl rfl ?_ (fun w' hC => ?_) ?_
              rotate_left
              · go_simp
                first | done | rfl
              simp only [Act.put, sa, sb, sc]
              first
              | (refine g_skip rfl ?_)
              | (refine g_look rfl rfl ?_ (fun w' hC => ?_) ?_
                 rotate_left
                 · go_simp
                   first | done | rfl)
              simp only [Act.put, sa, sb, sc]
              first
              | (refine g_skip rfl ?_)
              | (refine g_look rfl rfl (.int .u8 (x.toNat : Int)) (fun w' hC => ?_) ?_
                 · clear hC
                   go_simp
                   first | done | rfl | (simp [byteL]; done))
              simp only [Act.put, sa, sb, sc]
              refine g_skip rfl ?_
              simp only [Act.put, sa, sb, sc]
              refine g_look rfl rfl ?_ (fun w' hC => ?_) ?_
              rotate_left
              · go_simp
                first | done | rfl
              simp only [Act.put, sa, sb, sc]
              refine g_look rfl rfl ?_ (fun w' hC => ?_) ?_
              rotate_left
              · go_simp
                first | done | rfl
              simp only [Act.put, sa, sb, sc]
              first
              | (refine g_skip rfl ?_)
              | (refine g_look rfl rfl ?_ (fun w' hC => ?_) ?_
                 rotate_left
                 · go_simp
                   first | done | rfl)
              simp only [Act.put, sa, sb, sc]
              first
              | (refine g_skip rfl ?_)
              | (refine g_look rfl rfl (.int .u8 (y.toNat : Int)) (fun w' hC => ?_) ?_
                 · clear hC
                   go_simp
                   first | done | rfl | (simp [byteL]; done))
              simp only [Act.put, sa, sb, sc]
              refine g_skip rfl ?_
              simp only [Act.put, sa, sb, sc]
              refine g_look rfl rfl ?_ (fun w' hC => ?_) ?_
              rotate_left
              · go_simp
                first | done | rfl
              simp only [Act.put, sa, sb, sc]
              refine g_end ?_
              intro w92 hC92 hh92
              have S92 : Hid (Stays [] w w92) := Lib.hid (stays_nil (stays_below hC92))
              clear S91
              clear hC92 hh92
              go_upto_region 46 with fail
              refine reg_plain (Stays [] w) (Turns [] w) (kdOf []) none0 (stays_good _ _) (S92.out) (holds0 _) ?_
              refine g_look rfl rfl ?_ (fun w' hC => ?_) ?_
              rotate_left
              · go_simp
                first | done | rfl
              simp only [Act.put, sa, sb, sc]
              refine g_look rfl rfl ?_ (fun w' hC => ?_) ?_
              rotate_left
              · go_simp
                first | done | rfl
              simp only [Act.put, sa, sb, sc]
              refine g_look rfl rfl ?_ (fun w' hC => ?_) ?_
              rotate_left
              · go_simp
                first | done | rfl
              simp only [Act.put, sa, sb, sc]
              refine g_end ?_
              intro w93 hC93 hh93
              have S93 : Hid (Stays [] w w93) := Lib.hid (stays_nil (stays_below hC93))
              clear S92
              clear hC93 hh93
              go_wp2_with fail
              refine bodyPost_ret (v := .tuple #[.int .i64 0, .int .i64 0, .bool false]) (by simp [results, Try.results36, go_sem]) rfl ⟨congrArg Ending.returned ((rscale_none (HSE.out.trans (exp_no HSG.out (by simp)))).symm), stays_below S93.out⟩
    · by_cases h2 : a = 69
      · subst h2
        have HSE : Hid (sufP ((69 : UInt8) :: t) = expP t) := Lib.hid (HSP.out.trans (by rw [restP, if_pos (Or.inr rfl)]))
        clear HSP h1
        refine reg_plain (Stays [] w) (Turns [] w) (kdOf []) none0 (stays_good _ _) (S0.out) (holds0 _) ?_
        refine g_look rfl rfl ?_ (fun w' hC => ?_) ?_
        rotate_left
        · go_simp
          first | done | rfl
        simp only [Act.put, sa, sb, sc]
        refine g_look rfl rfl (.int .u8 69) (fun w' hC => ?_) ?_
        · clear hC
          go_simp
          first | done | rfl
        simp only [Act.put, sa, sb, sc]
        refine g_look rfl rfl (.bool false) (fun w' hC => ?_) ?_
        · clear hC
          go_simp
          first | done | rfl | exact hb3 | (simpa using hb3)
        simp only [Act.put, sa, sb, sc]
        refine g_look rfl rfl ?_ (fun w' hC => ?_) ?_
        rotate_left
        · go_simp
          first | done | rfl
        simp only [Act.put, sa, sb, sc]
        first
        | (refine g_skip rfl ?_)
        | (refine g_look rfl rfl ?_ (fun w' hC => ?_) ?_
           rotate_left
           · go_simp
             first | done | rfl)
        simp only [Act.put, sa, sb, sc]
        first
        | (refine g_skip rfl ?_)
        | (refine g_look rfl rfl (.int .u8 69) (fun w' hC => ?_) ?_
           · clear hC
             go_simp
             first | done | rfl)
        simp only [Act.put, sa, sb, sc]
        first
        | (refine g_skip rfl ?_)
        | (refine g_look rfl rfl ?_ (fun w' hC => ?_) ?_
           rotate_left
           · go_simp
             first | done | rfl)
        simp only [Act.put, sa, sb, sc]
        refine g_look rfl rfl ?_ (fun w' hC => ?_) ?_
        rotate_left
        · go_simp
          first | done | rfl
        simp only [Act.put, sa, sb, sc]
        refine g_end ?_
        intro w1 hC1 hh1
        have S1 : Hid (Stays [] w w1) := Lib.hid (stays_nil (stays_below hC1))
        clear hC1 hh1
        go_upto_region 36 with fail
        refine reg_plain (Stays [] w) (Turns [] w) (kdOf []) none0 (stays_good _ _) (S1.out) (holds0 _) ?_
        refine g_look rfl rfl ?_ (fun w' hC => ?_) ?_
        rotate_left
        · go_simp
          first | done | rfl
        simp only [Act.put, sa, sb, sc]
        refine g_look rfl rfl (.string ⟨t.toArray⟩) (fun w' hC => ?_) ?_
        · clear hC
          go_simp
          first | done | exact drop_one _ t | (rw [drop_one]; done) | (simp [drop_one]; done)
        simp only [Act.put, sa, sb, sc]
        refine g_look rfl rfl ?_ (fun w' hC => ?_) ?_
        rotate_left
        · go_simp
          first | done | rfl
        simp only [Act.put, sa, sb]
        refine g_end ?_
        intro w2 hC2 hh2
        have S2 : Hid (Stays [] w w2) := Lib.hid (stays_nil (stays_below hC2))
        clear S1
        clear hC2 hh2
        go_upto_region 37 with fail
        refine reg_plain (Stays [] w) (Turns [] w) (kdOf []) none0 (stays_good _ _) (S2.out) (holds0 _) ?_
        refine g_look rfl rfl ?_ (fun w' hC => ?_) ?_
        rotate_left
        · go_simp
          first | done | rfl
        simp only [Act.put, sa, sb, sc]
        refine g_end ?_
        intro w3 hC3 hh3
        have S3 : Hid (Stays [] w w3) := Lib.hid (stays_nil (stays_below hC3))
        clear S2
        clear hC3 hh3
        clear hb l1 l2 l3
        rename_i K hK
        refine hK _ _ ?_
        clear hK K
        apply wp_seq_k; intro _ _
        go_cut [0, 5] (fun s g wx => ∃ (m : List UInt8) (sg : Int), s = .string ⟨m.toArray⟩ ∧ g = .int .i64 sg ∧ Hid (signed t = (sg, m)) ∧ SgOk sg ∧ Hid (Stays [] w wx))
        case first =>
          cases t with
          | nil =>
            have HSG : Hid (signed [] = ((1 : Int), ([] : List UInt8))) := Lib.hid rfl
            have HSO : SgOk 1 := Lib.hid (.inl rfl)
            go_upto_region 38 with fail
            refine reg_plain (Stays [] w) (Turns [] w) (kdOf []) none0 (stays_good _ _) (S3.out) (holds0 _) ?_
            refine g_look rfl rfl ?_ (fun w' hC => ?_) ?_
            rotate_left
            · go_simp
              first | done | rfl
            simp only [Act.put, sa, sb, sc]
            refine g_look rfl rfl ?_ (fun w' hC => ?_) ?_
            rotate_left
            · go_simp
              first | done | rfl
            simp only [Act.put, sa, sb, sc]
            refine g_look rfl rfl ?_ (fun w' hC => ?_) ?_
            rotate_left
            · go_simp
              first | done | rfl
            simp only [Act.put, sa, sb, sc]
            first
            | (refine g_skip rfl ?_)
            | (refine g_look rfl rfl ?_ (fun w' hC => ?_) ?_
               rotate_left
               · go_simp
                 first | done | rfl)
            simp only [Act.put, sa, sb, sc]
            first
            | (refine g_skip rfl ?_)
            | (refine g_look rfl rfl ?_ (fun w' hC => ?_) ?_
               rotate_left
               · go_simp
                 first | done | rfl)
            simp only [Act.put, sa, sb, sc]
            first
            | (refine g_skip rfl ?_)
            | (refine g_look rfl rfl ?_ (fun w' hC => ?_) ?_
               rotate_left
               · go_simp
                 first | done | rfl)
            simp only [Act.put, sa, sb, sc]
            first
            | (refine g_skip rfl ?_)
            | (refine g_look rfl rfl ?_ (fun w' hC => ?_) ?_
               rotate_left
               · go_simp
                 first | done | rfl)
            simp only [Act.put, sa, sb, sc]
            first
            | (refine g_skip rfl ?_)
            | (refine g_look rfl rfl ?_ (fun w' hC => ?_) ?_
               rotate_left
               · go_simp
                 first | done | rfl)
            simp only [Act.put, sa, sb, sc]
            first
            | (refine g_skip rfl ?_)
            | (refine g_look rfl rfl ?_ (fun w' hC => ?_) ?_
               rotate_left
               · go_simp
                 first | done | rfl)
            simp only [Act.put, sa, sb, sc]
            first
            | (refine g_skip rfl ?_)
            | (refine g_look rfl rfl ?_ (fun w' hC => ?_) ?_
               rotate_left
               · go_simp
                 first | done | rfl)
            simp only [Act.put, sa, sb, sc]
            first
            | (refine g_skip rfl ?_)
            | (refine g_look rfl rfl ?_ (fun w' hC => ?_) ?_
               rotate_left
               · go_simp
                 first | done | rfl)
            simp only [Act.put, sa, sb, sc]
            refine g_look rfl rfl ?_ (fun w' hC => ?_) ?_
            rotate_left
            · go_simp
              first | done | rfl
            simp only [Act.put, sa, sb, sc]
            refine g_end ?_
            intro w4 hC4 hh4
            have S4 : Hid (Stays [] w w4) := Lib.hid (stays_nil (stays_below hC4))
            clear S3
            clear hC4 hh4
            go_wp2_with fail
            go_meet
            exact ⟨_, _, rfl, rfl, HSG, HSO, S4⟩
          | cons b u =>
            have hb : byteL (b :: u) 0 = b.toNat := rfl
            have l1 : 0 < (b :: u).length := by simp
            have l2 : 1 ≤ u.length + 1 := by omega
            have l3 : (1 : Int) ≤ (u.length : Int) + 1 := by omega
            by_cases h45 : b = 45
            · subst h45
              have HSG : Hid (signed ((45 : UInt8) :: u) = ((-1 : Int), u)) := Lib.hid rfl
              have HSO : SgOk (-1) := Lib.hid (.inr rfl)
              go_upto_region 38 with fail
              refine reg_plain (Stays [] w) (Turns [] w) (kdOf []) none0 (stays_good _ _) (S3.out) (holds0 _) ?_
              refine g_look rfl rfl ?_ (fun w' hC => ?_) ?_
              rotate_left
              · go_simp
                first | done | rfl
              simp only [Act.put, sa, sb, sc]
              refine g_look rfl rfl (.bool true) (fun w' hC => ?_) ?_
              · clear hC
                go_simp
                first | done | rfl
              simp only [Act.put, sa, sb, sc]
              refine g_look rfl rfl ?_ (fun w' hC => ?_) ?_
              rotate_left
              · go_simp
                first | done | rfl
              simp only [Act.put, sa, sb, sc]
              first
              | (refine g_skip rfl ?_)
              | (refine g_look rfl rfl ?_ (fun w' hC => ?_) ?_
                 rotate_left
                 · go_simp
                   first | done | rfl)
              simp only [Act.put, sa, sb, sc]
              first
              | (refine g_skip rfl ?_)
              | (refine g_look rfl rfl (.int .u8 45) (fun w' hC => ?_) ?_
                 · clear hC
                   go_simp
                   first | done | rfl)
              simp only [Act.put, sa, sb, sc]
              first
              | (refine g_skip rfl ?_)
              | (refine g_look rfl rfl (.bool false) (fun w' hC => ?_) ?_
                 · clear hC
                   go_simp
                   first | done | rfl | exact hb43 | (simpa using hb43))
              simp only [Act.put, sa, sb, sc]
              first
              | (refine g_skip rfl ?_)
              | (refine g_look rfl rfl ?_ (fun w' hC => ?_) ?_
                 rotate_left
                 · go_simp
                   first | done | rfl)
              simp only [Act.put, sa, sb, sc]
              first
              | (refine g_skip rfl ?_)
              | (refine g_look rfl rfl ?_ (fun w' hC => ?_) ?_
                 rotate_left
                 · go_simp
                   first | done | rfl)
              simp only [Act.put, sa, sb, sc]
              first
              | (refine g_skip rfl ?_)
              | (refine g_look rfl rfl (.int .u8 45) (fun w' hC => ?_) ?_
                 · clear hC
                   go_simp
                   first | done | rfl)
              simp only [Act.put, sa, sb, sc]
              first
              | (refine g_skip rfl ?_)
              | (refine g_look rfl rfl (.bool true) (fun w' hC => ?_) ?_
                 · clear hC
                   go_simp
                   first | done | rfl | exact hb45 | (simpa using hb45))
              simp only [Act.put, sa, sb, sc]
              first
              | (refine g_skip rfl ?_)
              | (refine g_look rfl rfl ?_ (fun w' hC => ?_) ?_
                 rotate_left
                 · go_simp
                   first | done | rfl)
              simp only [Act.put, sa, sb, sc]
              refine g_look rfl rfl ?_ (fun w' hC => ?_) ?_
              rotate_left
              · go_simp
                first | done | rfl
              simp only [Act.put, sa, sb, sc]
              refine g_end ?_
              intro w4 hC4 hh4
              have S4 : Hid (Stays [] w w4) := Lib.hid (stays_nil (stays_below hC4))
              clear S3
              clear hC4 hh4
              go_upto_region 39 with fail
              refine reg_plain (Stays [] w) (Turns [] w) (kdOf []) none0 (stays_good _ _) (S4.out) (holds0 _) ?_
              refine g_look rfl rfl ?_ (fun w' hC => ?_) ?_
              rotate_left
              · go_simp
                first | done | rfl
              simp only [Act.put, sa, sb, sc]
              refine g_look rfl rfl (.int .u8 45) (fun w' hC => ?_) ?_
              · clear hC
                go_simp
                first | done | rfl
              simp only [Act.put, sa, sb, sc]
              refine g_look rfl rfl (.bool true) (fun w' hC => ?_) ?_
              · clear hC
                go_simp
                first | done | rfl
              simp only [Act.put, sa, sb, sc]
              refine g_end ?_
              intro w5 hC5 hh5
              have S5 : Hid (Stays [] w w5) := Lib.hid (stays_nil (stays_below hC5))
              clear S4
              clear hC5 hh5
              go_upto_region 40 with fail
              refine reg_plain (Stays [] w) (Turns [] w) (kdOf []) none0 (stays_good _ _) (S5.out) (holds0 _) ?_
              refine g_look rfl rfl ?_ (fun w' hC => ?_) ?_
              rotate_left
              · go_simp
                first | done | rfl
              simp only [Act.put, sa, sb, sc]
              refine g_end ?_
              intro w6 hC6 hh6
              have S6 : Hid (Stays [] w w6) := Lib.hid (stays_nil (stays_below hC6))
              clear S5
              clear hC6 hh6
              go_upto_region 41 with fail
              refine reg_plain (Stays [] w) (Turns [] w) (kdOf []) none0 (stays_good _ _) (S6.out) (holds0 _) ?_
              refine g_look rfl rfl ?_ (fun w' hC => ?_) ?_
              rotate_left
              · go_simp
                first | done | rfl
              simp only [Act.put, sa, sb, sc]
              refine g_look rfl rfl (.string ⟨u.toArray⟩) (fun w' hC => ?_) ?_
              · clear hC
                go_simp
                first | done | exact drop_one _ u | (rw [drop_one]; done) | (simp [drop_one]; done)
              simp only [Act.put, sa, sb, sc]
              refine g_look rfl rfl ?_ (fun w' hC => ?_) ?_
              rotate_left
              · go_simp
                first | done | rfl
              simp only [Act.put, sa, sb]
              refine g_end ?_
              intro w7 hC7 hh7
              have S7 : Hid (Stays [] w w7) := Lib.hid (stays_nil (stays_below hC7))
              clear S6
              clear hC7 hh7
              go_wp2_with fail
              go_meet
              exact ⟨_, _, rfl, rfl, HSG, HSO, S7⟩
            · by_cases h43 : b = 43
              · subst h43
                have HSG : Hid (signed ((43 : UInt8) :: u) = ((1 : Int), u)) := Lib.hid rfl
                have HSO : SgOk 1 := Lib.hid (.inl rfl)
                clear h45
                go_upto_region 38 with fail
                refine reg_plain (Stays [] w) (Turns [] w) (kdOf []) none0 (stays_good _ _) (S3.out) (holds0 _) ?_
                refine g_look rfl rfl ?_ (fun w' hC => ?_) ?_
                rotate_left
                · go_simp
                  first | done | rfl
                simp only [Act.put, sa, sb, sc]
                refine g_look rfl rfl (.bool true) (fun w' hC => ?_) ?_
                · clear hC
                  go_simp
                  first | done | rfl
                simp only [Act.put, sa, sb, sc]
                refine g_look rfl rfl ?_ (fun w' hC => ?_) ?_
                rotate_left
                · go_simp
                  first | done | rfl
                simp only [Act.put, sa, sb, sc]
                first
                | (refine g_skip rfl ?_)
                | (refine g_look rfl rfl ?_ (fun w' hC => ?_) ?_
                   rotate_left
                   · go_simp
                     first | done | rfl)
                simp only [Act.put, sa, sb, sc]
                first
                | (refine g_skip rfl ?_)
                | (refine g_look rfl rfl (.int .u8 43) (fun w' hC => ?_) ?_
                   · clear hC
                     go_simp
                     first | done | rfl)
                simp only [Act.put, sa, sb, sc]
                first
                | (refine g_skip rfl ?_)
                | (refine g_look rfl rfl (.bool true) (fun w' hC => ?_) ?_
                   · clear hC
                     go_simp
                     first | done | rfl | exact hb43 | (simpa using hb43))
                simp only [Act.put, sa, sb, sc]
                first
                | (refine g_skip rfl ?_)
                | (refine g_look rfl rfl ?_ (fun w' hC => ?_) ?_
                   rotate_left
                   · go_simp
                     first | done | rfl)
                simp only [Act.put, sa, sb, sc]
                first
                | (refine g_skip rfl ?_)
                | (refine g_look rfl rfl ?_ (fun w' hC => ?_) ?_
                   rotate_left
                   · go_simp
                     first | done | rfl)
                simp only [Act.put, sa, sb, sc]
                first
                | (refine g_skip rfl ?_)
                | (refine g_look rfl rfl (.int .u8 43) (fun w' hC => ?_) ?_
                   · clear hC
                     go_simp
                     first | done | rfl)
                simp only [Act.put, sa, sb, sc]
                first
                | (refine g_skip rfl ?_)
                | (refine g_look rfl rfl ?_ (fun w' hC => ?_) ?_
                   rotate_left
                   · go_simp
                     first | done | rfl)
                simp only [Act.put, sa, sb, sc]
                first
                | (refine g_skip rfl ?_)
                | (refine g_look rfl rfl ?_ (fun w' hC => ?_) ?_
                   rotate_left
                   · go_simp
                     first | done | rfl)
                simp only [Act.put, sa, sb, sc]
                refine g_look rfl rfl ?_ (fun w' hC => ?_) ?_
                rotate_left
                · go_simp
                  first | done | rfl
                simp only [Act.put, sa, sb, sc]
                refine g_end ?_
                intro w4 hC4 hh4
                have S4 : Hid (Stays [] w w4) := Lib.hid (stays_nil (stays_below hC4))
                clear S3
                clear hC4 hh4
                go_upto_region 39 with fail
                refine reg_plain (Stays [] w) (Turns [] w) (kdOf []) none0 (stays_good _ _) (S4.out) (holds0 _) ?_
                refine g_look rfl rfl ?_ (fun w' hC => ?_) ?_
                rotate_left
                · go_simp
                  first | done | rfl
                simp only [Act.put, sa, sb, sc]
                refine g_look rfl rfl (.int .u8 43) (fun w' hC => ?_) ?_
                · clear hC
                  go_simp
                  first | done | rfl
                simp only [Act.put, sa, sb, sc]
                refine g_look rfl rfl (.bool false) (fun w' hC => ?_) ?_
                · clear hC
                  go_simp
                  first | done | rfl
                simp only [Act.put, sa, sb, sc]
                refine g_end ?_
                intro w5 hC5 hh5
                have S5 : Hid (Stays [] w w5) := Lib.hid (stays_nil (stays_below hC5))
                clear S4
                clear hC5 hh5
                go_upto_region 41 with fail
                refine reg_plain (Stays [] w) (Turns [] w) (kdOf []) none0 (stays_good _ _) (S5.out) (holds0 _) ?_
                refine g_look rfl rfl ?_ (fun w' hC => ?_) ?_
                rotate_left
                · go_simp
                  first | done | rfl
                simp only [Act.put, sa, sb, sc]
                refine g_look rfl rfl (.string ⟨u.toArray⟩) (fun w' hC => ?_) ?_
                · clear hC
                  go_simp
                  first | done | exact drop_one _ u | (rw [drop_one]; done) | (simp [drop_one]; done)
                simp only [Act.put, sa, sb, sc]
                refine g_look rfl rfl ?_ (fun w' hC => ?_) ?_
                rotate_left
                · go_simp
                  first | done | rfl
                simp only [Act.put, sa, sb]
                refine g_end ?_
                intro w6 hC6 hh6
                have S6 : Hid (Stays [] w w6) := Lib.hid (stays_nil (stays_below hC6))
                clear S5
                clear hC6 hh6
                go_wp2_with fail
                go_meet
                exact ⟨_, _, rfl, rfl, HSG, HSO, S6⟩
              · have HSG : Hid (signed (b :: u) = ((1 : Int), b :: u)) := Lib.hid (by simp [signed, h45, h43])
                have HSO : SgOk 1 := Lib.hid (.inl rfl)
                have hb43 : ¬ (b.toNat : Int) = 43 := fun e => h43 (UInt8.toNat_inj.1 (by show b.toNat = 43; omega))
                have hb45 : ¬ (b.toNat : Int) = 45 := fun e => h45 (UInt8.toNat_inj.1 (by show b.toNat = 45; omega))
                go_upto_region 38 with fail
                refine reg_plain (Stays [] w) (Turns [] w) (kdOf []) none0 (stays_good _ _) (S3.out) (holds0 _) ?_
                refine g_look rfl rfl ?_ (fun w' hC => ?_) ?_
                rotate_left
                · go_simp
                  first | done | rfl
                simp only [Act.put, sa, sb, sc]
                refine g_look rfl rfl (.bool true) (fun w' hC => ?_) ?_
                · clear hC
                  go_simp
                  first | done | rfl
                simp only [Act.put, sa, sb, sc]
                refine g_look rfl rfl ?_ (fun w' hC => ?_) ?_
                rotate_left
                · go_simp
                  first | done | rfl
                simp only [Act.put, sa, sb, sc]
                first
                | (refine g_skip rfl ?_)
                | (refine g_look rfl rfl ?_ (fun w' hC => ?_) ?_
                   rotate_left
                   · go_simp
                     first | done | rfl)
                simp only [Act.put, sa, sb, sc]
                first
                | (refine g_skip rfl ?_)
                | (refine g_look rfl rfl (.int .u8 (b.toNat : Int)) (fun w' hC => ?_) ?_
                   · clear hC
                     go_simp
                     first | done | rfl)
                simp only [Act.put, sa, sb, sc]
                first
                | (refine g_skip rfl ?_)
                | (refine g_look rfl rfl (.bool false) (fun w' hC => ?_) ?_
                   · clear hC
                     go_simp
                     first | done | rfl | exact hb43 | (simpa using hb43))
                simp only [Act.put, sa, sb, sc]
                first
                | (refine g_skip rfl ?_)
                | (refine g_look rfl rfl ?_ (fun w' hC => ?_) ?_
                   rotate_left
                   · go_simp
                     first | done | rfl)
                simp only [Act.put, sa, sb, sc]
                first
                | (refine g_skip rfl ?_)
                | (refine g_look rfl rfl ?_ (fun w' hC => ?_) ?_
                   rotate_left
                   · go_simp
                     first | done | rfl)
                simp only [Act.put, sa, sb, sc]
                first
                | (refine g_skip rfl ?_)
                | (refine g_look rfl rfl (.int .u8 (b.toNat : Int)) (fun w' hC => ?_) ?_
                   · clear hC
                     go_simp
                     first | done | rfl)
                simp only [Act.put, sa, sb, sc]
                first
                | (refine g_skip rfl ?_)
                | (refine g_look rfl rfl (.bool false) (fun w' hC => ?_) ?_
                   · clear hC
                     go_simp
                     first | done | rfl | exact hb45 | (simpa using hb45))
                simp only [Act.put, sa, sb, sc]
                first
                | (refine g_skip rfl ?_)
                | (refine g_look rfl rfl ?_ (fun w' hC => ?_) ?_
                   rotate_left
                   · go_simp
                     first | done | rfl)
                simp only [Act.put, sa, sb, sc]
                refine g_look rfl rfl ?_ (fun w' hC => ?_) ?_
                rotate_left
                · go_simp
                  first | done | rfl
                simp only [Act.put, sa, sb, sc]
                refine g_end ?_
                intro w4 hC4 hh4
                have S4 : Hid (Stays [] w w4) := Lib.hid (stays_nil (stays_below hC4))
                clear S3
                clear hC4 hh4
                go_wp2_with fail
                go_meet
                exact ⟨_, _, rfl, rfl, HSG, HSO, S4⟩
        case rest =>
          obtain ⟨m, sg, rfl, rfl, HSG, HSO, S90⟩ := hcut
          clear S3
          cases m with
          | nil =>
            go_upto_region 42 with fail
            refine reg_plain (Stays [] w) (Turns [] w) (kdOf []) none0 (stays_good _ _) (S90.out) (holds0 _) ?_
            refine g_look rfl rfl ?_ (fun w' hC => ?_) ?_
            rotate_left
            · go_simp
              first | done | rfl
            simp only [Act.put, sa, sb, sc]
            refine g_look rfl rfl ?_ (fun w' hC => ?_) ?_
            rotate_left
            · go_simp
              first | done | rfl
            simp only [Act.put, sa, sb, sc]
            refine g_look rfl rfl (.bool false) (fun w' hC => ?_) ?_
            · clear hC
              go_simp
              first | done | rfl | omega | (simp; done) | (simp; omega)
            simp only [Act.put, sa, sb, sc]
            refine g_look rfl rfl ?_ (fun w' hC => ?_) ?_
            rotate_left
            · go_simp
              first | done | rfl
            simp only [Act.put, sa, sb, sc]
            first
            | (refine g_skip rfl ?_)
            | (refine g_look rfl rfl ?_ (fun w' hC => ?_) ?_
               rotate_left
               · go_simp
                 first | done | rfl)
            simp only [Act.put, sa, sb, sc]
            first
            | (refine g_skip rfl ?_)
            | (refine g_look rfl rfl (.int .u8 (x.toNat : Int)) (fun w' hC => ?_) ?_
               · clear hC
                 go_simp
                 first | done | rfl | (simp [byteL]; done))
            simp only [Act.put, sa, sb, sc]
            refine g_skip rfl ?_
            simp only [Act.put, sa, sb, sc]
            refine g_look rfl rfl ?_ (fun w' hC => ?_) ?_
            rotate_left
            · go_simp
              first | done | rfl
            simp only [Act.put, sa, sb, sc]
            refine g_end ?_
            intro w91 hC91 hh91
            have S91 : Hid (Stays [] w w91) := Lib.hid (stays_nil (stays_below hC91))
            clear S90
            clear hC91 hh91
            go_upto_region 44 with fail
            refine reg_plain (Stays [] w) (Turns [] w) (kdOf []) none0 (stays_good _ _) (S91.out) (holds0 _) ?_
            refine g_look rfl rfl ?_ (fun w' hC => ?_) ?_
            rotate_left
            · go_simp
              first | done | rfl
            simp only [Act.put, sa, sb, sc]
            refine g_look rfl rfl ?_ (fun w' hC => ?_) ?_
            rotate_left
            · go_simp
              first | done | rfl
            simp only [Act.put, sa, sb, sc]
            refine g_look rfl rfl (.bool false) (fun w' hC => ?_) ?_
            · clear hC
              go_simp
              first | done | rfl | omega | (simp; done) | (simp; omega)
            simp only [Act.put, sa, sb, sc]
            refine g_look rfl rfl ?_ (fun w' hC => ?_) ?_
            rotate_left
            · go_simp
              first | done | rfl
            simp only [Act.put, sa, sb, sc]
            first
            | (refine g_skip rfl ?_)
            | (refine g_look rfl rfl ?_ (fun w' hC => ?_) ?_
               rotate_left
               · go_simp
                 first | done | rfl)
            simp only [Act.put, sa, sb, sc]
            first
            | (refine g_skip rfl ?_)
            | (refine g_look rfl rfl (.int .u8 (x.toNat : Int)) (fun w' hC => ?_) ?_
               · clear hC
                 go_simp
                 first | done | rfl | (simp [byteL]; done))
            simp only [Act.put, sa, sb, sc]
            refine g_skip rfl ?_
            simp only [Act.put, sa, sb, sc]
            refine g_look rfl rfl ?_ (fun w' hC => ?_) ?_
            rotate_left
            · go_simp
              first | done | rfl
            simp only [Act.put, sa, sb, sc]
            refine g_look rfl rfl ?_ (fun w' hC => ?_) ?_
            rotate_left
            · go_simp
              first | done | rfl
            simp only [Act.put, sa, sb, sc]
            first
            | (refine g_skip rfl ?_)
            | (refine g_look rfl rfl ?_ (fun w' hC => ?_) ?_
               rotate_left
               · go_simp
                 first | done | rfl)
            simp only [Act.put, sa, sb, sc]
            first
            | (refine g_skip rfl ?_)
            | (refine g_look rfl rfl (.int .u8 (y.toNat : Int)) (fun w' hC => ?_) ?_
               · clear hC
                 go_simp
                 first | done | rfl | (simp [byteL]; done))
            simp only [Act.put, sa, sb, sc]
            refine g_skip rfl ?_
            simp only [Act.put, sa, sb, sc]
            refine g_look rfl rfl ?_ (fun w' hC => ?_) ?_
            rotate_left
            · go_simp
              first | done | rfl
            simp only [Act.put, sa, sb, sc]
            refine g_end ?_
            intro w92 hC92 hh92
            have S92 : Hid (Stays [] w w92) := Lib.hid (stays_nil (stays_below hC92))
            clear S91
            clear hC92 hh92
            go_upto_region 46 with fail
            refine reg_plain (Stays [] w) (Turns [] w) (kdOf []) none0 (stays_good _ _) (S92.out) (holds0 _) ?_
            refine g_look rfl rfl ?_ (fun w' hC => ?_) ?_
            rotate_left
            · go_simp
              first | done | rfl
            simp only [Act.put, sa, sb, sc]
            refine g_look rfl rfl ?_ (fun w' hC => ?_) ?_
            rotate_left
            · go_simp
              first | done | rfl
            simp only [Act.put, sa, sb, sc]
            refine g_look rfl rfl ?_ (fun w' hC => ?_) ?_
            rotate_left
            · go_simp
              first | done | rfl
            simp only [Act.put, sa, sb, sc]
            refine g_end ?_
            intro w93 hC93 hh93
            have S93 : Hid (Stays [] w w93) := Lib.hid (stays_nil (stays_below hC93))
            clear S92
            clear hC93 hh93
            go_wp2_with fail
            refine bodyPost_ret (v := .tuple #[.int .i64 0, .int .i64 0, .bool false]) (by simp [results, Try.results36, go_sem]) rfl ⟨congrArg Ending.returned ((rscale_none (HSE.out.trans (exp_no HSG.out (by simp)))).symm), stays_below S93.out⟩
          | cons x m1 =>
            cases m1 with
            | nil =>
              cases hx : isD x with
              | true =>
                obtain ⟨d, hd, hd9, w1, w2⟩ := x_facts hx
                have HX := Lib.hid hx
                have HD := Lib.hid hd
                have HW1 := Lib.hid w1
                have HW2 := Lib.hid w2
                have HW3 := Lib.hid (sg_one (d := d) HSO.out hd9)
                clear hx hd w1 w2
                go_upto_region 42 with fail
                refine reg_plain (Stays [] w) (Turns [] w) (kdOf [(6, .make (fun _ => callM (.bool true)))]) none0 (stays_good _ _) (S90.out) (holds0 _) ?_
                refine g_look rfl rfl ?_ (fun w' hC => ?_) ?_
                rotate_left
                · go_simp
                  first | done | rfl
                simp only [Act.put, sa, sb, sc]
                refine g_look rfl rfl ?_ (fun w' hC => ?_) ?_
                rotate_left
                · go_simp
                  first | done | rfl
                simp only [Act.put, sa, sb, sc]
                refine g_look rfl rfl (.bool true) (fun w' hC => ?_) ?_
                · clear hC
                  go_simp
                  first | done | rfl | omega | (simp; done) | (simp; omega)
                simp only [Act.put, sa, sb, sc]
                refine g_look rfl rfl ?_ (fun w' hC => ?_) ?_
                rotate_left
                · go_simp
                  first | done | rfl
                simp only [Act.put, sa, sb, sc]
                first
                | (refine g_skip rfl ?_)
                | (refine g_look rfl rfl ?_ (fun w' hC => ?_) ?_
                   rotate_left
                   · go_simp
                     first | done | rfl)
                simp only [Act.put, sa, sb, sc]
                first
                | (refine g_skip rfl ?_)
                | (refine g_look rfl rfl (.int .u8 (x.toNat : Int)) (fun w' hC => ?_) ?_
                   · clear hC
                     go_simp
                     first | done | rfl | (simp [byteL]; done))
                simp only [Act.put, sa, sb, sc]
                refine g_call (stays_good _ _) (.bool true) rfl rfl (fun w' hC => ?_) ?_
                · clear hC
                  go_simp
                  refine (digit_any _ x).mono (fun e w2 h => ?_)
                  obtain ⟨h1, h2⟩ := h
                  rw [HX.out] at h1
                  exact gives h1 h2
                simp only [Act.put, sa, sb, sc]
                refine g_look rfl rfl ?_ (fun w' hC => ?_) ?_
                rotate_left
                · go_simp
                  first | done | rfl
                simp only [Act.put, sa, sb, sc]
                refine g_end ?_
                intro w91 hC91 hh91
                have S91 : Hid (Stays [] w w91) := Lib.hid (stays_nil (stays_below hC91))
                clear S90
                clear hC91 hh91
                go_upto_region 43 with fail
                refine reg_plain (Stays [] w) (Turns [] w) (kdOf []) none0 (stays_good _ _) (S91.out) (holds0 _) ?_
                refine g_look rfl rfl ?_ (fun w' hC => ?_) ?_
                rotate_left
                · go_simp
                  first | done | rfl
                simp only [Act.put, sa, sb, sc]
                refine g_look rfl rfl ?_ (fun w' hC => ?_) ?_
                rotate_left
                · go_simp
                  first | done | rfl
                simp only [Act.put, sa, sb, sc]
                refine g_look rfl rfl (.int .u8 (x.toNat : Int)) (fun w' hC => ?_) ?_
                · clear hC
                  go_simp
                  first | done | rfl | (simp [byteL]; done)
                simp only [Act.put, sa, sb, sc]
                refine g_look rfl rfl (.int .u8 (d : Int)) (fun w' hC => ?_) ?_
                · clear hC
                  go_simp
                  first | done | exact HW1.out | (rw [HW1.out]; done)
                simp only [Act.put, sa, sb, sc]
                refine g_look rfl rfl (.int .i64 (d : Int)) (fun w' hC => ?_) ?_
                · clear hC
                  go_simp
                  first | done | exact HW2.out | (rw [HW2.out]; done)
                simp only [Act.put, sa, sb, sc]
                refine g_look rfl rfl (.int .i64 (sg * (d : Int))) (fun w' hC => ?_) ?_
                · clear hC
                  go_simp
                  first | done | exact HW3.out | (simpa using HW3.out)
                simp only [Act.put, sa, sb, sc]
                refine g_look rfl rfl ?_ (fun w' hC => ?_) ?_
                rotate_left
                · go_simp
                  first | done | rfl
                simp only [Act.put, sa, sb, sc]
                refine g_look rfl rfl ?_ (fun w' hC => ?_) ?_
                rotate_left
                · go_simp
                  first | done | rfl
                simp only [Act.put, sa, sb, sc]
                refine g_look rfl rfl ?_ (fun w' hC => ?_) ?_
                rotate_left
                · go_simp
                  first | done | rfl
                simp only [Act.put, sa, sb, sc]
                refine g_end ?_
                intro w92 hC92 hh92
                have S92 : Hid (Stays [] w w92) := Lib.hid (stays_nil (stays_below hC92))
                clear S91
                clear hC92 hh92
                go_wp2_with fail
                refine bodyPost_ret (v := .tuple #[.int .i64 (sg * (d : Int)), .int .i64 0, .bool true]) (by simp [results, Try.results36, go_sem]) rfl ⟨congrArg Ending.returned ((rscale_some (HSE.out.trans (exp_one HSG.out HX.out HD.out))).symm), stays_below S92.out⟩
              | false =>
                have HX := Lib.hid hx
                clear hx
                go_upto_region 42 with fail
                refine reg_plain (Stays [] w) (Turns [] w) (kdOf [(6, .make (fun _ => callM (.bool false)))]) none0 (stays_good _ _) (S90.out) (holds0 _) ?_
                refine g_look rfl rfl ?_ (fun w' hC => ?_) ?_
                rotate_left
                · go_simp
                  first | done | rfl
                simp only [Act.put, sa, sb, sc]
                refine g_look rfl rfl ?_ (fun w' hC => ?_) ?_
                rotate_left
                · go_simp
                  first | done | rfl
                simp only [Act.put, sa, sb, sc]
                refine g_look rfl rfl (.bool true) (fun w' hC => ?_) ?_
                · clear hC
                  go_simp
                  first | done | rfl | omega | (simp; done) | (simp; omega)
                simp only [Act.put, sa, sb, sc]
                refine g_look rfl rfl ?_ (fun w' hC => ?_) ?_
                rotate_left
                · go_simp
                  first | done | rfl
                simp only [Act.put, sa, sb, sc]
                first
                | (refine g_skip rfl ?_)
                | (refine g_look rfl rfl ?_ (fun w' hC => ?_) ?_
                   rotate_left
                   · go_simp
                     first | done | rfl)
                simp only [Act.put, sa, sb, sc]
                first
                | (refine g_skip rfl ?_)
                | (refine g_look rfl rfl (.int .u8 (x.toNat : Int)) (fun w' hC => ?_) ?_
                   · clear hC
                     go_simp
                     first | done | rfl | (simp [byteL]; done))
                simp only [Act.put, sa, sb, sc]
                refine g_call (stays_good _ _) (.bool false) rfl rfl (fun w' hC => ?_) ?_
                · clear hC
                  go_simp
                  refine (digit_any _ x).mono (fun e w2 h => ?_)
                  obtain ⟨h1, h2⟩ := h
                  rw [HX.out] at h1
                  exact gives h1 h2
                simp only [Act.put, sa, sb, sc]
                refine g_look rfl rfl ?_ (fun w' hC => ?_) ?_
                rotate_left
                · go_simp
                  first | done | rfl
                simp only [Act.put, sa, sb, sc]
                refine g_end ?_
                intro w91 hC91 hh91
                have S91 : Hid (Stays [] w w91) := Lib.hid (stays_nil (stays_below hC91))
                clear S90
                clear hC91 hh91
                go_upto_region 44 with fail
                refine reg_plain (Stays [] w) (Turns [] w) (kdOf []) none0 (stays_good _ _) (S91.out) (holds0 _) ?_
                refine g_look rfl rfl ?_ (fun w' hC => ?_) ?_
                rotate_left
                · go_simp
                  first | done | rfl
                simp only [Act.put, sa, sb, sc]
                refine g_look rfl rfl ?_ (fun w' hC => ?_) ?_
                rotate_left
                · go_simp
                  first | done | rfl
                simp only [Act.put, sa, sb, sc]
                refine g_look rfl rfl (.bool false) (fun w' hC => ?_) ?_
                · clear hC
                  go_simp
                  first | done | rfl | omega | (simp; done) | (simp; omega)
                simp only [Act.put, sa, sb, sc]
                refine g_look rfl rfl ?_ (fun w' hC => ?_) ?_
                rotate_left
                · go_simp
                  first | done | rfl
                simp only [Act.put, sa, sb, sc]
                first
                | (refine g_skip rfl ?_)
                | (refine g_look rfl rfl ?_ (fun w' hC => ?_) ?_
                   rotate_left
                   · go_simp
                     first | done | rfl)
                simp only [Act.put, sa, sb, sc]
                first
                | (refine g_skip rfl ?_)
                | (refine g_look rfl rfl (.int .u8 (x.toNat : Int)) (fun w' hC => ?_) ?_
                   · clear hC
                     go_simp
                     first | done | rfl | (simp [byteL]; done))
                simp only [Act.put, sa, sb, sc]
                refine g_skip rfl ?_
                simp only [Act.put, sa, sb, sc]
                refine g_look rfl rfl ?_ (fun w' hC => ?_) ?_
                rotate_left
                · go_simp
                  first | done | rfl
                simp only [Act.put, sa, sb, sc]
                refine g_look rfl rfl ?_ (fun w' hC => ?_) ?_
                rotate_left
                · go_simp
                  first | done | rfl
                simp only [Act.put, sa, sb, sc]
                first
                | (refine g_skip rfl ?_)
                | (refine g_look rfl rfl ?_ (fun w' hC => ?_) ?_
                   rotate_left
                   · go_simp
                     first | done | rfl)
                simp only [Act.put, sa, sb, sc]
                first
                | (refine g_skip rfl ?_)
                | (refine g_look rfl rfl (.int .u8 (y.toNat : Int)) (fun w' hC => ?_) ?_
                   · clear hC
                     go_simp
                     first | done | rfl | (simp [byteL]; done))
                simp only [Act.put, sa, sb, sc]
                refine g_skip rfl ?_
                simp only [Act.put, sa, sb, sc]
                refine g_look rfl rfl ?_ (fun w' hC => ?_) ?_
                rotate_left
                · go_simp
                  first | done | rfl
                simp only [Act.put, sa, sb, sc]
                refine g_end ?_
                intro w92 hC92 hh92
                have S92 : Hid (Stays [] w w92) := Lib.hid (stays_nil (stays_below hC92))
                clear S91
                clear hC92 hh92
                go_upto_region 46 with fail
                refine reg_plain (Stays [] w) (Turns [] w) (kdOf []) none0 (stays_good _ _) (S92.out) (holds0 _) ?_
                refine g_look rfl rfl ?_ (fun w' hC => ?_) ?_
                rotate_left
                · go_simp
                  first | done | rfl
                simp only [Act.put, sa, sb, sc]
                refine g_look rfl rfl ?_ (fun w' hC => ?_) ?_
                rotate_left
                · go_simp
                  first | done | rfl
                simp only [Act.put, sa, sb, sc]
                refine g_look rfl rfl ?_ (fun w' hC => ?_) ?_
                rotate_left
                · go_simp
                  first | done | rfl
                simp only [Act.put, sa, sb, sc]
                refine g_end ?_
                intro w93 hC93 hh93
                have S93 : Hid (Stays [] w w93) := Lib.hid (stays_nil (stays_below hC93))
                clear S92
                clear hC93 hh93
                go_wp2_with fail
                refine bodyPost_ret (v := .tuple #[.int .i64 0, .int .i64 0, .bool false]) (by simp [results, Try.results36, go_sem]) rfl ⟨congrArg Ending.returned ((rscale_none (HSE.out.trans (exp_no HSG.out (cnt_bad HX.out (by simp))))).symm), stays_below S93.out⟩
            | cons y m2 =>
              cases m2 with
              | nil =>
                cases hx : isD x with
                | true =>
                  cases hy : isD y with
                  | true =>
                    obtain ⟨d, hd, hd9, w1, w2⟩ := x_facts hx
                    obtain ⟨e, he, he9, w3, w4⟩ := x_facts hy
                    obtain ⟨w5, w6, w7⟩ := sg_two (d := d) (e := e) HSO.out hd9 he9
                    have HX := Lib.hid hx
                    have HY := Lib.hid hy
                    have HD := Lib.hid hd
                    have HE := Lib.hid he
                    have HW1 := Lib.hid w1
                    have HW2 := Lib.hid w2
                    have HW3 := Lib.hid w3
                    have HW4 := Lib.hid w4
                    have HW5 := Lib.hid w5
                    have HW6 := Lib.hid w6
                    have HW7 := Lib.hid w7
                    clear hx hy hd he w1 w2 w3 w4 w5 w6 w7
                    go_upto_region 42 with fail
                    refine reg_plain (Stays [] w) (Turns [] w) (kdOf []) none0 (stays_good _ _) (S90.out) (holds0 _) ?_
                    refine g_look rfl rfl ?_ (fun w' hC => ?_) ?_
                    rotate_left
                    · go_simp
                      first | done | rfl
                    simp only [Act.put, sa, sb, sc]
                    refine g_look rfl rfl ?_ (fun w' hC => ?_) ?_
                    rotate_left
                    · go_simp
                      first | done | rfl
                    simp only [Act.put, sa, sb, sc]
                    refine g_look rfl rfl (.bool false) (fun w' hC => ?_) ?_
                    · clear hC
                      go_simp
                      first | done | rfl | omega | (simp; done) | (simp; omega)
                    simp only [Act.put, sa, sb, sc]
                    refine g_look rfl rfl ?_ (fun w' hC => ?_) ?_
                    rotate_left
                    · go_simp
                      first | done | rfl
                    simp only [Act.put, sa, sb, sc]
                    first
                    | (refine g_skip rfl ?_)
                    | (refine g_look rfl rfl ?_ (fun w' hC => ?_) ?_
                       rotate_left
                       · go_simp
                         first | done | rfl)
                    simp only [Act.put, sa, sb, sc]
                    first
                    | (refine g_skip rfl ?_)
                    | (refine g_look rfl rfl (.int .u8 (x.toNat : Int)) (fun w' hC => ?_) ?_
                       · clear hC
                         go_simp
                         first | done | rfl | (simp [byteL]; done))
                    simp only [Act.put, sa, sb, sc]
                    refine g_skip rfl ?_
                    simp only [Act.put, sa, sb, sc]
                    refine g_look rfl rfl ?_ (fun w' hC => ?_) ?_
                    rotate_left
                    · go_simp
                      first | done | rfl
                    simp only [Act.put, sa, sb, sc]
                    refine g_end ?_
                    intro w91 hC91 hh91
                    have S91 : Hid (Stays [] w w91) := Lib.hid (stays_nil (stays_below hC91))
                    clear S90
                    clear hC91 hh91
                    go_upto_region 44 with fail
                    refine reg_plain (Stays [] w) (Turns [] w) (kdOf [(6, .make (fun _ => callM (.bool true))), (11, .make (fun _ => callM (.bool true)))]) none0 (stays_good _ _) (S91.out) (holds0 _) ?_
                    refine g_look rfl rfl ?_ (fun w' hC => ?_) ?_
                    rotate_left
                    · go_simp
                      first | done | rfl
                    simp only [Act.put, sa, sb, sc]
                    refine g_look rfl rfl ?_ (fun w' hC => ?_) ?_
                    rotate_left
                    · go_simp
                      first | done | rfl
                    simp only [Act.put, sa, sb, sc]
                    refine g_look rfl rfl (.bool true) (fun w' hC => ?_) ?_
                    · clear hC
                      go_simp
                      first | done | rfl | omega | (simp; done) | (simp; omega)
                    simp only [Act.put, sa, sb, sc]
                    refine g_look rfl rfl ?_ (fun w' hC => ?_) ?_
                    rotate_left
                    · go_simp
                      first | done | rfl
                    simp only [Act.put, sa, sb, sc]
                    first
                    | (refine g_skip rfl ?_)
                    | (refine g_look rfl rfl ?_ (fun w' hC => ?_) ?_
                       rotate_left
                       · go_simp
                         first | done | rfl)
                    simp only [Act.put, sa, sb, sc]
                    first
                    | (refine g_skip rfl ?_)
                    | (refine g_look rfl rfl (.int .u8 (x.toNat : Int)) (fun w' hC => ?_) ?_
                       · clear hC
                         go_simp
                         first | done | rfl | (simp [byteL]; done))
                    simp only [Act.put, sa, sb, sc]
                    refine g_call (stays_good _ _) (.bool true) rfl rfl (fun w' hC => ?_) ?_
                    · clear hC
                      go_simp
                      refine (digit_any _ x).mono (fun e w2 h => ?_)
                      obtain ⟨h1, h2⟩ := h
                      rw [HX.out] at h1
                      exact gives h1 h2
                    simp only [Act.put, sa, sb, sc]
                    refine g_look rfl rfl ?_ (fun w' hC => ?_) ?_
                    rotate_left
                    · go_simp
                      first | done | rfl
                    simp only [Act.put, sa, sb, sc]
                    refine g_look rfl rfl ?_ (fun w' hC => ?_) ?_
                    rotate_left
                    · go_simp
                      first | done | rfl
                    simp only [Act.put, sa, sb, sc]
                    first
                    | (refine g_skip rfl ?_)
                    | (refine g_look rfl rfl ?_ (fun w' hC => ?_) ?_
                       rotate_left
                       · go_simp
                         first | done | rfl)
                    simp only [Act.put, sa, sb, sc]
                    first
                    | (refine g_skip rfl ?_)
                    | (refine g_look rfl rfl (.int .u8 (y.toNat : Int)) (fun w' hC => ?_) ?_
                       · clear hC
                         go_simp
                         first | done | rfl | (simp [byteL]; done))
                    simp only [Act.put, sa, sb, sc]
                    refine g_call (stays_good _ _) (.bool true) rfl rfl (fun w' hC => ?_) ?_
                    · clear hC
                      go_simp
                      refine (digit_any _ y).mono (fun e w2 h => ?_)
                      obtain ⟨h1, h2⟩ := h
                      rw [HY.out] at h1
                      exact gives h1 h2
                    simp only [Act.put, sa, sb, sc]
                    refine g_look rfl rfl ?_ (fun w' hC => ?_) ?_
                    rotate_left
                    · go_simp
                      first | done | rfl
                    simp only [Act.put, sa, sb, sc]
                    refine g_end ?_
                    intro w92 hC92 hh92
                    have S92 : Hid (Stays [] w w92) := Lib.hid (stays_nil (stays_below hC92))
                    clear S91
                    clear hC92 hh92
                    go_upto_region 45 with fail
                    refine reg (Stays [] w) (Turns [] w) (kdOf []) none0 (stays_good _ _) (by kernel_rfl) (by kernel_rfl) (stays_drew (S92.out)) (holds0 _) ?_
                    refine g_look rfl rfl ?_ (fun w' hC => ?_) ?_
                    rotate_left
                    · go_simp
                      first | done | rfl
                    simp only [Act.put, sa, sb, sc]
                    refine g_look rfl rfl ?_ (fun w' hC => ?_) ?_
                    rotate_left
                    · go_simp
                      first | done | rfl
                    simp only [Act.put, sa, sb, sc]
                    refine g_look rfl rfl (.int .u8 (x.toNat : Int)) (fun w' hC => ?_) ?_
                    · clear hC
                      go_simp
                      first | done | rfl | (simp [byteL]; done)
                    simp only [Act.put, sa, sb, sc]
                    refine g_look rfl rfl (.int .u8 (d : Int)) (fun w' hC => ?_) ?_
                    · clear hC
                      go_simp
                      first | done | exact HW1.out | (rw [HW1.out]; done) | (simpa using HW1.out)
                    simp only [Act.put, sa, sb, sc]
                    refine g_look rfl rfl (.int .i64 (d : Int)) (fun w' hC => ?_) ?_
                    · clear hC
                      go_simp
                      first | done | exact HW2.out | (rw [HW2.out]; done) | (simpa using HW2.out)
                    simp only [Act.put, sa, sb, sc]
                    refine g_look rfl rfl (.int .i64 (10 * (d : Int))) (fun w' hC => ?_) ?_
                    · clear hC
                      go_simp
                      first | done | exact HW5.out | (rw [HW5.out]; done) | (simpa using HW5.out)
                    simp only [Act.put, sa, sb, sc]
                    refine g_look rfl rfl ?_ (fun w' hC => ?_) ?_
                    rotate_left
                    · go_simp
                      first | done | rfl
                    simp only [Act.put, sa, sb, sc]
                    refine g_look rfl rfl (.int .u8 (y.toNat : Int)) (fun w' hC => ?_) ?_
                    · clear hC
                      go_simp
                      first | done | rfl | (simp [byteL]; done)
                    simp only [Act.put, sa, sb, sc]
                    refine g_look rfl rfl (.int .u8 (e : Int)) (fun w' hC => ?_) ?_
                    · clear hC
                      go_simp
                      first | done | exact HW3.out | (rw [HW3.out]; done) | (simpa using HW3.out)
                    simp only [Act.put, sa, sb, sc]
                    refine g_look rfl rfl (.int .i64 (e : Int)) (fun w' hC => ?_) ?_
                    · clear hC
                      go_simp
                      first | done | exact HW4.out | (rw [HW4.out]; done) | (simpa using HW4.out)
                    simp only [Act.put, sa, sb, sc]
                    refine g_look rfl rfl (.int .i64 ((10 * d + e : Nat) : Int)) (fun w' hC => ?_) ?_
                    · clear hC
                      go_simp
                      first | done | exact HW6.out | (rw [HW6.out]; done) | (simpa using HW6.out)
                    simp only [Act.put, sa, sb, sc]
                    refine g_look rfl rfl (.int .i64 (sg * ((10 * d + e : Nat) : Int))) (fun w' hC => ?_) ?_
                    · clear hC
                      go_simp
                      first | done | exact HW7.out | (rw [HW7.out]; done) | (simpa using HW7.out)
                    simp only [Act.put, sa, sb, sc]
                    refine g_look rfl rfl ?_ (fun w' hC => ?_) ?_
                    rotate_left
                    · go_simp
                      first | done | rfl
                    simp only [Act.put, sa, sb, sc]
                    refine g_look rfl rfl ?_ (fun w' hC => ?_) ?_
                    rotate_left
                    · go_simp
                      first | done | rfl
                    simp only [Act.put, sa, sb, sc]
                    refine g_look rfl rfl ?_ (fun w' hC => ?_) ?_
                    rotate_left
                    · go_simp
                      first | done | rfl
                    simp only [Act.put, sa, sb, sc]
                    refine g_end ?_
                    intro w93 hC93 hh93
                    have S93 : Hid (Stays [] w w93) := Lib.hid (stays_nil (stays_below hC93))
                    clear S92
                    clear hC93 hh93
                    go_wp2_with fail
                    refine bodyPost_ret (v := .tuple #[.int .i64 (sg * ((10 * d + e : Nat) : Int)), .int .i64 0, .bool true]) (by simp [results, Try.results36, go_sem]) rfl ⟨congrArg Ending.returned ((rscale_some (HSE.out.trans (exp_two HSG.out HX.out HY.out HD.out HE.out))).symm), stays_below S93.out⟩
                  | false =>
                    have HX := Lib.hid hx
                    have HY := Lib.hid hy
                    clear hx hy
                    go_upto_region 42 with fail
                    refine reg_plain (Stays [] w) (Turns [] w) (kdOf []) none0 (stays_good _ _) (S90.out) (holds0 _) ?_
                    refine g_look rfl rfl ?_ (fun w' hC => ?_) ?_
                    rotate_left
                    · go_simp
                      first | done | rfl
                    simp only [Act.put, sa, sb, sc]
                    refine g_look rfl rfl ?_ (fun w' hC => ?_) ?_
                    rotate_left
                    · go_simp
                      first | done | rfl
                    simp only [Act.put, sa, sb, sc]
                    refine g_look rfl rfl (.bool false) (fun w' hC => ?_) ?_
                    · clear hC
                      go_simp
                      first | done | rfl | omega | (simp; done) | (simp; omega)
                    simp only [Act.put, sa, sb, sc]
                    refine g_look rfl rfl ?_ (fun w' hC => ?_) ?_
                    rotate_left
                    · go_simp
                      first | done | rfl
                    simp only [Act.put, sa, sb, sc]
                    first
                    | (refine g_skip rfl ?_)
                    | (refine g_look rfl rfl ?_ (fun w' hC => ?_) ?_
                       rotate_left
                       · go_simp
                         first | done | rfl)
                    simp only [Act.put, sa, sb, sc]
                    first
                    | (refine g_skip rfl ?_)
                    | (refine g_look rfl rfl (.int .u8 (x.toNat : Int)) (fun w' hC => ?_) ?_
                       · clear hC
                         go_simp
                         first | done | rfl | (simp [byteL]; done))
                    simp only [Act.put, sa, sb, sc]
                    refine g_skip rfl ?_
                    simp only [Act.put, sa, sb, sc]
                    refine g_look rfl rfl ?_ (fun w' hC => ?_) ?_
                    rotate_left
                    · go_simp
                      first | done | rfl
                    simp only [Act.put, sa, sb, sc]
                    refine g_end ?_
                    intro w91 hC91 hh91
                    have S91 : Hid (Stays [] w w91) := Lib.hid (stays_nil (stays_below hC91))
                    clear S90
                    clear hC91 hh91
                    go_upto_region 44 with fail
                    refine reg_plain (Stays [] w) (Turns [] w) (kdOf [(6, .make (fun _ => callM (.bool true))), (11, .make (fun _ => callM (.bool false)))]) none0 (stays_good _ _) (S91.out) (holds0 _) ?_
                    refine g_look rfl rfl ?_ (fun w' hC => ?_) ?_
                    rotate_left
                    · go_simp
                      first | done | rfl
                    simp only [Act.put, sa, sb, sc]
                    refine g_look rfl rfl ?_ (fun w' hC => ?_) ?_
                    rotate_left
                    · go_simp
                      first | done | rfl
                    simp only [Act.put, sa, sb, sc]
                    refine g_look rfl rfl (.bool true) (fun w' hC => ?_) ?_
                    · clear hC
                      go_simp
                      first | done | rfl | omega | (simp; done) | (simp; omega)
                    simp only [Act.put, sa, sb, sc]
                    refine g_look rfl rfl ?_ (fun w' hC => ?_) ?_
                    rotate_left
                    · go_simp
                      first | done | rfl
                    simp only [Act.put, sa, sb, sc]
                    first
                    | (refine g_skip rfl ?_)
                    | (refine g_look rfl rfl ?_ (fun w' hC => ?_) ?_
                       rotate_left
                       · go_simp
                         first | done | rfl)
                    simp only [Act.put, sa, sb, sc]
                    first
                    | (refine g_skip rfl ?_)
                    | (refine g_look rfl rfl (.int .u8 (x.toNat : Int)) (fun w' hC => ?_) ?_
                       · clear hC
                         go_simp
                         first | done | rfl | (simp [byteL]; done))
                    simp only [Act.put, sa, sb, sc]
                    refine g_call (stays_good _ _) (.bool true) rfl rfl (fun w' hC => ?_) ?_
                    · clear hC
                      go_simp
                      refine (digit_any _ x).mono (fun e w2 h => ?_)
                      obtain ⟨h1, h2⟩ := h
                      rw [HX.out] at h1
                      exact gives h1 h2
                    simp only [Act.put, sa, sb, sc]
                    refine g_look rfl rfl ?_ (fun w' hC => ?_) ?_
                    rotate_left
                    · go_simp
                      first | done | rfl
                    simp only [Act.put, sa, sb, sc]
                    refine g_look rfl rfl ?_ (fun w' hC => ?_) ?_
                    rotate_left
                    · go_simp
                      first | done | rfl
                    simp only [Act.put, sa, sb, sc]
                    first
                    | (refine g_skip rfl ?_)
                    | (refine g_look rfl rfl ?_ (fun w' hC => ?_) ?_
                       rotate_left
                       · go_simp
                         first | done | rfl)
                    simp only [Act.put, sa, sb, sc]
                    first
                    | (refine g_skip rfl ?_)
                    | (refine g_look rfl rfl (.int .u8 (y.toNat : Int)) (fun w' hC => ?_) ?_
                       · clear hC
                         go_simp
                         first | done | rfl | (simp [byteL]; done))
                    simp only [Act.put, sa, sb, sc]
                    refine g_call (stays_good _ _) (.bool false) rfl rfl (fun w' hC => ?_) ?_
                    · clear hC
                      go_simp
                      refine (digit_any _ y).mono (fun e w2 h => ?_)
                      obtain ⟨h1, h2⟩ := h
                      rw [HY.out] at h1
                      exact gives h1 h2
                    simp only [Act.put, sa, sb, sc]
                    refine g_look rfl rfl ?_ (fun w' hC => ?_) ?_
                    rotate_left
                    · go_simp
                      first | done | rfl
                    simp only [Act.put, sa, sb, sc]
                    refine g_end ?_
                    intro w92 hC92 hh92
                    have S92 : Hid (Stays [] w w92) := Lib.hid (stays_nil (stays_below hC92))
                    clear S91
                    clear hC92 hh92
                    go_upto_region 46 with fail
                    refine reg_plain (Stays [] w) (Turns [] w) (kdOf []) none0 (stays_good _ _) (S92.out) (holds0 _) ?_
                    refine g_look rfl rfl ?_ (fun w' hC => ?_) ?_
                    rotate_left
                    · go_simp
                      first | done | rfl
                    simp only [Act.put, sa, sb, sc]
                    refine g_look rfl rfl ?_ (fun w' hC => ?_) ?_
                    rotate_left
                    · go_simp
                      first | done | rfl
                    simp only [Act.put, sa, sb, sc]
                    refine g_look rfl rfl ?_ (fun w' hC => ?_) ?_
                    rotate_left
                    · go_simp
                      first | done | rfl
                    simp only [Act.put, sa, sb, sc]
                    refine g_end ?_
                    intro w93 hC93 hh93
                    have S93 : Hid (Stays [] w w93) := Lib.hid (stays_nil (stays_below hC93))
                    clear S92
                    clear hC93 hh93
                    go_wp2_with fail
                    refine bodyPost_ret (v := .tuple #[.int .i64 0, .int .i64 0, .bool false]) (by simp [results, Try.results36, go_sem]) rfl ⟨congrArg Ending.returned ((rscale_none (HSE.out.trans (exp_no HSG.out (cnt_bad HY.out (by simp))))).symm), stays_below S93.out⟩
                | false =>
                  have HX := Lib.hid hx
                  clear hx
                  go_upto_region 42 with fail
                  refine reg_plain (Stays [] w) (Turns [] w) (kdOf []) none0 (stays_good _ _) (S90.out) (holds0 _) ?_
                  refine g_look rfl rfl ?_ (fun w' hC => ?_) ?_
                  rotate_left
                  · go_simp
                    first | done | rfl
                  simp only [Act.put, sa, sb, sc]
                  refine g_look rfl rfl ?_ (fun w' hC => ?_) ?_
                  rotate_left
                  · go_simp
                    first | done | rfl
                  simp only [Act.put, sa, sb, sc]
                  refine g_look rfl rfl (.bool false) (fun w' hC => ?_) ?_
                  · clear hC
                    go_simp
                    first | done | rfl | omega | (simp; done) | (simp; omega)
                  simp only [Act.put, sa, sb, sc]
                  refine g_look rfl rfl ?_ (fun w' hC => ?_) ?_
                  rotate_left
                  · go_simp
                    first | done | rfl
                  simp only [Act.put, sa, sb, sc]
                  first
                  | (refine g_skip rfl ?_)
                  | (refine g_look rfl rfl ?_ (fun w' hC => ?_) ?_
                     rotate_left
                     · go_simp
                       first | done | rfl)
                  simp only [Act.put, sa, sb, sc]
                  first
                  | (refine g_skip rfl ?_)
                  | (refine g_look rfl rfl (.int .u8 (x.toNat : Int)) (fun w' hC => ?_) ?_
                     · clear hC
                       go_simp
                       first | done | rfl | (simp [byteL]; done))
                  simp only [Act.put, sa, sb, sc]
                  refine g_skip rfl ?_
                  simp only [Act.put, sa, sb, sc]
                  refine g_look rfl rfl ?_ (fun w' hC => ?_) ?_
                  rotate_left
                  · go_simp
                    first | done | rfl
                  simp only [Act.put, sa, sb, sc]
                  refine g_end ?_
                  intro w91 hC91 hh91
                  have S91 : Hid (Stays [] w w91) := Lib.hid (stays_nil (stays_below hC91))
                  clear S90
                  clear hC91 hh91
                  go_upto_region 44 with fail
                  refine reg_plain (Stays [] w) (Turns [] w) (kdOf [(6, .make (fun _ => callM (.bool false)))]) none0 (stays_good _ _) (S91.out) (holds0 _) ?_
                  refine g_look rfl rfl ?_ (fun w' hC => ?_) ?_
                  rotate_left
                  · go_simp
                    first | done | rfl
                  simp only [Act.put, sa, sb, sc]
                  refine g_look rfl rfl ?_ (fun w' hC => ?_) ?_
                  rotate_left
                  · go_simp
                    first | done | rfl
                  simp only [Act.put, sa, sb, sc]
                  refine g_look rfl rfl (.bool true) (fun w' hC => ?_) ?_
                  · clear hC
                    go_simp
                    first | done | rfl | omega | (simp; done) | (simp; omega)
                  simp only [Act.put, sa, sb, sc]
                  refine g_look rfl rfl ?_ (fun w' hC => ?_) ?_
                  rotate_left
                  · go_simp
                    first | done | rfl
                  simp only [Act.put, sa, sb, sc]
                  first
                  | (refine g_skip rfl ?_)
                  | (refine g_look rfl rfl ?_ (fun w' hC => ?_) ?_
                     rotate_left
                     · go_simp
                       first | done | rfl)
                  simp only [Act.put, sa, sb, sc]
                  first
                  | (refine g_skip rfl ?_)
                  | (refine g_look rfl rfl (.int .u8 (x.toNat : Int)) (fun w' hC => ?_) ?_
                     · clear hC
                       go_simp
                       first | done | rfl | (simp [byteL]; done))
                  simp only [Act.put, sa, sb, sc]
                  refine g_call (stays_good _ _) (.bool false) rfl rfl (fun w' hC => ?_) ?_
                  · clear hC
                    go_simp
                    refine (digit_any _ x).mono (fun e w2 h => ?_)
                    obtain ⟨h1, h2⟩ := h
                    rw [HX.out] at h1
                    exact gives h1 h2
                  simp only [Act.put, sa, sb, sc]
                  refine g_look rfl rfl ?_ (fun w' hC => ?_) ?_
                  rotate_left
                  · go_simp
                    first | done | rfl
                  simp only [Act.put, sa, sb, sc]
                  refine g_look rfl rfl ?_ (fun w' hC => ?_) ?_
                  rotate_left
                  · go_simp
                    first | done | rfl
                  simp only [Act.put, sa, sb, sc]
                  first
                  | (refine g_skip rfl ?_)
                  | (refine g_look rfl rfl ?_ (fun w' hC => ?_) ?_
                     rotate_left
                     · go_simp
                       first | done | rfl)
                  simp only [Act.put, sa, sb, sc]
                  first
                  | (refine g_skip rfl ?_)
                  | (refine g_look rfl rfl (.int .u8 (y.toNat : Int)) (fun w' hC => ?_) ?_
                     · clear hC
                       go_simp
                       first | done | rfl | (simp [byteL]; done))
                  simp only [Act.put, sa, sb, sc]
                  refine g_skip rfl ?_
                  simp only [Act.put, sa, sb, sc]
                  refine g_look rfl rfl ?_ (fun w' hC => ?_) ?_
                  rotate_left
                  · go_simp
                    first | done | rfl
                  simp only [Act.put, sa, sb, sc]
                  refine g_end ?_
                  intro w92 hC92 hh92
                  have S92 : Hid (Stays [] w w92) := Lib.hid (stays_nil (stays_below hC92))
                  clear S91
                  clear hC92 hh92
                  go_upto_region 46 with fail
                  refine reg_plain (Stays [] w) (Turns [] w) (kdOf []) none0 (stays_good _ _) (S92.out) (holds0 _) ?_
                  refine g_look rfl rfl ?_ (fun w' hC => ?_) ?_
                  rotate_left
                  · go_simp
                    first | done | rfl
                  simp only [Act.put, sa, sb, sc]
                  refine g_look rfl rfl ?_ (fun w' hC => ?_) ?_
                  rotate_left
                  · go_simp
                    first | done | rfl
                  simp only [Act.put, sa, sb, sc]
                  refine g_look rfl rfl ?_ (fun w' hC => ?_) ?_
                  rotate_left
                  · go_simp
                    first | done | rfl
                  simp only [Act.put, sa, sb, sc]
                  refine g_end ?_
                  intro w93 hC93 hh93
                  have S93 : Hid (Stays [] w w93) := Lib.hid (stays_nil (stays_below hC93))
                  clear S92
                  clear hC93 hh93
                  go_wp2_with fail
                  refine bodyPost_ret (v := .tuple #[.int .i64 0, .int .i64 0, .bool false]) (by simp [results, Try.results36, go_sem]) rfl ⟨congrArg Ending.returned ((rscale_none (HSE.out.trans (exp_no HSG.out (cnt_bad HX.out (by simp))))).symm), stays_below S93.out⟩
              | cons z r =>
                have i1 : ¬ ((r.length : Int) + 1 + 1 + 1 = 1) := by omega
                have i2 : ¬ ((r.length : Int) + 1 + 1 + 1 = 2) := by omega
                go_upto_region 42 with fail
                refine reg_plain (Stays [] w) (Turns [] w) (kdOf []) none0 (stays_good _ _) (S90.out) (holds0 _) ?_
                refine g_look rfl rfl ?_ (fun w' hC => ?_) ?_
                rotate_left
                · go_simp
                  first | done | rfl
                simp only [Act.put, sa, sb, sc]
                refine g_look rfl rfl ?_ (fun w' hC => ?_) ?_
                rotate_left
                · go_simp
                  first | done | rfl
                simp only [Act.put, sa, sb, sc]
                refine g_look rfl rfl (.bool false) (fun w' hC => ?_) ?_
                · clear hC
                  go_simp
                  first | done | rfl | omega | (simp; done) | (simp; omega)
                simp only [Act.put, sa, sb, sc]
                refine g_look rfl rfl ?_ (fun w' hC => ?_) ?_
                rotate_left
                · go_simp
                  first | done | rfl
                simp only [Act.put, sa, sb, sc]
                first
                | (refine g_skip rfl ?_)
                | (refine g_look rfl rfl ?_ (fun w' hC => ?_) ?_
                   rotate_left
                   · go_simp
                     first | done | rfl)
                simp only [Act.put, sa, sb, sc]
                first
                | (refine g_skip rfl ?_)
                | (refine g_look rfl rfl (.int .u8 (x.toNat : Int)) (fun w' hC => ?_) ?_
                   · clear hC
                     go_simp
                     first | done | rfl | (simp [byteL]; done))
                simp only [Act.put, sa, sb, sc]
                refine g_skip rfl ?_
                simp only [Act.put, sa, sb, sc]
                refine g_look rfl rfl ?_ (fun w' hC => ?_) ?_
                rotate_left
                · go_simp
                  first | done | rfl
                simp only [Act.put, sa, sb, sc]
                refine g_end ?_
                intro w91 hC91 hh91
                have S91 : Hid (Stays [] w w91) := Lib.hid (stays_nil (stays_below hC91))
                clear S90
                clear hC91 hh91
                go_upto_region 44 with fail
                refine reg_plain (Stays [] w) (Turns [] w) (kdOf []) none0 (stays_good _ _) (S91.out) (holds0 _) ?_
                refine g_look rfl rfl ?_ (fun w' hC => ?_) ?_
                rotate_left
                · go_simp
                  first | done | rfl
                simp only [Act.put, sa, sb, sc]
                refine g_look rfl rfl ?_ (fun w' hC => ?_) ?_
                rotate_left
                · go_simp
                  first | done | rfl
                simp only [Act.put, sa, sb, sc]
                refine g_look rfl rfl (.bool false) (fun w' hC => ?_) ?_
                · clear hC
                  go_simp
                  first | done | rfl | omega | (simp; done) | (simp; omega)
                simp only [Act.put, sa, sb, sc]
                refine g_look rfl rfl ?_ (fun w' hC => ?_) ?_
                rotate_left
                · go_simp
                  first | done | rfl
                simp only [Act.put, sa, sb, sc]
                first
                | (refine g_skip rfl ?_)
                | (refine g_look rfl rfl ?_ (fun w' hC => ?_) ?_
                   rotate_left
                   · go_simp
                     first | done | rfl)
                simp only [Act.put, sa, sb, sc]
                first
                | (refine g_skip rfl ?_)
                | (refine g_look rfl rfl (.int .u8 (x.toNat : Int)) (fun w' hC => ?_) ?_
                   · clear hC
                     go_simp
                     first | done | rfl | (simp [byteL]; done))
                simp only [Act.put, sa, sb, sc]
                refine g_skip rfl ?_
                simp only [Act.put, sa, sb, sc]
                refine g_look rfl rfl ?_ (fun w' hC => ?_) ?_
                rotate_left
                · go_simp
                  first | done | rfl
                simp only [Act.put, sa, sb, sc]
                refine g_look rfl rfl ?_ (fun w' hC => ?_) ?_
                rotate_left
                · go_simp
                  first | done | rfl
                simp only [Act.put, sa, sb, sc]
                first
                | (refine g_skip rfl ?_)
                | (refine g_look rfl rfl ?_ (fun w' hC => ?_) ?_
                   rotate_left
                   · go_simp
                     first | done | rfl)
                simp only [Act.put, sa, sb, sc]
                first
                | (refine g_skip rfl ?_)
                | (refine g_look rfl rfl (.int .u8 (y.toNat : Int)) (fun w' hC => ?_) ?_
                   · clear hC
                     go_simp
                     first | done | rfl | (simp [byteL]; done))
                simp only [Act.put, sa, sb, sc]
                refine g_skip rfl ?_
                simp only [Act.put, sa, sb, sc]
                refine g_look rfl rfl ?_ (fun w' hC => ?_) ?_
                rotate_left
                · go_simp
                  first | done | rfl
                simp only [Act.put, sa, sb, sc]
                refine g_end ?_
                intro w92 hC92 hh92
                have S92 : Hid (Stays [] w w92) := Lib.hid (stays_nil (stays_below hC92))
                clear S91
                clear hC92 hh92
                go_upto_region 46 with fail
                refine reg_plain (Stays [] w) (Turns [] w) (kdOf []) none0 (stays_good _ _) (S92.out) (holds0 _) ?_
                refine g_look rfl rfl ?_ (fun w' hC => ?_) ?_
                rotate_left
                · go_simp
                  first | done | rfl
                simp only [Act.put, sa, sb, sc]
                refine g_look rfl rfl ?_ (fun w' hC => ?_) ?_
                rotate_left
                · go_simp
                  first | done | rfl
                simp only [Act.put, sa, sb, sc]
                refine g_look rfl rfl ?_ (fun w' hC => ?_) ?_
                rotate_left
                · go_simp
                  first | done | rfl
                simp only [Act.put, sa, sb, sc]
                refine g_end ?_
                intro w93 hC93 hh93
                have S93 : Hid (Stays [] w w93) := Lib.hid (stays_nil (stays_below hC93))
                clear S92
                clear hC93 hh93
                go_wp2_with fail
                refine bodyPost_ret (v := .tuple #[.int .i64 0, .int .i64 0, .bool false]) (by simp [results, Try.results36, go_sem]) rfl ⟨congrArg Ending.returned ((rscale_none (HSE.out.trans (exp_no HSG.out (by simp)))).symm), stays_below S93.out⟩
      · have hb2 : ¬ (a.toNat : Int) = 101 := fun e => h1 (UInt8.toNat_inj.1 (by show a.toNat = 101; omega))
        have hb3 : ¬ (a.toNat : Int) = 69 := fun e => h2 (UInt8.toNat_inj.1 (by show a.toNat = 69; omega))
        have HSE : Hid (sufP (a :: t) = none) := Lib.hid (HSP.out.trans (by rw [restP, if_neg (fun h => h.elim h1 h2)]))
        clear HSP
        refine reg_plain (Stays [] w) (Turns [] w) (kdOf []) none0 (stays_good _ _) (S0.out) (holds0 _) ?_
        refine g_look rfl rfl ?_ (fun w' hC => ?_) ?_
        rotate_left
        · go_simp
          first | done | rfl
        simp only [Act.put, sa, sb, sc]
        refine g_look rfl rfl (.int .u8 (a.toNat : Int)) (fun w' hC => ?_) ?_
        · clear hC
          go_simp
          first | done | rfl
        simp only [Act.put, sa, sb, sc]
        refine g_look rfl rfl (.bool true) (fun w' hC => ?_) ?_
        · clear hC
          go_simp
          first | done | rfl | exact hb3 | (simpa using hb3)
        simp only [Act.put, sa, sb, sc]
        refine g_look rfl rfl ?_ (fun w' hC => ?_) ?_
        rotate_left
        · go_simp
          first | done | rfl
        simp only [Act.put, sa, sb, sc]
        first
        | (refine g_skip rfl ?_)
        | (refine g_look rfl rfl ?_ (fun w' hC => ?_) ?_
           rotate_left
           · go_simp
             first | done | rfl)
        simp only [Act.put, sa, sb, sc]
        first
        | (refine g_skip rfl ?_)
        | (refine g_look rfl rfl (.int .u8 (a.toNat : Int)) (fun w' hC => ?_) ?_
           · clear hC
             go_simp
             first | done | rfl)
        simp only [Act.put, sa, sb, sc]
        first
        | (refine g_skip rfl ?_)
        | (refine g_look rfl rfl (.bool true) (fun w' hC => ?_) ?_
           · clear hC
             go_simp
             first | done | rfl | exact hb2 | (simpa using hb2))
        simp only [Act.put, sa, sb, sc]
        refine g_look rfl rfl ?_ (fun w' hC => ?_) ?_
        rotate_left
        · go_simp
          first | done | rfl
        simp only [Act.put, sa, sb, sc]
        refine g_end ?_
        intro w1 hC1 hh1
        have S1 : Hid (Stays [] w w1) := Lib.hid (stays_nil (stays_below hC1))
        clear hC1 hh1
        go_upto_region 35 with fail
        refine reg_plain (Stays [] w) (Turns [] w) (kdOf []) none0 (stays_good _ _) (S1.out) (holds0 _) ?_
        refine g_look rfl rfl ?_ (fun w' hC => ?_) ?_
        rotate_left
        · go_simp
          first | done | rfl
        simp only [Act.put, sa, sb, sc]
        refine g_look rfl rfl ?_ (fun w' hC => ?_) ?_
        rotate_left
        · go_simp
          first | done | rfl
        simp only [Act.put, sa, sb, sc]
        refine g_look rfl rfl ?_ (fun w' hC => ?_) ?_
        rotate_left
        · go_simp
          first | done | rfl
        simp only [Act.put, sa, sb, sc]
        refine g_end ?_
        intro w2 hC2 hh2
        have S2 : Hid (Stays [] w w2) := Lib.hid (stays_nil (stays_below hC2))
        clear S1
        clear hC2 hh2
        go_wp2_with fail
        refine bodyPost_ret (v := .tuple #[.int .i64 0, .int .i64 0, .bool false]) (by simp [results, Try.results36, go_sem]) rfl ⟨congrArg Ending.returned ((rscale_none HSE.out).symm), stays_below S2.out⟩
end Go.Proofs.Ythpdfacdjgkmpaa.Wi
