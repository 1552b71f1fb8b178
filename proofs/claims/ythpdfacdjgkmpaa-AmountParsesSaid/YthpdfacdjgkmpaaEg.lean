/- A text's first byte, the exponent of ten, by walks. -/
import Derived.Test.YthpdfacdjgkmpaaEf
namespace Go.Proofs.Ythpdfacdjgkmpaa.Wi
open Go.RowKit K

attribute [local go_sem] lookTo stepTo Maker.step
attribute [local go_sem ↓] idxL st_size
theorem one_size (c : UInt8) : (⟨#[c]⟩ : ByteArray).size = 1 := rfl
attribute [local go_sem ↓] one_size
/-- Is it the first byte? -/
def head (l : List UInt8) (c : UInt8) : Bool := decide (l.head? = some c)
theorem one_eq (a c : UInt8) : (⟨#[a]⟩ : ByteArray) = ⟨#[c]⟩ ↔ a = c := by simp
theorem ext_one (a : UInt8) (t : List UInt8) : (⟨(a :: t).toArray⟩ : ByteArray).extract 0 1 = ⟨#[a]⟩ := take_st (l := a :: t) 1
set_option maxHeartbeats 4000000 in
set_option maxRecDepth 100000 in
theorem pre0_any (w : World) (l : List UInt8) (c : UInt8) : Calls Try.prog 51 #[.string ⟨l.toArray⟩, .string ⟨#[c]⟩] w (Ret w (.bool (head l c))) := by
  have S0 : Hid (Stays [] w w) := Lib.hid (stays_nil (Below.refl _ _))
  cases l with
  | nil =>
    go_enter Try.func51, Try.ntmps51
    go_upto_region 0 with fail
    refine reg_plain (Stays [] w) (Turns [] w) (kdOf []) none0 (stays_good _ _) (S0.out) (holds0 _) ?_
    refine g_look rfl rfl ?_ (fun w' hC => ?_) ?_
    rotate_left
    · go_simp
      first | done | rfl
    simp only [Act.put, List.setIfInBounds_toArray, List.set_cons_zero, List.set_cons_succ]
    refine g_end ?_
    intro w1 hC1 hh1
    have S1 : Hid (Stays [] w w1) := Lib.hid (stays_nil (stays_below hC1))
    clear hC1 hh1
    go_upto_region 1 with fail
    refine reg_plain (Stays [] w) (Turns [] w) (kdOf []) none0 (stays_good _ _) (S1.out) (holds0 _) ?_
    refine g_look rfl rfl ?_ (fun w' hC => ?_) ?_
    rotate_left
    · go_simp
      first | done | rfl
    simp only [Act.put, List.setIfInBounds_toArray, List.set_cons_zero, List.set_cons_succ]
    refine g_look rfl rfl ?_ (fun w' hC => ?_) ?_
    rotate_left
    · go_simp
      first | done | rfl
    simp only [Act.put, List.setIfInBounds_toArray, List.set_cons_zero, List.set_cons_succ]
    refine g_look rfl rfl ?_ (fun w' hC => ?_) ?_
    rotate_left
    · go_simp
      first | done | rfl
    simp only [Act.put, List.setIfInBounds_toArray, List.set_cons_zero, List.set_cons_succ]
    refine g_look rfl rfl ?_ (fun w' hC => ?_) ?_
    rotate_left
    · go_simp
      first | done | rfl
    simp only [Act.put, List.setIfInBounds_toArray, List.set_cons_zero, List.set_cons_succ]
    refine g_look rfl rfl ?_ (fun w' hC => ?_) ?_
    rotate_left
    · go_simp
      first | done | rfl
    simp only [Act.put, List.setIfInBounds_toArray, List.set_cons_zero, List.set_cons_succ]
    refine g_look rfl rfl ?_ (fun w' hC => ?_) ?_
    rotate_left
    · go_simp
      first | done | rfl
    simp only [Act.put, List.setIfInBounds_toArray, List.set_cons_zero, List.set_cons_succ]
    first
    | (refine g_skip rfl ?_)
    | (refine g_look rfl rfl ?_ (fun w' hC => ?_) ?_
       rotate_left
       · go_simp
         first | done | rfl)
    simp only [Act.put, List.setIfInBounds_toArray, List.set_cons_zero, List.set_cons_succ]
    first
    | (refine g_skip rfl ?_)
    | (refine g_look rfl rfl ?_ (fun w' hC => ?_) ?_
       rotate_left
       · go_simp
         first | done | rfl)
    simp only [Act.put, List.setIfInBounds_toArray, List.set_cons_zero, List.set_cons_succ]
    first
    | (refine g_skip rfl ?_)
    | (refine g_look rfl rfl ?_ (fun w' hC => ?_) ?_
       rotate_left
       · go_simp
         first | done | rfl)
    simp only [Act.put, List.setIfInBounds_toArray, List.set_cons_zero, List.set_cons_succ]
    first
    | (refine g_skip rfl ?_)
    | (refine g_look rfl rfl ?_ (fun w' hC => ?_) ?_
       rotate_left
       · go_simp
         first | done | rfl)
    simp only [Act.put, List.setIfInBounds_toArray, List.set_cons_zero, List.set_cons_succ]
    first
    | (refine g_skip rfl ?_)
    | (refine g_look rfl rfl ?_ (fun w' hC => ?_) ?_
       rotate_left
       · go_simp
         first | done | rfl)
    simp only [Act.put, List.setIfInBounds_toArray, List.set_cons_zero, List.set_cons_succ]
    first
    | (refine g_skip rfl ?_)
    | (refine g_look rfl rfl ?_ (fun w' hC => ?_) ?_
       rotate_left
       · go_simp
         first | done | rfl)
    simp only [Act.put, List.setIfInBounds_toArray, List.set_cons_zero, List.set_cons_succ]
    refine g_look rfl rfl ?_ (fun w' hC => ?_) ?_
    rotate_left
    · go_simp
      first | done | rfl
    simp only [Act.put, List.setIfInBounds_toArray, List.set_cons_zero, List.set_cons_succ]
    refine g_look rfl rfl ?_ (fun w' hC => ?_) ?_
    rotate_left
    · go_simp
      first | done | rfl
    simp only [Act.put, List.setIfInBounds_toArray, List.set_cons_zero, List.set_cons_succ]
    refine g_end ?_
    intro w2 hC2 hh2
    have S2 : Hid (Stays [] w w2) := Lib.hid (stays_nil (stays_below hC2))
    clear S1
    clear hC2 hh2
    go_wp2_with fail
    refine bodyPost_ret (v := .bool false) (by simp [results, Try.results51, go_sem]) rfl ⟨rfl, stays_below S2.out⟩
  | cons a t =>
    have l1 : (1 : Int) ≤ ((a :: t).length : Int) := by simp; omega
    have l2 : 1 ≤ (a :: t).length := by simp
    have l3 : (1 : Int) ≤ (t.length : Int) + 1 := by omega
    have hh : head (a :: t) c = decide (a = c) := by simp [head]
    rw [hh]
    clear hh
    go_enter Try.func51, Try.ntmps51
    go_upto_region 0 with fail
    refine reg_plain (Stays [] w) (Turns [] w) (kdOf []) none0 (stays_good _ _) (S0.out) (holds0 _) ?_
    refine g_look rfl rfl ?_ (fun w' hC => ?_) ?_
    rotate_left
    · go_simp
      first | done | rfl
    simp only [Act.put, List.setIfInBounds_toArray, List.set_cons_zero, List.set_cons_succ]
    refine g_end ?_
    intro w1 hC1 hh1
    have S1 : Hid (Stays [] w w1) := Lib.hid (stays_nil (stays_below hC1))
    clear hC1 hh1
    go_upto_region 1 with fail
    refine reg_plain (Stays [] w) (Turns [] w) (kdOf []) none0 (stays_good _ _) (S1.out) (holds0 _) ?_
    refine g_look rfl rfl ?_ (fun w' hC => ?_) ?_
    rotate_left
    · go_simp
      first | done | rfl
    simp only [Act.put, List.setIfInBounds_toArray, List.set_cons_zero, List.set_cons_succ]
    refine g_look rfl rfl ?_ (fun w' hC => ?_) ?_
    rotate_left
    · go_simp
      first | done | rfl
    simp only [Act.put, List.setIfInBounds_toArray, List.set_cons_zero, List.set_cons_succ]
    refine g_look rfl rfl ?_ (fun w' hC => ?_) ?_
    rotate_left
    · go_simp
      first | done | rfl
    simp only [Act.put, List.setIfInBounds_toArray, List.set_cons_zero, List.set_cons_succ]
    refine g_look rfl rfl ?_ (fun w' hC => ?_) ?_
    rotate_left
    · go_simp
      first | done | rfl
    simp only [Act.put, List.setIfInBounds_toArray, List.set_cons_zero, List.set_cons_succ]
    refine g_look rfl rfl ?_ (fun w' hC => ?_) ?_
    rotate_left
    · go_simp
      first | done | rfl
    simp only [Act.put, List.setIfInBounds_toArray, List.set_cons_zero, List.set_cons_succ]
    refine g_look rfl rfl ?_ (fun w' hC => ?_) ?_
    rotate_left
    · go_simp
      first | done | rfl
    simp only [Act.put, List.setIfInBounds_toArray, List.set_cons_zero, List.set_cons_succ]
    first
    | (refine g_skip rfl ?_)
    | (refine g_look rfl rfl ?_ (fun w' hC => ?_) ?_
       rotate_left
       · go_simp
         first | done | rfl)
    simp only [Act.put, List.setIfInBounds_toArray, List.set_cons_zero, List.set_cons_succ]
    first
    | (refine g_skip rfl ?_)
    | (refine g_look rfl rfl ?_ (fun w' hC => ?_) ?_
       rotate_left
       · go_simp
         first | done | rfl)
    simp only [Act.put, List.setIfInBounds_toArray, List.set_cons_zero, List.set_cons_succ]
    first
    | (refine g_skip rfl ?_)
    | (refine g_look rfl rfl ?_ (fun w' hC => ?_) ?_
       rotate_left
       · go_simp
         first | done | rfl)
    simp only [Act.put, List.setIfInBounds_toArray, List.set_cons_zero, List.set_cons_succ]
    first
    | (refine g_skip rfl ?_)
    | (refine g_look rfl rfl (.string ⟨#[a]⟩) (fun w' hC => ?_) ?_
       · clear hC
         go_simp
         first | done | exact ext_one a t | (rw [ext_one]; done) | (simp [ext_one]; done))
    simp only [Act.put, List.setIfInBounds_toArray, List.set_cons_zero, List.set_cons_succ]
    first
    | (refine g_skip rfl ?_)
    | (refine g_look rfl rfl ?_ (fun w' hC => ?_) ?_
       rotate_left
       · go_simp
         first | done | rfl)
    simp only [Act.put, List.setIfInBounds_toArray, List.set_cons_zero, List.set_cons_succ]
    first
    | (refine g_skip rfl ?_)
    | (refine g_look rfl rfl (.bool (decide (a = c))) (fun w' hC => ?_) ?_
       · clear hC
         go_simp
         first | done | exact beq_eq_decide a c | (by_cases h : a = c <;> simp [h]))
    simp only [Act.put, List.setIfInBounds_toArray, List.set_cons_zero, List.set_cons_succ]
    refine g_look rfl rfl ?_ (fun w' hC => ?_) ?_
    rotate_left
    · go_simp
      first | done | rfl
    simp only [Act.put, List.setIfInBounds_toArray, List.set_cons_zero, List.set_cons_succ]
    refine g_look rfl rfl ?_ (fun w' hC => ?_) ?_
    rotate_left
    · go_simp
      first | done | rfl
    simp only [Act.put, List.setIfInBounds_toArray, List.set_cons_zero, List.set_cons_succ]
    refine g_end ?_
    intro w2 hC2 hh2
    have S2 : Hid (Stays [] w w2) := Lib.hid (stays_nil (stays_below hC2))
    clear S1
    clear hC2 hh2
    go_wp2_with fail
    refine bodyPost_ret (v := .bool (decide (a = c))) (by simp [results, Try.results51, go_sem]) rfl ⟨rfl, stays_below S2.out⟩
set_option maxHeartbeats 4000000 in
theorem pre_any (w : World) (l : List UInt8) (c : UInt8) : Calls Try.prog 27 #[.string ⟨l.toArray⟩, .string ⟨#[c]⟩] w (Ret w (.bool (head l c))) := by
  have S0 : Hid (Stays [] w w) := Lib.hid (stays_nil (Below.refl _ _))
  go_enter Try.func27, Try.ntmps27
  go_upto_region 0 with fail
  refine reg_plain (Stays [] w) (Turns [] w) (kdOf []) none0 (stays_good _ _) (S0.out) (holds0 _) ?_
  refine g_look rfl rfl ?_ (fun w' hC => ?_) ?_
  rotate_left
  · go_simp
    first | done | rfl
  simp only [Act.put, List.setIfInBounds_toArray, List.set_cons_zero, List.set_cons_succ]
  refine g_end ?_
  intro w1 hC1 hh1
  have S1 : Hid (Stays [] w w1) := Lib.hid (stays_nil (stays_below hC1))
  clear hC1 hh1
  go_upto_region 1 with fail
  refine reg_plain (Stays [] w) (Turns [] w) (kdOf [(2, .make (fun _ => callM (.bool (head l c))))]) none0 (stays_good _ _) (S1.out) (holds0 _) ?_
  refine g_look rfl rfl ?_ (fun w' hC => ?_) ?_
  rotate_left
  · go_simp
    first | done | rfl
  simp only [Act.put, List.setIfInBounds_toArray, List.set_cons_zero, List.set_cons_succ]
  refine g_look rfl rfl ?_ (fun w' hC => ?_) ?_
  rotate_left
  · go_simp
    first | done | rfl
  simp only [Act.put, List.setIfInBounds_toArray, List.set_cons_zero, List.set_cons_succ]
  refine g_call (stays_good _ _) (.bool (head l c)) rfl rfl (fun w' hC => ?_) ?_
  · clear hC
    go_simp
    refine (pre0_any _ l c).mono (fun e w2 h => ?_)
    obtain ⟨h1, h2⟩ := h
    exact gives h1 h2
  simp only [Act.put, List.setIfInBounds_toArray, List.set_cons_zero, List.set_cons_succ]
  refine g_look rfl rfl ?_ (fun w' hC => ?_) ?_
  rotate_left
  · go_simp
    first | done | rfl
  simp only [Act.put, List.setIfInBounds_toArray, List.set_cons_zero, List.set_cons_succ]
  refine g_end ?_
  intro w2 hC2 hh2
  have S2 : Hid (Stays [] w w2) := Lib.hid (stays_nil (stays_below hC2))
  clear S1
  clear hC2 hh2
  go_wp2_with fail
  refine bodyPost_ret (v := .bool (head l c)) (by simp [results, Try.results27, go_sem]) rfl ⟨rfl, stays_below S2.out⟩
end Go.Proofs.Ythpdfacdjgkmpaa.Wi
