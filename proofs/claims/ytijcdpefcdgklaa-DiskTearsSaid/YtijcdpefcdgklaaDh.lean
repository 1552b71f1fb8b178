/- DiskTears: a walk, the rest. -/
import Derived.Test.YtijcdpefcdgklaaDg
namespace Go.Proofs.Ytijcdpefcdgklaa.Di
open Go.RowKit K

attribute [local go_sem ↓] eq22 eq22n eq37 eq37n eq25 ne25
attribute [local go_sem] lookTo stepTo Maker.step
set_option maxHeartbeats 4000000 in
set_option maxRecDepth 100000 in
theorem tears_long_a (w : World) (va vb : Value) (la lb : List UInt8) (x n : Int) (ha : Reads w va la) (hb : Reads w vb lb) (h1 : 60 < la.length) : Calls Try.prog 3 #[va, vb, .agg #[.int .i64 x, .int .i64 n]] w (fun e w' => e = .returned (.bool true) ∧ Below w.heap.size w w') := by
  obtain ⟨pa, ca, rfl, _⟩ := read_shape ha
  obtain ⟨pb, cb, rfl, _⟩ := read_shape hb
  clear ha hb
  have i1 : (60 : Int) < (la.length : Int) := by omega
  clear h1
  have S0 : Hid (Stays [] w w) := Lib.hid (stays_nil (Below.refl _ _))
  go_enter Try.func3, Try.ntmps3
  go_upto_region 0 with fail
  refine reg_plain (Stays [] w) (Turns [] w) (kdOf [(0, .make (fun _ => allocM (.cells #[.int .i64 x, .int .i64 n] 23)))]) none0 (stays_good _ _) (S0.out) (holds0 _) ?_
  refine g_alloc (stays_good _ _) (.cells #[.int .i64 x, .int .i64 n] 23) rfl rfl (fun w' hC => ?_) (fun gW tW nW => ?_)
  · clear hC
    go_simp
    first | done | rfl | exact ⟨rfl, rfl⟩
  clear nW
  replace tW := Lib.hid tW
  simp only [Act.put, List.setIfInBounds_toArray, List.set_cons_zero, List.set_cons_succ]
  refine g_look rfl rfl ?_ (fun w' hC => ?_) ?_
  rotate_left
  · go_simp
    first | done | rfl
  simp only [Act.put, List.setIfInBounds_toArray, List.set_cons_zero, List.set_cons_succ]
  refine g_end ?_
  intro w1 hC1 hh1
  have S1 : Hid (Stays [(gW, Obj.cells #[.int .i64 x, .int .i64 n] 23 (0, 0))] w w1) := Lib.hid (stays_cons ((hh1 _ _ _ (own_new _ _ _ _)).1) (stays_nil (stays_below hC1)))
  clear hC1 hh1
  go_upto_region 1 with fail
  refine reg_plain (Stays [(gW, Obj.cells #[.int .i64 x, .int .i64 n] 23 (0, 0))] w) (Turns [(gW, Obj.cells #[.int .i64 x, .int .i64 n] 23 (0, 0))] w) (kdOf [(0, .make (fun _ => callM (.bool true)))]) none0 (stays_good _ _) (S1.out) (holds0 _) ?_
  refine g_call (stays_good _ _) (.bool true) rfl rfl (fun w' hC => ?_) ?_
  · clear hC
    go_simp
    refine (first_any _).mono (fun e w2 h => ?_)
    obtain ⟨h1, h2⟩ := h
    exact gives h1 h2
  simp only [Act.put, List.setIfInBounds_toArray, List.set_cons_zero, List.set_cons_succ]
  refine g_look rfl rfl ?_ (fun w' hC => ?_) ?_
  rotate_left
  · go_simp
    first | done | rfl
  simp only [Act.put, List.setIfInBounds_toArray, List.set_cons_zero, List.set_cons_succ]
  refine g_end ?_
  intro w2 hC2 hh2
  have S2 : Hid (Stays [(gW, Obj.cells #[.int .i64 x, .int .i64 n] 23 (0, 0))] w w2) := Lib.hid (stays_cons (stays_row hC2 (List.mem_cons_self ..)) (stays_nil (stays_below hC2)))
  clear S1
  clear hC2 hh2
  go_upto_region 3 with fail
  refine reg (Stays [(gW, Obj.cells #[.int .i64 x, .int .i64 n] 23 (0, 0))] w) (Turns [(gW, Obj.cells #[.int .i64 x, .int .i64 n] 23 (0, 0))] w) (kdOf []) none0 (stays_good _ _) (by kernel_rfl) (by kernel_rfl) (stays_drew (S2.out)) (holds0 _) ?_
  refine g_look rfl rfl ?_ (fun w' hC => ?_) ?_
  rotate_left
  · go_simp
    first | done | rfl
  simp only [Act.put, List.setIfInBounds_toArray, List.set_cons_zero, List.set_cons_succ]
  refine g_look rfl rfl ?_ (fun w' hC => ?_) ?_
  rotate_left
  · have c := stays_head hC
    have c0 : w'.cell? ⟨gW, 0, none⟩ = some (.int .i64 x) := (cell_of_row _ _ _ _ _ _ c).trans rfl
    have c1 : w'.cell? ⟨gW, 1, none⟩ = some (.int .i64 n) := (cell_of_row _ _ _ _ _ _ c).trans rfl
    clear hC c
    go_simp
    first | done | rfl
  simp only [Act.put, List.setIfInBounds_toArray, List.set_cons_zero, List.set_cons_succ]
  refine g_look rfl rfl ?_ (fun w' hC => ?_) ?_
  rotate_left
  · go_simp
    first | done | rfl
  simp only [Act.put, List.setIfInBounds_toArray, List.set_cons_zero, List.set_cons_succ]
  refine g_look rfl rfl ?_ (fun w' hC => ?_) ?_
  rotate_left
  · have c := stays_head hC
    have c0 : w'.cell? ⟨gW, 0, none⟩ = some (.int .i64 x) := (cell_of_row _ _ _ _ _ _ c).trans rfl
    have c1 : w'.cell? ⟨gW, 1, none⟩ = some (.int .i64 n) := (cell_of_row _ _ _ _ _ _ c).trans rfl
    clear hC c
    go_simp
    first | done | rfl
  simp only [Act.put, List.setIfInBounds_toArray, List.set_cons_zero, List.set_cons_succ]
  refine g_look rfl rfl ?_ (fun w' hC => ?_) ?_
  rotate_left
  · go_simp
    first | done | rfl
  simp only [Act.put, List.setIfInBounds_toArray, List.set_cons_zero, List.set_cons_succ]
  refine g_look rfl rfl ?_ (fun w' hC => ?_) ?_
  rotate_left
  · go_simp
    first | done | rfl
  simp only [Act.put, List.setIfInBounds_toArray, List.set_cons_zero, List.set_cons_succ]
  refine g_end ?_
  intro w3 hC3 hh3
  have S3 : Hid (Stays [(gW, Obj.cells #[.int .i64 x, .int .i64 n] 23 (0, 0))] w w3) := Lib.hid (stays_cons (stays_row hC3 (List.mem_cons_self ..)) (stays_nil (stays_below hC3)))
  clear S2
  clear hC3 hh3
  go_wp2_with fail
  refine bodyPost_ret (v := .bool true) (by simp [results, Try.results3, go_sem]) rfl ⟨rfl, stays_below S3.out⟩
set_option maxHeartbeats 4000000 in
set_option maxRecDepth 100000 in
theorem tears_long_b (w : World) (va vb : Value) (la lb : List UInt8) (x n : Int) (ha : Reads w va la) (hb : Reads w vb lb) (h1 : ¬ 60 < la.length) (h2 : 60 < lb.length) : Calls Try.prog 3 #[va, vb, .agg #[.int .i64 x, .int .i64 n]] w (fun e w' => e = .returned (.bool true) ∧ Below w.heap.size w w') := by
  obtain ⟨pa, ca, rfl, _⟩ := read_shape ha
  obtain ⟨pb, cb, rfl, _⟩ := read_shape hb
  clear ha hb
  have i1 : ¬ (60 : Int) < (la.length : Int) := by omega
  have i2 : (60 : Int) < (lb.length : Int) := by omega
  clear h1 h2
  have S0 : Hid (Stays [] w w) := Lib.hid (stays_nil (Below.refl _ _))
  go_enter Try.func3, Try.ntmps3
  go_upto_region 0 with fail
  refine reg_plain (Stays [] w) (Turns [] w) (kdOf [(0, .make (fun _ => allocM (.cells #[.int .i64 x, .int .i64 n] 23)))]) none0 (stays_good _ _) (S0.out) (holds0 _) ?_
  refine g_alloc (stays_good _ _) (.cells #[.int .i64 x, .int .i64 n] 23) rfl rfl (fun w' hC => ?_) (fun gW tW nW => ?_)
  · clear hC
    go_simp
    first | done | rfl | exact ⟨rfl, rfl⟩
  clear nW
  replace tW := Lib.hid tW
  simp only [Act.put, List.setIfInBounds_toArray, List.set_cons_zero, List.set_cons_succ]
  refine g_look rfl rfl ?_ (fun w' hC => ?_) ?_
  rotate_left
  · go_simp
    first | done | rfl
  simp only [Act.put, List.setIfInBounds_toArray, List.set_cons_zero, List.set_cons_succ]
  refine g_end ?_
  intro w1 hC1 hh1
  have S1 : Hid (Stays [(gW, Obj.cells #[.int .i64 x, .int .i64 n] 23 (0, 0))] w w1) := Lib.hid (stays_cons ((hh1 _ _ _ (own_new _ _ _ _)).1) (stays_nil (stays_below hC1)))
  clear hC1 hh1
  go_upto_region 1 with fail
  refine reg_plain (Stays [(gW, Obj.cells #[.int .i64 x, .int .i64 n] 23 (0, 0))] w) (Turns [(gW, Obj.cells #[.int .i64 x, .int .i64 n] 23 (0, 0))] w) (kdOf [(0, .make (fun _ => callM (.bool true)))]) none0 (stays_good _ _) (S1.out) (holds0 _) ?_
  refine g_call (stays_good _ _) (.bool true) rfl rfl (fun w' hC => ?_) ?_
  · clear hC
    go_simp
    refine (first_any _).mono (fun e w2 h => ?_)
    obtain ⟨h1, h2⟩ := h
    exact gives h1 h2
  simp only [Act.put, List.setIfInBounds_toArray, List.set_cons_zero, List.set_cons_succ]
  refine g_look rfl rfl ?_ (fun w' hC => ?_) ?_
  rotate_left
  · go_simp
    first | done | rfl
  simp only [Act.put, List.setIfInBounds_toArray, List.set_cons_zero, List.set_cons_succ]
  refine g_end ?_
  intro w2 hC2 hh2
  have S2 : Hid (Stays [(gW, Obj.cells #[.int .i64 x, .int .i64 n] 23 (0, 0))] w w2) := Lib.hid (stays_cons (stays_row hC2 (List.mem_cons_self ..)) (stays_nil (stays_below hC2)))
  clear S1
  clear hC2 hh2
  go_upto_region 3 with fail
  refine reg (Stays [(gW, Obj.cells #[.int .i64 x, .int .i64 n] 23 (0, 0))] w) (Turns [(gW, Obj.cells #[.int .i64 x, .int .i64 n] 23 (0, 0))] w) (kdOf []) none0 (stays_good _ _) (by kernel_rfl) (by kernel_rfl) (stays_drew (S2.out)) (holds0 _) ?_
  refine g_look rfl rfl ?_ (fun w' hC => ?_) ?_
  rotate_left
  · go_simp
    first | done | rfl
  simp only [Act.put, List.setIfInBounds_toArray, List.set_cons_zero, List.set_cons_succ]
  refine g_look rfl rfl ?_ (fun w' hC => ?_) ?_
  rotate_left
  · have c := stays_head hC
    have c0 : w'.cell? ⟨gW, 0, none⟩ = some (.int .i64 x) := (cell_of_row _ _ _ _ _ _ c).trans rfl
    have c1 : w'.cell? ⟨gW, 1, none⟩ = some (.int .i64 n) := (cell_of_row _ _ _ _ _ _ c).trans rfl
    clear hC c
    go_simp
    first | done | rfl
  simp only [Act.put, List.setIfInBounds_toArray, List.set_cons_zero, List.set_cons_succ]
  refine g_look rfl rfl ?_ (fun w' hC => ?_) ?_
  rotate_left
  · go_simp
    first | done | rfl
  simp only [Act.put, List.setIfInBounds_toArray, List.set_cons_zero, List.set_cons_succ]
  refine g_look rfl rfl ?_ (fun w' hC => ?_) ?_
  rotate_left
  · have c := stays_head hC
    have c0 : w'.cell? ⟨gW, 0, none⟩ = some (.int .i64 x) := (cell_of_row _ _ _ _ _ _ c).trans rfl
    have c1 : w'.cell? ⟨gW, 1, none⟩ = some (.int .i64 n) := (cell_of_row _ _ _ _ _ _ c).trans rfl
    clear hC c
    go_simp
    first | done | rfl
  simp only [Act.put, List.setIfInBounds_toArray, List.set_cons_zero, List.set_cons_succ]
  refine g_look rfl rfl ?_ (fun w' hC => ?_) ?_
  rotate_left
  · go_simp
    first | done | rfl
  simp only [Act.put, List.setIfInBounds_toArray, List.set_cons_zero, List.set_cons_succ]
  refine g_look rfl rfl ?_ (fun w' hC => ?_) ?_
  rotate_left
  · go_simp
    first | done | rfl
  simp only [Act.put, List.setIfInBounds_toArray, List.set_cons_zero, List.set_cons_succ]
  refine g_end ?_
  intro w3 hC3 hh3
  have S3 : Hid (Stays [(gW, Obj.cells #[.int .i64 x, .int .i64 n] 23 (0, 0))] w w3) := Lib.hid (stays_cons (stays_row hC3 (List.mem_cons_self ..)) (stays_nil (stays_below hC3)))
  clear S2
  clear hC3 hh3
  go_wp2_with fail
  refine bodyPost_ret (v := .bool true) (by simp [results, Try.results3, go_sem]) rfl ⟨rfl, stays_below S3.out⟩
theorem tears_any (w : World) (va vb : Value) (la lb : List UInt8) (x n : Int) (ha : Reads w va la) (hb : Reads w vb lb) (r1 : -9223372036854775808 ≤ n) (r2 : n ≤ 9223372036854775807) : Calls Try.prog 3 #[va, vb, .agg #[.int .i64 x, .int .i64 n]] w (fun e w' => e = .returned (.bool true) ∧ Below w.heap.size w w') := by
  by_cases h1 : 60 < la.length
  · exact tears_long_a w va vb la lb x n ha hb h1
  · by_cases h2 : 60 < lb.length
    · exact tears_long_b w va vb la lb x n ha hb h1 h2
    · exact tears_short w va vb la lb x n ha hb (by omega) (by omega) r1 r2
end Go.Proofs.Ytijcdpefcdgklaa.Di
