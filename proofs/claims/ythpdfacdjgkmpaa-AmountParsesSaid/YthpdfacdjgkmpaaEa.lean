/- Amounts: what fits, powers of ten up and down, by walks. -/
import Derived.Test.YthpdfacdjgkmpaaDo
import Derived.Test.YthpdfacdjgkmpaaDp
import Derived.Test.YthpdfacdjgkmpaaReg
import Derived.Deep.DeepCutAuto
namespace Go.Proofs.Ythpdfacdjgkmpaa.Wi
open Go.RowKit K

attribute [local go_sem] lookTo stepTo Maker.step
theorem one25 (x y : Int) : (#[Value.int .u64 x, .int .u64 y] : Array Value).all (·.oneCell') = true := by simp [Value.oneCell']
def Lim : Int := 340282366920938463463374607431768211456
theorem wn_open {X : Int} (h0 : 0 ≤ X) (h : X < Lim) : ∃ a b : Int, U a ∧ U b ∧ wval a b = X ∧ wn X = .agg #[.int .u64 a, .int .u64 b] := by
  unfold Lim at h
  refine ⟨X / 18446744073709551616, X % 18446744073709551616, by unfold U; omega, by unfold U; omega, by unfold wval; omega, rfl⟩
theorem opt_yes {X : Int} (h : X < Lim) : optV X (X < 340282366920938463463374607431768211456) = .tuple #[wn X, .bool true] := by
  unfold optV
  rw [if_pos (show X < 340282366920938463463374607431768211456 from h)]
  rfl
theorem opt_no {X : Int} (h : ¬ X < Lim) : optV X (X < 340282366920938463463374607431768211456) = .tuple #[wv 0 0, .bool false] := by
  unfold optV
  rw [if_neg (show ¬ X < 340282366920938463463374607431768211456 from h)]
theorem wval_wn {a b X : Int} (_ : U a) (hb : U b) (h : wval a b = X) : wv a b = wn X := by
  subst h
  unfold wn wval wv U at *
  have e1 : (a * 18446744073709551616 + b) / 18446744073709551616 = a := by omega
  have e2 : (a * 18446744073709551616 + b) % 18446744073709551616 = b := by omega
  rw [e1, e2]
theorem wval_lt {a b : Int} (ha : U a) (hb : U b) : 0 ≤ wval a b ∧ wval a b < Lim := by
  unfold U wval Lim at *
  omega
theorem wn_u {a b X : Int} (h : .agg #[.int .u64 a, .int .u64 b] = wn X) (h0 : 0 ≤ X) (h1 : X < Lim) : U a ∧ U b ∧ wval a b = X := by
  unfold wn wv at h
  injection h with h
  simp at h
  obtain ⟨e1, e2⟩ := h
  unfold U wval Lim at *
  omega
theorem opt_most : optV (wval 0 1152921504606846976 * 1000000000) (wval 0 1152921504606846976 * 1000000000 < 340282366920938463463374607431768211456) = .tuple #[.agg #[.int .u64 62500000, .int .u64 0], .bool true] := by
  rw [opt_yes (show wval 0 1152921504606846976 * 1000000000 < Lim by unfold wval Lim; decide)]
  rfl
theorem u_one : U 1 := by unfold U; decide
theorem u_zero : U 0 := by unfold U; decide
theorem results_cell58 {W : World} {g : Nat} {x y : Value} {tmps : Array Value} (h : W.heap[g]? = some (.cells #[x, y] 25 (0, 0))) (i24 : (Try.prog.info? 25).map (·.size) = some 2 := by rfl) (e4 : tmps.getD 0 undef = .pointer (some ⟨g, 0, none⟩) := by rfl) :
    (results Try.f58 tmps).run Try.prog W = .ok (.agg #[x, y]) W := by
  have h' := run_loadVar_row (P := Try.prog) W g 25 25 _ (0, 0) _ h Try.underlying25 rfl i24
  have e4' : tmps[0]?.getD undef = .pointer (some ⟨g, 0, none⟩) := by simpa using e4
  simp [results, Try.results58, e4', asAddr, h']
def Most : Int := 1152921504606846976000000000
set_option maxHeartbeats 4000000 in
theorem most_any (w : World) : Calls Try.prog 58 #[] w (Ret w (wv 62500000 0)) := by
  have S0 : Hid (Stays [] w w) := Lib.hid (stays_nil (Below.refl _ _))
  go_enter Try.func58, Try.ntmps58
  go_upto_region 0 with fail
  refine reg_plain (Stays [] w) (Turns [] w) (kdOf [(0, .make (fun _ => allocM (.cells #[.int .u64 0, .int .u64 0] 25)))]) none0 (stays_good _ _) (S0.out) (holds0 _) ?_
  refine g_alloc (stays_good _ _) (.cells #[.int .u64 0, .int .u64 0] 25) rfl rfl (fun w' hC => ?_) (fun gr tr nr => ?_)
  · clear hC
    go_simp
    first | done | rfl | exact ⟨rfl, rfl⟩
  clear nr
  replace tr := Lib.hid tr
  simp only [Act.put, List.setIfInBounds_toArray, List.set_cons_zero]
  refine g_end ?_
  intro w1 hC1 hh1
  have S1 : Hid (Stays [(gr, Obj.cells #[.int .u64 0, .int .u64 0] 25 (0, 0))] w w1) := Lib.hid (stays_cons ((hh1 _ _ _ (own_new _ _ _ _)).1) (stays_nil (stays_below hC1)))
  clear hC1 hh1
  go_upto_region 1 with fail
  refine reg_plain (Stays [(gr, Obj.cells #[.int .u64 0, .int .u64 0] 25 (0, 0))] w) (Turns [(gr, Obj.cells #[.int .u64 0, .int .u64 0] 25 (0, 0))] w) (kdOf [(0, .make (fun _ => callM (wv 0 1152921504606846976))), (1, .make (fun _ => callM (.tuple #[.agg #[.int .u64 62500000, .int .u64 0], .bool true]))), (5, .make (fun _ => allocM (.cells #[.int .u64 0, .int .u64 0] 25))), (6, .touch)]) none0 (stays_good _ _) (S1.out) (holds0 _) ?_
  refine g_call (stays_good _ _) (wv 0 1152921504606846976) rfl rfl (fun w' hC => ?_) ?_
  · clear hC
    go_simp
    refine (of1_any _ 1152921504606846976).mono (fun e w2 h => ?_)
    obtain ⟨h1, h2⟩ := h
    exact gives h1 h2
  simp only [Act.put, List.setIfInBounds_toArray, List.set_cons_zero, List.set_cons_succ]
  refine g_call (stays_good _ _) (.tuple #[.agg #[.int .u64 62500000, .int .u64 0], .bool true]) rfl rfl (fun w' hC => ?_) ?_
  · clear hC
    go_simp
    refine (times_word_any _ 0 1152921504606846976 1000000000 u_zero (by unfold U; decide) (by unfold U; decide)).mono (fun e w2 h => ?_)
    obtain ⟨h1, h2⟩ := h
    rw [opt_most] at h1
    exact gives h1 h2
  simp only [Act.put, List.setIfInBounds_toArray, List.set_cons_zero, List.set_cons_succ]
  refine g_look rfl rfl ?_ (fun w' hC => ?_) ?_
  rotate_left
  · go_simp
    first | done | rfl
  simp only [Act.put, List.setIfInBounds_toArray, List.set_cons_zero, List.set_cons_succ]
  refine g_look rfl rfl ?_ (fun w' hC => ?_) ?_
  rotate_left
  · go_simp
    first | done | rfl
  simp only [Act.put, List.setIfInBounds_toArray, List.set_cons_zero, List.set_cons_succ]
  refine g_look rfl rfl ?_ (fun w' hC => ?_) ?_
  rotate_left
  · go_simp
    first | done | rfl
  simp only [Act.put, List.setIfInBounds_toArray, List.set_cons_zero, List.set_cons_succ]
  refine g_alloc (stays_good _ _) (.cells #[.int .u64 0, .int .u64 0] 25) rfl rfl (fun w' hC => ?_) (fun ga ta na => ?_)
  · clear hC
    go_simp
    first | done | rfl | exact ⟨rfl, rfl⟩
  clear na
  replace ta := Lib.hid ta
  simp only [Act.put, List.setIfInBounds_toArray, List.set_cons_zero, List.set_cons_succ]
  refine g_store ga (some 5) 25 25 _ _ #[.int .u64 0, .int .u64 0] #[.int .u64 62500000, .int .u64 0] rfl rfl rfl rfl rfl (own_new _ _ _ _) (by kernel_rfl) (rfl) (rfl) (one25 _ _) ?_
  simp only [Act.put]
  refine g_look rfl rfl ?_ (fun w' hC => ?_) ?_
  rotate_left
  · go_simp
    first | done | rfl
  simp only [Act.put, List.setIfInBounds_toArray, List.set_cons_zero, List.set_cons_succ]
  refine g_end ?_
  intro w2 hC2 hh2
  have S2 : Hid (Stays [(gr, Obj.cells #[.int .u64 0, .int .u64 0] 25 (0, 0)), (ga, Obj.cells #[.int .u64 62500000, .int .u64 0] 25 (0, 0))] w w2) := Lib.hid (stays_cons (stays_row hC2 (List.mem_cons_self ..)) (stays_cons ((hh2 _ _ _ (own_new _ _ _ _)).1) (stays_nil (stays_below hC2))))
  clear S1
  clear hC2 hh2
  go_upto_region 2 with fail
  refine reg_plain (Stays [(ga, Obj.cells #[.int .u64 62500000, .int .u64 0] 25 (0, 0))] w) (Turns [(ga, Obj.cells #[.int .u64 62500000, .int .u64 0] 25 (0, 0))] w) (kdOf [(1, .touch)]) (Own.has none0 gr (Obj.cells #[.int .u64 0, .int .u64 0] 25 (0, 0))) (stays_good _ _) (stays_cons (stays_row S2.out (List.mem_cons_of_mem _ (List.mem_cons_self ..))) (stays_nil (stays_below S2.out))) (holds_has (holds0 _) (stays_row S2.out (List.mem_cons_self ..)) (turns_cons (turns_head ta.out).symm (turns_nil tr.out.2))) ?_
  (refine g_load 25 _ ga 25 #[.int .u64 62500000, .int .u64 0] (0, 0) _ rfl rfl rfl rfl (fun w' hC => stays_row hC (List.mem_cons_self ..)) Try.underlying25 rfl (rfl) ?_)
  simp only [Act.put, List.setIfInBounds_toArray, List.set_cons_zero, List.set_cons_succ]
  refine g_store gr none 25 25 _ _ #[.int .u64 0, .int .u64 0] #[.int .u64 62500000, .int .u64 0] rfl rfl rfl rfl rfl (has_same _ _ _) (by kernel_rfl) (rfl) (rfl) (one25 _ _) ?_
  simp only [Act.put]
  refine g_end ?_
  intro w3 hC3 hh3
  have S3 : Hid (Stays [(gr, Obj.cells #[.int .u64 62500000, .int .u64 0] 25 (0, 0)), (ga, Obj.cells #[.int .u64 62500000, .int .u64 0] 25 (0, 0))] w w3) := Lib.hid (stays_cons ((hh3 _ _ _ (own_new _ _ _ _)).1) (stays_cons (stays_row hC3 (List.mem_cons_self ..)) (stays_nil (stays_below hC3))))
  clear S2
  clear hC3 hh3
  go_wp2_with fail
  refine bodyPost_ret (v := wv 62500000 0) (results_cell58 (stays_head S3.out)) rfl ⟨rfl, stays_below S3.out⟩
set_option maxHeartbeats 4000000 in
theorem fits_any (w : World) (a b : Int) (ha : U a) (hb : U b) : Calls Try.prog 33 #[wv a b] w (Ret w (.bool (decide (wval a b ≤ Most)))) := by
  have hc : cmpI (wval a b) (wval 62500000 0) ≤ 0 ↔ wval a b ≤ Most := by
    show cmpI (wval a b) 1152921504606846976000000000 ≤ 0 ↔ wval a b ≤ 1152921504606846976000000000
    unfold cmpI
    split
    · omega
    · split <;> omega
  obtain ⟨k, hk⟩ : ∃ k, cmpI (wval a b) (wval 62500000 0) = k := ⟨_, rfl⟩
  obtain ⟨t, ht⟩ : ∃ t, decide (wval a b ≤ Most) = t := ⟨_, rfl⟩
  have htk : decide (k ≤ 0) = t := by rw [← ht, ← hk]; exact decide_eq_decide.2 hc
  rw [ht]
  have HK := Lib.hid hk
  have HA := Lib.hid ha
  have HB := Lib.hid hb
  have HT := Lib.hid htk
  clear hk ha hb ht hc htk
  have S0 : Hid (Stays [] w w) := Lib.hid (stays_nil (Below.refl _ _))
  go_enter Try.func33, Try.ntmps33
  go_upto_region 0 with fail
  refine reg_plain (Stays [] w) (Turns [] w) (kdOf [(0, .make (fun _ => allocM (.cells #[.int .u64 a, .int .u64 b] 25)))]) none0 (stays_good _ _) (S0.out) (holds0 _) ?_
  refine g_alloc (stays_good _ _) (.cells #[.int .u64 a, .int .u64 b] 25) rfl rfl (fun w' hC => ?_) (fun gx tx nx => ?_)
  · clear hC
    go_simp
    first | done | rfl | exact ⟨rfl, rfl⟩
  clear nx
  replace tx := Lib.hid tx
  simp only [Act.put, List.setIfInBounds_toArray, List.set_cons_zero, List.set_cons_succ]
  refine g_look rfl rfl ?_ (fun w' hC => ?_) ?_
  rotate_left
  · go_simp
    first | done | rfl
  simp only [Act.put, List.setIfInBounds_toArray, List.set_cons_zero, List.set_cons_succ]
  refine g_end ?_
  intro w1 hC1 hh1
  have S1 : Hid (Stays [(gx, Obj.cells #[.int .u64 a, .int .u64 b] 25 (0, 0))] w w1) := Lib.hid (stays_cons ((hh1 _ _ _ (own_new _ _ _ _)).1) (stays_nil (stays_below hC1)))
  clear hC1 hh1
  go_upto_region 1 with fail
  refine reg (Stays [(gx, Obj.cells #[.int .u64 a, .int .u64 b] 25 (0, 0))] w) (Turns [(gx, Obj.cells #[.int .u64 a, .int .u64 b] 25 (0, 0))] w) (kdOf [(1, .make (fun _ => callM (wv 62500000 0))), (2, .make (fun _ => callM (.int .i64 k)))]) none0 (stays_good _ _) (by kernel_rfl) (by kernel_rfl) (stays_drew (S1.out)) (holds0 _) ?_
  (refine g_load 25 _ gx 25 #[.int .u64 a, .int .u64 b] (0, 0) _ rfl rfl rfl rfl (fun w' hC => stays_row hC (List.mem_cons_self ..)) Try.underlying25 rfl (rfl) ?_)
  simp only [Act.put, List.setIfInBounds_toArray, List.set_cons_zero, List.set_cons_succ]
  refine g_call (stays_good _ _) (wv 62500000 0) rfl rfl (fun w' hC => ?_) ?_
  · clear hC
    go_simp
    refine (most_any _).mono (fun e w2 h => ?_)
    obtain ⟨h1, h2⟩ := h
    exact gives h1 h2
  simp only [Act.put, List.setIfInBounds_toArray, List.set_cons_zero, List.set_cons_succ]
  refine g_call (stays_good _ _) (.int .i64 k) rfl rfl (fun w' hC => ?_) ?_
  · clear hC
    go_simp
    refine (compare_any _ a b 62500000 0 HA.out HB.out (by unfold U; decide) u_zero).mono (fun e w2 h => ?_)
    obtain ⟨h1, h2⟩ := h
    rw [HK.out] at h1
    exact gives h1 h2
  simp only [Act.put, List.setIfInBounds_toArray, List.set_cons_zero, List.set_cons_succ]
  refine g_look rfl rfl (.bool t) (fun w' hC => ?_) ?_
  · go_simp
    first | done | exact ⟨congrArg Value.bool HT.out, rfl⟩ | exact congrArg Value.bool HT.out | (have := HT.out; simp_all; done)
  simp only [Act.put, List.setIfInBounds_toArray, List.set_cons_zero, List.set_cons_succ]
  refine g_look rfl rfl ?_ (fun w' hC => ?_) ?_
  rotate_left
  · go_simp
    first | done | rfl
  simp only [Act.put, List.setIfInBounds_toArray, List.set_cons_zero, List.set_cons_succ]
  refine g_end ?_
  intro w2 hC2 hh2
  have S2 : Hid (Stays [(gx, Obj.cells #[.int .u64 a, .int .u64 b] 25 (0, 0))] w w2) := Lib.hid (stays_cons (stays_row hC2 (List.mem_cons_self ..)) (stays_nil (stays_below hC2)))
  clear S1
  clear hC2 hh2
  go_wp2_with fail
  refine bodyPost_ret (v := .bool t) (by simp [results, Try.results33, go_sem]) rfl ⟨rfl, stays_below S2.out⟩
end Go.Proofs.Ythpdfacdjgkmpaa.Wi
