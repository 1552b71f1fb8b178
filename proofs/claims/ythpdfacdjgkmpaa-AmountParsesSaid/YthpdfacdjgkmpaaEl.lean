/- An amount is parsed, by a walk. -/
import Derived.Test.YthpdfacdjgkmpaaEk
namespace Go.Proofs.Ythpdfacdjgkmpaa.Wi
open Go.RowKit K

attribute [local go_sem] lookTo stepTo Maker.step
attribute [local go_sem ↓] idxL st_size one_size st_list add_st
theorem results_err8 {W : World} {g : Nat} {x y t : Value} {tmps : Array Value} (h : W.heap[g]? = some (.cells #[x, y] 25 (0, 0))) (i24 : (Try.prog.info? 25).map (·.size) = some 2 := by rfl) (e4 : tmps.getD 2 undef = .pointer (some ⟨g, 0, none⟩) := by rfl) (e5 : tmps.getD 3 undef = t := by rfl) :
    (results Try.f8 tmps).run Try.prog W = .ok (.tuple #[.agg #[x, y], t]) W := by
  have h' := run_loadVar_row (P := Try.prog) W g 25 25 _ (0, 0) _ h Try.underlying25 rfl i24
  have e4' : tmps[2]?.getD undef = .pointer (some ⟨g, 0, none⟩) := by simpa using e4
  have e5' : tmps[3]?.getD undef = t := by simpa using e5
  simp [results, Try.results8, e4', e5', asAddr, h']
theorem i64w (n : Int) : IntKind.i64.wrap n = wrap64 n := by rw [IntKind.wrap_i64, wrap64]
theorem dig_facts {b : Int} {n d : Nat} (hn : (n : Int) = b) (h1 : 48 ≤ n ∧ n ≤ 57) (hd : n - 48 = d) : IntKind.u8.wrap (b - 48) = (d : Int) ∧ IntKind.u64.wrap (d : Int) = (d : Int) ∧ d ≤ 9 ∧ U (d : Int) := by
  have e : b - 48 = (d : Int) := by omega
  refine ⟨?_, wu_small (by omega) (by omega), by omega, by unfold U; omega⟩
  rw [e]
  simp [IntKind.wrap, IntKind.signed, IntKind.bits]
  omega
theorem parse_round {a b : Int} {v d : Nat} (hab : U a ∧ U b ∧ wval a b = (v : Int)) (hv : v < 1000000000000000000000000000) (hd : d ≤ 9) : ∃ a1 b1 a2 b2 : Int, U a1 ∧ U b1 ∧ optV (wval a b * 10) (wval a b * 10 < 340282366920938463463374607431768211456) = .tuple #[.agg #[.int .u64 a1, .int .u64 b1], .bool true] ∧ (U a2 ∧ U b2 ∧ wval a2 b2 = ((v * 10 + d : Nat) : Int)) ∧ optV (wval a1 b1 + wval 0 (d : Int)) (wval a1 b1 + wval 0 (d : Int) < 340282366920938463463374607431768211456) = .tuple #[.agg #[.int .u64 a2, .int .u64 b2], .bool true] := by
  obtain ⟨ha, hb, hw⟩ := hab
  rw [hw]
  obtain ⟨a1, b1, ha1, hb1, hv1, he1⟩ := opt_open (X := (v : Int) * 10) (by omega) (by unfold Lim; omega)
  have e : wval a1 b1 + wval 0 (d : Int) = ((v * 10 + d : Nat) : Int) := by rw [hv1]; unfold wval; omega
  obtain ⟨a2, b2, ha2, hb2, hv2, he2⟩ := opt_open (X := ((v * 10 + d : Nat) : Int)) (Int.natCast_nonneg _) (by unfold Lim; omega)
  exact ⟨a1, b1, a2, b2, ha1, hb1, he1, ⟨ha2, hb2, hv2⟩, by rw [e]; exact he2⟩
theorem round_pre {dd : List UInt8} {n k : Nat} (hn : dd.length = n) (hc : cntD dd = dd.length) (h28 : n ≤ 28) (hk : k < n) : (k : Int) < (n : Int) ∧ k < dd.length ∧ wrap64 ((k : Int) + 1) = (k : Int) + 1 ∧ (48 ≤ byteL dd k ∧ byteL dd k ≤ 57) ∧ valD (dd.take k) < 1000000000000000000000000000 := by
  refine ⟨by omega, by omega, wrap_small (by omega) (by omega), (cnt_more (l := dd) (k := k) (by omega) (by omega)).1 (by omega), ?_⟩
  have hv := val_lt hc k (by omega)
  have h2 : 10 ^ k ≤ 10 ^ 27 := Nat.pow_le_pow_right (by decide) (by omega)
  exact Nat.lt_of_lt_of_le hv h2
theorem nofit {m : Nat} (h : m ≤ maxLen) : ¬ 9223372036854775807 < m := by unfold maxLen at h; omega
theorem sum_facts {a b : Nat} (h : a + b ≤ maxLen) : wrap64 ((a : Int) + (b : Int)) = (a : Int) + (b : Int) := by
  unfold maxLen at h
  simp only [wrap64]
  omega
theorem long_yes {a b : Nat} (h : 28 < a + b) : (28 : Int) < (a : Int) + (b : Int) := by omega
theorem long_no {a b : Nat} (h : ¬ 28 < a + b) : ¬ (28 : Int) < (a : Int) + (b : Int) := by omega
theorem n_facts {n a b : Nat} {l : Nat} (h : l = a + b) (hn : l = n) (h2 : ¬ 28 < a + b) : n ≤ 28 ∧ (a : Int) + (b : Int) = (n : Int) ∧ b ≤ 28 := ⟨by omega, by omega, by omega⟩
theorem round_end {n k : Nat} (h : k < n) : k + 1 ≤ n ∧ n - ((k : Int) + 1).toNat < n - (k : Int).toNat := ⟨h, by omega⟩
theorem end_k {n k : Nat} (h : k ≤ n) (h2 : ¬ k < n) : k = n ∧ ¬ (k : Int) < (n : Int) := ⟨by omega, by omega⟩
theorem no_le {a b : Int} (h : a < b) : ¬ b ≤ a := by omega
theorem end_facts {tx tt : Int} {n2 : Nat} (h0 : -99 ≤ tx) (h1 : tx ≤ 99) (h2 : n2 ≤ 28) (ht : 9 + tx - (n2 : Int) = tt) : wrap64 (9 + tx) = 9 + tx ∧ wrap64 (9 + tx - (n2 : Int)) = tt ∧ -200 ≤ tt ∧ tt ≤ 200 ∧ (tx = 0 → -19 ≤ tt) :=
  ⟨wrap_small (by omega) (by omega), by rw [wrap_small (by omega) (by omega)]; exact ht, by omega, by omega, by omega⟩
theorem neg_facts {tt : Int} {e : Nat} (h0 : -200 ≤ tt) (h1 : tt < 0) (he : (-tt).toNat = e) : wrap64 (-tt) = (e : Int) ∧ e ≤ 1000 ∧ (-19 ≤ tt → e ≤ 19) :=
  ⟨by rw [wrap_small (by omega) (by omega)]; omega, by omega, by omega⟩
theorem pos_facts {tt : Int} {e : Nat} (h0 : tt ≤ 200) (h1 : ¬ tt < 0) (he : tt.toNat = e) : tt = (e : Int) ∧ e ≤ 1000 := ⟨by omega, by omega⟩
theorem v_lt {v : Nat} (h : v < 10000000000000000000000000000) : (v : Int) < Lim := by unfold Lim; omega
theorem ten_pow {k : Nat} (h : k ≤ 28) : 10 ^ k ≤ 10000000000000000000000000000 := Nat.le_trans (Nat.pow_le_pow_right (by decide) h) (by decide)
set_option maxHeartbeats 4000000 in
set_option maxRecDepth 100000 in
theorem parse_any (w : World) (l : List UInt8) (hl : l.length ≤ maxLen) : Calls Try.prog 8 #[.string ⟨l.toArray⟩] w (Ret w (parseV l)) := by
  obtain ⟨V, hV⟩ : ∃ V, parseV l = V := ⟨_, rfl⟩
  rw [hV]
  have HV := Lib.hid hV
  have HL := Lib.hid hl
  clear hl hV
  have S0 : Hid (Stays [] w w) := Lib.hid (stays_nil (Below.refl _ _))
  go_enter Try.func8, Try.ntmps8
  go_upto_region 0 with fail
  refine reg_plain (Stays [] w) (Turns [] w) (kdOf [(0, .make (fun _ => allocM (.cells #[.int .u64 0, .int .u64 0] 25)))]) none0 (stays_good _ _) (S0.out) (holds0 _) ?_
  refine g_alloc (stays_good _ _) (.cells #[.int .u64 0, .int .u64 0] 25) rfl rfl (fun w' hC => ?_) (fun gr tr nr => ?_)
  · clear hC
    go_simp
    first | done | rfl | exact ⟨rfl, rfl⟩
  clear nr
  replace tr := Lib.hid tr
  simp only [Act.put, List.setIfInBounds_toArray, List.set_cons_zero, List.set_cons_succ]
  refine g_look rfl rfl ?_ (fun w' hC => ?_) ?_
  rotate_left
  · go_simp
    first | done | rfl
  simp only [Act.put, List.setIfInBounds_toArray, List.set_cons_zero, List.set_cons_succ]
  refine g_end ?_
  intro w1 hC1 hh1
  have S1 : Hid (Stays [(gr, Obj.cells #[.int .u64 0, .int .u64 0] 25 (0, 0))] w w1) := Lib.hid (stays_cons ((hh1 _ _ _ (own_new _ _ _ _)).1) (stays_nil (stays_below hC1)))
  clear hC1 hh1
  cases l with
  | nil =>
    go_upto_region 2 with fail
    refine reg_plain (Stays [] w) (Turns [] w) (kdOf [(1, .touch)]) (Own.has none0 gr (Obj.cells #[.int .u64 0, .int .u64 0] 25 (0, 0))) (stays_good _ _) (stays_nil (stays_below S1.out)) (holds_has (holds0 _) (stays_row S1.out (List.mem_cons_self ..)) (turns_nil tr.out.2)) ?_
    refine g_look rfl rfl ?_ (fun w' hC => ?_) ?_
    rotate_left
    · go_simp
      first | done | rfl
    simp only [Act.put, List.setIfInBounds_toArray, List.set_cons_zero, List.set_cons_succ]
    refine g_store gr none 25 25 _ _ #[.int .u64 0, .int .u64 0] #[.int .u64 0, .int .u64 0] rfl rfl rfl rfl rfl (has_same _ _ _) (by kernel_rfl) (rfl) (rfl) (one25 _ _) ?_
    simp only [Act.put]
    refine g_look rfl rfl ?_ (fun w' hC => ?_) ?_
    rotate_left
    · go_simp
      first | done | rfl
    simp only [Act.put, List.setIfInBounds_toArray, List.set_cons_zero, List.set_cons_succ]
    refine g_end ?_
    intro w2 hC2 hh2
    have S2 : Hid (Stays [(gr, Obj.cells #[.int .u64 0, .int .u64 0] 25 (0, 0))] w w2) := Lib.hid (stays_cons ((hh2 _ _ _ (own_new _ _ _ _)).1) (stays_nil (stays_below hC2)))
    clear S1
    clear hC2 hh2
    go_wp2_with fail
    refine bodyPost_ret (v := .tuple #[.agg #[.int .u64 0, .int .u64 0], .int .i64 10]) (results_err8 (stays_head S2.out)) rfl ⟨congrArg Ending.returned (by rw [← HV.out]; rfl), stays_below S2.out⟩
  | cons c0 l0 =>
    have hne : (c0 :: l0 : List UInt8) ≠ [] := by simp
    generalize c0 :: l0 = l at *
    clear c0 l0
    have hcl := cnt_le l
    have hwd := allD_take l
    have hVV : (if head (l.drop (cntD l)) 46 = true then parseW (l.take (cntD l)) ((l.drop (cntD l)).tail.take (cntD (l.drop (cntD l)).tail)) ((l.drop (cntD l)).tail.drop (cntD (l.drop (cntD l)).tail))
      else parseW (l.take (cntD l)) [] (l.drop (cntD l))) = V := by rw [← HV.out, parseV, if_neg hne]
    obtain ⟨WD, hWD⟩ : ∃ W, l.take (cntD l) = W := ⟨_, rfl⟩
    obtain ⟨R, hR⟩ : ∃ R, l.drop (cntD l) = R := ⟨_, rfl⟩
    have hlw : WD.length + R.length ≤ l.length := by rw [← hWD, ← hR, List.length_take, List.length_drop]; omega
    have HDV : Hid (digV l = .tuple #[.string ⟨WD.toArray⟩, .string ⟨R.toArray⟩]) := Lib.hid (by rw [digV, hWD, hR])
    rw [hWD, hR] at hVV
    rw [hWD] at hwd
    have HVV := Lib.hid hVV
    have HWD := Lib.hid hwd
    have HNE := Lib.hid hne
    have HLW := Lib.hid hlw
    have HLR : Hid (R.length ≤ maxLen) := Lib.hid (by have := HL.out; omega)
    clear hVV hwd hWD hR HV hcl hlw
    have hne2 : (l == []) = false := beq_eq_false_iff_ne.2 hne
    clear hne
    go_upto_region 1 with fail
    refine reg_plain (Stays [(gr, Obj.cells #[.int .u64 0, .int .u64 0] 25 (0, 0))] w) (Turns [(gr, Obj.cells #[.int .u64 0, .int .u64 0] 25 (0, 0))] w) (kdOf []) none0 (stays_good _ _) (S1.out) (holds0 _) ?_
    refine g_look rfl rfl ?_ (fun w' hC => ?_) ?_
    rotate_left
    · go_simp
      first | done | rfl
    simp only [Act.put, List.setIfInBounds_toArray, List.set_cons_zero, List.set_cons_succ]
    refine g_look rfl rfl (.bool false) (fun w' hC => ?_) ?_
    · clear hC
      go_simp
      first | done | rfl | exact hne2 | (simp; exact HNE.out)
    simp only [Act.put, List.setIfInBounds_toArray, List.set_cons_zero, List.set_cons_succ]
    refine g_end ?_
    intro w2 hC2 hh2
    have S2 : Hid (Stays [(gr, Obj.cells #[.int .u64 0, .int .u64 0] 25 (0, 0))] w w2) := Lib.hid (stays_cons (stays_row hC2 (List.mem_cons_self ..)) (stays_nil (stays_below hC2)))
    clear S1
    clear hC2 hh2
    go_upto_region 3 with fail
    refine reg_plain (Stays [(gr, Obj.cells #[.int .u64 0, .int .u64 0] 25 (0, 0))] w) (Turns [(gr, Obj.cells #[.int .u64 0, .int .u64 0] 25 (0, 0))] w) (kdOf [(1, .make (fun _ => callM (.tuple #[.string ⟨WD.toArray⟩, .string ⟨R.toArray⟩])))]) none0 (stays_good _ _) (S2.out) (holds0 _) ?_
    refine g_look rfl rfl ?_ (fun w' hC => ?_) ?_
    rotate_left
    · go_simp
      first | done | rfl
    simp only [Act.put, List.setIfInBounds_toArray, List.set_cons_zero, List.set_cons_succ]
    refine g_call (stays_good _ _) (.tuple #[.string ⟨WD.toArray⟩, .string ⟨R.toArray⟩]) rfl rfl (fun w' hC => ?_) ?_
    · clear hC
      go_simp
      refine (digits_any _ l HL.out).mono (fun e w2 h => ?_)
      obtain ⟨h1, h2⟩ := h
      rw [HDV.out] at h1
      exact gives h1 h2
    simp only [Act.put, List.setIfInBounds_toArray, List.set_cons_zero, List.set_cons_succ]
    refine g_look rfl rfl ?_ (fun w' hC => ?_) ?_
    rotate_left
    · go_simp
      first | done | rfl
    simp only [Act.put, List.setIfInBounds_toArray, List.set_cons_zero, List.set_cons_succ]
    refine g_look rfl rfl ?_ (fun w' hC => ?_) ?_
    rotate_left
    · go_simp
      first | done | rfl
    simp only [Act.put, List.setIfInBounds_toArray, List.set_cons_zero, List.set_cons_succ]
    refine g_look rfl rfl ?_ (fun w' hC => ?_) ?_
    rotate_left
    · go_simp
      first | done | rfl
    simp only [Act.put, List.setIfInBounds_toArray, List.set_cons_zero, List.set_cons_succ]
    refine g_look rfl rfl ?_ (fun w' hC => ?_) ?_
    rotate_left
    · go_simp
      first | done | rfl
    simp only [Act.put, List.setIfInBounds_toArray, List.set_cons_zero, List.set_cons_succ]
    refine g_look rfl rfl ?_ (fun w' hC => ?_) ?_
    rotate_left
    · go_simp
      first | done | rfl
    simp only [Act.put, List.setIfInBounds_toArray, List.set_cons_zero, List.set_cons_succ]
    refine g_end ?_
    intro w3 hC3 hh3
    have S3 : Hid (Stays [(gr, Obj.cells #[.int .u64 0, .int .u64 0] 25 (0, 0))] w w3) := Lib.hid (stays_cons (stays_row hC3 (List.mem_cons_self ..)) (stays_nil (stays_below hC3)))
    clear S2
    clear hC3 hh3
    go_upto_region 4 with fail
    refine reg_plain (Stays [(gr, Obj.cells #[.int .u64 0, .int .u64 0] 25 (0, 0))] w) (Turns [(gr, Obj.cells #[.int .u64 0, .int .u64 0] 25 (0, 0))] w) (kdOf []) none0 (stays_good _ _) (S3.out) (holds0 _) ?_
    refine g_look rfl rfl ?_ (fun w' hC => ?_) ?_
    rotate_left
    · go_simp
      first | done | rfl
    simp only [Act.put, List.setIfInBounds_toArray, List.set_cons_zero, List.set_cons_succ]
    refine g_end ?_
    intro w4 hC4 hh4
    have S4 : Hid (Stays [(gr, Obj.cells #[.int .u64 0, .int .u64 0] 25 (0, 0))] w w4) := Lib.hid (stays_cons (stays_row hC4 (List.mem_cons_self ..)) (stays_nil (stays_below hC4)))
    clear S3
    clear hC4 hh4
    go_upto_region 5 with fail
    refine reg_plain (Stays [(gr, Obj.cells #[.int .u64 0, .int .u64 0] 25 (0, 0))] w) (Turns [(gr, Obj.cells #[.int .u64 0, .int .u64 0] 25 (0, 0))] w) (kdOf [(1, .make (fun _ => callM (.bool (head R 46))))]) none0 (stays_good _ _) (S4.out) (holds0 _) ?_
    refine g_look rfl rfl ?_ (fun w' hC => ?_) ?_
    rotate_left
    · go_simp
      first | done | rfl
    simp only [Act.put, List.setIfInBounds_toArray, List.set_cons_zero, List.set_cons_succ]
    refine g_call (stays_good _ _) (.bool (head R 46)) rfl rfl (fun w' hC => ?_) ?_
    · clear hC
      go_simp
      refine (pre_any _ R 46).mono (fun e w2 h => ?_)
      obtain ⟨h1, h2⟩ := h
      exact gives h1 h2
    simp only [Act.put, List.setIfInBounds_toArray, List.set_cons_zero, List.set_cons_succ]
    refine g_end ?_
    intro w5 hC5 hh5
    have S5 : Hid (Stays [(gr, Obj.cells #[.int .u64 0, .int .u64 0] 25 (0, 0))] w w5) := Lib.hid (stays_cons (stays_row hC5 (List.mem_cons_self ..)) (stays_nil (stays_below hC5)))
    clear S4
    clear hC5 hh5
    cases hh : head R 46 with
    | false =>
      have HVP : Hid (parseW WD [] R = V) := Lib.hid (by rw [← HVV.out, if_neg (by rw [hh]; decide)])
      have HLS := HLR
      have HPD : Hid (∀ c ∈ ([] : List UInt8), isD c = true) := Lib.hid (fun c hc => by cases hc)
      have HLP : Hid (WD.length + ([] : List UInt8).length ≤ maxLen) := Lib.hid (by have := HLW.out; have := HL.out; simp; omega)
      clear HVV hh
      rcases scale_open R with ⟨sx, tx0, zx, hsc, hsp, ht0, ht1, hz, hzt⟩ | ⟨sx, tx0, zx, hsc, hsp⟩
      · have HSC := Lib.hid hsc
        have HSP := Lib.hid hsp
        have HZT := Lib.hid hzt
        clear hsc hsp hzt
        go_upto_region 7 with fail
        refine reg_plain (Stays [(gr, Obj.cells #[.int .u64 0, .int .u64 0] 25 (0, 0))] w) (Turns [(gr, Obj.cells #[.int .u64 0, .int .u64 0] 25 (0, 0))] w) (kdOf [(1, .make (fun _ => callM (.tuple #[.agg #[.string ⟨sx.toArray⟩, .int .i64 tx0, .int .i64 (zx : Int)], .bool true]))), (5, .make (fun _ => allocM (.cells Z3 54))), (6, .touch)]) none0 (stays_good _ _) (S5.out) (holds0 _) ?_
        refine g_look rfl rfl ?_ (fun w' hC => ?_) ?_
        rotate_left
        · go_simp
          first | done | rfl
        simp only [Act.put, List.setIfInBounds_toArray, List.set_cons_zero, List.set_cons_succ]
        refine g_call (stays_good _ _) (.tuple #[.agg #[.string ⟨sx.toArray⟩, .int .i64 tx0, .int .i64 (zx : Int)], .bool true]) rfl rfl (fun w' hC => ?_) ?_
        · clear hC
          go_simp
          refine (scale_any _ R HLS.out).mono (fun e w2 h => ?_)
          obtain ⟨h1, h2⟩ := h
          rw [HSC.out] at h1
          exact gives h1 h2
        simp only [Act.put, List.setIfInBounds_toArray, List.set_cons_zero, List.set_cons_succ]
        refine g_look rfl rfl ?_ (fun w' hC => ?_) ?_
        rotate_left
        · go_simp
          first | done | rfl
        simp only [Act.put, List.setIfInBounds_toArray, List.set_cons_zero, List.set_cons_succ]
        refine g_look rfl rfl ?_ (fun w' hC => ?_) ?_
        rotate_left
        · go_simp
          first | done | rfl
        simp only [Act.put, List.setIfInBounds_toArray, List.set_cons_zero, List.set_cons_succ]
        refine g_look rfl rfl ?_ (fun w' hC => ?_) ?_
        rotate_left
        · go_simp
          first | done | rfl
        simp only [Act.put, List.setIfInBounds_toArray, List.set_cons_zero, List.set_cons_succ]
        refine g_alloc (stays_good _ _) (.cells Z3 54) rfl rfl (fun w' hC => ?_) (fun gx tx nx => ?_)
        · clear hC
          go_simp
          first | done | rfl | exact ⟨rfl, rfl⟩
        clear nx
        replace tx := Lib.hid tx
        simp only [Act.put, List.setIfInBounds_toArray, List.set_cons_zero, List.set_cons_succ]
        refine g_store gx (some 5) 54 54 _ _ Z3 #[.string ⟨sx.toArray⟩, .int .i64 tx0, .int .i64 (zx : Int)] rfl rfl rfl rfl rfl (own_new _ _ _ _) (by kernel_rfl) (rfl) (rfl) ((by simp [Value.oneCell'])) ?_
        simp only [Act.put]
        refine g_look rfl rfl ?_ (fun w' hC => ?_) ?_
        rotate_left
        · go_simp
          first | done | rfl
        simp only [Act.put, List.setIfInBounds_toArray, List.set_cons_zero, List.set_cons_succ]
        refine g_end ?_
        intro w6 hC6 hh6
        have S6 : Hid (Stays [(gr, Obj.cells #[.int .u64 0, .int .u64 0] 25 (0, 0)), (gx, Obj.cells #[.string ⟨sx.toArray⟩, .int .i64 tx0, .int .i64 (zx : Int)] 54 (0, 0))] w w6) := Lib.hid (stays_cons (stays_row hC6 (List.mem_cons_self ..)) (stays_cons ((hh6 _ _ _ (own_new _ _ _ _)).1) (stays_nil (stays_below hC6))))
        clear S5
        clear hC6 hh6
        have hcat : Hid (¬ 9223372036854775807 < WD.length) := Lib.hid (nofit HLP.out)
        by_cases hD : WD ++ ([] : List UInt8) = []
        · have HD := Lib.hid hD
          go_upto_region 8 with fail
          refine reg_plain (Stays [(gr, Obj.cells #[.int .u64 0, .int .u64 0] 25 (0, 0)), (gx, Obj.cells #[.string ⟨sx.toArray⟩, .int .i64 tx0, .int .i64 (zx : Int)] 54 (0, 0))] w) (Turns [(gr, Obj.cells #[.int .u64 0, .int .u64 0] 25 (0, 0)), (gx, Obj.cells #[.string ⟨sx.toArray⟩, .int .i64 tx0, .int .i64 (zx : Int)] 54 (0, 0))] w) (kdOf []) none0 (stays_good _ _) (S6.out) (holds0 _) ?_
          refine g_look rfl rfl ?_ (fun w' hC => ?_) ?_
          rotate_left
          · go_simp
            first | done | rfl
          simp only [Act.put, List.setIfInBounds_toArray, List.set_cons_zero, List.set_cons_succ]
          refine g_look rfl rfl ?_ (fun w' hC => ?_) ?_
          rotate_left
          · go_simp
            first | done | rfl
          simp only [Act.put, List.setIfInBounds_toArray, List.set_cons_zero, List.set_cons_succ]
          refine g_look rfl rfl ?_ (fun w' hC => ?_) ?_
          rotate_left
          · go_simp
            first | done | rfl
          simp only [Act.put, List.setIfInBounds_toArray, List.set_cons_zero, List.set_cons_succ]
          first
          | (refine g_skip rfl ?_)
          | (refine g_look rfl rfl ?_ (fun w' hC => ?_) ?_
             rotate_left
             · go_simp
               first | done | rfl)
          simp only [Act.put, List.setIfInBounds_toArray, List.set_cons_zero, List.set_cons_succ]
          first
          | (refine g_skip rfl ?_)
          | (refine g_look rfl rfl ?_ (fun w' hC => ?_) ?_
             rotate_left
             · go_simp
               first | done | rfl)
          simp only [Act.put, List.setIfInBounds_toArray, List.set_cons_zero, List.set_cons_succ]
          first
          | (refine g_skip rfl ?_)
          | (refine g_look rfl rfl (.string ⟨(WD ++ ([] : List UInt8)).toArray⟩) (fun w' hC => ?_) ?_
             · clear hC
               clear hD
               go_simp
               first | done | rfl | exact add_st _ _ | (simp [hcat.out]; done) | (simp [hcat2.out]; done))
          simp only [Act.put, List.setIfInBounds_toArray, List.set_cons_zero, List.set_cons_succ]
          first
          | (refine g_skip rfl ?_)
          | (refine g_look rfl rfl (.bool true) (fun w' hC => ?_) ?_
             · clear hC
               go_simp
               first | done | rfl | (rw [hD]; done) | (simp [hD]; done) | (rw [HD.out]; rfl))
          simp only [Act.put, List.setIfInBounds_toArray, List.set_cons_zero, List.set_cons_succ]
          refine g_look rfl rfl ?_ (fun w' hC => ?_) ?_
          rotate_left
          · go_simp
            first | done | rfl
          simp only [Act.put, List.setIfInBounds_toArray, List.set_cons_zero, List.set_cons_succ]
          refine g_look rfl rfl ?_ (fun w' hC => ?_) ?_
          rotate_left
          · go_simp
            first | done | rfl
          simp only [Act.put, List.setIfInBounds_toArray, List.set_cons_zero, List.set_cons_succ]
          refine g_end ?_
          intro w7 hC7 hh7
          have S7 : Hid (Stays [(gr, Obj.cells #[.int .u64 0, .int .u64 0] 25 (0, 0)), (gx, Obj.cells #[.string ⟨sx.toArray⟩, .int .i64 tx0, .int .i64 (zx : Int)] 54 (0, 0))] w w7) := Lib.hid (stays_cons (stays_row hC7 (List.mem_cons_self ..)) (stays_cons (stays_row hC7 (List.mem_cons_of_mem _ (List.mem_cons_self ..))) (stays_nil (stays_below hC7))))
          clear S6
          clear hC7 hh7
          go_upto_region 9 with fail
          refine reg_plain (Stays [(gx, Obj.cells #[.string ⟨sx.toArray⟩, .int .i64 tx0, .int .i64 (zx : Int)] 54 (0, 0))] w) (Turns [(gx, Obj.cells #[.string ⟨sx.toArray⟩, .int .i64 tx0, .int .i64 (zx : Int)] 54 (0, 0))] w) (kdOf [(1, .touch)]) (Own.has none0 gr (Obj.cells #[.int .u64 0, .int .u64 0] 25 (0, 0))) (stays_good _ _) (stays_cons (stays_row S7.out (List.mem_cons_of_mem _ (List.mem_cons_self ..))) (stays_nil (stays_below S7.out))) (holds_has (holds0 _) (stays_row S7.out (List.mem_cons_self ..)) (turns_cons (turns_head tx.out).symm (turns_nil tr.out.2))) ?_
          refine g_look rfl rfl ?_ (fun w' hC => ?_) ?_
          rotate_left
          · go_simp
            first | done | rfl
          simp only [Act.put, List.setIfInBounds_toArray, List.set_cons_zero, List.set_cons_succ]
          refine g_store gr none 25 25 _ _ #[.int .u64 0, .int .u64 0] #[.int .u64 0, .int .u64 0] rfl rfl rfl rfl rfl (has_same _ _ _) (by kernel_rfl) (rfl) (rfl) (one25 _ _) ?_
          simp only [Act.put]
          refine g_look rfl rfl ?_ (fun w' hC => ?_) ?_
          rotate_left
          · go_simp
            first | done | rfl
          simp only [Act.put, List.setIfInBounds_toArray, List.set_cons_zero, List.set_cons_succ]
          refine g_end ?_
          intro w8 hC8 hh8
          have S8 : Hid (Stays [(gr, Obj.cells #[.int .u64 0, .int .u64 0] 25 (0, 0)), (gx, Obj.cells #[.string ⟨sx.toArray⟩, .int .i64 tx0, .int .i64 (zx : Int)] 54 (0, 0))] w w8) := Lib.hid (stays_cons ((hh8 _ _ _ (own_new _ _ _ _)).1) (stays_cons (stays_row hC8 (List.mem_cons_self ..)) (stays_nil (stays_below hC8))))
          clear S7
          clear hC8 hh8
          go_wp2_with fail
          refine bodyPost_ret (v := .tuple #[.agg #[.int .u64 0, .int .u64 0], .int .i64 11]) (results_err8 (stays_head S8.out)) rfl ⟨congrArg Ending.returned (by rw [← HVP.out, parseW, HSP.out]; simp only []; rw [if_pos HD.out]; rfl), stays_below S8.out⟩
        · have HD := Lib.hid hD
          obtain ⟨n1, hn1⟩ : ∃ n, WD.length = n := ⟨_, rfl⟩
          obtain ⟨n2, hn2⟩ : ∃ n, ([] : List UInt8).length = n := ⟨_, rfl⟩
          have hn3 : n1 + n2 ≤ maxLen := by rw [← hn1, ← hn2]; exact HLP.out
          have hwn := sum_facts hn3
          have HN3 := Lib.hid hn3
          have hwi : IntKind.i64.wrap ((n1 : Int) + (n2 : Int)) = (n1 : Int) + (n2 : Int) := by rw [i64w, hwn]
          replace hwi := Lib.hid hwi
          clear hwn
          have hcat2 := Lib.hid (nofit hn3)
          clear hn3 hD
          go_upto_region 8 with fail
          refine reg_plain (Stays [(gr, Obj.cells #[.int .u64 0, .int .u64 0] 25 (0, 0)), (gx, Obj.cells #[.string ⟨sx.toArray⟩, .int .i64 tx0, .int .i64 (zx : Int)] 54 (0, 0))] w) (Turns [(gr, Obj.cells #[.int .u64 0, .int .u64 0] 25 (0, 0)), (gx, Obj.cells #[.string ⟨sx.toArray⟩, .int .i64 tx0, .int .i64 (zx : Int)] 54 (0, 0))] w) (kdOf []) none0 (stays_good _ _) (S6.out) (holds0 _) ?_
          refine g_look rfl rfl ?_ (fun w' hC => ?_) ?_
          rotate_left
          · go_simp
            first | done | rfl
          simp only [Act.put, List.setIfInBounds_toArray, List.set_cons_zero, List.set_cons_succ]
          refine g_look rfl rfl ?_ (fun w' hC => ?_) ?_
          rotate_left
          · go_simp
            first | done | rfl
          simp only [Act.put, List.setIfInBounds_toArray, List.set_cons_zero, List.set_cons_succ]
          refine g_look rfl rfl ?_ (fun w' hC => ?_) ?_
          rotate_left
          · go_simp
            first | done | rfl
          simp only [Act.put, List.setIfInBounds_toArray, List.set_cons_zero, List.set_cons_succ]
          first
          | (refine g_skip rfl ?_)
          | (refine g_look rfl rfl ?_ (fun w' hC => ?_) ?_
             rotate_left
             · go_simp
               first | done | rfl)
          simp only [Act.put, List.setIfInBounds_toArray, List.set_cons_zero, List.set_cons_succ]
          first
          | (refine g_skip rfl ?_)
          | (refine g_look rfl rfl ?_ (fun w' hC => ?_) ?_
             rotate_left
             · go_simp
               first | done | rfl)
          simp only [Act.put, List.setIfInBounds_toArray, List.set_cons_zero, List.set_cons_succ]
          first
          | (refine g_skip rfl ?_)
          | (refine g_look rfl rfl (.string ⟨(WD ++ ([] : List UInt8)).toArray⟩) (fun w' hC => ?_) ?_
             · clear hC
               go_simp
               first | done | rfl | exact add_st _ _ | (simp [hcat.out]; done) | (simp [hcat2.out]; done))
          simp only [Act.put, List.setIfInBounds_toArray, List.set_cons_zero, List.set_cons_succ]
          first
          | (refine g_skip rfl ?_)
          | (refine g_look rfl rfl (.bool false) (fun w' hC => ?_) ?_
             · clear hC
               go_simp
               first | done | rfl | exact beq_eq_false_iff_ne.2 HD.out | exact HD.out | (simpa using HD.out))
          simp only [Act.put, List.setIfInBounds_toArray, List.set_cons_zero, List.set_cons_succ]
          refine g_look rfl rfl ?_ (fun w' hC => ?_) ?_
          rotate_left
          · go_simp
            first | done | rfl
          simp only [Act.put, List.setIfInBounds_toArray, List.set_cons_zero, List.set_cons_succ]
          refine g_look rfl rfl ?_ (fun w' hC => ?_) ?_
          rotate_left
          · go_simp
            first | done | rfl
          simp only [Act.put, List.setIfInBounds_toArray, List.set_cons_zero, List.set_cons_succ]
          refine g_end ?_
          intro w7 hC7 hh7
          have S7 : Hid (Stays [(gr, Obj.cells #[.int .u64 0, .int .u64 0] 25 (0, 0)), (gx, Obj.cells #[.string ⟨sx.toArray⟩, .int .i64 tx0, .int .i64 (zx : Int)] 54 (0, 0))] w w7) := Lib.hid (stays_cons (stays_row hC7 (List.mem_cons_self ..)) (stays_cons (stays_row hC7 (List.mem_cons_of_mem _ (List.mem_cons_self ..))) (stays_nil (stays_below hC7))))
          clear S6
          clear hC7 hh7
          by_cases hlong : 28 < n1 + n2
          · have hli := long_yes hlong
            have HLO := Lib.hid hlong
            clear hlong
            go_upto_region 10 with fail
            refine reg_plain (Stays [(gr, Obj.cells #[.int .u64 0, .int .u64 0] 25 (0, 0)), (gx, Obj.cells #[.string ⟨sx.toArray⟩, .int .i64 tx0, .int .i64 (zx : Int)] 54 (0, 0))] w) (Turns [(gr, Obj.cells #[.int .u64 0, .int .u64 0] 25 (0, 0)), (gx, Obj.cells #[.string ⟨sx.toArray⟩, .int .i64 tx0, .int .i64 (zx : Int)] 54 (0, 0))] w) (kdOf []) none0 (stays_good _ _) (S7.out) (holds0 _) ?_
            refine g_look rfl rfl ?_ (fun w' hC => ?_) ?_
            rotate_left
            · go_simp
              first | done | rfl
            simp only [Act.put, List.setIfInBounds_toArray, List.set_cons_zero, List.set_cons_succ]
            refine g_look rfl rfl (.int .i64 (n1 : Int)) (fun w' hC => ?_) ?_
            · clear hC
              go_simp
              first | done | (rw [hn1]; done) | (simp [hn1]; done) | exact hn1
            simp only [Act.put, List.setIfInBounds_toArray, List.set_cons_zero, List.set_cons_succ]
            refine g_look rfl rfl ?_ (fun w' hC => ?_) ?_
            rotate_left
            · go_simp
              first | done | rfl
            simp only [Act.put, List.setIfInBounds_toArray, List.set_cons_zero, List.set_cons_succ]
            refine g_look rfl rfl (.int .i64 (n2 : Int)) (fun w' hC => ?_) ?_
            · clear hC
              go_simp
              first | done | (rw [hn2]; done) | (simp [hn2]; done) | exact hn2
            simp only [Act.put, List.setIfInBounds_toArray, List.set_cons_zero, List.set_cons_succ]
            refine g_look rfl rfl (.int .i64 ((n1 : Int) + (n2 : Int))) (fun w' hC => ?_) ?_
            · clear hC
              go_simp
              first | done | exact hwi.out
            simp only [Act.put, List.setIfInBounds_toArray, List.set_cons_zero, List.set_cons_succ]
            refine g_look rfl rfl (.bool true) (fun w' hC => ?_) ?_
            · clear hC
              go_simp
              first | done | rfl
            simp only [Act.put, List.setIfInBounds_toArray, List.set_cons_zero, List.set_cons_succ]
            refine g_look rfl rfl ?_ (fun w' hC => ?_) ?_
            rotate_left
            · go_simp
              first | done | rfl
            simp only [Act.put, List.setIfInBounds_toArray, List.set_cons_zero, List.set_cons_succ]
            refine g_end ?_
            intro w8 hC8 hh8
            have S8 : Hid (Stays [(gr, Obj.cells #[.int .u64 0, .int .u64 0] 25 (0, 0)), (gx, Obj.cells #[.string ⟨sx.toArray⟩, .int .i64 tx0, .int .i64 (zx : Int)] 54 (0, 0))] w w8) := Lib.hid (stays_cons (stays_row hC8 (List.mem_cons_self ..)) (stays_cons (stays_row hC8 (List.mem_cons_of_mem _ (List.mem_cons_self ..))) (stays_nil (stays_below hC8))))
            clear S7
            clear hC8 hh8
            go_upto_region 11 with fail
            refine reg_plain (Stays [(gx, Obj.cells #[.string ⟨sx.toArray⟩, .int .i64 tx0, .int .i64 (zx : Int)] 54 (0, 0))] w) (Turns [(gx, Obj.cells #[.string ⟨sx.toArray⟩, .int .i64 tx0, .int .i64 (zx : Int)] 54 (0, 0))] w) (kdOf [(1, .touch)]) (Own.has none0 gr (Obj.cells #[.int .u64 0, .int .u64 0] 25 (0, 0))) (stays_good _ _) (stays_cons (stays_row S8.out (List.mem_cons_of_mem _ (List.mem_cons_self ..))) (stays_nil (stays_below S8.out))) (holds_has (holds0 _) (stays_row S8.out (List.mem_cons_self ..)) (turns_cons (turns_head tx.out).symm (turns_nil tr.out.2))) ?_
            refine g_look rfl rfl ?_ (fun w' hC => ?_) ?_
            rotate_left
            · go_simp
              first | done | rfl
            simp only [Act.put, List.setIfInBounds_toArray, List.set_cons_zero, List.set_cons_succ]
            refine g_store gr none 25 25 _ _ #[.int .u64 0, .int .u64 0] #[.int .u64 0, .int .u64 0] rfl rfl rfl rfl rfl (has_same _ _ _) (by kernel_rfl) (rfl) (rfl) (one25 _ _) ?_
            simp only [Act.put]
            refine g_look rfl rfl ?_ (fun w' hC => ?_) ?_
            rotate_left
            · go_simp
              first | done | rfl
            simp only [Act.put, List.setIfInBounds_toArray, List.set_cons_zero, List.set_cons_succ]
            refine g_end ?_
            intro w9 hC9 hh9
            have S9 : Hid (Stays [(gr, Obj.cells #[.int .u64 0, .int .u64 0] 25 (0, 0)), (gx, Obj.cells #[.string ⟨sx.toArray⟩, .int .i64 tx0, .int .i64 (zx : Int)] 54 (0, 0))] w w9) := Lib.hid (stays_cons ((hh9 _ _ _ (own_new _ _ _ _)).1) (stays_cons (stays_row hC9 (List.mem_cons_self ..)) (stays_nil (stays_below hC9))))
            clear S8
            clear hC9 hh9
            go_wp2_with fail
            refine bodyPost_ret (v := .tuple #[.agg #[.int .u64 0, .int .u64 0], .int .i64 12]) (results_err8 (stays_head S9.out)) rfl ⟨congrArg Ending.returned (by rw [← HVP.out, parseW, HSP.out]; simp only []; rw [if_neg HD.out, hn1, hn2, if_pos HLO.out]; rfl), stays_below S9.out⟩
          · have hli := long_no hlong
            have HLO := Lib.hid hlong
            go_upto_region 10 with fail
            refine reg_plain (Stays [(gr, Obj.cells #[.int .u64 0, .int .u64 0] 25 (0, 0)), (gx, Obj.cells #[.string ⟨sx.toArray⟩, .int .i64 tx0, .int .i64 (zx : Int)] 54 (0, 0))] w) (Turns [(gr, Obj.cells #[.int .u64 0, .int .u64 0] 25 (0, 0)), (gx, Obj.cells #[.string ⟨sx.toArray⟩, .int .i64 tx0, .int .i64 (zx : Int)] 54 (0, 0))] w) (kdOf []) none0 (stays_good _ _) (S7.out) (holds0 _) ?_
            refine g_look rfl rfl ?_ (fun w' hC => ?_) ?_
            rotate_left
            · go_simp
              first | done | rfl
            simp only [Act.put, List.setIfInBounds_toArray, List.set_cons_zero, List.set_cons_succ]
            refine g_look rfl rfl (.int .i64 (n1 : Int)) (fun w' hC => ?_) ?_
            · clear hC
              go_simp
              first | done | (rw [hn1]; done) | (simp [hn1]; done) | exact hn1
            simp only [Act.put, List.setIfInBounds_toArray, List.set_cons_zero, List.set_cons_succ]
            refine g_look rfl rfl ?_ (fun w' hC => ?_) ?_
            rotate_left
            · go_simp
              first | done | rfl
            simp only [Act.put, List.setIfInBounds_toArray, List.set_cons_zero, List.set_cons_succ]
            refine g_look rfl rfl (.int .i64 (n2 : Int)) (fun w' hC => ?_) ?_
            · clear hC
              go_simp
              first | done | (rw [hn2]; done) | (simp [hn2]; done) | exact hn2
            simp only [Act.put, List.setIfInBounds_toArray, List.set_cons_zero, List.set_cons_succ]
            refine g_look rfl rfl (.int .i64 ((n1 : Int) + (n2 : Int))) (fun w' hC => ?_) ?_
            · clear hC
              go_simp
              first | done | exact hwi.out
            simp only [Act.put, List.setIfInBounds_toArray, List.set_cons_zero, List.set_cons_succ]
            refine g_look rfl rfl (.bool false) (fun w' hC => ?_) ?_
            · clear hC
              go_simp
              first | done | rfl
            simp only [Act.put, List.setIfInBounds_toArray, List.set_cons_zero, List.set_cons_succ]
            refine g_look rfl rfl ?_ (fun w' hC => ?_) ?_
            rotate_left
            · go_simp
              first | done | rfl
            simp only [Act.put, List.setIfInBounds_toArray, List.set_cons_zero, List.set_cons_succ]
            refine g_end ?_
            intro w8 hC8 hh8
            have S8 : Hid (Stays [(gr, Obj.cells #[.int .u64 0, .int .u64 0] 25 (0, 0)), (gx, Obj.cells #[.string ⟨sx.toArray⟩, .int .i64 tx0, .int .i64 (zx : Int)] 54 (0, 0))] w w8) := Lib.hid (stays_cons (stays_row hC8 (List.mem_cons_self ..)) (stays_cons (stays_row hC8 (List.mem_cons_of_mem _ (List.mem_cons_self ..))) (stays_nil (stays_below hC8))))
            clear S7
            clear hC8 hh8
            go_upto_region 12 with fail
            refine reg_plain (Stays [(gr, Obj.cells #[.int .u64 0, .int .u64 0] 25 (0, 0)), (gx, Obj.cells #[.string ⟨sx.toArray⟩, .int .i64 tx0, .int .i64 (zx : Int)] 54 (0, 0))] w) (Turns [(gr, Obj.cells #[.int .u64 0, .int .u64 0] 25 (0, 0)), (gx, Obj.cells #[.string ⟨sx.toArray⟩, .int .i64 tx0, .int .i64 (zx : Int)] 54 (0, 0))] w) (kdOf [(0, .make (fun _ => allocM (.cells #[.int .u64 0, .int .u64 0] 25)))]) none0 (stays_good _ _) (S8.out) (holds0 _) ?_
            refine g_alloc (stays_good _ _) (.cells #[.int .u64 0, .int .u64 0] 25) rfl rfl (fun w' hC => ?_) (fun ga ta na => ?_)
            · clear hC
              go_simp
              first | done | rfl | exact ⟨rfl, rfl⟩
            clear na
            replace ta := Lib.hid ta
            simp only [Act.put, List.setIfInBounds_toArray, List.set_cons_zero, List.set_cons_succ]
            refine g_end ?_
            intro w9 hC9 hh9
            have S9 : Hid (Stays [(gr, Obj.cells #[.int .u64 0, .int .u64 0] 25 (0, 0)), (gx, Obj.cells #[.string ⟨sx.toArray⟩, .int .i64 tx0, .int .i64 (zx : Int)] 54 (0, 0)), (ga, Obj.cells #[.int .u64 0, .int .u64 0] 25 (0, 0))] w w9) := Lib.hid (stays_cons (stays_row hC9 (List.mem_cons_self ..)) (stays_cons (stays_row hC9 (List.mem_cons_of_mem _ (List.mem_cons_self ..))) (stays_cons ((hh9 _ _ _ (own_new _ _ _ _)).1) (stays_nil (stays_below hC9)))))
            clear S8
            clear hC9 hh9
            obtain ⟨dd, hdd⟩ : ∃ D, WD ++ ([] : List UInt8) = D := ⟨_, rfl⟩
            have HAD : Hid (∀ c ∈ dd, isD c = true) := Lib.hid (by
              intro c hc
              rw [← hdd] at hc
              rcases List.mem_append.1 hc with h | h
              · exact HWD.out c h
              · exact HPD.out c h)
            have hlen : dd.length = n1 + n2 := by rw [← hdd, List.length_append, hn1, hn2]
            have hcn : cntD dd = dd.length := allD_cnt HAD.out
            obtain ⟨n, hn⟩ : ∃ n, dd.length = n := ⟨_, rfl⟩
            obtain ⟨hn28, hni, hn2s⟩ := n_facts hlen hn hlong
            have HCN := Lib.hid hcn
            have HDD := Lib.hid hdd
            clear hcn
            go_upto_region 13 with fail
            refine reg_plain (Stays [(gr, Obj.cells #[.int .u64 0, .int .u64 0] 25 (0, 0)), (gx, Obj.cells #[.string ⟨sx.toArray⟩, .int .i64 tx0, .int .i64 (zx : Int)] 54 (0, 0)), (ga, Obj.cells #[.int .u64 0, .int .u64 0] 25 (0, 0))] w) (Turns [(gr, Obj.cells #[.int .u64 0, .int .u64 0] 25 (0, 0)), (gx, Obj.cells #[.string ⟨sx.toArray⟩, .int .i64 tx0, .int .i64 (zx : Int)] 54 (0, 0)), (ga, Obj.cells #[.int .u64 0, .int .u64 0] 25 (0, 0))] w) (kdOf []) none0 (stays_good _ _) (S9.out) (holds0 _) ?_
            refine g_look rfl rfl ?_ (fun w' hC => ?_) ?_
            rotate_left
            · go_simp
              first | done | rfl
            simp only [Act.put, List.setIfInBounds_toArray, List.set_cons_zero, List.set_cons_succ]
            refine g_look rfl rfl ?_ (fun w' hC => ?_) ?_
            rotate_left
            · go_simp
              first | done | rfl
            simp only [Act.put, List.setIfInBounds_toArray, List.set_cons_zero, List.set_cons_succ]
            refine g_look rfl rfl (.string ⟨dd.toArray⟩) (fun w' hC => ?_) ?_
            · clear hC
              go_simp
              first | done | rfl | (simp [hcat2.out]; done) | (simpa using HDD.out) | (simp [hcat2.out]; simpa using HDD.out) | exact (add_st _ _).trans (by rw [HDD.out]) | (rw [HDD.out]; done) | (simp [HDD.out, hcat2.out]; done)
            simp only [Act.put, List.setIfInBounds_toArray, List.set_cons_zero, List.set_cons_succ]
            refine g_look rfl rfl (.int .i64 (n : Int)) (fun w' hC => ?_) ?_
            · clear hC
              go_simp
              first | done | rfl | exact hni | (rw [hn]; done) | exact hn | (simp [hn]; done)
            simp only [Act.put, List.setIfInBounds_toArray, List.set_cons_zero, List.set_cons_succ]
            refine g_look rfl rfl ?_ (fun w' hC => ?_) ?_
            rotate_left
            · go_simp
              first | done | rfl
            simp only [Act.put, List.setIfInBounds_toArray, List.set_cons_zero, List.set_cons_succ]
            refine g_end ?_
            intro w10 hC10 hh10
            have S10 : Hid (Stays [(gr, Obj.cells #[.int .u64 0, .int .u64 0] 25 (0, 0)), (gx, Obj.cells #[.string ⟨sx.toArray⟩, .int .i64 tx0, .int .i64 (zx : Int)] 54 (0, 0)), (ga, Obj.cells #[.int .u64 0, .int .u64 0] 25 (0, 0))] w w10) := Lib.hid (stays_cons (stays_row hC10 (List.mem_cons_self ..)) (stays_cons (stays_row hC10 (List.mem_cons_of_mem _ (List.mem_cons_self ..))) (stays_cons (stays_row hC10 (List.mem_cons_of_mem _ (List.mem_cons_of_mem _ (List.mem_cons_self ..)))) (stays_nil (stays_below hC10)))))
            clear S9
            clear hC10 hh10
            clear hdd
            go_wp2_with fail
            go_loopw [55] (fun i wr => ∃ (k : Nat) (a b : Int), k ≤ n ∧ i = .int .i64 k ∧ Hid (U a ∧ U b ∧ wval a b = ((valD (dd.take k) : Nat) : Int)) ∧ Hid (Stays [(gr, Obj.cells #[.int .u64 0, .int .u64 0] 25 (0, 0)), (gx, Obj.cells #[.string ⟨sx.toArray⟩, .int .i64 tx0, .int .i64 (zx : Int)] 54 (0, 0)), (ga, Obj.cells #[.int .u64 a, .int .u64 b] 25 (0, 0))] w wr)) (fun i _ => n - (intOf i).toNat)
            case atStart => exact ⟨0, 0, 0, Nat.zero_le _, rfl, Lib.hid ⟨u_zero, u_zero, by simp [valD, wval]⟩, S10⟩
            case round =>
              obtain ⟨k, a, b, hk, rfl, HAB, S11⟩ := hrel
              clear S10
              by_cases hlt : k < n
              · obtain ⟨hlti, hltd, hwk, hb, hv9⟩ := round_pre hn HCN.out hn28 hlt
                have HS := Lib.hid (val_step hltd)
                obtain ⟨v, hvv⟩ : ∃ v, valD (dd.take k) = v := ⟨_, rfl⟩
                rw [hvv] at hv9 HS HAB
                obtain ⟨d, hd⟩ : ∃ d : Nat, byteL dd k - 48 = d := ⟨_, rfl⟩
                obtain ⟨b0, hbb⟩ : ∃ b : Int, (byteL dd k : Int) = b := ⟨_, rfl⟩
                obtain ⟨w1, w2, hd9, hud⟩ := dig_facts hbb hb hd
                have HUA := Lib.hid HAB.out.1
                have HUB := Lib.hid HAB.out.2.1
                obtain ⟨a1, b1, a2, b2, hua1, hub1, he1, hab2, he2⟩ := parse_round HAB.out hv9 hd9
                have HE1 := Lib.hid he1
                have HE2 := Lib.hid he2
                have HUD := Lib.hid hud
                have HU1 := Lib.hid hua1
                have HU1' := Lib.hid hub1
                have HAB2 : Hid (U a2 ∧ U b2 ∧ wval a2 b2 = ((valD (dd.take (k + 1)) : Nat) : Int)) := Lib.hid (by rw [HS.out, hd]; exact hab2)
                clear hlen hn
                clear hvv hd hb hua1 hub1 hab2 he1 he2 hv9 HS hd9 hud HAB
                go_upto_region 14 with fail
                refine reg_plain (Stays [(gr, Obj.cells #[.int .u64 0, .int .u64 0] 25 (0, 0)), (gx, Obj.cells #[.string ⟨sx.toArray⟩, .int .i64 tx0, .int .i64 (zx : Int)] 54 (0, 0)), (ga, Obj.cells #[.int .u64 a, .int .u64 b] 25 (0, 0))] w) (Turns [(gr, Obj.cells #[.int .u64 0, .int .u64 0] 25 (0, 0)), (gx, Obj.cells #[.string ⟨sx.toArray⟩, .int .i64 tx0, .int .i64 (zx : Int)] 54 (0, 0)), (ga, Obj.cells #[.int .u64 a, .int .u64 b] 25 (0, 0))] w) (kdOf []) none0 (stays_good _ _) (S11.out) (holds0 _) ?_
                refine g_look rfl rfl ?_ (fun w' hC => ?_) ?_
                rotate_left
                · go_simp
                  first | done | rfl
                simp only [Act.put, List.setIfInBounds_toArray, List.set_cons_zero, List.set_cons_succ]
                refine g_end ?_
                intro w12 hC12 hh12
                have S12 : Hid (Stays [(gr, Obj.cells #[.int .u64 0, .int .u64 0] 25 (0, 0)), (gx, Obj.cells #[.string ⟨sx.toArray⟩, .int .i64 tx0, .int .i64 (zx : Int)] 54 (0, 0)), (ga, Obj.cells #[.int .u64 a, .int .u64 b] 25 (0, 0))] w w12) := Lib.hid (stays_cons (stays_row hC12 (List.mem_cons_self ..)) (stays_cons (stays_row hC12 (List.mem_cons_of_mem _ (List.mem_cons_self ..))) (stays_cons (stays_row hC12 (List.mem_cons_of_mem _ (List.mem_cons_of_mem _ (List.mem_cons_self ..)))) (stays_nil (stays_below hC12)))))
                clear S11
                clear hC12 hh12
                go_upto_region 15 with fail
                refine reg_plain (Stays [(gr, Obj.cells #[.int .u64 0, .int .u64 0] 25 (0, 0)), (gx, Obj.cells #[.string ⟨sx.toArray⟩, .int .i64 tx0, .int .i64 (zx : Int)] 54 (0, 0)), (ga, Obj.cells #[.int .u64 a, .int .u64 b] 25 (0, 0))] w) (Turns [(gr, Obj.cells #[.int .u64 0, .int .u64 0] 25 (0, 0)), (gx, Obj.cells #[.string ⟨sx.toArray⟩, .int .i64 tx0, .int .i64 (zx : Int)] 54 (0, 0)), (ga, Obj.cells #[.int .u64 a, .int .u64 b] 25 (0, 0))] w) (kdOf []) none0 (stays_good _ _) (S12.out) (holds0 _) ?_
                refine g_look rfl rfl ?_ (fun w' hC => ?_) ?_
                rotate_left
                · go_simp
                  first | done | rfl
                simp only [Act.put, List.setIfInBounds_toArray, List.set_cons_zero, List.set_cons_succ]
                refine g_look rfl rfl ?_ (fun w' hC => ?_) ?_
                rotate_left
                · go_simp
                  first | done | rfl
                simp only [Act.put, List.setIfInBounds_toArray, List.set_cons_zero, List.set_cons_succ]
                refine g_end ?_
                intro w13 hC13 hh13
                have S13 : Hid (Stays [(gr, Obj.cells #[.int .u64 0, .int .u64 0] 25 (0, 0)), (gx, Obj.cells #[.string ⟨sx.toArray⟩, .int .i64 tx0, .int .i64 (zx : Int)] 54 (0, 0)), (ga, Obj.cells #[.int .u64 a, .int .u64 b] 25 (0, 0))] w w13) := Lib.hid (stays_cons (stays_row hC13 (List.mem_cons_self ..)) (stays_cons (stays_row hC13 (List.mem_cons_of_mem _ (List.mem_cons_self ..))) (stays_cons (stays_row hC13 (List.mem_cons_of_mem _ (List.mem_cons_of_mem _ (List.mem_cons_self ..)))) (stays_nil (stays_below hC13)))))
                clear S12
                clear hC13 hh13
                go_upto_region 16 with fail
                refine reg_plain (Stays [(gr, Obj.cells #[.int .u64 0, .int .u64 0] 25 (0, 0)), (gx, Obj.cells #[.string ⟨sx.toArray⟩, .int .i64 tx0, .int .i64 (zx : Int)] 54 (0, 0))] w) (Turns [(gr, Obj.cells #[.int .u64 0, .int .u64 0] 25 (0, 0)), (gx, Obj.cells #[.string ⟨sx.toArray⟩, .int .i64 tx0, .int .i64 (zx : Int)] 54 (0, 0))] w) (kdOf [(0, .touch), (1, .make (fun _ => callM (.tuple #[.agg #[.int .u64 a1, .int .u64 b1], .bool true]))), (5, .touch)]) (Own.has none0 ga (Obj.cells #[.int .u64 a, .int .u64 b] 25 (0, 0))) (stays_good _ _) (stays_cons (stays_row S13.out (List.mem_cons_self ..)) (stays_cons (stays_row S13.out (List.mem_cons_of_mem _ (List.mem_cons_self ..))) (stays_nil (stays_below S13.out)))) (holds_has (holds0 _) (stays_row S13.out (List.mem_cons_of_mem _ (List.mem_cons_of_mem _ (List.mem_cons_self ..)))) ta.out) ?_
                refine g_load_own 25 _ ga none 25 #[.int .u64 a, .int .u64 b] (0, 0) _ rfl rfl rfl rfl (has_same _ _ _) (by kernel_rfl) Try.underlying25 rfl (rfl) ?_
                simp only [Act.put, List.setIfInBounds_toArray, List.set_cons_zero, List.set_cons_succ]
                refine g_call (stays_good _ _) (.tuple #[.agg #[.int .u64 a1, .int .u64 b1], .bool true]) rfl rfl (fun w' hC => ?_) ?_
                · clear hC
                  go_simp
                  refine (times_word_any _ a b 10 HUA.out HUB.out (by unfold U; decide)).mono (fun e w2 h => ?_)
                  obtain ⟨h1, h2⟩ := h
                  rw [HE1.out] at h1
                  exact gives h1 h2
                simp only [Act.put, List.setIfInBounds_toArray, List.set_cons_zero, List.set_cons_succ]
                refine g_look rfl rfl ?_ (fun w' hC => ?_) ?_
                rotate_left
                · go_simp
                  first | done | rfl
                simp only [Act.put, List.setIfInBounds_toArray, List.set_cons_zero, List.set_cons_succ]
                refine g_look rfl rfl ?_ (fun w' hC => ?_) ?_
                rotate_left
                · go_simp
                  first | done | rfl
                simp only [Act.put, List.setIfInBounds_toArray, List.set_cons_zero, List.set_cons_succ]
                refine g_look rfl rfl ?_ (fun w' hC => ?_) ?_
                rotate_left
                · go_simp
                  first | done | rfl
                simp only [Act.put, List.setIfInBounds_toArray, List.set_cons_zero, List.set_cons_succ]
                refine g_store ga (some 0) 25 25 _ _ #[.int .u64 a, .int .u64 b] #[.int .u64 a1, .int .u64 b1] rfl rfl rfl rfl rfl (own_new _ _ _ _) (by kernel_rfl) (rfl) (rfl) (one25 _ _) ?_
                simp only [Act.put]
                refine g_end ?_
                intro w14 hC14 hh14
                have S14 : Hid (Stays [(gr, Obj.cells #[.int .u64 0, .int .u64 0] 25 (0, 0)), (gx, Obj.cells #[.string ⟨sx.toArray⟩, .int .i64 tx0, .int .i64 (zx : Int)] 54 (0, 0)), (ga, Obj.cells #[.int .u64 a1, .int .u64 b1] 25 (0, 0))] w w14) := Lib.hid (stays_cons (stays_row hC14 (List.mem_cons_self ..)) (stays_cons (stays_row hC14 (List.mem_cons_of_mem _ (List.mem_cons_self ..))) (stays_cons ((hh14 _ _ _ (own_new _ _ _ _)).1) (stays_nil (stays_below hC14)))))
                clear S13
                clear hC14 hh14
                go_upto_region 17 with fail
                refine reg (Stays [(gr, Obj.cells #[.int .u64 0, .int .u64 0] 25 (0, 0)), (gx, Obj.cells #[.string ⟨sx.toArray⟩, .int .i64 tx0, .int .i64 (zx : Int)] 54 (0, 0))] w) (Turns [(gr, Obj.cells #[.int .u64 0, .int .u64 0] 25 (0, 0)), (gx, Obj.cells #[.string ⟨sx.toArray⟩, .int .i64 tx0, .int .i64 (zx : Int)] 54 (0, 0))] w) (kdOf [(0, .touch), (8, .make (fun _ => callM (.agg #[.int .u64 0, .int .u64 (d : Int)]))), (9, .make (fun _ => callM (.tuple #[.agg #[.int .u64 a2, .int .u64 b2], .bool true]))), (13, .touch)]) (Own.has none0 ga (Obj.cells #[.int .u64 a1, .int .u64 b1] 25 (0, 0))) (stays_good _ _) (by kernel_rfl) (by kernel_rfl) (stays_drew (stays_cons (stays_row S14.out (List.mem_cons_self ..)) (stays_cons (stays_row S14.out (List.mem_cons_of_mem _ (List.mem_cons_self ..))) (stays_nil (stays_below S14.out))))) (holds_has (holds0 _) (stays_row (stays_drew S14.out) (List.mem_cons_of_mem _ (List.mem_cons_of_mem _ (List.mem_cons_self ..)))) ta.out) ?_
                refine g_load_own 25 _ ga none 25 #[.int .u64 a1, .int .u64 b1] (0, 0) _ rfl rfl rfl rfl (has_same _ _ _) (by kernel_rfl) Try.underlying25 rfl (rfl) ?_
                simp only [Act.put, List.setIfInBounds_toArray, List.set_cons_zero, List.set_cons_succ]
                refine g_look rfl rfl ?_ (fun w' hC => ?_) ?_
                rotate_left
                · go_simp
                  first | done | rfl
                simp only [Act.put, List.setIfInBounds_toArray, List.set_cons_zero, List.set_cons_succ]
                refine g_look rfl rfl ?_ (fun w' hC => ?_) ?_
                rotate_left
                · go_simp
                  first | done | rfl
                simp only [Act.put, List.setIfInBounds_toArray, List.set_cons_zero, List.set_cons_succ]
                refine g_look rfl rfl (.string ⟨dd.toArray⟩) (fun w' hC => ?_) ?_
                · clear hC
                  go_simp
                  first | done | rfl | (simp [hcat2.out]; done) | (simpa using HDD.out) | (simp [hcat2.out]; simpa using HDD.out) | exact (add_st _ _).trans (by rw [HDD.out]) | (rw [HDD.out]; done) | (simp [HDD.out, hcat2.out]; done)
                simp only [Act.put, List.setIfInBounds_toArray, List.set_cons_zero, List.set_cons_succ]
                refine g_look rfl rfl ?_ (fun w' hC => ?_) ?_
                rotate_left
                · go_simp
                  first | done | rfl
                simp only [Act.put, List.setIfInBounds_toArray, List.set_cons_zero, List.set_cons_succ]
                refine g_look rfl rfl (.int .u8 b0) (fun w' hC => ?_) ?_
                · clear hC
                  go_simp
                  first | done | rfl | exact hbb | (rw [hbb]; done) | (simp [hbb]; done)
                simp only [Act.put, List.setIfInBounds_toArray, List.set_cons_zero, List.set_cons_succ]
                refine g_look rfl rfl ?_ (fun w' hC => ?_) ?_
                rotate_left
                · go_simp
                  first | done | rfl
                simp only [Act.put, List.setIfInBounds_toArray, List.set_cons_zero, List.set_cons_succ]
                refine g_look rfl rfl ?_ (fun w' hC => ?_) ?_
                rotate_left
                · go_simp
                  first | done | rfl
                simp only [Act.put, List.setIfInBounds_toArray, List.set_cons_zero, List.set_cons_succ]
                refine g_call (stays_good _ _) (.agg #[.int .u64 0, .int .u64 (d : Int)]) rfl rfl (fun w' hC => ?_) ?_
                · clear hC
                  go_simp
                  refine (of1_any _ (d : Int)).mono (fun e w2 h => ?_)
                  obtain ⟨h1, h2⟩ := h
                  exact gives h1 h2
                simp only [Act.put, List.setIfInBounds_toArray, List.set_cons_zero, List.set_cons_succ]
                refine g_call (stays_good _ _) (.tuple #[.agg #[.int .u64 a2, .int .u64 b2], .bool true]) rfl rfl (fun w' hC => ?_) ?_
                · clear hC
                  go_simp
                  refine (add_any _ a1 b1 0 (d : Int) HU1.out HU1'.out u_zero HUD.out).mono (fun e w2 h => ?_)
                  obtain ⟨h1, h2⟩ := h
                  rw [HE2.out] at h1
                  exact gives h1 h2
                simp only [Act.put, List.setIfInBounds_toArray, List.set_cons_zero, List.set_cons_succ]
                refine g_look rfl rfl ?_ (fun w' hC => ?_) ?_
                rotate_left
                · go_simp
                  first | done | rfl
                simp only [Act.put, List.setIfInBounds_toArray, List.set_cons_zero, List.set_cons_succ]
                refine g_look rfl rfl ?_ (fun w' hC => ?_) ?_
                rotate_left
                · go_simp
                  first | done | rfl
                simp only [Act.put, List.setIfInBounds_toArray, List.set_cons_zero, List.set_cons_succ]
                refine g_look rfl rfl ?_ (fun w' hC => ?_) ?_
                rotate_left
                · go_simp
                  first | done | rfl
                simp only [Act.put, List.setIfInBounds_toArray, List.set_cons_zero, List.set_cons_succ]
                refine g_store ga (some 0) 25 25 _ _ #[.int .u64 a1, .int .u64 b1] #[.int .u64 a2, .int .u64 b2] rfl rfl rfl rfl rfl (own_new _ _ _ _) (by kernel_rfl) (rfl) (rfl) (one25 _ _) ?_
                simp only [Act.put]
                refine g_end ?_
                intro w15 hC15 hh15
                have S15 : Hid (Stays [(gr, Obj.cells #[.int .u64 0, .int .u64 0] 25 (0, 0)), (gx, Obj.cells #[.string ⟨sx.toArray⟩, .int .i64 tx0, .int .i64 (zx : Int)] 54 (0, 0)), (ga, Obj.cells #[.int .u64 a2, .int .u64 b2] 25 (0, 0))] w w15) := Lib.hid (stays_cons (stays_row hC15 (List.mem_cons_self ..)) (stays_cons (stays_row hC15 (List.mem_cons_of_mem _ (List.mem_cons_self ..))) (stays_cons ((hh15 _ _ _ (own_new _ _ _ _)).1) (stays_nil (stays_below hC15)))))
                clear S14
                clear hC15 hh15
                go_upto_region 18 with fail
                refine reg_plain (Stays [(gr, Obj.cells #[.int .u64 0, .int .u64 0] 25 (0, 0)), (gx, Obj.cells #[.string ⟨sx.toArray⟩, .int .i64 tx0, .int .i64 (zx : Int)] 54 (0, 0)), (ga, Obj.cells #[.int .u64 a2, .int .u64 b2] 25 (0, 0))] w) (Turns [(gr, Obj.cells #[.int .u64 0, .int .u64 0] 25 (0, 0)), (gx, Obj.cells #[.string ⟨sx.toArray⟩, .int .i64 tx0, .int .i64 (zx : Int)] 54 (0, 0)), (ga, Obj.cells #[.int .u64 a2, .int .u64 b2] 25 (0, 0))] w) (kdOf []) none0 (stays_good _ _) (S15.out) (holds0 _) ?_
                refine g_look rfl rfl (.int .i64 ((k : Int) + 1)) (fun w' hC => ?_) ?_
                · clear hC
                  go_simp
                  first | done | (rw [i64w, hwk]; done) | exact hwk
                simp only [Act.put, List.setIfInBounds_toArray, List.set_cons_zero, List.set_cons_succ]
                refine g_look rfl rfl ?_ (fun w' hC => ?_) ?_
                rotate_left
                · go_simp
                  first | done | rfl
                simp only [Act.put, List.setIfInBounds_toArray, List.set_cons_zero, List.set_cons_succ]
                refine g_end ?_
                intro w16 hC16 hh16
                have S16 : Hid (Stays [(gr, Obj.cells #[.int .u64 0, .int .u64 0] 25 (0, 0)), (gx, Obj.cells #[.string ⟨sx.toArray⟩, .int .i64 tx0, .int .i64 (zx : Int)] 54 (0, 0)), (ga, Obj.cells #[.int .u64 a2, .int .u64 b2] 25 (0, 0))] w w16) := Lib.hid (stays_cons (stays_row hC16 (List.mem_cons_self ..)) (stays_cons (stays_row hC16 (List.mem_cons_of_mem _ (List.mem_cons_self ..))) (stays_cons (stays_row hC16 (List.mem_cons_of_mem _ (List.mem_cons_of_mem _ (List.mem_cons_self ..)))) (stays_nil (stays_below hC16)))))
                clear S15
                clear hC16 hh16
                have S99 : Hid (Stays [(gr, Obj.cells #[.int .u64 0, .int .u64 0] 25 (0, 0)), (gx, Obj.cells #[.string ⟨sx.toArray⟩, .int .i64 tx0, .int .i64 (zx : Int)] 54 (0, 0)), (ga, Obj.cells #[.int .u64 a2, .int .u64 b2] 25 (0, 0))] w w16) := Lib.hid (stays_cons (stays_row S16.out (List.mem_cons_self ..)) (stays_cons (stays_row S16.out (List.mem_cons_of_mem _ (List.mem_cons_self ..))) (stays_cons (stays_row S16.out (List.mem_cons_of_mem _ (List.mem_cons_of_mem _ (List.mem_cons_self ..)))) (stays_nil (stays_below S16.out)))))
                go_wp2_with fail
                go_roundw
                case rel => exact ⟨k + 1, a2, b2, (round_end hlt).1, rfl, HAB2, S99⟩
                case measure =>
                  exact (round_end hlt).2
              · obtain ⟨rfl, hlti⟩ := end_k hk hlt
                have htk : dd.take k = dd := by rw [← hn, List.take_length]
                rw [htk] at HAB
                have hv := val_lt HCN.out k (Nat.le_of_eq hn.symm)
                rw [htk] at hv
                have hv28 : valD dd < 10000000000000000000000000000 := Nat.lt_of_lt_of_le hv (ten_pow hn28)
                clear hv htk
                have HVP2 : Hid (parseW WD ([] : List UInt8) R = if ((scaled (valD dd) (9 + tx0 - (n2 : Nat)) zx : Nat) : Int) ≤ Most then .tuple #[wn (scaled (valD dd) (9 + tx0 - (n2 : Nat)) zx : Nat), .int .i64 0] else errV 15) := Lib.hid (by rw [parseW, HSP.out]; simp only []; rw [if_neg HD.out, hn1, hn2, if_neg HLO.out, HDD.out])
                rw [HVP.out] at HVP2
                obtain ⟨v, hvv⟩ : ∃ v, valD dd = v := ⟨_, rfl⟩
                rw [hvv] at hv28 HVP2 HAB
                obtain ⟨tt, htt⟩ : ∃ t : Int, 9 + tx0 - (n2 : Nat) = t := ⟨_, rfl⟩
                rw [htt] at HVP2
                obtain ⟨hw9, hw9b, htl0, htl1, htz0⟩ := end_facts ht0 ht1 hn2s htt
                have htz : zx ≠ 0 → -19 ≤ tt := fun h => htz0 (HZT.out h)
                have HTZ := Lib.hid htz
                have HUA := Lib.hid HAB.out.1
                have HUB := Lib.hid HAB.out.2.1
                have HWV := Lib.hid HAB.out.2.2
                clear hvv htz htz0 htt HVP HAB HLW
                go_upto_region 19 with fail
                refine reg_plain (Stays [(gr, Obj.cells #[.int .u64 0, .int .u64 0] 25 (0, 0)), (gx, Obj.cells #[.string ⟨sx.toArray⟩, .int .i64 tx0, .int .i64 (zx : Int)] 54 (0, 0)), (ga, Obj.cells #[.int .u64 a, .int .u64 b] 25 (0, 0))] w) (Turns [(gr, Obj.cells #[.int .u64 0, .int .u64 0] 25 (0, 0)), (gx, Obj.cells #[.string ⟨sx.toArray⟩, .int .i64 tx0, .int .i64 (zx : Int)] 54 (0, 0)), (ga, Obj.cells #[.int .u64 a, .int .u64 b] 25 (0, 0))] w) (kdOf []) none0 (stays_good _ _) (S11.out) (holds0 _) ?_
                refine g_look rfl rfl (.pointer (some ⟨gx, 1, none⟩)) (fun w' hC => ?_) ?_
                · clear hC
                  go_simp
                  first | done | rfl | exact ⟨rfl, rfl⟩
                simp only [Act.put, List.setIfInBounds_toArray, List.set_cons_zero, List.set_cons_succ]
                refine g_look rfl rfl (.int .i64 tx0) (fun w' hC => ?_) ?_
                · have c : w'.heap[gx]? = some (.cells #[.string ⟨sx.toArray⟩, .int .i64 tx0, .int .i64 (zx : Int)] 54 (0, 0)) := stays_row hC (List.mem_cons_of_mem _ (List.mem_cons_self ..))
                  have c0 : w'.cell? ⟨gx, 1, none⟩ = some (.int .i64 tx0) := (cell_of_row _ _ _ _ _ _ c).trans rfl
                  clear hC c
                  go_simp
                  first | done | rfl
                simp only [Act.put, List.setIfInBounds_toArray, List.set_cons_zero, List.set_cons_succ]
                refine g_look rfl rfl ?_ (fun w' hC => ?_) ?_
                rotate_left
                · go_simp
                  first | done | rfl
                simp only [Act.put, List.setIfInBounds_toArray, List.set_cons_zero, List.set_cons_succ]
                refine g_look rfl rfl ?_ (fun w' hC => ?_) ?_
                rotate_left
                · go_simp
                  first | done | rfl
                simp only [Act.put, List.setIfInBounds_toArray, List.set_cons_zero, List.set_cons_succ]
                refine g_look rfl rfl (.int .i64 (n2 : Int)) (fun w' hC => ?_) ?_
                · clear hC
                  go_simp
                  first | done | rfl | (rw [hn2]; done) | exact hn2 | (simp [hn2]; done)
                simp only [Act.put, List.setIfInBounds_toArray, List.set_cons_zero, List.set_cons_succ]
                refine g_look rfl rfl (.int .i64 tt) (fun w' hC => ?_) ?_
                · clear hC
                  go_simp
                  first | done | (rw [i64w, i64w, hw9, hw9b]; done) | exact hw9b
                simp only [Act.put, List.setIfInBounds_toArray, List.set_cons_zero, List.set_cons_succ]
                refine g_look rfl rfl ?_ (fun w' hC => ?_) ?_
                rotate_left
                · go_simp
                  first | done | rfl
                simp only [Act.put, List.setIfInBounds_toArray, List.set_cons_zero, List.set_cons_succ]
                refine g_end ?_
                intro w12 hC12 hh12
                have S12 : Hid (Stays [(gr, Obj.cells #[.int .u64 0, .int .u64 0] 25 (0, 0)), (gx, Obj.cells #[.string ⟨sx.toArray⟩, .int .i64 tx0, .int .i64 (zx : Int)] 54 (0, 0)), (ga, Obj.cells #[.int .u64 a, .int .u64 b] 25 (0, 0))] w w12) := Lib.hid (stays_cons (stays_row hC12 (List.mem_cons_self ..)) (stays_cons (stays_row hC12 (List.mem_cons_of_mem _ (List.mem_cons_self ..))) (stays_cons (stays_row hC12 (List.mem_cons_of_mem _ (List.mem_cons_of_mem _ (List.mem_cons_self ..)))) (stays_nil (stays_below hC12)))))
                clear S11
                clear hC12 hh12
                clear hw9 hw9b
                by_cases hneg : tt < 0
                · obtain ⟨e, he⟩ : ∃ e : Nat, (-tt).toNat = e := ⟨_, rfl⟩
                  obtain ⟨hwe, he1000, he19⟩ := neg_facts htl0 hneg he
                  have hsc2 : scaled v tt zx = byUp (v * 2 ^ zx) e := by rw [scaled, if_pos hneg, he]
                  obtain ⟨a3, b3, ok3, he3, hua3, hub3, hyes, hno⟩ := down_open v e zx (v_lt hv28) hz
                  have HCT : Hid (e ≤ 1000 ∧ (zx ≠ 0 → e ≤ 19)) := Lib.hid ⟨he1000, fun h => he19 (HTZ.out h)⟩
                  clear he1000 he19
                  rw [hsc2] at HVP2
                  have HZ := Lib.hid hz
                  have HE3 := Lib.hid he3
                  have HUA3 := Lib.hid hua3
                  have HUB3 := Lib.hid hub3
                  have HYES := Lib.hid hyes
                  have HNO := Lib.hid hno
                  clear he3 hua3 hub3 hyes hno hsc2 he hz HTZ htl0 htl1 hv28
                  go_upto_region 20 with fail
                  refine reg_plain (Stays [(gr, Obj.cells #[.int .u64 0, .int .u64 0] 25 (0, 0)), (gx, Obj.cells #[.string ⟨sx.toArray⟩, .int .i64 tx0, .int .i64 (zx : Int)] 54 (0, 0)), (ga, Obj.cells #[.int .u64 a, .int .u64 b] 25 (0, 0))] w) (Turns [(gr, Obj.cells #[.int .u64 0, .int .u64 0] 25 (0, 0)), (gx, Obj.cells #[.string ⟨sx.toArray⟩, .int .i64 tx0, .int .i64 (zx : Int)] 54 (0, 0)), (ga, Obj.cells #[.int .u64 a, .int .u64 b] 25 (0, 0))] w) (kdOf []) none0 (stays_good _ _) (S12.out) (holds0 _) ?_
                  refine g_look rfl rfl ?_ (fun w' hC => ?_) ?_
                  rotate_left
                  · go_simp
                    first | done | rfl
                  simp only [Act.put, List.setIfInBounds_toArray, List.set_cons_zero, List.set_cons_succ]
                  refine g_look rfl rfl (.bool true) (fun w' hC => ?_) ?_
                  · clear hC
                    go_simp
                    first | done | rfl
                  simp only [Act.put, List.setIfInBounds_toArray, List.set_cons_zero, List.set_cons_succ]
                  refine g_end ?_
                  intro w13 hC13 hh13
                  have S13 : Hid (Stays [(gr, Obj.cells #[.int .u64 0, .int .u64 0] 25 (0, 0)), (gx, Obj.cells #[.string ⟨sx.toArray⟩, .int .i64 tx0, .int .i64 (zx : Int)] 54 (0, 0)), (ga, Obj.cells #[.int .u64 a, .int .u64 b] 25 (0, 0))] w w13) := Lib.hid (stays_cons (stays_row hC13 (List.mem_cons_self ..)) (stays_cons (stays_row hC13 (List.mem_cons_of_mem _ (List.mem_cons_self ..))) (stays_cons (stays_row hC13 (List.mem_cons_of_mem _ (List.mem_cons_of_mem _ (List.mem_cons_self ..)))) (stays_nil (stays_below hC13)))))
                  clear S12
                  clear hC13 hh13
                  go_upto_region 21 with fail
                  refine reg_plain (Stays [(gr, Obj.cells #[.int .u64 0, .int .u64 0] 25 (0, 0)), (gx, Obj.cells #[.string ⟨sx.toArray⟩, .int .i64 tx0, .int .i64 (zx : Int)] 54 (0, 0))] w) (Turns [(gr, Obj.cells #[.int .u64 0, .int .u64 0] 25 (0, 0)), (gx, Obj.cells #[.string ⟨sx.toArray⟩, .int .i64 tx0, .int .i64 (zx : Int)] 54 (0, 0))] w) (kdOf [(0, .touch), (5, .make (fun _ => callM (.tuple #[.agg #[.int .u64 a3, .int .u64 b3], .bool ok3]))), (9, .touch)]) (Own.has none0 ga (Obj.cells #[.int .u64 a, .int .u64 b] 25 (0, 0))) (stays_good _ _) (stays_cons (stays_row S13.out (List.mem_cons_self ..)) (stays_cons (stays_row S13.out (List.mem_cons_of_mem _ (List.mem_cons_self ..))) (stays_nil (stays_below S13.out)))) (holds_has (holds0 _) (stays_row S13.out (List.mem_cons_of_mem _ (List.mem_cons_of_mem _ (List.mem_cons_self ..)))) ta.out) ?_
                  refine g_load_own 25 _ ga none 25 #[.int .u64 a, .int .u64 b] (0, 0) _ rfl rfl rfl rfl (has_same _ _ _) (by kernel_rfl) Try.underlying25 rfl (rfl) ?_
                  simp only [Act.put, List.setIfInBounds_toArray, List.set_cons_zero, List.set_cons_succ]
                  refine g_look rfl rfl ?_ (fun w' hC => ?_) ?_
                  rotate_left
                  · go_simp
                    first | done | rfl
                  simp only [Act.put, List.setIfInBounds_toArray, List.set_cons_zero, List.set_cons_succ]
                  refine g_look rfl rfl (.int .i64 (e : Int)) (fun w' hC => ?_) ?_
                  · clear hC
                    go_simp
                    first | done | (rw [i64w, hwe]; done) | exact hwe
                  simp only [Act.put, List.setIfInBounds_toArray, List.set_cons_zero, List.set_cons_succ]
                  refine g_look rfl rfl (.pointer (some ⟨gx, 2, none⟩)) (fun w' hC => ?_) ?_
                  · clear hC
                    go_simp
                    first | done | rfl | exact ⟨rfl, rfl⟩
                  simp only [Act.put, List.setIfInBounds_toArray, List.set_cons_zero, List.set_cons_succ]
                  refine g_look rfl rfl (.int .i64 (zx : Int)) (fun w' hC => ?_) ?_
                  · have c : w'.heap[gx]? = some (.cells #[.string ⟨sx.toArray⟩, .int .i64 tx0, .int .i64 (zx : Int)] 54 (0, 0)) := stays_row hC (List.mem_cons_of_mem _ (List.mem_cons_self ..))
                    have c0 : w'.cell? ⟨gx, 2, none⟩ = some (.int .i64 (zx : Int)) := (cell_of_row _ _ _ _ _ _ c).trans rfl
                    clear hC c
                    go_simp
                    first | done | rfl
                  simp only [Act.put, List.setIfInBounds_toArray, List.set_cons_zero, List.set_cons_succ]
                  refine g_call (stays_good _ _) (.tuple #[.agg #[.int .u64 a3, .int .u64 b3], .bool ok3]) rfl rfl (fun w' hC => ?_) ?_
                  · clear hC
                    go_simp
                    refine (down_any _ a b v e zx HWV.out HUA.out HUB.out HCT.out.1 HCT.out.2 HZ.out).mono (fun e w2 h => ?_)
                    obtain ⟨h1, h2⟩ := h
                    rw [HE3.out] at h1
                    exact gives h1 h2
                  simp only [Act.put, List.setIfInBounds_toArray, List.set_cons_zero, List.set_cons_succ]
                  refine g_look rfl rfl ?_ (fun w' hC => ?_) ?_
                  rotate_left
                  · go_simp
                    first | done | rfl
                  simp only [Act.put, List.setIfInBounds_toArray, List.set_cons_zero, List.set_cons_succ]
                  refine g_look rfl rfl ?_ (fun w' hC => ?_) ?_
                  rotate_left
                  · go_simp
                    first | done | rfl
                  simp only [Act.put, List.setIfInBounds_toArray, List.set_cons_zero, List.set_cons_succ]
                  refine g_look rfl rfl ?_ (fun w' hC => ?_) ?_
                  rotate_left
                  · go_simp
                    first | done | rfl
                  simp only [Act.put, List.setIfInBounds_toArray, List.set_cons_zero, List.set_cons_succ]
                  refine g_store ga (some 0) 25 25 _ _ #[.int .u64 a, .int .u64 b] #[.int .u64 a3, .int .u64 b3] rfl rfl rfl rfl rfl (own_new _ _ _ _) (by kernel_rfl) (rfl) (rfl) (one25 _ _) ?_
                  simp only [Act.put]
                  refine g_look rfl rfl ?_ (fun w' hC => ?_) ?_
                  rotate_left
                  · go_simp
                    first | done | rfl
                  simp only [Act.put, List.setIfInBounds_toArray, List.set_cons_zero, List.set_cons_succ]
                  refine g_end ?_
                  intro w14 hC14 hh14
                  have S14 : Hid (Stays [(gr, Obj.cells #[.int .u64 0, .int .u64 0] 25 (0, 0)), (gx, Obj.cells #[.string ⟨sx.toArray⟩, .int .i64 tx0, .int .i64 (zx : Int)] 54 (0, 0)), (ga, Obj.cells #[.int .u64 a3, .int .u64 b3] 25 (0, 0))] w w14) := Lib.hid (stays_cons (stays_row hC14 (List.mem_cons_self ..)) (stays_cons (stays_row hC14 (List.mem_cons_of_mem _ (List.mem_cons_self ..))) (stays_cons ((hh14 _ _ _ (own_new _ _ _ _)).1) (stays_nil (stays_below hC14)))))
                  clear S13
                  clear hC14 hh14
                  cases ok3 with
                  | false =>
                    have HNN := Lib.hid (HNO.out rfl)
                    go_upto_region 23 with fail
                    refine reg_plain (Stays [(gr, Obj.cells #[.int .u64 0, .int .u64 0] 25 (0, 0)), (gx, Obj.cells #[.string ⟨sx.toArray⟩, .int .i64 tx0, .int .i64 (zx : Int)] 54 (0, 0)), (ga, Obj.cells #[.int .u64 a3, .int .u64 b3] 25 (0, 0))] w) (Turns [(gr, Obj.cells #[.int .u64 0, .int .u64 0] 25 (0, 0)), (gx, Obj.cells #[.string ⟨sx.toArray⟩, .int .i64 tx0, .int .i64 (zx : Int)] 54 (0, 0)), (ga, Obj.cells #[.int .u64 a3, .int .u64 b3] 25 (0, 0))] w) (kdOf []) none0 (stays_good _ _) (S14.out) (holds0 _) ?_
                    refine g_look rfl rfl ?_ (fun w' hC => ?_) ?_
                    rotate_left
                    · go_simp
                      first | done | rfl
                    simp only [Act.put, List.setIfInBounds_toArray, List.set_cons_zero, List.set_cons_succ]
                    refine g_look rfl rfl ?_ (fun w' hC => ?_) ?_
                    rotate_left
                    · go_simp
                      first | done | rfl
                    simp only [Act.put, List.setIfInBounds_toArray, List.set_cons_zero, List.set_cons_succ]
                    refine g_look rfl rfl ?_ (fun w' hC => ?_) ?_
                    rotate_left
                    · go_simp
                      first | done | rfl
                    simp only [Act.put, List.setIfInBounds_toArray, List.set_cons_zero, List.set_cons_succ]
                    first | (refine g_skip rfl ?_) | (refine g_load 25 _ ga 25 #[.int .u64 a3, .int .u64 b3] (0, 0) _ rfl rfl rfl rfl (fun w' hC => stays_row hC (List.mem_cons_of_mem _ (List.mem_cons_of_mem _ (List.mem_cons_self ..)))) Try.underlying25 rfl (rfl) ?_)
                    simp only [Act.put, List.setIfInBounds_toArray, List.set_cons_zero, List.set_cons_succ]
                    refine g_skip rfl ?_
                    simp only [Act.put, List.setIfInBounds_toArray, List.set_cons_zero, List.set_cons_succ]
                    first
                    | (refine g_skip rfl ?_)
                    | (refine g_look rfl rfl ?_ (fun w' hC => ?_) ?_
                       rotate_left
                       · go_simp
                         first | done | rfl)
                    simp only [Act.put, List.setIfInBounds_toArray, List.set_cons_zero, List.set_cons_succ]
                    refine g_look rfl rfl ?_ (fun w' hC => ?_) ?_
                    rotate_left
                    · go_simp
                      first | done | rfl
                    simp only [Act.put, List.setIfInBounds_toArray, List.set_cons_zero, List.set_cons_succ]
                    refine g_end ?_
                    intro w15 hC15 hh15
                    have S15 : Hid (Stays [(gr, Obj.cells #[.int .u64 0, .int .u64 0] 25 (0, 0)), (gx, Obj.cells #[.string ⟨sx.toArray⟩, .int .i64 tx0, .int .i64 (zx : Int)] 54 (0, 0)), (ga, Obj.cells #[.int .u64 a3, .int .u64 b3] 25 (0, 0))] w w15) := Lib.hid (stays_cons (stays_row hC15 (List.mem_cons_self ..)) (stays_cons (stays_row hC15 (List.mem_cons_of_mem _ (List.mem_cons_self ..))) (stays_cons (stays_row hC15 (List.mem_cons_of_mem _ (List.mem_cons_of_mem _ (List.mem_cons_self ..)))) (stays_nil (stays_below hC15)))))
                    clear S14
                    clear hC15 hh15
                    go_upto_region 24 with fail
                    refine reg_plain (Stays [(gx, Obj.cells #[.string ⟨sx.toArray⟩, .int .i64 tx0, .int .i64 (zx : Int)] 54 (0, 0)), (ga, Obj.cells #[.int .u64 a3, .int .u64 b3] 25 (0, 0))] w) (Turns [(gx, Obj.cells #[.string ⟨sx.toArray⟩, .int .i64 tx0, .int .i64 (zx : Int)] 54 (0, 0)), (ga, Obj.cells #[.int .u64 a3, .int .u64 b3] 25 (0, 0))] w) (kdOf [(1, .touch)]) (Own.has none0 gr (Obj.cells #[.int .u64 0, .int .u64 0] 25 (0, 0))) (stays_good _ _) (stays_cons (stays_row S15.out (List.mem_cons_of_mem _ (List.mem_cons_self ..))) (stays_cons (stays_row S15.out (List.mem_cons_of_mem _ (List.mem_cons_of_mem _ (List.mem_cons_self ..)))) (stays_nil (stays_below S15.out)))) (holds_has (holds0 _) (stays_row S15.out (List.mem_cons_self ..)) (turns_cons (turns_head tx.out).symm (turns_cons (turns_head ta.out).symm (turns_nil tr.out.2)))) ?_
                    refine g_look rfl rfl ?_ (fun w' hC => ?_) ?_
                    rotate_left
                    · go_simp
                      first | done | rfl
                    simp only [Act.put, List.setIfInBounds_toArray, List.set_cons_zero, List.set_cons_succ]
                    refine g_store gr none 25 25 _ _ #[.int .u64 0, .int .u64 0] #[.int .u64 0, .int .u64 0] rfl rfl rfl rfl rfl (has_same _ _ _) (by kernel_rfl) (rfl) (rfl) (one25 _ _) ?_
                    simp only [Act.put]
                    refine g_look rfl rfl ?_ (fun w' hC => ?_) ?_
                    rotate_left
                    · go_simp
                      first | done | rfl
                    simp only [Act.put, List.setIfInBounds_toArray, List.set_cons_zero, List.set_cons_succ]
                    refine g_end ?_
                    intro w16 hC16 hh16
                    have S16 : Hid (Stays [(gr, Obj.cells #[.int .u64 0, .int .u64 0] 25 (0, 0)), (gx, Obj.cells #[.string ⟨sx.toArray⟩, .int .i64 tx0, .int .i64 (zx : Int)] 54 (0, 0)), (ga, Obj.cells #[.int .u64 a3, .int .u64 b3] 25 (0, 0))] w w16) := Lib.hid (stays_cons ((hh16 _ _ _ (own_new _ _ _ _)).1) (stays_cons (stays_row hC16 (List.mem_cons_self ..)) (stays_cons (stays_row hC16 (List.mem_cons_of_mem _ (List.mem_cons_self ..))) (stays_nil (stays_below hC16)))))
                    clear S15
                    clear hC16 hh16
                    go_wp2_with fail
                    refine bodyPost_ret (v := .tuple #[.agg #[.int .u64 0, .int .u64 0], .int .i64 15]) (results_err8 (stays_head S16.out)) rfl ⟨congrArg Ending.returned (by rw [HVP2.out, if_neg (no_le HNN.out)]; rfl), stays_below S16.out⟩
                  | true =>
                    have HY := Lib.hid (HYES.out rfl)
                    by_cases hf : wval a3 b3 ≤ Most
                    · have HF : Hid (decide (wval a3 b3 ≤ Most) = true) := Lib.hid (decide_eq_true hf)
                      clear hf
                      go_upto_region 23 with fail
                      refine reg_plain (Stays [(gr, Obj.cells #[.int .u64 0, .int .u64 0] 25 (0, 0)), (gx, Obj.cells #[.string ⟨sx.toArray⟩, .int .i64 tx0, .int .i64 (zx : Int)] 54 (0, 0)), (ga, Obj.cells #[.int .u64 a3, .int .u64 b3] 25 (0, 0))] w) (Turns [(gr, Obj.cells #[.int .u64 0, .int .u64 0] 25 (0, 0)), (gx, Obj.cells #[.string ⟨sx.toArray⟩, .int .i64 tx0, .int .i64 (zx : Int)] 54 (0, 0)), (ga, Obj.cells #[.int .u64 a3, .int .u64 b3] 25 (0, 0))] w) (kdOf [(4, .make (fun _ => callM (.bool true)))]) none0 (stays_good _ _) (S14.out) (holds0 _) ?_
                      refine g_look rfl rfl ?_ (fun w' hC => ?_) ?_
                      rotate_left
                      · go_simp
                        first | done | rfl
                      simp only [Act.put, List.setIfInBounds_toArray, List.set_cons_zero, List.set_cons_succ]
                      refine g_look rfl rfl ?_ (fun w' hC => ?_) ?_
                      rotate_left
                      · go_simp
                        first | done | rfl
                      simp only [Act.put, List.setIfInBounds_toArray, List.set_cons_zero, List.set_cons_succ]
                      refine g_look rfl rfl ?_ (fun w' hC => ?_) ?_
                      rotate_left
                      · go_simp
                        first | done | rfl
                      simp only [Act.put, List.setIfInBounds_toArray, List.set_cons_zero, List.set_cons_succ]
                      first | (refine g_skip rfl ?_) | (refine g_load 25 _ ga 25 #[.int .u64 a3, .int .u64 b3] (0, 0) _ rfl rfl rfl rfl (fun w' hC => stays_row hC (List.mem_cons_of_mem _ (List.mem_cons_of_mem _ (List.mem_cons_self ..)))) Try.underlying25 rfl (rfl) ?_)
                      simp only [Act.put, List.setIfInBounds_toArray, List.set_cons_zero, List.set_cons_succ]
                      refine g_call (stays_good _ _) (.bool true) rfl rfl (fun w' hC => ?_) ?_
                      · clear hC
                        go_simp
                        refine (fits_any _ a3 b3 HUA3.out HUB3.out).mono (fun e w2 h => ?_)
                        obtain ⟨h1, h2⟩ := h
                        rw [HF.out] at h1
                        exact gives h1 h2
                      simp only [Act.put, List.setIfInBounds_toArray, List.set_cons_zero, List.set_cons_succ]
                      first
                      | (refine g_skip rfl ?_)
                      | (refine g_look rfl rfl ?_ (fun w' hC => ?_) ?_
                         rotate_left
                         · go_simp
                           first | done | rfl)
                      simp only [Act.put, List.setIfInBounds_toArray, List.set_cons_zero, List.set_cons_succ]
                      refine g_look rfl rfl ?_ (fun w' hC => ?_) ?_
                      rotate_left
                      · go_simp
                        first | done | rfl
                      simp only [Act.put, List.setIfInBounds_toArray, List.set_cons_zero, List.set_cons_succ]
                      refine g_end ?_
                      intro w15 hC15 hh15
                      have S15 : Hid (Stays [(gr, Obj.cells #[.int .u64 0, .int .u64 0] 25 (0, 0)), (gx, Obj.cells #[.string ⟨sx.toArray⟩, .int .i64 tx0, .int .i64 (zx : Int)] 54 (0, 0)), (ga, Obj.cells #[.int .u64 a3, .int .u64 b3] 25 (0, 0))] w w15) := Lib.hid (stays_cons (stays_row hC15 (List.mem_cons_self ..)) (stays_cons (stays_row hC15 (List.mem_cons_of_mem _ (List.mem_cons_self ..))) (stays_cons (stays_row hC15 (List.mem_cons_of_mem _ (List.mem_cons_of_mem _ (List.mem_cons_self ..)))) (stays_nil (stays_below hC15)))))
                      clear S14
                      clear hC15 hh15
                      go_upto_region 25 with fail
                      refine reg_plain (Stays [(gx, Obj.cells #[.string ⟨sx.toArray⟩, .int .i64 tx0, .int .i64 (zx : Int)] 54 (0, 0)), (ga, Obj.cells #[.int .u64 a3, .int .u64 b3] 25 (0, 0))] w) (Turns [(gx, Obj.cells #[.string ⟨sx.toArray⟩, .int .i64 tx0, .int .i64 (zx : Int)] 54 (0, 0)), (ga, Obj.cells #[.int .u64 a3, .int .u64 b3] 25 (0, 0))] w) (kdOf [(1, .touch)]) (Own.has none0 gr (Obj.cells #[.int .u64 0, .int .u64 0] 25 (0, 0))) (stays_good _ _) (stays_cons (stays_row S15.out (List.mem_cons_of_mem _ (List.mem_cons_self ..))) (stays_cons (stays_row S15.out (List.mem_cons_of_mem _ (List.mem_cons_of_mem _ (List.mem_cons_self ..)))) (stays_nil (stays_below S15.out)))) (holds_has (holds0 _) (stays_row S15.out (List.mem_cons_self ..)) (turns_cons (turns_head tx.out).symm (turns_cons (turns_head ta.out).symm (turns_nil tr.out.2)))) ?_
                      (refine g_load 25 _ ga 25 #[.int .u64 a3, .int .u64 b3] (0, 0) _ rfl rfl rfl rfl (fun w' hC => stays_row hC (List.mem_cons_of_mem _ (List.mem_cons_self ..))) Try.underlying25 rfl (rfl) ?_)
                      simp only [Act.put, List.setIfInBounds_toArray, List.set_cons_zero, List.set_cons_succ]
                      refine g_store gr none 25 25 _ _ #[.int .u64 0, .int .u64 0] #[.int .u64 a3, .int .u64 b3] rfl rfl rfl rfl rfl (has_same _ _ _) (by kernel_rfl) (rfl) (rfl) (one25 _ _) ?_
                      simp only [Act.put]
                      refine g_look rfl rfl ?_ (fun w' hC => ?_) ?_
                      rotate_left
                      · go_simp
                        first | done | rfl
                      simp only [Act.put, List.setIfInBounds_toArray, List.set_cons_zero, List.set_cons_succ]
                      refine g_end ?_
                      intro w16 hC16 hh16
                      have S16 : Hid (Stays [(gr, Obj.cells #[.int .u64 a3, .int .u64 b3] 25 (0, 0)), (gx, Obj.cells #[.string ⟨sx.toArray⟩, .int .i64 tx0, .int .i64 (zx : Int)] 54 (0, 0)), (ga, Obj.cells #[.int .u64 a3, .int .u64 b3] 25 (0, 0))] w w16) := Lib.hid (stays_cons ((hh16 _ _ _ (own_new _ _ _ _)).1) (stays_cons (stays_row hC16 (List.mem_cons_self ..)) (stays_cons (stays_row hC16 (List.mem_cons_of_mem _ (List.mem_cons_self ..))) (stays_nil (stays_below hC16)))))
                      clear S15
                      clear hC16 hh16
                      go_wp2_with fail
                      refine bodyPost_ret (v := .tuple #[.agg #[.int .u64 a3, .int .u64 b3], .int .i64 0]) (results_err8 (stays_row S16.out (List.mem_cons_self ..))) rfl ⟨congrArg Ending.returned (by rw [HVP2.out, if_pos (by have := of_decide_eq_true HF.out; rw [← HY.out]; exact this), ← wval_wn HUA3.out HUB3.out HY.out]; rfl), stays_below S16.out⟩
                    · have HF : Hid (decide (wval a3 b3 ≤ Most) = false) := Lib.hid (decide_eq_false hf)
                      clear hf
                      go_upto_region 23 with fail
                      refine reg_plain (Stays [(gr, Obj.cells #[.int .u64 0, .int .u64 0] 25 (0, 0)), (gx, Obj.cells #[.string ⟨sx.toArray⟩, .int .i64 tx0, .int .i64 (zx : Int)] 54 (0, 0)), (ga, Obj.cells #[.int .u64 a3, .int .u64 b3] 25 (0, 0))] w) (Turns [(gr, Obj.cells #[.int .u64 0, .int .u64 0] 25 (0, 0)), (gx, Obj.cells #[.string ⟨sx.toArray⟩, .int .i64 tx0, .int .i64 (zx : Int)] 54 (0, 0)), (ga, Obj.cells #[.int .u64 a3, .int .u64 b3] 25 (0, 0))] w) (kdOf [(4, .make (fun _ => callM (.bool false)))]) none0 (stays_good _ _) (S14.out) (holds0 _) ?_
                      refine g_look rfl rfl ?_ (fun w' hC => ?_) ?_
                      rotate_left
                      · go_simp
                        first | done | rfl
                      simp only [Act.put, List.setIfInBounds_toArray, List.set_cons_zero, List.set_cons_succ]
                      refine g_look rfl rfl ?_ (fun w' hC => ?_) ?_
                      rotate_left
                      · go_simp
                        first | done | rfl
                      simp only [Act.put, List.setIfInBounds_toArray, List.set_cons_zero, List.set_cons_succ]
                      refine g_look rfl rfl ?_ (fun w' hC => ?_) ?_
                      rotate_left
                      · go_simp
                        first | done | rfl
                      simp only [Act.put, List.setIfInBounds_toArray, List.set_cons_zero, List.set_cons_succ]
                      first | (refine g_skip rfl ?_) | (refine g_load 25 _ ga 25 #[.int .u64 a3, .int .u64 b3] (0, 0) _ rfl rfl rfl rfl (fun w' hC => stays_row hC (List.mem_cons_of_mem _ (List.mem_cons_of_mem _ (List.mem_cons_self ..)))) Try.underlying25 rfl (rfl) ?_)
                      simp only [Act.put, List.setIfInBounds_toArray, List.set_cons_zero, List.set_cons_succ]
                      refine g_call (stays_good _ _) (.bool false) rfl rfl (fun w' hC => ?_) ?_
                      · clear hC
                        go_simp
                        refine (fits_any _ a3 b3 HUA3.out HUB3.out).mono (fun e w2 h => ?_)
                        obtain ⟨h1, h2⟩ := h
                        rw [HF.out] at h1
                        exact gives h1 h2
                      simp only [Act.put, List.setIfInBounds_toArray, List.set_cons_zero, List.set_cons_succ]
                      first
                      | (refine g_skip rfl ?_)
                      | (refine g_look rfl rfl ?_ (fun w' hC => ?_) ?_
                         rotate_left
                         · go_simp
                           first | done | rfl)
                      simp only [Act.put, List.setIfInBounds_toArray, List.set_cons_zero, List.set_cons_succ]
                      refine g_look rfl rfl ?_ (fun w' hC => ?_) ?_
                      rotate_left
                      · go_simp
                        first | done | rfl
                      simp only [Act.put, List.setIfInBounds_toArray, List.set_cons_zero, List.set_cons_succ]
                      refine g_end ?_
                      intro w15 hC15 hh15
                      have S15 : Hid (Stays [(gr, Obj.cells #[.int .u64 0, .int .u64 0] 25 (0, 0)), (gx, Obj.cells #[.string ⟨sx.toArray⟩, .int .i64 tx0, .int .i64 (zx : Int)] 54 (0, 0)), (ga, Obj.cells #[.int .u64 a3, .int .u64 b3] 25 (0, 0))] w w15) := Lib.hid (stays_cons (stays_row hC15 (List.mem_cons_self ..)) (stays_cons (stays_row hC15 (List.mem_cons_of_mem _ (List.mem_cons_self ..))) (stays_cons (stays_row hC15 (List.mem_cons_of_mem _ (List.mem_cons_of_mem _ (List.mem_cons_self ..)))) (stays_nil (stays_below hC15)))))
                      clear S14
                      clear hC15 hh15
                      go_upto_region 24 with fail
                      refine reg_plain (Stays [(gx, Obj.cells #[.string ⟨sx.toArray⟩, .int .i64 tx0, .int .i64 (zx : Int)] 54 (0, 0)), (ga, Obj.cells #[.int .u64 a3, .int .u64 b3] 25 (0, 0))] w) (Turns [(gx, Obj.cells #[.string ⟨sx.toArray⟩, .int .i64 tx0, .int .i64 (zx : Int)] 54 (0, 0)), (ga, Obj.cells #[.int .u64 a3, .int .u64 b3] 25 (0, 0))] w) (kdOf [(1, .touch)]) (Own.has none0 gr (Obj.cells #[.int .u64 0, .int .u64 0] 25 (0, 0))) (stays_good _ _) (stays_cons (stays_row S15.out (List.mem_cons_of_mem _ (List.mem_cons_self ..))) (stays_cons (stays_row S15.out (List.mem_cons_of_mem _ (List.mem_cons_of_mem _ (List.mem_cons_self ..)))) (stays_nil (stays_below S15.out)))) (holds_has (holds0 _) (stays_row S15.out (List.mem_cons_self ..)) (turns_cons (turns_head tx.out).symm (turns_cons (turns_head ta.out).symm (turns_nil tr.out.2)))) ?_
                      refine g_look rfl rfl ?_ (fun w' hC => ?_) ?_
                      rotate_left
                      · go_simp
                        first | done | rfl
                      simp only [Act.put, List.setIfInBounds_toArray, List.set_cons_zero, List.set_cons_succ]
                      refine g_store gr none 25 25 _ _ #[.int .u64 0, .int .u64 0] #[.int .u64 0, .int .u64 0] rfl rfl rfl rfl rfl (has_same _ _ _) (by kernel_rfl) (rfl) (rfl) (one25 _ _) ?_
                      simp only [Act.put]
                      refine g_look rfl rfl ?_ (fun w' hC => ?_) ?_
                      rotate_left
                      · go_simp
                        first | done | rfl
                      simp only [Act.put, List.setIfInBounds_toArray, List.set_cons_zero, List.set_cons_succ]
                      refine g_end ?_
                      intro w16 hC16 hh16
                      have S16 : Hid (Stays [(gr, Obj.cells #[.int .u64 0, .int .u64 0] 25 (0, 0)), (gx, Obj.cells #[.string ⟨sx.toArray⟩, .int .i64 tx0, .int .i64 (zx : Int)] 54 (0, 0)), (ga, Obj.cells #[.int .u64 a3, .int .u64 b3] 25 (0, 0))] w w16) := Lib.hid (stays_cons ((hh16 _ _ _ (own_new _ _ _ _)).1) (stays_cons (stays_row hC16 (List.mem_cons_self ..)) (stays_cons (stays_row hC16 (List.mem_cons_of_mem _ (List.mem_cons_self ..))) (stays_nil (stays_below hC16)))))
                      clear S15
                      clear hC16 hh16
                      go_wp2_with fail
                      refine bodyPost_ret (v := .tuple #[.agg #[.int .u64 0, .int .u64 0], .int .i64 15]) (results_err8 (stays_head S16.out)) rfl ⟨congrArg Ending.returned (by rw [HVP2.out, if_neg (by have := of_decide_eq_false HF.out; rw [← HY.out]; exact this)]; rfl), stays_below S16.out⟩
                · obtain ⟨e, he⟩ : ∃ e : Nat, tt.toNat = e := ⟨_, rfl⟩
                  obtain ⟨hwe, he1000⟩ := pos_facts htl1 hneg he
                  have hsc2 : scaled v tt zx = v * 10 ^ e * 2 ^ zx := by rw [scaled, if_neg hneg, he]
                  obtain ⟨a3, b3, ok3, he3, hua3, hub3, hyes, hno⟩ := up_open v e zx
                  have HCT : Hid (e ≤ 1000 ∧ zx ≤ 1000) := Lib.hid ⟨he1000, Nat.le_trans hz (by decide)⟩
                  clear he1000
                  rw [hsc2] at HVP2
                  have HZ := Lib.hid hz
                  have HE3 := Lib.hid he3
                  have HUA3 := Lib.hid hua3
                  have HUB3 := Lib.hid hub3
                  have HYES := Lib.hid hyes
                  have HNO := Lib.hid hno
                  clear he3 hua3 hub3 hyes hno hsc2 he hz HTZ htl0 htl1 hv28
                  subst hwe
                  go_upto_region 20 with fail
                  refine reg_plain (Stays [(gr, Obj.cells #[.int .u64 0, .int .u64 0] 25 (0, 0)), (gx, Obj.cells #[.string ⟨sx.toArray⟩, .int .i64 tx0, .int .i64 (zx : Int)] 54 (0, 0)), (ga, Obj.cells #[.int .u64 a, .int .u64 b] 25 (0, 0))] w) (Turns [(gr, Obj.cells #[.int .u64 0, .int .u64 0] 25 (0, 0)), (gx, Obj.cells #[.string ⟨sx.toArray⟩, .int .i64 tx0, .int .i64 (zx : Int)] 54 (0, 0)), (ga, Obj.cells #[.int .u64 a, .int .u64 b] 25 (0, 0))] w) (kdOf []) none0 (stays_good _ _) (S12.out) (holds0 _) ?_
                  refine g_look rfl rfl ?_ (fun w' hC => ?_) ?_
                  rotate_left
                  · go_simp
                    first | done | rfl
                  simp only [Act.put, List.setIfInBounds_toArray, List.set_cons_zero, List.set_cons_succ]
                  refine g_look rfl rfl (.bool false) (fun w' hC => ?_) ?_
                  · clear hC
                    go_simp
                    first | done | rfl
                  simp only [Act.put, List.setIfInBounds_toArray, List.set_cons_zero, List.set_cons_succ]
                  refine g_end ?_
                  intro w13 hC13 hh13
                  have S13 : Hid (Stays [(gr, Obj.cells #[.int .u64 0, .int .u64 0] 25 (0, 0)), (gx, Obj.cells #[.string ⟨sx.toArray⟩, .int .i64 tx0, .int .i64 (zx : Int)] 54 (0, 0)), (ga, Obj.cells #[.int .u64 a, .int .u64 b] 25 (0, 0))] w w13) := Lib.hid (stays_cons (stays_row hC13 (List.mem_cons_self ..)) (stays_cons (stays_row hC13 (List.mem_cons_of_mem _ (List.mem_cons_self ..))) (stays_cons (stays_row hC13 (List.mem_cons_of_mem _ (List.mem_cons_of_mem _ (List.mem_cons_self ..)))) (stays_nil (stays_below hC13)))))
                  clear S12
                  clear hC13 hh13
                  go_upto_region 22 with fail
                  refine reg_plain (Stays [(gr, Obj.cells #[.int .u64 0, .int .u64 0] 25 (0, 0)), (gx, Obj.cells #[.string ⟨sx.toArray⟩, .int .i64 tx0, .int .i64 (zx : Int)] 54 (0, 0))] w) (Turns [(gr, Obj.cells #[.int .u64 0, .int .u64 0] 25 (0, 0)), (gx, Obj.cells #[.string ⟨sx.toArray⟩, .int .i64 tx0, .int .i64 (zx : Int)] 54 (0, 0))] w) (kdOf [(0, .touch), (4, .make (fun _ => callM (.tuple #[.agg #[.int .u64 a3, .int .u64 b3], .bool ok3]))), (8, .touch)]) (Own.has none0 ga (Obj.cells #[.int .u64 a, .int .u64 b] 25 (0, 0))) (stays_good _ _) (stays_cons (stays_row S13.out (List.mem_cons_self ..)) (stays_cons (stays_row S13.out (List.mem_cons_of_mem _ (List.mem_cons_self ..))) (stays_nil (stays_below S13.out)))) (holds_has (holds0 _) (stays_row S13.out (List.mem_cons_of_mem _ (List.mem_cons_of_mem _ (List.mem_cons_self ..)))) ta.out) ?_
                  refine g_load_own 25 _ ga none 25 #[.int .u64 a, .int .u64 b] (0, 0) _ rfl rfl rfl rfl (has_same _ _ _) (by kernel_rfl) Try.underlying25 rfl (rfl) ?_
                  simp only [Act.put, List.setIfInBounds_toArray, List.set_cons_zero, List.set_cons_succ]
                  refine g_look rfl rfl ?_ (fun w' hC => ?_) ?_
                  rotate_left
                  · go_simp
                    first | done | rfl
                  simp only [Act.put, List.setIfInBounds_toArray, List.set_cons_zero, List.set_cons_succ]
                  refine g_look rfl rfl (.pointer (some ⟨gx, 2, none⟩)) (fun w' hC => ?_) ?_
                  · clear hC
                    go_simp
                    first | done | rfl | exact ⟨rfl, rfl⟩
                  simp only [Act.put, List.setIfInBounds_toArray, List.set_cons_zero, List.set_cons_succ]
                  refine g_look rfl rfl (.int .i64 (zx : Int)) (fun w' hC => ?_) ?_
                  · have c : w'.heap[gx]? = some (.cells #[.string ⟨sx.toArray⟩, .int .i64 tx0, .int .i64 (zx : Int)] 54 (0, 0)) := stays_row hC (List.mem_cons_of_mem _ (List.mem_cons_self ..))
                    have c0 : w'.cell? ⟨gx, 2, none⟩ = some (.int .i64 (zx : Int)) := (cell_of_row _ _ _ _ _ _ c).trans rfl
                    clear hC c
                    go_simp
                    first | done | rfl
                  simp only [Act.put, List.setIfInBounds_toArray, List.set_cons_zero, List.set_cons_succ]
                  refine g_call (stays_good _ _) (.tuple #[.agg #[.int .u64 a3, .int .u64 b3], .bool ok3]) rfl rfl (fun w' hC => ?_) ?_
                  · clear hC
                    go_simp
                    refine (tens_any _ a b v e zx HWV.out HUA.out HUB.out HCT.out.1 HCT.out.2).mono (fun e w2 h => ?_)
                    obtain ⟨h1, h2⟩ := h
                    rw [HE3.out] at h1
                    exact gives h1 h2
                  simp only [Act.put, List.setIfInBounds_toArray, List.set_cons_zero, List.set_cons_succ]
                  refine g_look rfl rfl ?_ (fun w' hC => ?_) ?_
                  rotate_left
                  · go_simp
                    first | done | rfl
                  simp only [Act.put, List.setIfInBounds_toArray, List.set_cons_zero, List.set_cons_succ]
                  refine g_look rfl rfl ?_ (fun w' hC => ?_) ?_
                  rotate_left
                  · go_simp
                    first | done | rfl
                  simp only [Act.put, List.setIfInBounds_toArray, List.set_cons_zero, List.set_cons_succ]
                  refine g_look rfl rfl ?_ (fun w' hC => ?_) ?_
                  rotate_left
                  · go_simp
                    first | done | rfl
                  simp only [Act.put, List.setIfInBounds_toArray, List.set_cons_zero, List.set_cons_succ]
                  refine g_store ga (some 0) 25 25 _ _ #[.int .u64 a, .int .u64 b] #[.int .u64 a3, .int .u64 b3] rfl rfl rfl rfl rfl (own_new _ _ _ _) (by kernel_rfl) (rfl) (rfl) (one25 _ _) ?_
                  simp only [Act.put]
                  refine g_look rfl rfl ?_ (fun w' hC => ?_) ?_
                  rotate_left
                  · go_simp
                    first | done | rfl
                  simp only [Act.put, List.setIfInBounds_toArray, List.set_cons_zero, List.set_cons_succ]
                  refine g_end ?_
                  intro w14 hC14 hh14
                  have S14 : Hid (Stays [(gr, Obj.cells #[.int .u64 0, .int .u64 0] 25 (0, 0)), (gx, Obj.cells #[.string ⟨sx.toArray⟩, .int .i64 tx0, .int .i64 (zx : Int)] 54 (0, 0)), (ga, Obj.cells #[.int .u64 a3, .int .u64 b3] 25 (0, 0))] w w14) := Lib.hid (stays_cons (stays_row hC14 (List.mem_cons_self ..)) (stays_cons (stays_row hC14 (List.mem_cons_of_mem _ (List.mem_cons_self ..))) (stays_cons ((hh14 _ _ _ (own_new _ _ _ _)).1) (stays_nil (stays_below hC14)))))
                  clear S13
                  clear hC14 hh14
                  cases ok3 with
                  | false =>
                    have HNN := Lib.hid (HNO.out rfl)
                    go_upto_region 23 with fail
                    refine reg_plain (Stays [(gr, Obj.cells #[.int .u64 0, .int .u64 0] 25 (0, 0)), (gx, Obj.cells #[.string ⟨sx.toArray⟩, .int .i64 tx0, .int .i64 (zx : Int)] 54 (0, 0)), (ga, Obj.cells #[.int .u64 a3, .int .u64 b3] 25 (0, 0))] w) (Turns [(gr, Obj.cells #[.int .u64 0, .int .u64 0] 25 (0, 0)), (gx, Obj.cells #[.string ⟨sx.toArray⟩, .int .i64 tx0, .int .i64 (zx : Int)] 54 (0, 0)), (ga, Obj.cells #[.int .u64 a3, .int .u64 b3] 25 (0, 0))] w) (kdOf []) none0 (stays_good _ _) (S14.out) (holds0 _) ?_
                    refine g_look rfl rfl ?_ (fun w' hC => ?_) ?_
                    rotate_left
                    · go_simp
                      first | done | rfl
                    simp only [Act.put, List.setIfInBounds_toArray, List.set_cons_zero, List.set_cons_succ]
                    refine g_look rfl rfl ?_ (fun w' hC => ?_) ?_
                    rotate_left
                    · go_simp
                      first | done | rfl
                    simp only [Act.put, List.setIfInBounds_toArray, List.set_cons_zero, List.set_cons_succ]
                    refine g_look rfl rfl ?_ (fun w' hC => ?_) ?_
                    rotate_left
                    · go_simp
                      first | done | rfl
                    simp only [Act.put, List.setIfInBounds_toArray, List.set_cons_zero, List.set_cons_succ]
                    first | (refine g_skip rfl ?_) | (refine g_load 25 _ ga 25 #[.int .u64 a3, .int .u64 b3] (0, 0) _ rfl rfl rfl rfl (fun w' hC => stays_row hC (List.mem_cons_of_mem _ (List.mem_cons_of_mem _ (List.mem_cons_self ..)))) Try.underlying25 rfl (rfl) ?_)
                    simp only [Act.put, List.setIfInBounds_toArray, List.set_cons_zero, List.set_cons_succ]
                    refine g_skip rfl ?_
                    simp only [Act.put, List.setIfInBounds_toArray, List.set_cons_zero, List.set_cons_succ]
                    first
                    | (refine g_skip rfl ?_)
                    | (refine g_look rfl rfl ?_ (fun w' hC => ?_) ?_
                       rotate_left
                       · go_simp
                         first | done | rfl)
                    simp only [Act.put, List.setIfInBounds_toArray, List.set_cons_zero, List.set_cons_succ]
                    refine g_look rfl rfl ?_ (fun w' hC => ?_) ?_
                    rotate_left
                    · go_simp
                      first | done | rfl
                    simp only [Act.put, List.setIfInBounds_toArray, List.set_cons_zero, List.set_cons_succ]
                    refine g_end ?_
                    intro w15 hC15 hh15
                    have S15 : Hid (Stays [(gr, Obj.cells #[.int .u64 0, .int .u64 0] 25 (0, 0)), (gx, Obj.cells #[.string ⟨sx.toArray⟩, .int .i64 tx0, .int .i64 (zx : Int)] 54 (0, 0)), (ga, Obj.cells #[.int .u64 a3, .int .u64 b3] 25 (0, 0))] w w15) := Lib.hid (stays_cons (stays_row hC15 (List.mem_cons_self ..)) (stays_cons (stays_row hC15 (List.mem_cons_of_mem _ (List.mem_cons_self ..))) (stays_cons (stays_row hC15 (List.mem_cons_of_mem _ (List.mem_cons_of_mem _ (List.mem_cons_self ..)))) (stays_nil (stays_below hC15)))))
                    clear S14
                    clear hC15 hh15
                    go_upto_region 24 with fail
                    refine reg_plain (Stays [(gx, Obj.cells #[.string ⟨sx.toArray⟩, .int .i64 tx0, .int .i64 (zx : Int)] 54 (0, 0)), (ga, Obj.cells #[.int .u64 a3, .int .u64 b3] 25 (0, 0))] w) (Turns [(gx, Obj.cells #[.string ⟨sx.toArray⟩, .int .i64 tx0, .int .i64 (zx : Int)] 54 (0, 0)), (ga, Obj.cells #[.int .u64 a3, .int .u64 b3] 25 (0, 0))] w) (kdOf [(1, .touch)]) (Own.has none0 gr (Obj.cells #[.int .u64 0, .int .u64 0] 25 (0, 0))) (stays_good _ _) (stays_cons (stays_row S15.out (List.mem_cons_of_mem _ (List.mem_cons_self ..))) (stays_cons (stays_row S15.out (List.mem_cons_of_mem _ (List.mem_cons_of_mem _ (List.mem_cons_self ..)))) (stays_nil (stays_below S15.out)))) (holds_has (holds0 _) (stays_row S15.out (List.mem_cons_self ..)) (turns_cons (turns_head tx.out).symm (turns_cons (turns_head ta.out).symm (turns_nil tr.out.2)))) ?_
                    refine g_look rfl rfl ?_ (fun w' hC => ?_) ?_
                    rotate_left
                    · go_simp
                      first | done | rfl
                    simp only [Act.put, List.setIfInBounds_toArray, List.set_cons_zero, List.set_cons_succ]
                    refine g_store gr none 25 25 _ _ #[.int .u64 0, .int .u64 0] #[.int .u64 0, .int .u64 0] rfl rfl rfl rfl rfl (has_same _ _ _) (by kernel_rfl) (rfl) (rfl) (one25 _ _) ?_
                    simp only [Act.put]
                    refine g_look rfl rfl ?_ (fun w' hC => ?_) ?_
                    rotate_left
                    · go_simp
                      first | done | rfl
                    simp only [Act.put, List.setIfInBounds_toArray, List.set_cons_zero, List.set_cons_succ]
                    refine g_end ?_
                    intro w16 hC16 hh16
                    have S16 : Hid (Stays [(gr, Obj.cells #[.int .u64 0, .int .u64 0] 25 (0, 0)), (gx, Obj.cells #[.string ⟨sx.toArray⟩, .int .i64 tx0, .int .i64 (zx : Int)] 54 (0, 0)), (ga, Obj.cells #[.int .u64 a3, .int .u64 b3] 25 (0, 0))] w w16) := Lib.hid (stays_cons ((hh16 _ _ _ (own_new _ _ _ _)).1) (stays_cons (stays_row hC16 (List.mem_cons_self ..)) (stays_cons (stays_row hC16 (List.mem_cons_of_mem _ (List.mem_cons_self ..))) (stays_nil (stays_below hC16)))))
                    clear S15
                    clear hC16 hh16
                    go_wp2_with fail
                    refine bodyPost_ret (v := .tuple #[.agg #[.int .u64 0, .int .u64 0], .int .i64 15]) (results_err8 (stays_head S16.out)) rfl ⟨congrArg Ending.returned (by rw [HVP2.out, if_neg (no_le HNN.out)]; rfl), stays_below S16.out⟩
                  | true =>
                    have HY := Lib.hid (HYES.out rfl)
                    by_cases hf : wval a3 b3 ≤ Most
                    · have HF : Hid (decide (wval a3 b3 ≤ Most) = true) := Lib.hid (decide_eq_true hf)
                      clear hf
                      go_upto_region 23 with fail
                      refine reg_plain (Stays [(gr, Obj.cells #[.int .u64 0, .int .u64 0] 25 (0, 0)), (gx, Obj.cells #[.string ⟨sx.toArray⟩, .int .i64 tx0, .int .i64 (zx : Int)] 54 (0, 0)), (ga, Obj.cells #[.int .u64 a3, .int .u64 b3] 25 (0, 0))] w) (Turns [(gr, Obj.cells #[.int .u64 0, .int .u64 0] 25 (0, 0)), (gx, Obj.cells #[.string ⟨sx.toArray⟩, .int .i64 tx0, .int .i64 (zx : Int)] 54 (0, 0)), (ga, Obj.cells #[.int .u64 a3, .int .u64 b3] 25 (0, 0))] w) (kdOf [(4, .make (fun _ => callM (.bool true)))]) none0 (stays_good _ _) (S14.out) (holds0 _) ?_
                      refine g_look rfl rfl ?_ (fun w' hC => ?_) ?_
                      rotate_left
                      · go_simp
                        first | done | rfl
                      simp only [Act.put, List.setIfInBounds_toArray, List.set_cons_zero, List.set_cons_succ]
                      refine g_look rfl rfl ?_ (fun w' hC => ?_) ?_
                      rotate_left
                      · go_simp
                        first | done | rfl
                      simp only [Act.put, List.setIfInBounds_toArray, List.set_cons_zero, List.set_cons_succ]
                      refine g_look rfl rfl ?_ (fun w' hC => ?_) ?_
                      rotate_left
                      · go_simp
                        first | done | rfl
                      simp only [Act.put, List.setIfInBounds_toArray, List.set_cons_zero, List.set_cons_succ]
                      first | (refine g_skip rfl ?_) | (refine g_load 25 _ ga 25 #[.int .u64 a3, .int .u64 b3] (0, 0) _ rfl rfl rfl rfl (fun w' hC => stays_row hC (List.mem_cons_of_mem _ (List.mem_cons_of_mem _ (List.mem_cons_self ..)))) Try.underlying25 rfl (rfl) ?_)
                      simp only [Act.put, List.setIfInBounds_toArray, List.set_cons_zero, List.set_cons_succ]
                      refine g_call (stays_good _ _) (.bool true) rfl rfl (fun w' hC => ?_) ?_
                      · clear hC
                        go_simp
                        refine (fits_any _ a3 b3 HUA3.out HUB3.out).mono (fun e w2 h => ?_)
                        obtain ⟨h1, h2⟩ := h
                        rw [HF.out] at h1
                        exact gives h1 h2
                      simp only [Act.put, List.setIfInBounds_toArray, List.set_cons_zero, List.set_cons_succ]
                      first
                      | (refine g_skip rfl ?_)
                      | (refine g_look rfl rfl ?_ (fun w' hC => ?_) ?_
                         rotate_left
                         · go_simp
                           first | done | rfl)
                      simp only [Act.put, List.setIfInBounds_toArray, List.set_cons_zero, List.set_cons_succ]
                      refine g_look rfl rfl ?_ (fun w' hC => ?_) ?_
                      rotate_left
                      · go_simp
                        first | done | rfl
                      simp only [Act.put, List.setIfInBounds_toArray, List.set_cons_zero, List.set_cons_succ]
                      refine g_end ?_
                      intro w15 hC15 hh15
                      have S15 : Hid (Stays [(gr, Obj.cells #[.int .u64 0, .int .u64 0] 25 (0, 0)), (gx, Obj.cells #[.string ⟨sx.toArray⟩, .int .i64 tx0, .int .i64 (zx : Int)] 54 (0, 0)), (ga, Obj.cells #[.int .u64 a3, .int .u64 b3] 25 (0, 0))] w w15) := Lib.hid (stays_cons (stays_row hC15 (List.mem_cons_self ..)) (stays_cons (stays_row hC15 (List.mem_cons_of_mem _ (List.mem_cons_self ..))) (stays_cons (stays_row hC15 (List.mem_cons_of_mem _ (List.mem_cons_of_mem _ (List.mem_cons_self ..)))) (stays_nil (stays_below hC15)))))
                      clear S14
                      clear hC15 hh15
                      go_upto_region 25 with fail
                      refine reg_plain (Stays [(gx, Obj.cells #[.string ⟨sx.toArray⟩, .int .i64 tx0, .int .i64 (zx : Int)] 54 (0, 0)), (ga, Obj.cells #[.int .u64 a3, .int .u64 b3] 25 (0, 0))] w) (Turns [(gx, Obj.cells #[.string ⟨sx.toArray⟩, .int .i64 tx0, .int .i64 (zx : Int)] 54 (0, 0)), (ga, Obj.cells #[.int .u64 a3, .int .u64 b3] 25 (0, 0))] w) (kdOf [(1, .touch)]) (Own.has none0 gr (Obj.cells #[.int .u64 0, .int .u64 0] 25 (0, 0))) (stays_good _ _) (stays_cons (stays_row S15.out (List.mem_cons_of_mem _ (List.mem_cons_self ..))) (stays_cons (stays_row S15.out (List.mem_cons_of_mem _ (List.mem_cons_of_mem _ (List.mem_cons_self ..)))) (stays_nil (stays_below S15.out)))) (holds_has (holds0 _) (stays_row S15.out (List.mem_cons_self ..)) (turns_cons (turns_head tx.out).symm (turns_cons (turns_head ta.out).symm (turns_nil tr.out.2)))) ?_
                      (refine g_load 25 _ ga 25 #[.int .u64 a3, .int .u64 b3] (0, 0) _ rfl rfl rfl rfl (fun w' hC => stays_row hC (List.mem_cons_of_mem _ (List.mem_cons_self ..))) Try.underlying25 rfl (rfl) ?_)
                      simp only [Act.put, List.setIfInBounds_toArray, List.set_cons_zero, List.set_cons_succ]
                      refine g_store gr none 25 25 _ _ #[.int .u64 0, .int .u64 0] #[.int .u64 a3, .int .u64 b3] rfl rfl rfl rfl rfl (has_same _ _ _) (by kernel_rfl) (rfl) (rfl) (one25 _ _) ?_
                      simp only [Act.put]
                      refine g_look rfl rfl ?_ (fun w' hC => ?_) ?_
                      rotate_left
                      · go_simp
                        first | done | rfl
                      simp only [Act.put, List.setIfInBounds_toArray, List.set_cons_zero, List.set_cons_succ]
                      refine g_end ?_
                      intro w16 hC16 hh16
                      have S16 : Hid (Stays [(gr, Obj.cells #[.int .u64 a3, .int .u64 b3] 25 (0, 0)), (gx, Obj.cells #[.string ⟨sx.toArray⟩, .int .i64 tx0, .int .i64 (zx : Int)] 54 (0, 0)), (ga, Obj.cells #[.int .u64 a3, .int .u64 b3] 25 (0, 0))] w w16) := Lib.hid (stays_cons ((hh16 _ _ _ (own_new _ _ _ _)).1) (stays_cons (stays_row hC16 (List.mem_cons_self ..)) (stays_cons (stays_row hC16 (List.mem_cons_of_mem _ (List.mem_cons_self ..))) (stays_nil (stays_below hC16)))))
                      clear S15
                      clear hC16 hh16
                      go_wp2_with fail
                      refine bodyPost_ret (v := .tuple #[.agg #[.int .u64 a3, .int .u64 b3], .int .i64 0]) (results_err8 (stays_row S16.out (List.mem_cons_self ..))) rfl ⟨congrArg Ending.returned (by rw [HVP2.out, if_pos (by have := of_decide_eq_true HF.out; rw [← HY.out]; exact this), ← wval_wn HUA3.out HUB3.out HY.out]; rfl), stays_below S16.out⟩
                    · have HF : Hid (decide (wval a3 b3 ≤ Most) = false) := Lib.hid (decide_eq_false hf)
                      clear hf
                      go_upto_region 23 with fail
                      refine reg_plain (Stays [(gr, Obj.cells #[.int .u64 0, .int .u64 0] 25 (0, 0)), (gx, Obj.cells #[.string ⟨sx.toArray⟩, .int .i64 tx0, .int .i64 (zx : Int)] 54 (0, 0)), (ga, Obj.cells #[.int .u64 a3, .int .u64 b3] 25 (0, 0))] w) (Turns [(gr, Obj.cells #[.int .u64 0, .int .u64 0] 25 (0, 0)), (gx, Obj.cells #[.string ⟨sx.toArray⟩, .int .i64 tx0, .int .i64 (zx : Int)] 54 (0, 0)), (ga, Obj.cells #[.int .u64 a3, .int .u64 b3] 25 (0, 0))] w) (kdOf [(4, .make (fun _ => callM (.bool false)))]) none0 (stays_good _ _) (S14.out) (holds0 _) ?_
                      refine g_look rfl rfl ?_ (fun w' hC => ?_) ?_
                      rotate_left
                      · go_simp
                        first | done | rfl
                      simp only [Act.put, List.setIfInBounds_toArray, List.set_cons_zero, List.set_cons_succ]
                      refine g_look rfl rfl ?_ (fun w' hC => ?_) ?_
                      rotate_left
                      · go_simp
                        first | done | rfl
                      simp only [Act.put, List.setIfInBounds_toArray, List.set_cons_zero, List.set_cons_succ]
                      refine g_look rfl rfl ?_ (fun w' hC => ?_) ?_
                      rotate_left
                      · go_simp
                        first | done | rfl
                      simp only [Act.put, List.setIfInBounds_toArray, List.set_cons_zero, List.set_cons_succ]
                      first | (refine g_skip rfl ?_) | (refine g_load 25 _ ga 25 #[.int .u64 a3, .int .u64 b3] (0, 0) _ rfl rfl rfl rfl (fun w' hC => stays_row hC (List.mem_cons_of_mem _ (List.mem_cons_of_mem _ (List.mem_cons_self ..)))) Try.underlying25 rfl (rfl) ?_)
                      simp only [Act.put, List.setIfInBounds_toArray, List.set_cons_zero, List.set_cons_succ]
                      refine g_call (stays_good _ _) (.bool false) rfl rfl (fun w' hC => ?_) ?_
                      · clear hC
                        go_simp
                        refine (fits_any _ a3 b3 HUA3.out HUB3.out).mono (fun e w2 h => ?_)
                        obtain ⟨h1, h2⟩ := h
                        rw [HF.out] at h1
                        exact gives h1 h2
                      simp only [Act.put, List.setIfInBounds_toArray, List.set_cons_zero, List.set_cons_succ]
                      first
                      | (refine g_skip rfl ?_)
                      | (refine g_look rfl rfl ?_ (fun w' hC => ?_) ?_
                         rotate_left
                         · go_simp
                           first | done | rfl)
                      simp only [Act.put, List.setIfInBounds_toArray, List.set_cons_zero, List.set_cons_succ]
                      refine g_look rfl rfl ?_ (fun w' hC => ?_) ?_
                      rotate_left
                      · go_simp
                        first | done | rfl
                      simp only [Act.put, List.setIfInBounds_toArray, List.set_cons_zero, List.set_cons_succ]
                      refine g_end ?_
                      intro w15 hC15 hh15
                      have S15 : Hid (Stays [(gr, Obj.cells #[.int .u64 0, .int .u64 0] 25 (0, 0)), (gx, Obj.cells #[.string ⟨sx.toArray⟩, .int .i64 tx0, .int .i64 (zx : Int)] 54 (0, 0)), (ga, Obj.cells #[.int .u64 a3, .int .u64 b3] 25 (0, 0))] w w15) := Lib.hid (stays_cons (stays_row hC15 (List.mem_cons_self ..)) (stays_cons (stays_row hC15 (List.mem_cons_of_mem _ (List.mem_cons_self ..))) (stays_cons (stays_row hC15 (List.mem_cons_of_mem _ (List.mem_cons_of_mem _ (List.mem_cons_self ..)))) (stays_nil (stays_below hC15)))))
                      clear S14
                      clear hC15 hh15
                      go_upto_region 24 with fail
                      refine reg_plain (Stays [(gx, Obj.cells #[.string ⟨sx.toArray⟩, .int .i64 tx0, .int .i64 (zx : Int)] 54 (0, 0)), (ga, Obj.cells #[.int .u64 a3, .int .u64 b3] 25 (0, 0))] w) (Turns [(gx, Obj.cells #[.string ⟨sx.toArray⟩, .int .i64 tx0, .int .i64 (zx : Int)] 54 (0, 0)), (ga, Obj.cells #[.int .u64 a3, .int .u64 b3] 25 (0, 0))] w) (kdOf [(1, .touch)]) (Own.has none0 gr (Obj.cells #[.int .u64 0, .int .u64 0] 25 (0, 0))) (stays_good _ _) (stays_cons (stays_row S15.out (List.mem_cons_of_mem _ (List.mem_cons_self ..))) (stays_cons (stays_row S15.out (List.mem_cons_of_mem _ (List.mem_cons_of_mem _ (List.mem_cons_self ..)))) (stays_nil (stays_below S15.out)))) (holds_has (holds0 _) (stays_row S15.out (List.mem_cons_self ..)) (turns_cons (turns_head tx.out).symm (turns_cons (turns_head ta.out).symm (turns_nil tr.out.2)))) ?_
                      refine g_look rfl rfl ?_ (fun w' hC => ?_) ?_
                      rotate_left
                      · go_simp
                        first | done | rfl
                      simp only [Act.put, List.setIfInBounds_toArray, List.set_cons_zero, List.set_cons_succ]
                      refine g_store gr none 25 25 _ _ #[.int .u64 0, .int .u64 0] #[.int .u64 0, .int .u64 0] rfl rfl rfl rfl rfl (has_same _ _ _) (by kernel_rfl) (rfl) (rfl) (one25 _ _) ?_
                      simp only [Act.put]
                      refine g_look rfl rfl ?_ (fun w' hC => ?_) ?_
                      rotate_left
                      · go_simp
                        first | done | rfl
                      simp only [Act.put, List.setIfInBounds_toArray, List.set_cons_zero, List.set_cons_succ]
                      refine g_end ?_
                      intro w16 hC16 hh16
                      have S16 : Hid (Stays [(gr, Obj.cells #[.int .u64 0, .int .u64 0] 25 (0, 0)), (gx, Obj.cells #[.string ⟨sx.toArray⟩, .int .i64 tx0, .int .i64 (zx : Int)] 54 (0, 0)), (ga, Obj.cells #[.int .u64 a3, .int .u64 b3] 25 (0, 0))] w w16) := Lib.hid (stays_cons ((hh16 _ _ _ (own_new _ _ _ _)).1) (stays_cons (stays_row hC16 (List.mem_cons_self ..)) (stays_cons (stays_row hC16 (List.mem_cons_of_mem _ (List.mem_cons_self ..))) (stays_nil (stays_below hC16)))))
                      clear S15
                      clear hC16 hh16
                      go_wp2_with fail
                      refine bodyPost_ret (v := .tuple #[.agg #[.int .u64 0, .int .u64 0], .int .i64 15]) (results_err8 (stays_head S16.out)) rfl ⟨congrArg Ending.returned (by rw [HVP2.out, if_neg (by have := of_decide_eq_false HF.out; rw [← HY.out]; exact this)]; rfl), stays_below S16.out⟩
      · have HSC := Lib.hid hsc
        have HSP := Lib.hid hsp
        clear hsc hsp
        go_upto_region 7 with fail
        refine reg_plain (Stays [(gr, Obj.cells #[.int .u64 0, .int .u64 0] 25 (0, 0))] w) (Turns [(gr, Obj.cells #[.int .u64 0, .int .u64 0] 25 (0, 0))] w) (kdOf [(1, .make (fun _ => callM (.tuple #[.agg #[.string ⟨sx.toArray⟩, .int .i64 tx0, .int .i64 (zx : Int)], .bool false]))), (5, .make (fun _ => allocM (.cells Z3 54))), (6, .touch)]) none0 (stays_good _ _) (S5.out) (holds0 _) ?_
        refine g_look rfl rfl ?_ (fun w' hC => ?_) ?_
        rotate_left
        · go_simp
          first | done | rfl
        simp only [Act.put, List.setIfInBounds_toArray, List.set_cons_zero, List.set_cons_succ]
        refine g_call (stays_good _ _) (.tuple #[.agg #[.string ⟨sx.toArray⟩, .int .i64 tx0, .int .i64 (zx : Int)], .bool false]) rfl rfl (fun w' hC => ?_) ?_
        · clear hC
          go_simp
          refine (scale_any _ R HLS.out).mono (fun e w2 h => ?_)
          obtain ⟨h1, h2⟩ := h
          rw [HSC.out] at h1
          exact gives h1 h2
        simp only [Act.put, List.setIfInBounds_toArray, List.set_cons_zero, List.set_cons_succ]
        refine g_look rfl rfl ?_ (fun w' hC => ?_) ?_
        rotate_left
        · go_simp
          first | done | rfl
        simp only [Act.put, List.setIfInBounds_toArray, List.set_cons_zero, List.set_cons_succ]
        refine g_look rfl rfl ?_ (fun w' hC => ?_) ?_
        rotate_left
        · go_simp
          first | done | rfl
        simp only [Act.put, List.setIfInBounds_toArray, List.set_cons_zero, List.set_cons_succ]
        refine g_look rfl rfl ?_ (fun w' hC => ?_) ?_
        rotate_left
        · go_simp
          first | done | rfl
        simp only [Act.put, List.setIfInBounds_toArray, List.set_cons_zero, List.set_cons_succ]
        refine g_alloc (stays_good _ _) (.cells Z3 54) rfl rfl (fun w' hC => ?_) (fun gx tx nx => ?_)
        · clear hC
          go_simp
          first | done | rfl | exact ⟨rfl, rfl⟩
        clear nx
        replace tx := Lib.hid tx
        simp only [Act.put, List.setIfInBounds_toArray, List.set_cons_zero, List.set_cons_succ]
        refine g_store gx (some 5) 54 54 _ _ Z3 #[.string ⟨sx.toArray⟩, .int .i64 tx0, .int .i64 (zx : Int)] rfl rfl rfl rfl rfl (own_new _ _ _ _) (by kernel_rfl) (rfl) (rfl) ((by simp [Value.oneCell'])) ?_
        simp only [Act.put]
        refine g_look rfl rfl ?_ (fun w' hC => ?_) ?_
        rotate_left
        · go_simp
          first | done | rfl
        simp only [Act.put, List.setIfInBounds_toArray, List.set_cons_zero, List.set_cons_succ]
        refine g_end ?_
        intro w6 hC6 hh6
        have S6 : Hid (Stays [(gr, Obj.cells #[.int .u64 0, .int .u64 0] 25 (0, 0)), (gx, Obj.cells #[.string ⟨sx.toArray⟩, .int .i64 tx0, .int .i64 (zx : Int)] 54 (0, 0))] w w6) := Lib.hid (stays_cons (stays_row hC6 (List.mem_cons_self ..)) (stays_cons ((hh6 _ _ _ (own_new _ _ _ _)).1) (stays_nil (stays_below hC6))))
        clear S5
        clear hC6 hh6
        go_upto_region 8 with fail
        refine reg_plain (Stays [(gr, Obj.cells #[.int .u64 0, .int .u64 0] 25 (0, 0)), (gx, Obj.cells #[.string ⟨sx.toArray⟩, .int .i64 tx0, .int .i64 (zx : Int)] 54 (0, 0))] w) (Turns [(gr, Obj.cells #[.int .u64 0, .int .u64 0] 25 (0, 0)), (gx, Obj.cells #[.string ⟨sx.toArray⟩, .int .i64 tx0, .int .i64 (zx : Int)] 54 (0, 0))] w) (kdOf []) none0 (stays_good _ _) (S6.out) (holds0 _) ?_
        refine g_look rfl rfl ?_ (fun w' hC => ?_) ?_
        rotate_left
        · go_simp
          first | done | rfl
        simp only [Act.put, List.setIfInBounds_toArray, List.set_cons_zero, List.set_cons_succ]
        refine g_look rfl rfl ?_ (fun w' hC => ?_) ?_
        rotate_left
        · go_simp
          first | done | rfl
        simp only [Act.put, List.setIfInBounds_toArray, List.set_cons_zero, List.set_cons_succ]
        refine g_look rfl rfl ?_ (fun w' hC => ?_) ?_
        rotate_left
        · go_simp
          first | done | rfl
        simp only [Act.put, List.setIfInBounds_toArray, List.set_cons_zero, List.set_cons_succ]
        first
        | (refine g_skip rfl ?_)
        | (refine g_look rfl rfl ?_ (fun w' hC => ?_) ?_
           rotate_left
           · go_simp
             first | done | rfl)
        simp only [Act.put, List.setIfInBounds_toArray, List.set_cons_zero, List.set_cons_succ]
        first
        | (refine g_skip rfl ?_)
        | (refine g_look rfl rfl ?_ (fun w' hC => ?_) ?_
           rotate_left
           · go_simp
             first | done | rfl)
        simp only [Act.put, List.setIfInBounds_toArray, List.set_cons_zero, List.set_cons_succ]
        first
        | (refine g_skip rfl ?_)
        | (refine g_look rfl rfl ?_ (fun w' hC => ?_) ?_
           rotate_left
           · go_simp
             first | done | rfl)
        simp only [Act.put, List.setIfInBounds_toArray, List.set_cons_zero, List.set_cons_succ]
        first
        | (refine g_skip rfl ?_)
        | (refine g_look rfl rfl ?_ (fun w' hC => ?_) ?_
           rotate_left
           · go_simp
             first | done | rfl)
        simp only [Act.put, List.setIfInBounds_toArray, List.set_cons_zero, List.set_cons_succ]
        refine g_look rfl rfl ?_ (fun w' hC => ?_) ?_
        rotate_left
        · go_simp
          first | done | rfl
        simp only [Act.put, List.setIfInBounds_toArray, List.set_cons_zero, List.set_cons_succ]
        refine g_look rfl rfl ?_ (fun w' hC => ?_) ?_
        rotate_left
        · go_simp
          first | done | rfl
        simp only [Act.put, List.setIfInBounds_toArray, List.set_cons_zero, List.set_cons_succ]
        refine g_end ?_
        intro w7 hC7 hh7
        have S7 : Hid (Stays [(gr, Obj.cells #[.int .u64 0, .int .u64 0] 25 (0, 0)), (gx, Obj.cells #[.string ⟨sx.toArray⟩, .int .i64 tx0, .int .i64 (zx : Int)] 54 (0, 0))] w w7) := Lib.hid (stays_cons (stays_row hC7 (List.mem_cons_self ..)) (stays_cons (stays_row hC7 (List.mem_cons_of_mem _ (List.mem_cons_self ..))) (stays_nil (stays_below hC7))))
        clear S6
        clear hC7 hh7
        go_upto_region 9 with fail
        refine reg_plain (Stays [(gx, Obj.cells #[.string ⟨sx.toArray⟩, .int .i64 tx0, .int .i64 (zx : Int)] 54 (0, 0))] w) (Turns [(gx, Obj.cells #[.string ⟨sx.toArray⟩, .int .i64 tx0, .int .i64 (zx : Int)] 54 (0, 0))] w) (kdOf [(1, .touch)]) (Own.has none0 gr (Obj.cells #[.int .u64 0, .int .u64 0] 25 (0, 0))) (stays_good _ _) (stays_cons (stays_row S7.out (List.mem_cons_of_mem _ (List.mem_cons_self ..))) (stays_nil (stays_below S7.out))) (holds_has (holds0 _) (stays_row S7.out (List.mem_cons_self ..)) (turns_cons (turns_head tx.out).symm (turns_nil tr.out.2))) ?_
        refine g_look rfl rfl ?_ (fun w' hC => ?_) ?_
        rotate_left
        · go_simp
          first | done | rfl
        simp only [Act.put, List.setIfInBounds_toArray, List.set_cons_zero, List.set_cons_succ]
        refine g_store gr none 25 25 _ _ #[.int .u64 0, .int .u64 0] #[.int .u64 0, .int .u64 0] rfl rfl rfl rfl rfl (has_same _ _ _) (by kernel_rfl) (rfl) (rfl) (one25 _ _) ?_
        simp only [Act.put]
        refine g_look rfl rfl ?_ (fun w' hC => ?_) ?_
        rotate_left
        · go_simp
          first | done | rfl
        simp only [Act.put, List.setIfInBounds_toArray, List.set_cons_zero, List.set_cons_succ]
        refine g_end ?_
        intro w8 hC8 hh8
        have S8 : Hid (Stays [(gr, Obj.cells #[.int .u64 0, .int .u64 0] 25 (0, 0)), (gx, Obj.cells #[.string ⟨sx.toArray⟩, .int .i64 tx0, .int .i64 (zx : Int)] 54 (0, 0))] w w8) := Lib.hid (stays_cons ((hh8 _ _ _ (own_new _ _ _ _)).1) (stays_cons (stays_row hC8 (List.mem_cons_self ..)) (stays_nil (stays_below hC8))))
        clear S7
        clear hC8 hh8
        go_wp2_with fail
        refine bodyPost_ret (v := .tuple #[.agg #[.int .u64 0, .int .u64 0], .int .i64 11]) (results_err8 (stays_head S8.out)) rfl ⟨congrArg Ending.returned (by rw [← HVP.out, parseW, HSP.out]; rfl), stays_below S8.out⟩
    | true =>
      cases R with
      | nil => cases hh
      | cons c0 R1 =>
        have hVP : parseW WD (R1.take (cntD R1)) (R1.drop (cntD R1)) = V := by rw [← HVV.out, if_pos hh]; rfl
        clear HVV hh
        have hcl := cnt_le R1
        have hpd := allD_take R1
        obtain ⟨PD, hPD⟩ : ∃ W, R1.take (cntD R1) = W := ⟨_, rfl⟩
        obtain ⟨R2, hR2⟩ : ∃ R, R1.drop (cntD R1) = R := ⟨_, rfl⟩
        have hlw : PD.length + R2.length ≤ R1.length := by rw [← hPD, ← hR2, List.length_take, List.length_drop]; omega
        have HDV2 : Hid (digV R1 = .tuple #[.string ⟨PD.toArray⟩, .string ⟨R2.toArray⟩]) := Lib.hid (by rw [digV, hPD, hR2])
        rw [hPD, hR2] at hVP
        rw [hPD] at hpd
        have HVP := Lib.hid hVP
        have HPD := Lib.hid hpd
        have hlw2 := HLW.out
        rw [List.length_cons] at hlw2
        have HLS : Hid (R2.length ≤ maxLen) := Lib.hid (by have := HL.out; omega)
        have HLP : Hid (WD.length + PD.length ≤ maxLen) := Lib.hid (by have := HL.out; omega)
        have HL1 : Hid (R1.length ≤ maxLen) := Lib.hid (by have := HL.out; omega)
        clear hVP hpd hPD hR2 hcl hlw hlw2
        have l1 : 1 ≤ R1.length + 1 := by omega
        have l2 : (1 : Int) ≤ (R1.length : Int) + 1 := by omega
        go_upto_region 6 with fail
        refine reg_plain (Stays [(gr, Obj.cells #[.int .u64 0, .int .u64 0] 25 (0, 0))] w) (Turns [(gr, Obj.cells #[.int .u64 0, .int .u64 0] 25 (0, 0))] w) (kdOf [(2, .make (fun _ => callM (.tuple #[.string ⟨PD.toArray⟩, .string ⟨R2.toArray⟩])))]) none0 (stays_good _ _) (S5.out) (holds0 _) ?_
        refine g_look rfl rfl ?_ (fun w' hC => ?_) ?_
        rotate_left
        · go_simp
          first | done | rfl
        simp only [Act.put, List.setIfInBounds_toArray, List.set_cons_zero, List.set_cons_succ]
        refine g_look rfl rfl (.string ⟨R1.toArray⟩) (fun w' hC => ?_) ?_
        · clear hC
          go_simp
          first | done | exact drop_one _ R1 | (rw [drop_one]; done) | (simp [drop_one]; done)
        simp only [Act.put, List.setIfInBounds_toArray, List.set_cons_zero, List.set_cons_succ]
        refine g_call (stays_good _ _) (.tuple #[.string ⟨PD.toArray⟩, .string ⟨R2.toArray⟩]) rfl rfl (fun w' hC => ?_) ?_
        · clear hC
          go_simp
          refine (digits_any _ R1 HL1.out).mono (fun e w2 h => ?_)
          obtain ⟨h1, h2⟩ := h
          rw [HDV2.out] at h1
          exact gives h1 h2
        simp only [Act.put, List.setIfInBounds_toArray, List.set_cons_zero, List.set_cons_succ]
        refine g_look rfl rfl ?_ (fun w' hC => ?_) ?_
        rotate_left
        · go_simp
          first | done | rfl
        simp only [Act.put, List.setIfInBounds_toArray, List.set_cons_zero, List.set_cons_succ]
        refine g_look rfl rfl ?_ (fun w' hC => ?_) ?_
        rotate_left
        · go_simp
          first | done | rfl
        simp only [Act.put, List.setIfInBounds_toArray, List.set_cons_zero, List.set_cons_succ]
        refine g_look rfl rfl ?_ (fun w' hC => ?_) ?_
        rotate_left
        · go_simp
          first | done | rfl
        simp only [Act.put, List.setIfInBounds_toArray, List.set_cons_zero, List.set_cons_succ]
        refine g_look rfl rfl ?_ (fun w' hC => ?_) ?_
        rotate_left
        · go_simp
          first | done | rfl
        simp only [Act.put, List.setIfInBounds_toArray, List.set_cons_zero, List.set_cons_succ]
        refine g_look rfl rfl ?_ (fun w' hC => ?_) ?_
        rotate_left
        · go_simp
          first | done | rfl
        simp only [Act.put, List.setIfInBounds_toArray, List.set_cons_zero, List.set_cons_succ]
        refine g_end ?_
        intro w6 hC6 hh6
        have S6 : Hid (Stays [(gr, Obj.cells #[.int .u64 0, .int .u64 0] 25 (0, 0))] w w6) := Lib.hid (stays_cons (stays_row hC6 (List.mem_cons_self ..)) (stays_nil (stays_below hC6)))
        clear S5
        clear hC6 hh6
        clear l1 l2
        rcases scale_open R2 with ⟨sx, tx0, zx, hsc, hsp, ht0, ht1, hz, hzt⟩ | ⟨sx, tx0, zx, hsc, hsp⟩
        · have HSC := Lib.hid hsc
          have HSP := Lib.hid hsp
          have HZT := Lib.hid hzt
          clear hsc hsp hzt
          go_upto_region 7 with fail
          refine reg_plain (Stays [(gr, Obj.cells #[.int .u64 0, .int .u64 0] 25 (0, 0))] w) (Turns [(gr, Obj.cells #[.int .u64 0, .int .u64 0] 25 (0, 0))] w) (kdOf [(1, .make (fun _ => callM (.tuple #[.agg #[.string ⟨sx.toArray⟩, .int .i64 tx0, .int .i64 (zx : Int)], .bool true]))), (5, .make (fun _ => allocM (.cells Z3 54))), (6, .touch)]) none0 (stays_good _ _) (S6.out) (holds0 _) ?_
          refine g_look rfl rfl ?_ (fun w' hC => ?_) ?_
          rotate_left
          · go_simp
            first | done | rfl
          simp only [Act.put, List.setIfInBounds_toArray, List.set_cons_zero, List.set_cons_succ]
          refine g_call (stays_good _ _) (.tuple #[.agg #[.string ⟨sx.toArray⟩, .int .i64 tx0, .int .i64 (zx : Int)], .bool true]) rfl rfl (fun w' hC => ?_) ?_
          · clear hC
            go_simp
            refine (scale_any _ R2 HLS.out).mono (fun e w2 h => ?_)
            obtain ⟨h1, h2⟩ := h
            rw [HSC.out] at h1
            exact gives h1 h2
          simp only [Act.put, List.setIfInBounds_toArray, List.set_cons_zero, List.set_cons_succ]
          refine g_look rfl rfl ?_ (fun w' hC => ?_) ?_
          rotate_left
          · go_simp
            first | done | rfl
          simp only [Act.put, List.setIfInBounds_toArray, List.set_cons_zero, List.set_cons_succ]
          refine g_look rfl rfl ?_ (fun w' hC => ?_) ?_
          rotate_left
          · go_simp
            first | done | rfl
          simp only [Act.put, List.setIfInBounds_toArray, List.set_cons_zero, List.set_cons_succ]
          refine g_look rfl rfl ?_ (fun w' hC => ?_) ?_
          rotate_left
          · go_simp
            first | done | rfl
          simp only [Act.put, List.setIfInBounds_toArray, List.set_cons_zero, List.set_cons_succ]
          refine g_alloc (stays_good _ _) (.cells Z3 54) rfl rfl (fun w' hC => ?_) (fun gx tx nx => ?_)
          · clear hC
            go_simp
            first | done | rfl | exact ⟨rfl, rfl⟩
          clear nx
          replace tx := Lib.hid tx
          simp only [Act.put, List.setIfInBounds_toArray, List.set_cons_zero, List.set_cons_succ]
          refine g_store gx (some 5) 54 54 _ _ Z3 #[.string ⟨sx.toArray⟩, .int .i64 tx0, .int .i64 (zx : Int)] rfl rfl rfl rfl rfl (own_new _ _ _ _) (by kernel_rfl) (rfl) (rfl) ((by simp [Value.oneCell'])) ?_
          simp only [Act.put]
          refine g_look rfl rfl ?_ (fun w' hC => ?_) ?_
          rotate_left
          · go_simp
            first | done | rfl
          simp only [Act.put, List.setIfInBounds_toArray, List.set_cons_zero, List.set_cons_succ]
          refine g_end ?_
          intro w7 hC7 hh7
          have S7 : Hid (Stays [(gr, Obj.cells #[.int .u64 0, .int .u64 0] 25 (0, 0)), (gx, Obj.cells #[.string ⟨sx.toArray⟩, .int .i64 tx0, .int .i64 (zx : Int)] 54 (0, 0))] w w7) := Lib.hid (stays_cons (stays_row hC7 (List.mem_cons_self ..)) (stays_cons ((hh7 _ _ _ (own_new _ _ _ _)).1) (stays_nil (stays_below hC7))))
          clear S6
          clear hC7 hh7
          have hcat : Hid (¬ 9223372036854775807 < WD.length + PD.length) := Lib.hid (nofit HLP.out)
          by_cases hD : WD ++ PD = []
          · have HD := Lib.hid hD
            go_upto_region 8 with fail
            refine reg_plain (Stays [(gr, Obj.cells #[.int .u64 0, .int .u64 0] 25 (0, 0)), (gx, Obj.cells #[.string ⟨sx.toArray⟩, .int .i64 tx0, .int .i64 (zx : Int)] 54 (0, 0))] w) (Turns [(gr, Obj.cells #[.int .u64 0, .int .u64 0] 25 (0, 0)), (gx, Obj.cells #[.string ⟨sx.toArray⟩, .int .i64 tx0, .int .i64 (zx : Int)] 54 (0, 0))] w) (kdOf []) none0 (stays_good _ _) (S7.out) (holds0 _) ?_
            refine g_look rfl rfl ?_ (fun w' hC => ?_) ?_
            rotate_left
            · go_simp
              first | done | rfl
            simp only [Act.put, List.setIfInBounds_toArray, List.set_cons_zero, List.set_cons_succ]
            refine g_look rfl rfl ?_ (fun w' hC => ?_) ?_
            rotate_left
            · go_simp
              first | done | rfl
            simp only [Act.put, List.setIfInBounds_toArray, List.set_cons_zero, List.set_cons_succ]
            refine g_look rfl rfl ?_ (fun w' hC => ?_) ?_
            rotate_left
            · go_simp
              first | done | rfl
            simp only [Act.put, List.setIfInBounds_toArray, List.set_cons_zero, List.set_cons_succ]
            first
            | (refine g_skip rfl ?_)
            | (refine g_look rfl rfl ?_ (fun w' hC => ?_) ?_
               rotate_left
               · go_simp
                 first | done | rfl)
            simp only [Act.put, List.setIfInBounds_toArray, List.set_cons_zero, List.set_cons_succ]
            first
            | (refine g_skip rfl ?_)
            | (refine g_look rfl rfl ?_ (fun w' hC => ?_) ?_
               rotate_left
               · go_simp
                 first | done | rfl)
            simp only [Act.put, List.setIfInBounds_toArray, List.set_cons_zero, List.set_cons_succ]
            first
            | (refine g_skip rfl ?_)
            | (refine g_look rfl rfl (.string ⟨(WD ++ PD).toArray⟩) (fun w' hC => ?_) ?_
               · clear hC
                 clear hD
                 go_simp
                 first | done | rfl | exact add_st _ _ | (simp [hcat.out]; done) | (simp [hcat2.out]; done))
            simp only [Act.put, List.setIfInBounds_toArray, List.set_cons_zero, List.set_cons_succ]
            first
            | (refine g_skip rfl ?_)
            | (refine g_look rfl rfl (.bool true) (fun w' hC => ?_) ?_
               · clear hC
                 go_simp
                 first | done | rfl | (rw [hD]; done) | (simp [hD]; done) | (rw [HD.out]; rfl))
            simp only [Act.put, List.setIfInBounds_toArray, List.set_cons_zero, List.set_cons_succ]
            refine g_look rfl rfl ?_ (fun w' hC => ?_) ?_
            rotate_left
            · go_simp
              first | done | rfl
            simp only [Act.put, List.setIfInBounds_toArray, List.set_cons_zero, List.set_cons_succ]
            refine g_look rfl rfl ?_ (fun w' hC => ?_) ?_
            rotate_left
            · go_simp
              first | done | rfl
            simp only [Act.put, List.setIfInBounds_toArray, List.set_cons_zero, List.set_cons_succ]
            refine g_end ?_
            intro w8 hC8 hh8
            have S8 : Hid (Stays [(gr, Obj.cells #[.int .u64 0, .int .u64 0] 25 (0, 0)), (gx, Obj.cells #[.string ⟨sx.toArray⟩, .int .i64 tx0, .int .i64 (zx : Int)] 54 (0, 0))] w w8) := Lib.hid (stays_cons (stays_row hC8 (List.mem_cons_self ..)) (stays_cons (stays_row hC8 (List.mem_cons_of_mem _ (List.mem_cons_self ..))) (stays_nil (stays_below hC8))))
            clear S7
            clear hC8 hh8
            go_upto_region 9 with fail
            refine reg_plain (Stays [(gx, Obj.cells #[.string ⟨sx.toArray⟩, .int .i64 tx0, .int .i64 (zx : Int)] 54 (0, 0))] w) (Turns [(gx, Obj.cells #[.string ⟨sx.toArray⟩, .int .i64 tx0, .int .i64 (zx : Int)] 54 (0, 0))] w) (kdOf [(1, .touch)]) (Own.has none0 gr (Obj.cells #[.int .u64 0, .int .u64 0] 25 (0, 0))) (stays_good _ _) (stays_cons (stays_row S8.out (List.mem_cons_of_mem _ (List.mem_cons_self ..))) (stays_nil (stays_below S8.out))) (holds_has (holds0 _) (stays_row S8.out (List.mem_cons_self ..)) (turns_cons (turns_head tx.out).symm (turns_nil tr.out.2))) ?_
            refine g_look rfl rfl ?_ (fun w' hC => ?_) ?_
            rotate_left
            · go_simp
              first | done | rfl
            simp only [Act.put, List.setIfInBounds_toArray, List.set_cons_zero, List.set_cons_succ]
            refine g_store gr none 25 25 _ _ #[.int .u64 0, .int .u64 0] #[.int .u64 0, .int .u64 0] rfl rfl rfl rfl rfl (has_same _ _ _) (by kernel_rfl) (rfl) (rfl) (one25 _ _) ?_
            simp only [Act.put]
            refine g_look rfl rfl ?_ (fun w' hC => ?_) ?_
            rotate_left
            · go_simp
              first | done | rfl
            simp only [Act.put, List.setIfInBounds_toArray, List.set_cons_zero, List.set_cons_succ]
            refine g_end ?_
            intro w9 hC9 hh9
            have S9 : Hid (Stays [(gr, Obj.cells #[.int .u64 0, .int .u64 0] 25 (0, 0)), (gx, Obj.cells #[.string ⟨sx.toArray⟩, .int .i64 tx0, .int .i64 (zx : Int)] 54 (0, 0))] w w9) := Lib.hid (stays_cons ((hh9 _ _ _ (own_new _ _ _ _)).1) (stays_cons (stays_row hC9 (List.mem_cons_self ..)) (stays_nil (stays_below hC9))))
            clear S8
            clear hC9 hh9
            go_wp2_with fail
            refine bodyPost_ret (v := .tuple #[.agg #[.int .u64 0, .int .u64 0], .int .i64 11]) (results_err8 (stays_head S9.out)) rfl ⟨congrArg Ending.returned (by rw [← HVP.out, parseW, HSP.out]; simp only []; rw [if_pos HD.out]; rfl), stays_below S9.out⟩
          · have HD := Lib.hid hD
            obtain ⟨n1, hn1⟩ : ∃ n, WD.length = n := ⟨_, rfl⟩
            obtain ⟨n2, hn2⟩ : ∃ n, PD.length = n := ⟨_, rfl⟩
            have hn3 : n1 + n2 ≤ maxLen := by rw [← hn1, ← hn2]; exact HLP.out
            have hwn := sum_facts hn3
            have HN3 := Lib.hid hn3
            have hwi : IntKind.i64.wrap ((n1 : Int) + (n2 : Int)) = (n1 : Int) + (n2 : Int) := by rw [i64w, hwn]
            replace hwi := Lib.hid hwi
            clear hwn
            have hcat2 := Lib.hid (nofit hn3)
            clear hn3 hD
            go_upto_region 8 with fail
            refine reg_plain (Stays [(gr, Obj.cells #[.int .u64 0, .int .u64 0] 25 (0, 0)), (gx, Obj.cells #[.string ⟨sx.toArray⟩, .int .i64 tx0, .int .i64 (zx : Int)] 54 (0, 0))] w) (Turns [(gr, Obj.cells #[.int .u64 0, .int .u64 0] 25 (0, 0)), (gx, Obj.cells #[.string ⟨sx.toArray⟩, .int .i64 tx0, .int .i64 (zx : Int)] 54 (0, 0))] w) (kdOf []) none0 (stays_good _ _) (S7.out) (holds0 _) ?_
            refine g_look rfl rfl ?_ (fun w' hC => ?_) ?_
            rotate_left
            · go_simp
              first | done | rfl
            simp only [Act.put, List.setIfInBounds_toArray, List.set_cons_zero, List.set_cons_succ]
            refine g_look rfl rfl ?_ (fun w' hC => ?_) ?_
            rotate_left
            · go_simp
              first | done | rfl
            simp only [Act.put, List.setIfInBounds_toArray, List.set_cons_zero, List.set_cons_succ]
            refine g_look rfl rfl ?_ (fun w' hC => ?_) ?_
            rotate_left
            · go_simp
              first | done | rfl
            simp only [Act.put, List.setIfInBounds_toArray, List.set_cons_zero, List.set_cons_succ]
            first
            | (refine g_skip rfl ?_)
            | (refine g_look rfl rfl ?_ (fun w' hC => ?_) ?_
               rotate_left
               · go_simp
                 first | done | rfl)
            simp only [Act.put, List.setIfInBounds_toArray, List.set_cons_zero, List.set_cons_succ]
            first
            | (refine g_skip rfl ?_)
            | (refine g_look rfl rfl ?_ (fun w' hC => ?_) ?_
               rotate_left
               · go_simp
                 first | done | rfl)
            simp only [Act.put, List.setIfInBounds_toArray, List.set_cons_zero, List.set_cons_succ]
            first
            | (refine g_skip rfl ?_)
            | (refine g_look rfl rfl (.string ⟨(WD ++ PD).toArray⟩) (fun w' hC => ?_) ?_
               · clear hC
                 go_simp
                 first | done | rfl | exact add_st _ _ | (simp [hcat.out]; done) | (simp [hcat2.out]; done))
            simp only [Act.put, List.setIfInBounds_toArray, List.set_cons_zero, List.set_cons_succ]
            first
            | (refine g_skip rfl ?_)
            | (refine g_look rfl rfl (.bool false) (fun w' hC => ?_) ?_
               · clear hC
                 go_simp
                 first | done | rfl | exact beq_eq_false_iff_ne.2 HD.out | exact HD.out | (simpa using HD.out))
            simp only [Act.put, List.setIfInBounds_toArray, List.set_cons_zero, List.set_cons_succ]
            refine g_look rfl rfl ?_ (fun w' hC => ?_) ?_
            rotate_left
            · go_simp
              first | done | rfl
            simp only [Act.put, List.setIfInBounds_toArray, List.set_cons_zero, List.set_cons_succ]
            refine g_look rfl rfl ?_ (fun w' hC => ?_) ?_
            rotate_left
            · go_simp
              first | done | rfl
            simp only [Act.put, List.setIfInBounds_toArray, List.set_cons_zero, List.set_cons_succ]
            refine g_end ?_
            intro w8 hC8 hh8
            have S8 : Hid (Stays [(gr, Obj.cells #[.int .u64 0, .int .u64 0] 25 (0, 0)), (gx, Obj.cells #[.string ⟨sx.toArray⟩, .int .i64 tx0, .int .i64 (zx : Int)] 54 (0, 0))] w w8) := Lib.hid (stays_cons (stays_row hC8 (List.mem_cons_self ..)) (stays_cons (stays_row hC8 (List.mem_cons_of_mem _ (List.mem_cons_self ..))) (stays_nil (stays_below hC8))))
            clear S7
            clear hC8 hh8
            by_cases hlong : 28 < n1 + n2
            · have hli := long_yes hlong
              have HLO := Lib.hid hlong
              clear hlong
              go_upto_region 10 with fail
              refine reg_plain (Stays [(gr, Obj.cells #[.int .u64 0, .int .u64 0] 25 (0, 0)), (gx, Obj.cells #[.string ⟨sx.toArray⟩, .int .i64 tx0, .int .i64 (zx : Int)] 54 (0, 0))] w) (Turns [(gr, Obj.cells #[.int .u64 0, .int .u64 0] 25 (0, 0)), (gx, Obj.cells #[.string ⟨sx.toArray⟩, .int .i64 tx0, .int .i64 (zx : Int)] 54 (0, 0))] w) (kdOf []) none0 (stays_good _ _) (S8.out) (holds0 _) ?_
              refine g_look rfl rfl ?_ (fun w' hC => ?_) ?_
              rotate_left
              · go_simp
                first | done | rfl
              simp only [Act.put, List.setIfInBounds_toArray, List.set_cons_zero, List.set_cons_succ]
              refine g_look rfl rfl (.int .i64 (n1 : Int)) (fun w' hC => ?_) ?_
              · clear hC
                go_simp
                first | done | (rw [hn1]; done) | (simp [hn1]; done) | exact hn1
              simp only [Act.put, List.setIfInBounds_toArray, List.set_cons_zero, List.set_cons_succ]
              refine g_look rfl rfl ?_ (fun w' hC => ?_) ?_
              rotate_left
              · go_simp
                first | done | rfl
              simp only [Act.put, List.setIfInBounds_toArray, List.set_cons_zero, List.set_cons_succ]
              refine g_look rfl rfl (.int .i64 (n2 : Int)) (fun w' hC => ?_) ?_
              · clear hC
                go_simp
                first | done | (rw [hn2]; done) | (simp [hn2]; done) | exact hn2
              simp only [Act.put, List.setIfInBounds_toArray, List.set_cons_zero, List.set_cons_succ]
              refine g_look rfl rfl (.int .i64 ((n1 : Int) + (n2 : Int))) (fun w' hC => ?_) ?_
              · clear hC
                go_simp
                first | done | exact hwi.out
              simp only [Act.put, List.setIfInBounds_toArray, List.set_cons_zero, List.set_cons_succ]
              refine g_look rfl rfl (.bool true) (fun w' hC => ?_) ?_
              · clear hC
                go_simp
                first | done | rfl
              simp only [Act.put, List.setIfInBounds_toArray, List.set_cons_zero, List.set_cons_succ]
              refine g_look rfl rfl ?_ (fun w' hC => ?_) ?_
              rotate_left
              · go_simp
                first | done | rfl
              simp only [Act.put, List.setIfInBounds_toArray, List.set_cons_zero, List.set_cons_succ]
              refine g_end ?_
              intro w9 hC9 hh9
              have S9 : Hid (Stays [(gr, Obj.cells #[.int .u64 0, .int .u64 0] 25 (0, 0)), (gx, Obj.cells #[.string ⟨sx.toArray⟩, .int .i64 tx0, .int .i64 (zx : Int)] 54 (0, 0))] w w9) := Lib.hid (stays_cons (stays_row hC9 (List.mem_cons_self ..)) (stays_cons (stays_row hC9 (List.mem_cons_of_mem _ (List.mem_cons_self ..))) (stays_nil (stays_below hC9))))
              clear S8
              clear hC9 hh9
              go_upto_region 11 with fail
              refine reg_plain (Stays [(gx, Obj.cells #[.string ⟨sx.toArray⟩, .int .i64 tx0, .int .i64 (zx : Int)] 54 (0, 0))] w) (Turns [(gx, Obj.cells #[.string ⟨sx.toArray⟩, .int .i64 tx0, .int .i64 (zx : Int)] 54 (0, 0))] w) (kdOf [(1, .touch)]) (Own.has none0 gr (Obj.cells #[.int .u64 0, .int .u64 0] 25 (0, 0))) (stays_good _ _) (stays_cons (stays_row S9.out (List.mem_cons_of_mem _ (List.mem_cons_self ..))) (stays_nil (stays_below S9.out))) (holds_has (holds0 _) (stays_row S9.out (List.mem_cons_self ..)) (turns_cons (turns_head tx.out).symm (turns_nil tr.out.2))) ?_
              refine g_look rfl rfl ?_ (fun w' hC => ?_) ?_
              rotate_left
              · go_simp
                first | done | rfl
              simp only [Act.put, List.setIfInBounds_toArray, List.set_cons_zero, List.set_cons_succ]
              refine g_store gr none 25 25 _ _ #[.int .u64 0, .int .u64 0] #[.int .u64 0, .int .u64 0] rfl rfl rfl rfl rfl (has_same _ _ _) (by kernel_rfl) (rfl) (rfl) (one25 _ _) ?_
              simp only [Act.put]
              refine g_look rfl rfl ?_ (fun w' hC => ?_) ?_
              rotate_left
              · go_simp
                first | done | rfl
              simp only [Act.put, List.setIfInBounds_toArray, List.set_cons_zero, List.set_cons_succ]
              refine g_end ?_
              intro w10 hC10 hh10
              have S10 : Hid (Stays [(gr, Obj.cells #[.int .u64 0, .int .u64 0] 25 (0, 0)), (gx, Obj.cells #[.string ⟨sx.toArray⟩, .int .i64 tx0, .int .i64 (zx : Int)] 54 (0, 0))] w w10) := Lib.hid (stays_cons ((hh10 _ _ _ (own_new _ _ _ _)).1) (stays_cons (stays_row hC10 (List.mem_cons_self ..)) (stays_nil (stays_below hC10))))
              clear S9
              clear hC10 hh10
              go_wp2_with fail
              refine bodyPost_ret (v := .tuple #[.agg #[.int .u64 0, .int .u64 0], .int .i64 12]) (results_err8 (stays_head S10.out)) rfl ⟨congrArg Ending.returned (by rw [← HVP.out, parseW, HSP.out]; simp only []; rw [if_neg HD.out, hn1, hn2, if_pos HLO.out]; rfl), stays_below S10.out⟩
            · have hli := long_no hlong
              have HLO := Lib.hid hlong
              go_upto_region 10 with fail
              refine reg_plain (Stays [(gr, Obj.cells #[.int .u64 0, .int .u64 0] 25 (0, 0)), (gx, Obj.cells #[.string ⟨sx.toArray⟩, .int .i64 tx0, .int .i64 (zx : Int)] 54 (0, 0))] w) (Turns [(gr, Obj.cells #[.int .u64 0, .int .u64 0] 25 (0, 0)), (gx, Obj.cells #[.string ⟨sx.toArray⟩, .int .i64 tx0, .int .i64 (zx : Int)] 54 (0, 0))] w) (kdOf []) none0 (stays_good _ _) (S8.out) (holds0 _) ?_
              refine g_look rfl rfl ?_ (fun w' hC => ?_) ?_
              rotate_left
              · go_simp
                first | done | rfl
              simp only [Act.put, List.setIfInBounds_toArray, List.set_cons_zero, List.set_cons_succ]
              refine g_look rfl rfl (.int .i64 (n1 : Int)) (fun w' hC => ?_) ?_
              · clear hC
                go_simp
                first | done | (rw [hn1]; done) | (simp [hn1]; done) | exact hn1
              simp only [Act.put, List.setIfInBounds_toArray, List.set_cons_zero, List.set_cons_succ]
              refine g_look rfl rfl ?_ (fun w' hC => ?_) ?_
              rotate_left
              · go_simp
                first | done | rfl
              simp only [Act.put, List.setIfInBounds_toArray, List.set_cons_zero, List.set_cons_succ]
              refine g_look rfl rfl (.int .i64 (n2 : Int)) (fun w' hC => ?_) ?_
              · clear hC
                go_simp
                first | done | (rw [hn2]; done) | (simp [hn2]; done) | exact hn2
              simp only [Act.put, List.setIfInBounds_toArray, List.set_cons_zero, List.set_cons_succ]
              refine g_look rfl rfl (.int .i64 ((n1 : Int) + (n2 : Int))) (fun w' hC => ?_) ?_
              · clear hC
                go_simp
                first | done | exact hwi.out
              simp only [Act.put, List.setIfInBounds_toArray, List.set_cons_zero, List.set_cons_succ]
              refine g_look rfl rfl (.bool false) (fun w' hC => ?_) ?_
              · clear hC
                go_simp
                first | done | rfl
              simp only [Act.put, List.setIfInBounds_toArray, List.set_cons_zero, List.set_cons_succ]
              refine g_look rfl rfl ?_ (fun w' hC => ?_) ?_
              rotate_left
              · go_simp
                first | done | rfl
              simp only [Act.put, List.setIfInBounds_toArray, List.set_cons_zero, List.set_cons_succ]
              refine g_end ?_
              intro w9 hC9 hh9
              have S9 : Hid (Stays [(gr, Obj.cells #[.int .u64 0, .int .u64 0] 25 (0, 0)), (gx, Obj.cells #[.string ⟨sx.toArray⟩, .int .i64 tx0, .int .i64 (zx : Int)] 54 (0, 0))] w w9) := Lib.hid (stays_cons (stays_row hC9 (List.mem_cons_self ..)) (stays_cons (stays_row hC9 (List.mem_cons_of_mem _ (List.mem_cons_self ..))) (stays_nil (stays_below hC9))))
              clear S8
              clear hC9 hh9
              go_upto_region 12 with fail
              refine reg_plain (Stays [(gr, Obj.cells #[.int .u64 0, .int .u64 0] 25 (0, 0)), (gx, Obj.cells #[.string ⟨sx.toArray⟩, .int .i64 tx0, .int .i64 (zx : Int)] 54 (0, 0))] w) (Turns [(gr, Obj.cells #[.int .u64 0, .int .u64 0] 25 (0, 0)), (gx, Obj.cells #[.string ⟨sx.toArray⟩, .int .i64 tx0, .int .i64 (zx : Int)] 54 (0, 0))] w) (kdOf [(0, .make (fun _ => allocM (.cells #[.int .u64 0, .int .u64 0] 25)))]) none0 (stays_good _ _) (S9.out) (holds0 _) ?_
              refine g_alloc (stays_good _ _) (.cells #[.int .u64 0, .int .u64 0] 25) rfl rfl (fun w' hC => ?_) (fun ga ta na => ?_)
              · clear hC
                go_simp
                first | done | rfl | exact ⟨rfl, rfl⟩
              clear na
              replace ta := Lib.hid ta
              simp only [Act.put, List.setIfInBounds_toArray, List.set_cons_zero, List.set_cons_succ]
              refine g_end ?_
              intro w10 hC10 hh10
              have S10 : Hid (Stays [(gr, Obj.cells #[.int .u64 0, .int .u64 0] 25 (0, 0)), (gx, Obj.cells #[.string ⟨sx.toArray⟩, .int .i64 tx0, .int .i64 (zx : Int)] 54 (0, 0)), (ga, Obj.cells #[.int .u64 0, .int .u64 0] 25 (0, 0))] w w10) := Lib.hid (stays_cons (stays_row hC10 (List.mem_cons_self ..)) (stays_cons (stays_row hC10 (List.mem_cons_of_mem _ (List.mem_cons_self ..))) (stays_cons ((hh10 _ _ _ (own_new _ _ _ _)).1) (stays_nil (stays_below hC10)))))
              clear S9
              clear hC10 hh10
              obtain ⟨dd, hdd⟩ : ∃ D, WD ++ PD = D := ⟨_, rfl⟩
              have HAD : Hid (∀ c ∈ dd, isD c = true) := Lib.hid (by
                intro c hc
                rw [← hdd] at hc
                rcases List.mem_append.1 hc with h | h
                · exact HWD.out c h
                · exact HPD.out c h)
              have hlen : dd.length = n1 + n2 := by rw [← hdd, List.length_append, hn1, hn2]
              have hcn : cntD dd = dd.length := allD_cnt HAD.out
              obtain ⟨n, hn⟩ : ∃ n, dd.length = n := ⟨_, rfl⟩
              obtain ⟨hn28, hni, hn2s⟩ := n_facts hlen hn hlong
              have HCN := Lib.hid hcn
              have HDD := Lib.hid hdd
              clear hcn
              go_upto_region 13 with fail
              refine reg_plain (Stays [(gr, Obj.cells #[.int .u64 0, .int .u64 0] 25 (0, 0)), (gx, Obj.cells #[.string ⟨sx.toArray⟩, .int .i64 tx0, .int .i64 (zx : Int)] 54 (0, 0)), (ga, Obj.cells #[.int .u64 0, .int .u64 0] 25 (0, 0))] w) (Turns [(gr, Obj.cells #[.int .u64 0, .int .u64 0] 25 (0, 0)), (gx, Obj.cells #[.string ⟨sx.toArray⟩, .int .i64 tx0, .int .i64 (zx : Int)] 54 (0, 0)), (ga, Obj.cells #[.int .u64 0, .int .u64 0] 25 (0, 0))] w) (kdOf []) none0 (stays_good _ _) (S10.out) (holds0 _) ?_
              refine g_look rfl rfl ?_ (fun w' hC => ?_) ?_
              rotate_left
              · go_simp
                first | done | rfl
              simp only [Act.put, List.setIfInBounds_toArray, List.set_cons_zero, List.set_cons_succ]
              refine g_look rfl rfl ?_ (fun w' hC => ?_) ?_
              rotate_left
              · go_simp
                first | done | rfl
              simp only [Act.put, List.setIfInBounds_toArray, List.set_cons_zero, List.set_cons_succ]
              refine g_look rfl rfl (.string ⟨dd.toArray⟩) (fun w' hC => ?_) ?_
              · clear hC
                go_simp
                first | done | rfl | (simp [hcat2.out]; done) | (simpa using HDD.out) | (simp [hcat2.out]; simpa using HDD.out) | exact (add_st _ _).trans (by rw [HDD.out]) | (rw [HDD.out]; done) | (simp [HDD.out, hcat2.out]; done)
              simp only [Act.put, List.setIfInBounds_toArray, List.set_cons_zero, List.set_cons_succ]
              refine g_look rfl rfl (.int .i64 (n : Int)) (fun w' hC => ?_) ?_
              · clear hC
                go_simp
                first | done | rfl | exact hni | (rw [hn]; done) | exact hn | (simp [hn]; done)
              simp only [Act.put, List.setIfInBounds_toArray, List.set_cons_zero, List.set_cons_succ]
              refine g_look rfl rfl ?_ (fun w' hC => ?_) ?_
              rotate_left
              · go_simp
                first | done | rfl
              simp only [Act.put, List.setIfInBounds_toArray, List.set_cons_zero, List.set_cons_succ]
              refine g_end ?_
              intro w11 hC11 hh11
              have S11 : Hid (Stays [(gr, Obj.cells #[.int .u64 0, .int .u64 0] 25 (0, 0)), (gx, Obj.cells #[.string ⟨sx.toArray⟩, .int .i64 tx0, .int .i64 (zx : Int)] 54 (0, 0)), (ga, Obj.cells #[.int .u64 0, .int .u64 0] 25 (0, 0))] w w11) := Lib.hid (stays_cons (stays_row hC11 (List.mem_cons_self ..)) (stays_cons (stays_row hC11 (List.mem_cons_of_mem _ (List.mem_cons_self ..))) (stays_cons (stays_row hC11 (List.mem_cons_of_mem _ (List.mem_cons_of_mem _ (List.mem_cons_self ..)))) (stays_nil (stays_below hC11)))))
              clear S10
              clear hC11 hh11
              clear hdd
              go_wp2_with fail
              go_loopw [55] (fun i wr => ∃ (k : Nat) (a b : Int), k ≤ n ∧ i = .int .i64 k ∧ Hid (U a ∧ U b ∧ wval a b = ((valD (dd.take k) : Nat) : Int)) ∧ Hid (Stays [(gr, Obj.cells #[.int .u64 0, .int .u64 0] 25 (0, 0)), (gx, Obj.cells #[.string ⟨sx.toArray⟩, .int .i64 tx0, .int .i64 (zx : Int)] 54 (0, 0)), (ga, Obj.cells #[.int .u64 a, .int .u64 b] 25 (0, 0))] w wr)) (fun i _ => n - (intOf i).toNat)
              case atStart => exact ⟨0, 0, 0, Nat.zero_le _, rfl, Lib.hid ⟨u_zero, u_zero, by simp [valD, wval]⟩, S11⟩
              case round =>
                obtain ⟨k, a, b, hk, rfl, HAB, S12⟩ := hrel
                clear S11
                by_cases hlt : k < n
                · obtain ⟨hlti, hltd, hwk, hb, hv9⟩ := round_pre hn HCN.out hn28 hlt
                  have HS := Lib.hid (val_step hltd)
                  obtain ⟨v, hvv⟩ : ∃ v, valD (dd.take k) = v := ⟨_, rfl⟩
                  rw [hvv] at hv9 HS HAB
                  obtain ⟨d, hd⟩ : ∃ d : Nat, byteL dd k - 48 = d := ⟨_, rfl⟩
                  obtain ⟨b0, hbb⟩ : ∃ b : Int, (byteL dd k : Int) = b := ⟨_, rfl⟩
                  obtain ⟨w1, w2, hd9, hud⟩ := dig_facts hbb hb hd
                  have HUA := Lib.hid HAB.out.1
                  have HUB := Lib.hid HAB.out.2.1
                  obtain ⟨a1, b1, a2, b2, hua1, hub1, he1, hab2, he2⟩ := parse_round HAB.out hv9 hd9
                  have HE1 := Lib.hid he1
                  have HE2 := Lib.hid he2
                  have HUD := Lib.hid hud
                  have HU1 := Lib.hid hua1
                  have HU1' := Lib.hid hub1
                  have HAB2 : Hid (U a2 ∧ U b2 ∧ wval a2 b2 = ((valD (dd.take (k + 1)) : Nat) : Int)) := Lib.hid (by rw [HS.out, hd]; exact hab2)
                  clear hlen hn
                  clear hvv hd hb hua1 hub1 hab2 he1 he2 hv9 HS hd9 hud HAB
                  go_upto_region 14 with fail
                  refine reg_plain (Stays [(gr, Obj.cells #[.int .u64 0, .int .u64 0] 25 (0, 0)), (gx, Obj.cells #[.string ⟨sx.toArray⟩, .int .i64 tx0, .int .i64 (zx : Int)] 54 (0, 0)), (ga, Obj.cells #[.int .u64 a, .int .u64 b] 25 (0, 0))] w) (Turns [(gr, Obj.cells #[.int .u64 0, .int .u64 0] 25 (0, 0)), (gx, Obj.cells #[.string ⟨sx.toArray⟩, .int .i64 tx0, .int .i64 (zx : Int)] 54 (0, 0)), (ga, Obj.cells #[.int .u64 a, .int .u64 b] 25 (0, 0))] w) (kdOf []) none0 (stays_good _ _) (S12.out) (holds0 _) ?_
                  refine g_look rfl rfl ?_ (fun w' hC => ?_) ?_
                  rotate_left
                  · go_simp
                    first | done | rfl
                  simp only [Act.put, List.setIfInBounds_toArray, List.set_cons_zero, List.set_cons_succ]
                  refine g_end ?_
                  intro w13 hC13 hh13
                  have S13 : Hid (Stays [(gr, Obj.cells #[.int .u64 0, .int .u64 0] 25 (0, 0)), (gx, Obj.cells #[.string ⟨sx.toArray⟩, .int .i64 tx0, .int .i64 (zx : Int)] 54 (0, 0)), (ga, Obj.cells #[.int .u64 a, .int .u64 b] 25 (0, 0))] w w13) := Lib.hid (stays_cons (stays_row hC13 (List.mem_cons_self ..)) (stays_cons (stays_row hC13 (List.mem_cons_of_mem _ (List.mem_cons_self ..))) (stays_cons (stays_row hC13 (List.mem_cons_of_mem _ (List.mem_cons_of_mem _ (List.mem_cons_self ..)))) (stays_nil (stays_below hC13)))))
                  clear S12
                  clear hC13 hh13
                  go_upto_region 15 with fail
                  refine reg_plain (Stays [(gr, Obj.cells #[.int .u64 0, .int .u64 0] 25 (0, 0)), (gx, Obj.cells #[.string ⟨sx.toArray⟩, .int .i64 tx0, .int .i64 (zx : Int)] 54 (0, 0)), (ga, Obj.cells #[.int .u64 a, .int .u64 b] 25 (0, 0))] w) (Turns [(gr, Obj.cells #[.int .u64 0, .int .u64 0] 25 (0, 0)), (gx, Obj.cells #[.string ⟨sx.toArray⟩, .int .i64 tx0, .int .i64 (zx : Int)] 54 (0, 0)), (ga, Obj.cells #[.int .u64 a, .int .u64 b] 25 (0, 0))] w) (kdOf []) none0 (stays_good _ _) (S13.out) (holds0 _) ?_
                  refine g_look rfl rfl ?_ (fun w' hC => ?_) ?_
                  rotate_left
                  · go_simp
                    first | done | rfl
                  simp only [Act.put, List.setIfInBounds_toArray, List.set_cons_zero, List.set_cons_succ]
                  refine g_look rfl rfl ?_ (fun w' hC => ?_) ?_
                  rotate_left
                  · go_simp
                    first | done | rfl
                  simp only [Act.put, List.setIfInBounds_toArray, List.set_cons_zero, List.set_cons_succ]
                  refine g_end ?_
                  intro w14 hC14 hh14
                  have S14 : Hid (Stays [(gr, Obj.cells #[.int .u64 0, .int .u64 0] 25 (0, 0)), (gx, Obj.cells #[.string ⟨sx.toArray⟩, .int .i64 tx0, .int .i64 (zx : Int)] 54 (0, 0)), (ga, Obj.cells #[.int .u64 a, .int .u64 b] 25 (0, 0))] w w14) := Lib.hid (stays_cons (stays_row hC14 (List.mem_cons_self ..)) (stays_cons (stays_row hC14 (List.mem_cons_of_mem _ (List.mem_cons_self ..))) (stays_cons (stays_row hC14 (List.mem_cons_of_mem _ (List.mem_cons_of_mem _ (List.mem_cons_self ..)))) (stays_nil (stays_below hC14)))))
                  clear S13
                  clear hC14 hh14
                  go_upto_region 16 with fail
                  refine reg_plain (Stays [(gr, Obj.cells #[.int .u64 0, .int .u64 0] 25 (0, 0)), (gx, Obj.cells #[.string ⟨sx.toArray⟩, .int .i64 tx0, .int .i64 (zx : Int)] 54 (0, 0))] w) (Turns [(gr, Obj.cells #[.int .u64 0, .int .u64 0] 25 (0, 0)), (gx, Obj.cells #[.string ⟨sx.toArray⟩, .int .i64 tx0, .int .i64 (zx : Int)] 54 (0, 0))] w) (kdOf [(0, .touch), (1, .make (fun _ => callM (.tuple #[.agg #[.int .u64 a1, .int .u64 b1], .bool true]))), (5, .touch)]) (Own.has none0 ga (Obj.cells #[.int .u64 a, .int .u64 b] 25 (0, 0))) (stays_good _ _) (stays_cons (stays_row S14.out (List.mem_cons_self ..)) (stays_cons (stays_row S14.out (List.mem_cons_of_mem _ (List.mem_cons_self ..))) (stays_nil (stays_below S14.out)))) (holds_has (holds0 _) (stays_row S14.out (List.mem_cons_of_mem _ (List.mem_cons_of_mem _ (List.mem_cons_self ..)))) ta.out) ?_
                  refine g_load_own 25 _ ga none 25 #[.int .u64 a, .int .u64 b] (0, 0) _ rfl rfl rfl rfl (has_same _ _ _) (by kernel_rfl) Try.underlying25 rfl (rfl) ?_
                  simp only [Act.put, List.setIfInBounds_toArray, List.set_cons_zero, List.set_cons_succ]
                  refine g_call (stays_good _ _) (.tuple #[.agg #[.int .u64 a1, .int .u64 b1], .bool true]) rfl rfl (fun w' hC => ?_) ?_
                  · clear hC
                    go_simp
                    refine (times_word_any _ a b 10 HUA.out HUB.out (by unfold U; decide)).mono (fun e w2 h => ?_)
                    obtain ⟨h1, h2⟩ := h
                    rw [HE1.out] at h1
                    exact gives h1 h2
                  simp only [Act.put, List.setIfInBounds_toArray, List.set_cons_zero, List.set_cons_succ]
                  refine g_look rfl rfl ?_ (fun w' hC => ?_) ?_
                  rotate_left
                  · go_simp
                    first | done | rfl
                  simp only [Act.put, List.setIfInBounds_toArray, List.set_cons_zero, List.set_cons_succ]
                  refine g_look rfl rfl ?_ (fun w' hC => ?_) ?_
                  rotate_left
                  · go_simp
                    first | done | rfl
                  simp only [Act.put, List.setIfInBounds_toArray, List.set_cons_zero, List.set_cons_succ]
                  refine g_look rfl rfl ?_ (fun w' hC => ?_) ?_
                  rotate_left
                  · go_simp
                    first | done | rfl
                  simp only [Act.put, List.setIfInBounds_toArray, List.set_cons_zero, List.set_cons_succ]
                  refine g_store ga (some 0) 25 25 _ _ #[.int .u64 a, .int .u64 b] #[.int .u64 a1, .int .u64 b1] rfl rfl rfl rfl rfl (own_new _ _ _ _) (by kernel_rfl) (rfl) (rfl) (one25 _ _) ?_
                  simp only [Act.put]
                  refine g_end ?_
                  intro w15 hC15 hh15
                  have S15 : Hid (Stays [(gr, Obj.cells #[.int .u64 0, .int .u64 0] 25 (0, 0)), (gx, Obj.cells #[.string ⟨sx.toArray⟩, .int .i64 tx0, .int .i64 (zx : Int)] 54 (0, 0)), (ga, Obj.cells #[.int .u64 a1, .int .u64 b1] 25 (0, 0))] w w15) := Lib.hid (stays_cons (stays_row hC15 (List.mem_cons_self ..)) (stays_cons (stays_row hC15 (List.mem_cons_of_mem _ (List.mem_cons_self ..))) (stays_cons ((hh15 _ _ _ (own_new _ _ _ _)).1) (stays_nil (stays_below hC15)))))
                  clear S14
                  clear hC15 hh15
                  go_upto_region 17 with fail
                  refine reg (Stays [(gr, Obj.cells #[.int .u64 0, .int .u64 0] 25 (0, 0)), (gx, Obj.cells #[.string ⟨sx.toArray⟩, .int .i64 tx0, .int .i64 (zx : Int)] 54 (0, 0))] w) (Turns [(gr, Obj.cells #[.int .u64 0, .int .u64 0] 25 (0, 0)), (gx, Obj.cells #[.string ⟨sx.toArray⟩, .int .i64 tx0, .int .i64 (zx : Int)] 54 (0, 0))] w) (kdOf [(0, .touch), (8, .make (fun _ => callM (.agg #[.int .u64 0, .int .u64 (d : Int)]))), (9, .make (fun _ => callM (.tuple #[.agg #[.int .u64 a2, .int .u64 b2], .bool true]))), (13, .touch)]) (Own.has none0 ga (Obj.cells #[.int .u64 a1, .int .u64 b1] 25 (0, 0))) (stays_good _ _) (by kernel_rfl) (by kernel_rfl) (stays_drew (stays_cons (stays_row S15.out (List.mem_cons_self ..)) (stays_cons (stays_row S15.out (List.mem_cons_of_mem _ (List.mem_cons_self ..))) (stays_nil (stays_below S15.out))))) (holds_has (holds0 _) (stays_row (stays_drew S15.out) (List.mem_cons_of_mem _ (List.mem_cons_of_mem _ (List.mem_cons_self ..)))) ta.out) ?_
                  refine g_load_own 25 _ ga none 25 #[.int .u64 a1, .int .u64 b1] (0, 0) _ rfl rfl rfl rfl (has_same _ _ _) (by kernel_rfl) Try.underlying25 rfl (rfl) ?_
                  simp only [Act.put, List.setIfInBounds_toArray, List.set_cons_zero, List.set_cons_succ]
                  refine g_look rfl rfl ?_ (fun w' hC => ?_) ?_
                  rotate_left
                  · go_simp
                    first | done | rfl
                  simp only [Act.put, List.setIfInBounds_toArray, List.set_cons_zero, List.set_cons_succ]
                  refine g_look rfl rfl ?_ (fun w' hC => ?_) ?_
                  rotate_left
                  · go_simp
                    first | done | rfl
                  simp only [Act.put, List.setIfInBounds_toArray, List.set_cons_zero, List.set_cons_succ]
                  refine g_look rfl rfl (.string ⟨dd.toArray⟩) (fun w' hC => ?_) ?_
                  · clear hC
                    go_simp
                    first | done | rfl | (simp [hcat2.out]; done) | (simpa using HDD.out) | (simp [hcat2.out]; simpa using HDD.out) | exact (add_st _ _).trans (by rw [HDD.out]) | (rw [HDD.out]; done) | (simp [HDD.out, hcat2.out]; done)
                  simp only [Act.put, List.setIfInBounds_toArray, List.set_cons_zero, List.set_cons_succ]
                  refine g_look rfl rfl ?_ (fun w' hC => ?_) ?_
                  rotate_left
                  · go_simp
                    first | done | rfl
                  simp only [Act.put, List.setIfInBounds_toArray, List.set_cons_zero, List.set_cons_succ]
                  refine g_look rfl rfl (.int .u8 b0) (fun w' hC => ?_) ?_
                  · clear hC
                    go_simp
                    first | done | rfl | exact hbb | (rw [hbb]; done) | (simp [hbb]; done)
                  simp only [Act.put, List.setIfInBounds_toArray, List.set_cons_zero, List.set_cons_succ]
                  refine g_look rfl rfl ?_ (fun w' hC => ?_) ?_
                  rotate_left
                  · go_simp
                    first | done | rfl
                  simp only [Act.put, List.setIfInBounds_toArray, List.set_cons_zero, List.set_cons_succ]
                  refine g_look rfl rfl ?_ (fun w' hC => ?_) ?_
                  rotate_left
                  · go_simp
                    first | done | rfl
                  simp only [Act.put, List.setIfInBounds_toArray, List.set_cons_zero, List.set_cons_succ]
                  refine g_call (stays_good _ _) (.agg #[.int .u64 0, .int .u64 (d : Int)]) rfl rfl (fun w' hC => ?_) ?_
                  · clear hC
                    go_simp
                    refine (of1_any _ (d : Int)).mono (fun e w2 h => ?_)
                    obtain ⟨h1, h2⟩ := h
                    exact gives h1 h2
                  simp only [Act.put, List.setIfInBounds_toArray, List.set_cons_zero, List.set_cons_succ]
                  refine g_call (stays_good _ _) (.tuple #[.agg #[.int .u64 a2, .int .u64 b2], .bool true]) rfl rfl (fun w' hC => ?_) ?_
                  · clear hC
                    go_simp
                    refine (add_any _ a1 b1 0 (d : Int) HU1.out HU1'.out u_zero HUD.out).mono (fun e w2 h => ?_)
                    obtain ⟨h1, h2⟩ := h
                    rw [HE2.out] at h1
                    exact gives h1 h2
                  simp only [Act.put, List.setIfInBounds_toArray, List.set_cons_zero, List.set_cons_succ]
                  refine g_look rfl rfl ?_ (fun w' hC => ?_) ?_
                  rotate_left
                  · go_simp
                    first | done | rfl
                  simp only [Act.put, List.setIfInBounds_toArray, List.set_cons_zero, List.set_cons_succ]
                  refine g_look rfl rfl ?_ (fun w' hC => ?_) ?_
                  rotate_left
                  · go_simp
                    first | done | rfl
                  simp only [Act.put, List.setIfInBounds_toArray, List.set_cons_zero, List.set_cons_succ]
                  refine g_look rfl rfl ?_ (fun w' hC => ?_) ?_
                  rotate_left
                  · go_simp
                    first | done | rfl
                  simp only [Act.put, List.setIfInBounds_toArray, List.set_cons_zero, List.set_cons_succ]
                  refine g_store ga (some 0) 25 25 _ _ #[.int .u64 a1, .int .u64 b1] #[.int .u64 a2, .int .u64 b2] rfl rfl rfl rfl rfl (own_new _ _ _ _) (by kernel_rfl) (rfl) (rfl) (one25 _ _) ?_
                  simp only [Act.put]
                  refine g_end ?_
                  intro w16 hC16 hh16
                  have S16 : Hid (Stays [(gr, Obj.cells #[.int .u64 0, .int .u64 0] 25 (0, 0)), (gx, Obj.cells #[.string ⟨sx.toArray⟩, .int .i64 tx0, .int .i64 (zx : Int)] 54 (0, 0)), (ga, Obj.cells #[.int .u64 a2, .int .u64 b2] 25 (0, 0))] w w16) := Lib.hid (stays_cons (stays_row hC16 (List.mem_cons_self ..)) (stays_cons (stays_row hC16 (List.mem_cons_of_mem _ (List.mem_cons_self ..))) (stays_cons ((hh16 _ _ _ (own_new _ _ _ _)).1) (stays_nil (stays_below hC16)))))
                  clear S15
                  clear hC16 hh16
                  go_upto_region 18 with fail
                  refine reg_plain (Stays [(gr, Obj.cells #[.int .u64 0, .int .u64 0] 25 (0, 0)), (gx, Obj.cells #[.string ⟨sx.toArray⟩, .int .i64 tx0, .int .i64 (zx : Int)] 54 (0, 0)), (ga, Obj.cells #[.int .u64 a2, .int .u64 b2] 25 (0, 0))] w) (Turns [(gr, Obj.cells #[.int .u64 0, .int .u64 0] 25 (0, 0)), (gx, Obj.cells #[.string ⟨sx.toArray⟩, .int .i64 tx0, .int .i64 (zx : Int)] 54 (0, 0)), (ga, Obj.cells #[.int .u64 a2, .int .u64 b2] 25 (0, 0))] w) (kdOf []) none0 (stays_good _ _) (S16.out) (holds0 _) ?_
                  refine g_look rfl rfl (.int .i64 ((k : Int) + 1)) (fun w' hC => ?_) ?_
                  · clear hC
                    go_simp
                    first | done | (rw [i64w, hwk]; done) | exact hwk
                  simp only [Act.put, List.setIfInBounds_toArray, List.set_cons_zero, List.set_cons_succ]
                  refine g_look rfl rfl ?_ (fun w' hC => ?_) ?_
                  rotate_left
                  · go_simp
                    first | done | rfl
                  simp only [Act.put, List.setIfInBounds_toArray, List.set_cons_zero, List.set_cons_succ]
                  refine g_end ?_
                  intro w17 hC17 hh17
                  have S17 : Hid (Stays [(gr, Obj.cells #[.int .u64 0, .int .u64 0] 25 (0, 0)), (gx, Obj.cells #[.string ⟨sx.toArray⟩, .int .i64 tx0, .int .i64 (zx : Int)] 54 (0, 0)), (ga, Obj.cells #[.int .u64 a2, .int .u64 b2] 25 (0, 0))] w w17) := Lib.hid (stays_cons (stays_row hC17 (List.mem_cons_self ..)) (stays_cons (stays_row hC17 (List.mem_cons_of_mem _ (List.mem_cons_self ..))) (stays_cons (stays_row hC17 (List.mem_cons_of_mem _ (List.mem_cons_of_mem _ (List.mem_cons_self ..)))) (stays_nil (stays_below hC17)))))
                  clear S16
                  clear hC17 hh17
                  have S99 : Hid (Stays [(gr, Obj.cells #[.int .u64 0, .int .u64 0] 25 (0, 0)), (gx, Obj.cells #[.string ⟨sx.toArray⟩, .int .i64 tx0, .int .i64 (zx : Int)] 54 (0, 0)), (ga, Obj.cells #[.int .u64 a2, .int .u64 b2] 25 (0, 0))] w w17) := Lib.hid (stays_cons (stays_row S17.out (List.mem_cons_self ..)) (stays_cons (stays_row S17.out (List.mem_cons_of_mem _ (List.mem_cons_self ..))) (stays_cons (stays_row S17.out (List.mem_cons_of_mem _ (List.mem_cons_of_mem _ (List.mem_cons_self ..)))) (stays_nil (stays_below S17.out)))))
                  go_wp2_with fail
                  go_roundw
                  case rel => exact ⟨k + 1, a2, b2, (round_end hlt).1, rfl, HAB2, S99⟩
                  case measure =>
                    exact (round_end hlt).2
                · obtain ⟨rfl, hlti⟩ := end_k hk hlt
                  have htk : dd.take k = dd := by rw [← hn, List.take_length]
                  rw [htk] at HAB
                  have hv := val_lt HCN.out k (Nat.le_of_eq hn.symm)
                  rw [htk] at hv
                  have hv28 : valD dd < 10000000000000000000000000000 := Nat.lt_of_lt_of_le hv (ten_pow hn28)
                  clear hv htk
                  have HVP2 : Hid (parseW WD PD R2 = if ((scaled (valD dd) (9 + tx0 - (n2 : Nat)) zx : Nat) : Int) ≤ Most then .tuple #[wn (scaled (valD dd) (9 + tx0 - (n2 : Nat)) zx : Nat), .int .i64 0] else errV 15) := Lib.hid (by rw [parseW, HSP.out]; simp only []; rw [if_neg HD.out, hn1, hn2, if_neg HLO.out, HDD.out])
                  rw [HVP.out] at HVP2
                  obtain ⟨v, hvv⟩ : ∃ v, valD dd = v := ⟨_, rfl⟩
                  rw [hvv] at hv28 HVP2 HAB
                  obtain ⟨tt, htt⟩ : ∃ t : Int, 9 + tx0 - (n2 : Nat) = t := ⟨_, rfl⟩
                  rw [htt] at HVP2
                  obtain ⟨hw9, hw9b, htl0, htl1, htz0⟩ := end_facts ht0 ht1 hn2s htt
                  have htz : zx ≠ 0 → -19 ≤ tt := fun h => htz0 (HZT.out h)
                  have HTZ := Lib.hid htz
                  have HUA := Lib.hid HAB.out.1
                  have HUB := Lib.hid HAB.out.2.1
                  have HWV := Lib.hid HAB.out.2.2
                  clear hvv htz htz0 htt HVP HAB HLW
                  go_upto_region 19 with fail
                  refine reg_plain (Stays [(gr, Obj.cells #[.int .u64 0, .int .u64 0] 25 (0, 0)), (gx, Obj.cells #[.string ⟨sx.toArray⟩, .int .i64 tx0, .int .i64 (zx : Int)] 54 (0, 0)), (ga, Obj.cells #[.int .u64 a, .int .u64 b] 25 (0, 0))] w) (Turns [(gr, Obj.cells #[.int .u64 0, .int .u64 0] 25 (0, 0)), (gx, Obj.cells #[.string ⟨sx.toArray⟩, .int .i64 tx0, .int .i64 (zx : Int)] 54 (0, 0)), (ga, Obj.cells #[.int .u64 a, .int .u64 b] 25 (0, 0))] w) (kdOf []) none0 (stays_good _ _) (S12.out) (holds0 _) ?_
                  refine g_look rfl rfl (.pointer (some ⟨gx, 1, none⟩)) (fun w' hC => ?_) ?_
                  · clear hC
                    go_simp
                    first | done | rfl | exact ⟨rfl, rfl⟩
                  simp only [Act.put, List.setIfInBounds_toArray, List.set_cons_zero, List.set_cons_succ]
                  refine g_look rfl rfl (.int .i64 tx0) (fun w' hC => ?_) ?_
                  · have c : w'.heap[gx]? = some (.cells #[.string ⟨sx.toArray⟩, .int .i64 tx0, .int .i64 (zx : Int)] 54 (0, 0)) := stays_row hC (List.mem_cons_of_mem _ (List.mem_cons_self ..))
                    have c0 : w'.cell? ⟨gx, 1, none⟩ = some (.int .i64 tx0) := (cell_of_row _ _ _ _ _ _ c).trans rfl
                    clear hC c
                    go_simp
                    first | done | rfl
                  simp only [Act.put, List.setIfInBounds_toArray, List.set_cons_zero, List.set_cons_succ]
                  refine g_look rfl rfl ?_ (fun w' hC => ?_) ?_
                  rotate_left
                  · go_simp
                    first | done | rfl
                  simp only [Act.put, List.setIfInBounds_toArray, List.set_cons_zero, List.set_cons_succ]
                  refine g_look rfl rfl ?_ (fun w' hC => ?_) ?_
                  rotate_left
                  · go_simp
                    first | done | rfl
                  simp only [Act.put, List.setIfInBounds_toArray, List.set_cons_zero, List.set_cons_succ]
                  refine g_look rfl rfl (.int .i64 (n2 : Int)) (fun w' hC => ?_) ?_
                  · clear hC
                    go_simp
                    first | done | rfl | (rw [hn2]; done) | exact hn2 | (simp [hn2]; done)
                  simp only [Act.put, List.setIfInBounds_toArray, List.set_cons_zero, List.set_cons_succ]
                  refine g_look rfl rfl (.int .i64 tt) (fun w' hC => ?_) ?_
                  · clear hC
                    go_simp
                    first | done | (rw [i64w, i64w, hw9, hw9b]; done) | exact hw9b
                  simp only [Act.put, List.setIfInBounds_toArray, List.set_cons_zero, List.set_cons_succ]
                  refine g_look rfl rfl ?_ (fun w' hC => ?_) ?_
                  rotate_left
                  · go_simp
                    first | done | rfl
                  simp only [Act.put, List.setIfInBounds_toArray, List.set_cons_zero, List.set_cons_succ]
                  refine g_end ?_
                  intro w13 hC13 hh13
                  have S13 : Hid (Stays [(gr, Obj.cells #[.int .u64 0, .int .u64 0] 25 (0, 0)), (gx, Obj.cells #[.string ⟨sx.toArray⟩, .int .i64 tx0, .int .i64 (zx : Int)] 54 (0, 0)), (ga, Obj.cells #[.int .u64 a, .int .u64 b] 25 (0, 0))] w w13) := Lib.hid (stays_cons (stays_row hC13 (List.mem_cons_self ..)) (stays_cons (stays_row hC13 (List.mem_cons_of_mem _ (List.mem_cons_self ..))) (stays_cons (stays_row hC13 (List.mem_cons_of_mem _ (List.mem_cons_of_mem _ (List.mem_cons_self ..)))) (stays_nil (stays_below hC13)))))
                  clear S12
                  clear hC13 hh13
                  clear hw9 hw9b
                  by_cases hneg : tt < 0
                  · obtain ⟨e, he⟩ : ∃ e : Nat, (-tt).toNat = e := ⟨_, rfl⟩
                    obtain ⟨hwe, he1000, he19⟩ := neg_facts htl0 hneg he
                    have hsc2 : scaled v tt zx = byUp (v * 2 ^ zx) e := by rw [scaled, if_pos hneg, he]
                    obtain ⟨a3, b3, ok3, he3, hua3, hub3, hyes, hno⟩ := down_open v e zx (v_lt hv28) hz
                    have HCT : Hid (e ≤ 1000 ∧ (zx ≠ 0 → e ≤ 19)) := Lib.hid ⟨he1000, fun h => he19 (HTZ.out h)⟩
                    clear he1000 he19
                    rw [hsc2] at HVP2
                    have HZ := Lib.hid hz
                    have HE3 := Lib.hid he3
                    have HUA3 := Lib.hid hua3
                    have HUB3 := Lib.hid hub3
                    have HYES := Lib.hid hyes
                    have HNO := Lib.hid hno
                    clear he3 hua3 hub3 hyes hno hsc2 he hz HTZ htl0 htl1 hv28
                    go_upto_region 20 with fail
                    refine reg_plain (Stays [(gr, Obj.cells #[.int .u64 0, .int .u64 0] 25 (0, 0)), (gx, Obj.cells #[.string ⟨sx.toArray⟩, .int .i64 tx0, .int .i64 (zx : Int)] 54 (0, 0)), (ga, Obj.cells #[.int .u64 a, .int .u64 b] 25 (0, 0))] w) (Turns [(gr, Obj.cells #[.int .u64 0, .int .u64 0] 25 (0, 0)), (gx, Obj.cells #[.string ⟨sx.toArray⟩, .int .i64 tx0, .int .i64 (zx : Int)] 54 (0, 0)), (ga, Obj.cells #[.int .u64 a, .int .u64 b] 25 (0, 0))] w) (kdOf []) none0 (stays_good _ _) (S13.out) (holds0 _) ?_
                    refine g_look rfl rfl ?_ (fun w' hC => ?_) ?_
                    rotate_left
                    · go_simp
                      first | done | rfl
                    simp only [Act.put, List.setIfInBounds_toArray, List.set_cons_zero, List.set_cons_succ]
                    refine g_look rfl rfl (.bool true) (fun w' hC => ?_) ?_
                    · clear hC
                      go_simp
                      first | done | rfl
                    simp only [Act.put, List.setIfInBounds_toArray, List.set_cons_zero, List.set_cons_succ]
                    refine g_end ?_
                    intro w14 hC14 hh14
                    have S14 : Hid (Stays [(gr, Obj.cells #[.int .u64 0, .int .u64 0] 25 (0, 0)), (gx, Obj.cells #[.string ⟨sx.toArray⟩, .int .i64 tx0, .int .i64 (zx : Int)] 54 (0, 0)), (ga, Obj.cells #[.int .u64 a, .int .u64 b] 25 (0, 0))] w w14) := Lib.hid (stays_cons (stays_row hC14 (List.mem_cons_self ..)) (stays_cons (stays_row hC14 (List.mem_cons_of_mem _ (List.mem_cons_self ..))) (stays_cons (stays_row hC14 (List.mem_cons_of_mem _ (List.mem_cons_of_mem _ (List.mem_cons_self ..)))) (stays_nil (stays_below hC14)))))
                    clear S13
                    clear hC14 hh14
                    go_upto_region 21 with fail
                    refine reg_plain (Stays [(gr, Obj.cells #[.int .u64 0, .int .u64 0] 25 (0, 0)), (gx, Obj.cells #[.string ⟨sx.toArray⟩, .int .i64 tx0, .int .i64 (zx : Int)] 54 (0, 0))] w) (Turns [(gr, Obj.cells #[.int .u64 0, .int .u64 0] 25 (0, 0)), (gx, Obj.cells #[.string ⟨sx.toArray⟩, .int .i64 tx0, .int .i64 (zx : Int)] 54 (0, 0))] w) (kdOf [(0, .touch), (5, .make (fun _ => callM (.tuple #[.agg #[.int .u64 a3, .int .u64 b3], .bool ok3]))), (9, .touch)]) (Own.has none0 ga (Obj.cells #[.int .u64 a, .int .u64 b] 25 (0, 0))) (stays_good _ _) (stays_cons (stays_row S14.out (List.mem_cons_self ..)) (stays_cons (stays_row S14.out (List.mem_cons_of_mem _ (List.mem_cons_self ..))) (stays_nil (stays_below S14.out)))) (holds_has (holds0 _) (stays_row S14.out (List.mem_cons_of_mem _ (List.mem_cons_of_mem _ (List.mem_cons_self ..)))) ta.out) ?_
                    refine g_load_own 25 _ ga none 25 #[.int .u64 a, .int .u64 b] (0, 0) _ rfl rfl rfl rfl (has_same _ _ _) (by kernel_rfl) Try.underlying25 rfl (rfl) ?_
                    simp only [Act.put, List.setIfInBounds_toArray, List.set_cons_zero, List.set_cons_succ]
                    refine g_look rfl rfl ?_ (fun w' hC => ?_) ?_
                    rotate_left
                    · go_simp
                      first | done | rfl
                    simp only [Act.put, List.setIfInBounds_toArray, List.set_cons_zero, List.set_cons_succ]
                    refine g_look rfl rfl (.int .i64 (e : Int)) (fun w' hC => ?_) ?_
                    · clear hC
                      go_simp
                      first | done | (rw [i64w, hwe]; done) | exact hwe
                    simp only [Act.put, List.setIfInBounds_toArray, List.set_cons_zero, List.set_cons_succ]
                    refine g_look rfl rfl (.pointer (some ⟨gx, 2, none⟩)) (fun w' hC => ?_) ?_
                    · clear hC
                      go_simp
                      first | done | rfl | exact ⟨rfl, rfl⟩
                    simp only [Act.put, List.setIfInBounds_toArray, List.set_cons_zero, List.set_cons_succ]
                    refine g_look rfl rfl (.int .i64 (zx : Int)) (fun w' hC => ?_) ?_
                    · have c : w'.heap[gx]? = some (.cells #[.string ⟨sx.toArray⟩, .int .i64 tx0, .int .i64 (zx : Int)] 54 (0, 0)) := stays_row hC (List.mem_cons_of_mem _ (List.mem_cons_self ..))
                      have c0 : w'.cell? ⟨gx, 2, none⟩ = some (.int .i64 (zx : Int)) := (cell_of_row _ _ _ _ _ _ c).trans rfl
                      clear hC c
                      go_simp
                      first | done | rfl
                    simp only [Act.put, List.setIfInBounds_toArray, List.set_cons_zero, List.set_cons_succ]
                    refine g_call (stays_good _ _) (.tuple #[.agg #[.int .u64 a3, .int .u64 b3], .bool ok3]) rfl rfl (fun w' hC => ?_) ?_
                    · clear hC
                      go_simp
                      refine (down_any _ a b v e zx HWV.out HUA.out HUB.out HCT.out.1 HCT.out.2 HZ.out).mono (fun e w2 h => ?_)
                      obtain ⟨h1, h2⟩ := h
                      rw [HE3.out] at h1
                      exact gives h1 h2
                    simp only [Act.put, List.setIfInBounds_toArray, List.set_cons_zero, List.set_cons_succ]
                    refine g_look rfl rfl ?_ (fun w' hC => ?_) ?_
                    rotate_left
                    · go_simp
                      first | done | rfl
                    simp only [Act.put, List.setIfInBounds_toArray, List.set_cons_zero, List.set_cons_succ]
                    refine g_look rfl rfl ?_ (fun w' hC => ?_) ?_
                    rotate_left
                    · go_simp
                      first | done | rfl
                    simp only [Act.put, List.setIfInBounds_toArray, List.set_cons_zero, List.set_cons_succ]
                    refine g_look rfl rfl ?_ (fun w' hC => ?_) ?_
                    rotate_left
                    · go_simp
                      first | done | rfl
                    simp only [Act.put, List.setIfInBounds_toArray, List.set_cons_zero, List.set_cons_succ]
                    refine g_store ga (some 0) 25 25 _ _ #[.int .u64 a, .int .u64 b] #[.int .u64 a3, .int .u64 b3] rfl rfl rfl rfl rfl (own_new _ _ _ _) (by kernel_rfl) (rfl) (rfl) (one25 _ _) ?_
                    simp only [Act.put]
                    refine g_look rfl rfl ?_ (fun w' hC => ?_) ?_
                    rotate_left
                    · go_simp
                      first | done | rfl
                    simp only [Act.put, List.setIfInBounds_toArray, List.set_cons_zero, List.set_cons_succ]
                    refine g_end ?_
                    intro w15 hC15 hh15
                    have S15 : Hid (Stays [(gr, Obj.cells #[.int .u64 0, .int .u64 0] 25 (0, 0)), (gx, Obj.cells #[.string ⟨sx.toArray⟩, .int .i64 tx0, .int .i64 (zx : Int)] 54 (0, 0)), (ga, Obj.cells #[.int .u64 a3, .int .u64 b3] 25 (0, 0))] w w15) := Lib.hid (stays_cons (stays_row hC15 (List.mem_cons_self ..)) (stays_cons (stays_row hC15 (List.mem_cons_of_mem _ (List.mem_cons_self ..))) (stays_cons ((hh15 _ _ _ (own_new _ _ _ _)).1) (stays_nil (stays_below hC15)))))
                    clear S14
                    clear hC15 hh15
                    cases ok3 with
                    | false =>
                      have HNN := Lib.hid (HNO.out rfl)
                      go_upto_region 23 with fail
                      refine reg_plain (Stays [(gr, Obj.cells #[.int .u64 0, .int .u64 0] 25 (0, 0)), (gx, Obj.cells #[.string ⟨sx.toArray⟩, .int .i64 tx0, .int .i64 (zx : Int)] 54 (0, 0)), (ga, Obj.cells #[.int .u64 a3, .int .u64 b3] 25 (0, 0))] w) (Turns [(gr, Obj.cells #[.int .u64 0, .int .u64 0] 25 (0, 0)), (gx, Obj.cells #[.string ⟨sx.toArray⟩, .int .i64 tx0, .int .i64 (zx : Int)] 54 (0, 0)), (ga, Obj.cells #[.int .u64 a3, .int .u64 b3] 25 (0, 0))] w) (kdOf []) none0 (stays_good _ _) (S15.out) (holds0 _) ?_
                      refine g_look rfl rfl ?_ (fun w' hC => ?_) ?_
                      rotate_left
                      · go_simp
                        first | done | rfl
                      simp only [Act.put, List.setIfInBounds_toArray, List.set_cons_zero, List.set_cons_succ]
                      refine g_look rfl rfl ?_ (fun w' hC => ?_) ?_
                      rotate_left
                      · go_simp
                        first | done | rfl
                      simp only [Act.put, List.setIfInBounds_toArray, List.set_cons_zero, List.set_cons_succ]
                      refine g_look rfl rfl ?_ (fun w' hC => ?_) ?_
                      rotate_left
                      · go_simp
                        first | done | rfl
                      simp only [Act.put, List.setIfInBounds_toArray, List.set_cons_zero, List.set_cons_succ]
                      first | (refine g_skip rfl ?_) | (refine g_load 25 _ ga 25 #[.int .u64 a3, .int .u64 b3] (0, 0) _ rfl rfl rfl rfl (fun w' hC => stays_row hC (List.mem_cons_of_mem _ (List.mem_cons_of_mem _ (List.mem_cons_self ..)))) Try.underlying25 rfl (rfl) ?_)
                      simp only [Act.put, List.setIfInBounds_toArray, List.set_cons_zero, List.set_cons_succ]
                      refine g_skip rfl ?_
                      simp only [Act.put, List.setIfInBounds_toArray, List.set_cons_zero, List.set_cons_succ]
                      first
                      | (refine g_skip rfl ?_)
                      | (refine g_look rfl rfl ?_ (fun w' hC => ?_) ?_
                         rotate_left
                         · go_simp
                           first | done | rfl)
                      simp only [Act.put, List.setIfInBounds_toArray, List.set_cons_zero, List.set_cons_succ]
                      refine g_look rfl rfl ?_ (fun w' hC => ?_) ?_
                      rotate_left
                      · go_simp
                        first | done | rfl
                      simp only [Act.put, List.setIfInBounds_toArray, List.set_cons_zero, List.set_cons_succ]
                      refine g_end ?_
                      intro w16 hC16 hh16
                      have S16 : Hid (Stays [(gr, Obj.cells #[.int .u64 0, .int .u64 0] 25 (0, 0)), (gx, Obj.cells #[.string ⟨sx.toArray⟩, .int .i64 tx0, .int .i64 (zx : Int)] 54 (0, 0)), (ga, Obj.cells #[.int .u64 a3, .int .u64 b3] 25 (0, 0))] w w16) := Lib.hid (stays_cons (stays_row hC16 (List.mem_cons_self ..)) (stays_cons (stays_row hC16 (List.mem_cons_of_mem _ (List.mem_cons_self ..))) (stays_cons (stays_row hC16 (List.mem_cons_of_mem _ (List.mem_cons_of_mem _ (List.mem_cons_self ..)))) (stays_nil (stays_below hC16)))))
                      clear S15
                      clear hC16 hh16
                      go_upto_region 24 with fail
                      refine reg_plain (Stays [(gx, Obj.cells #[.string ⟨sx.toArray⟩, .int .i64 tx0, .int .i64 (zx : Int)] 54 (0, 0)), (ga, Obj.cells #[.int .u64 a3, .int .u64 b3] 25 (0, 0))] w) (Turns [(gx, Obj.cells #[.string ⟨sx.toArray⟩, .int .i64 tx0, .int .i64 (zx : Int)] 54 (0, 0)), (ga, Obj.cells #[.int .u64 a3, .int .u64 b3] 25 (0, 0))] w) (kdOf [(1, .touch)]) (Own.has none0 gr (Obj.cells #[.int .u64 0, .int .u64 0] 25 (0, 0))) (stays_good _ _) (stays_cons (stays_row S16.out (List.mem_cons_of_mem _ (List.mem_cons_self ..))) (stays_cons (stays_row S16.out (List.mem_cons_of_mem _ (List.mem_cons_of_mem _ (List.mem_cons_self ..)))) (stays_nil (stays_below S16.out)))) (holds_has (holds0 _) (stays_row S16.out (List.mem_cons_self ..)) (turns_cons (turns_head tx.out).symm (turns_cons (turns_head ta.out).symm (turns_nil tr.out.2)))) ?_
                      refine g_look rfl rfl ?_ (fun w' hC => ?_) ?_
                      rotate_left
                      · go_simp
                        first | done | rfl
                      simp only [Act.put, List.setIfInBounds_toArray, List.set_cons_zero, List.set_cons_succ]
                      refine g_store gr none 25 25 _ _ #[.int .u64 0, .int .u64 0] #[.int .u64 0, .int .u64 0] rfl rfl rfl rfl rfl (has_same _ _ _) (by kernel_rfl) (rfl) (rfl) (one25 _ _) ?_
                      simp only [Act.put]
                      refine g_look rfl rfl ?_ (fun w' hC => ?_) ?_
                      rotate_left
                      · go_simp
                        first | done | rfl
                      simp only [Act.put, List.setIfInBounds_toArray, List.set_cons_zero, List.set_cons_succ]
                      refine g_end ?_
                      intro w17 hC17 hh17
                      have S17 : Hid (Stays [(gr, Obj.cells #[.int .u64 0, .int .u64 0] 25 (0, 0)), (gx, Obj.cells #[.string ⟨sx.toArray⟩, .int .i64 tx0, .int .i64 (zx : Int)] 54 (0, 0)), (ga, Obj.cells #[.int .u64 a3, .int .u64 b3] 25 (0, 0))] w w17) := Lib.hid (stays_cons ((hh17 _ _ _ (own_new _ _ _ _)).1) (stays_cons (stays_row hC17 (List.mem_cons_self ..)) (stays_cons (stays_row hC17 (List.mem_cons_of_mem _ (List.mem_cons_self ..))) (stays_nil (stays_below hC17)))))
                      clear S16
                      clear hC17 hh17
                      go_wp2_with fail
                      refine bodyPost_ret (v := .tuple #[.agg #[.int .u64 0, .int .u64 0], .int .i64 15]) (results_err8 (stays_head S17.out)) rfl ⟨congrArg Ending.returned (by rw [HVP2.out, if_neg (no_le HNN.out)]; rfl), stays_below S17.out⟩
                    | true =>
                      have HY := Lib.hid (HYES.out rfl)
                      by_cases hf : wval a3 b3 ≤ Most
                      · have HF : Hid (decide (wval a3 b3 ≤ Most) = true) := Lib.hid (decide_eq_true hf)
                        clear hf
                        go_upto_region 23 with fail
                        refine reg_plain (Stays [(gr, Obj.cells #[.int .u64 0, .int .u64 0] 25 (0, 0)), (gx, Obj.cells #[.string ⟨sx.toArray⟩, .int .i64 tx0, .int .i64 (zx : Int)] 54 (0, 0)), (ga, Obj.cells #[.int .u64 a3, .int .u64 b3] 25 (0, 0))] w) (Turns [(gr, Obj.cells #[.int .u64 0, .int .u64 0] 25 (0, 0)), (gx, Obj.cells #[.string ⟨sx.toArray⟩, .int .i64 tx0, .int .i64 (zx : Int)] 54 (0, 0)), (ga, Obj.cells #[.int .u64 a3, .int .u64 b3] 25 (0, 0))] w) (kdOf [(4, .make (fun _ => callM (.bool true)))]) none0 (stays_good _ _) (S15.out) (holds0 _) ?_
                        refine g_look rfl rfl ?_ (fun w' hC => ?_) ?_
                        rotate_left
                        · go_simp
                          first | done | rfl
                        simp only [Act.put, List.setIfInBounds_toArray, List.set_cons_zero, List.set_cons_succ]
                        refine g_look rfl rfl ?_ (fun w' hC => ?_) ?_
                        rotate_left
                        · go_simp
                          first | done | rfl
                        simp only [Act.put, List.setIfInBounds_toArray, List.set_cons_zero, List.set_cons_succ]
                        refine g_look rfl rfl ?_ (fun w' hC => ?_) ?_
                        rotate_left
                        · go_simp
                          first | done | rfl
                        simp only [Act.put, List.setIfInBounds_toArray, List.set_cons_zero, List.set_cons_succ]
                        first | (refine g_skip rfl ?_) | (refine g_load 25 _ ga 25 #[.int .u64 a3, .int .u64 b3] (0, 0) _ rfl rfl rfl rfl (fun w' hC => stays_row hC (List.mem_cons_of_mem _ (List.mem_cons_of_mem _ (List.mem_cons_self ..)))) Try.underlying25 rfl (rfl) ?_)
                        simp only [Act.put, List.setIfInBounds_toArray, List.set_cons_zero, List.set_cons_succ]
                        refine g_call (stays_good _ _) (.bool true) rfl rfl (fun w' hC => ?_) ?_
                        · clear hC
                          go_simp
                          refine (fits_any _ a3 b3 HUA3.out HUB3.out).mono (fun e w2 h => ?_)
                          obtain ⟨h1, h2⟩ := h
                          rw [HF.out] at h1
                          exact gives h1 h2
                        simp only [Act.put, List.setIfInBounds_toArray, List.set_cons_zero, List.set_cons_succ]
                        first
                        | (refine g_skip rfl ?_)
                        | (refine g_look rfl rfl ?_ (fun w' hC => ?_) ?_
                           rotate_left
                           · go_simp
                             first | done | rfl)
                        simp only [Act.put, List.setIfInBounds_toArray, List.set_cons_zero, List.set_cons_succ]
                        refine g_look rfl rfl ?_ (fun w' hC => ?_) ?_
                        rotate_left
                        · go_simp
                          first | done | rfl
                        simp only [Act.put, List.setIfInBounds_toArray, List.set_cons_zero, List.set_cons_succ]
                        refine g_end ?_
                        intro w16 hC16 hh16
                        have S16 : Hid (Stays [(gr, Obj.cells #[.int .u64 0, .int .u64 0] 25 (0, 0)), (gx, Obj.cells #[.string ⟨sx.toArray⟩, .int .i64 tx0, .int .i64 (zx : Int)] 54 (0, 0)), (ga, Obj.cells #[.int .u64 a3, .int .u64 b3] 25 (0, 0))] w w16) := Lib.hid (stays_cons (stays_row hC16 (List.mem_cons_self ..)) (stays_cons (stays_row hC16 (List.mem_cons_of_mem _ (List.mem_cons_self ..))) (stays_cons (stays_row hC16 (List.mem_cons_of_mem _ (List.mem_cons_of_mem _ (List.mem_cons_self ..)))) (stays_nil (stays_below hC16)))))
                        clear S15
                        clear hC16 hh16
                        go_upto_region 25 with fail
                        refine reg_plain (Stays [(gx, Obj.cells #[.string ⟨sx.toArray⟩, .int .i64 tx0, .int .i64 (zx : Int)] 54 (0, 0)), (ga, Obj.cells #[.int .u64 a3, .int .u64 b3] 25 (0, 0))] w) (Turns [(gx, Obj.cells #[.string ⟨sx.toArray⟩, .int .i64 tx0, .int .i64 (zx : Int)] 54 (0, 0)), (ga, Obj.cells #[.int .u64 a3, .int .u64 b3] 25 (0, 0))] w) (kdOf [(1, .touch)]) (Own.has none0 gr (Obj.cells #[.int .u64 0, .int .u64 0] 25 (0, 0))) (stays_good _ _) (stays_cons (stays_row S16.out (List.mem_cons_of_mem _ (List.mem_cons_self ..))) (stays_cons (stays_row S16.out (List.mem_cons_of_mem _ (List.mem_cons_of_mem _ (List.mem_cons_self ..)))) (stays_nil (stays_below S16.out)))) (holds_has (holds0 _) (stays_row S16.out (List.mem_cons_self ..)) (turns_cons (turns_head tx.out).symm (turns_cons (turns_head ta.out).symm (turns_nil tr.out.2)))) ?_
                        (refine g_load 25 _ ga 25 #[.int .u64 a3, .int .u64 b3] (0, 0) _ rfl rfl rfl rfl (fun w' hC => stays_row hC (List.mem_cons_of_mem _ (List.mem_cons_self ..))) Try.underlying25 rfl (rfl) ?_)
                        simp only [Act.put, List.setIfInBounds_toArray, List.set_cons_zero, List.set_cons_succ]
                        refine g_store gr none 25 25 _ _ #[.int .u64 0, .int .u64 0] #[.int .u64 a3, .int .u64 b3] rfl rfl rfl rfl rfl (has_same _ _ _) (by kernel_rfl) (rfl) (rfl) (one25 _ _) ?_
                        simp only [Act.put]
                        refine g_look rfl rfl ?_ (fun w' hC => ?_) ?_
                        rotate_left
                        · go_simp
                          first | done | rfl
                        simp only [Act.put, List.setIfInBounds_toArray, List.set_cons_zero, List.set_cons_succ]
                        refine g_end ?_
                        intro w17 hC17 hh17
                        have S17 : Hid (Stays [(gr, Obj.cells #[.int .u64 a3, .int .u64 b3] 25 (0, 0)), (gx, Obj.cells #[.string ⟨sx.toArray⟩, .int .i64 tx0, .int .i64 (zx : Int)] 54 (0, 0)), (ga, Obj.cells #[.int .u64 a3, .int .u64 b3] 25 (0, 0))] w w17) := Lib.hid (stays_cons ((hh17 _ _ _ (own_new _ _ _ _)).1) (stays_cons (stays_row hC17 (List.mem_cons_self ..)) (stays_cons (stays_row hC17 (List.mem_cons_of_mem _ (List.mem_cons_self ..))) (stays_nil (stays_below hC17)))))
                        clear S16
                        clear hC17 hh17
                        go_wp2_with fail
                        refine bodyPost_ret (v := .tuple #[.agg #[.int .u64 a3, .int .u64 b3], .int .i64 0]) (results_err8 (stays_row S17.out (List.mem_cons_self ..))) rfl ⟨congrArg Ending.returned (by rw [HVP2.out, if_pos (by have := of_decide_eq_true HF.out; rw [← HY.out]; exact this), ← wval_wn HUA3.out HUB3.out HY.out]; rfl), stays_below S17.out⟩
                      · have HF : Hid (decide (wval a3 b3 ≤ Most) = false) := Lib.hid (decide_eq_false hf)
                        clear hf
                        go_upto_region 23 with fail
                        refine reg_plain (Stays [(gr, Obj.cells #[.int .u64 0, .int .u64 0] 25 (0, 0)), (gx, Obj.cells #[.string ⟨sx.toArray⟩, .int .i64 tx0, .int .i64 (zx : Int)] 54 (0, 0)), (ga, Obj.cells #[.int .u64 a3, .int .u64 b3] 25 (0, 0))] w) (Turns [(gr, Obj.cells #[.int .u64 0, .int .u64 0] 25 (0, 0)), (gx, Obj.cells #[.string ⟨sx.toArray⟩, .int .i64 tx0, .int .i64 (zx : Int)] 54 (0, 0)), (ga, Obj.cells #[.int .u64 a3, .int .u64 b3] 25 (0, 0))] w) (kdOf [(4, .make (fun _ => callM (.bool false)))]) none0 (stays_good _ _) (S15.out) (holds0 _) ?_
                        refine g_look rfl rfl ?_ (fun w' hC => ?_) ?_
                        rotate_left
                        · go_simp
                          first | done | rfl
                        simp only [Act.put, List.setIfInBounds_toArray, List.set_cons_zero, List.set_cons_succ]
                        refine g_look rfl rfl ?_ (fun w' hC => ?_) ?_
                        rotate_left
                        · go_simp
                          first | done | rfl
                        simp only [Act.put, List.setIfInBounds_toArray, List.set_cons_zero, List.set_cons_succ]
                        refine g_look rfl rfl ?_ (fun w' hC => ?_) ?_
                        rotate_left
                        · go_simp
                          first | done | rfl
                        simp only [Act.put, List.setIfInBounds_toArray, List.set_cons_zero, List.set_cons_succ]
                        first | (refine g_skip rfl ?_) | (refine g_load 25 _ ga 25 #[.int .u64 a3, .int .u64 b3] (0, 0) _ rfl rfl rfl rfl (fun w' hC => stays_row hC (List.mem_cons_of_mem _ (List.mem_cons_of_mem _ (List.mem_cons_self ..)))) Try.underlying25 rfl (rfl) ?_)
                        simp only [Act.put, List.setIfInBounds_toArray, List.set_cons_zero, List.set_cons_succ]
                        refine g_call (stays_good _ _) (.bool false) rfl rfl (fun w' hC => ?_) ?_
                        · clear hC
                          go_simp
                          refine (fits_any _ a3 b3 HUA3.out HUB3.out).mono (fun e w2 h => ?_)
                          obtain ⟨h1, h2⟩ := h
                          rw [HF.out] at h1
                          exact gives h1 h2
                        simp only [Act.put, List.setIfInBounds_toArray, List.set_cons_zero, List.set_cons_succ]
                        first
                        | (refine g_skip rfl ?_)
                        | (refine g_look rfl rfl ?_ (fun w' hC => ?_) ?_
                           rotate_left
                           · go_simp
                             first | done | rfl)
                        simp only [Act.put, List.setIfInBounds_toArray, List.set_cons_zero, List.set_cons_succ]
                        refine g_look rfl rfl ?_ (fun w' hC => ?_) ?_
                        rotate_left
                        · go_simp
                          first | done | rfl
                        simp only [Act.put, List.setIfInBounds_toArray, List.set_cons_zero, List.set_cons_succ]
                        refine g_end ?_
                        intro w16 hC16 hh16
                        have S16 : Hid (Stays [(gr, Obj.cells #[.int .u64 0, .int .u64 0] 25 (0, 0)), (gx, Obj.cells #[.string ⟨sx.toArray⟩, .int .i64 tx0, .int .i64 (zx : Int)] 54 (0, 0)), (ga, Obj.cells #[.int .u64 a3, .int .u64 b3] 25 (0, 0))] w w16) := Lib.hid (stays_cons (stays_row hC16 (List.mem_cons_self ..)) (stays_cons (stays_row hC16 (List.mem_cons_of_mem _ (List.mem_cons_self ..))) (stays_cons (stays_row hC16 (List.mem_cons_of_mem _ (List.mem_cons_of_mem _ (List.mem_cons_self ..)))) (stays_nil (stays_below hC16)))))
                        clear S15
                        clear hC16 hh16
                        go_upto_region 24 with fail
                        refine reg_plain (Stays [(gx, Obj.cells #[.string ⟨sx.toArray⟩, .int .i64 tx0, .int .i64 (zx : Int)] 54 (0, 0)), (ga, Obj.cells #[.int .u64 a3, .int .u64 b3] 25 (0, 0))] w) (Turns [(gx, Obj.cells #[.string ⟨sx.toArray⟩, .int .i64 tx0, .int .i64 (zx : Int)] 54 (0, 0)), (ga, Obj.cells #[.int .u64 a3, .int .u64 b3] 25 (0, 0))] w) (kdOf [(1, .touch)]) (Own.has none0 gr (Obj.cells #[.int .u64 0, .int .u64 0] 25 (0, 0))) (stays_good _ _) (stays_cons (stays_row S16.out (List.mem_cons_of_mem _ (List.mem_cons_self ..))) (stays_cons (stays_row S16.out (List.mem_cons_of_mem _ (List.mem_cons_of_mem _ (List.mem_cons_self ..)))) (stays_nil (stays_below S16.out)))) (holds_has (holds0 _) (stays_row S16.out (List.mem_cons_self ..)) (turns_cons (turns_head tx.out).symm (turns_cons (turns_head ta.out).symm (turns_nil tr.out.2)))) ?_
                        refine g_look rfl rfl ?_ (fun w' hC => ?_) ?_
                        rotate_left
                        · go_simp
                          first | done | rfl
                        simp only [Act.put, List.setIfInBounds_toArray, List.set_cons_zero, List.set_cons_succ]
                        refine g_store gr none 25 25 _ _ #[.int .u64 0, .int .u64 0] #[.int .u64 0, .int .u64 0] rfl rfl rfl rfl rfl (has_same _ _ _) (by kernel_rfl) (rfl) (rfl) (one25 _ _) ?_
                        simp only [Act.put]
                        refine g_look rfl rfl ?_ (fun w' hC => ?_) ?_
                        rotate_left
                        · go_simp
                          first | done | rfl
                        simp only [Act.put, List.setIfInBounds_toArray, List.set_cons_zero, List.set_cons_succ]
                        refine g_end ?_
                        intro w17 hC17 hh17
                        have S17 : Hid (Stays [(gr, Obj.cells #[.int .u64 0, .int .u64 0] 25 (0, 0)), (gx, Obj.cells #[.string ⟨sx.toArray⟩, .int .i64 tx0, .int .i64 (zx : Int)] 54 (0, 0)), (ga, Obj.cells #[.int .u64 a3, .int .u64 b3] 25 (0, 0))] w w17) := Lib.hid (stays_cons ((hh17 _ _ _ (own_new _ _ _ _)).1) (stays_cons (stays_row hC17 (List.mem_cons_self ..)) (stays_cons (stays_row hC17 (List.mem_cons_of_mem _ (List.mem_cons_self ..))) (stays_nil (stays_below hC17)))))
                        clear S16
                        clear hC17 hh17
                        go_wp2_with fail
                        refine bodyPost_ret (v := .tuple #[.agg #[.int .u64 0, .int .u64 0], .int .i64 15]) (results_err8 (stays_head S17.out)) rfl ⟨congrArg Ending.returned (by rw [HVP2.out, if_neg (by have := of_decide_eq_false HF.out; rw [← HY.out]; exact this)]; rfl), stays_below S17.out⟩
                  · obtain ⟨e, he⟩ : ∃ e : Nat, tt.toNat = e := ⟨_, rfl⟩
                    obtain ⟨hwe, he1000⟩ := pos_facts htl1 hneg he
                    have hsc2 : scaled v tt zx = v * 10 ^ e * 2 ^ zx := by rw [scaled, if_neg hneg, he]
                    obtain ⟨a3, b3, ok3, he3, hua3, hub3, hyes, hno⟩ := up_open v e zx
                    have HCT : Hid (e ≤ 1000 ∧ zx ≤ 1000) := Lib.hid ⟨he1000, Nat.le_trans hz (by decide)⟩
                    clear he1000
                    rw [hsc2] at HVP2
                    have HZ := Lib.hid hz
                    have HE3 := Lib.hid he3
                    have HUA3 := Lib.hid hua3
                    have HUB3 := Lib.hid hub3
                    have HYES := Lib.hid hyes
                    have HNO := Lib.hid hno
                    clear he3 hua3 hub3 hyes hno hsc2 he hz HTZ htl0 htl1 hv28
                    subst hwe
                    go_upto_region 20 with fail
                    refine reg_plain (Stays [(gr, Obj.cells #[.int .u64 0, .int .u64 0] 25 (0, 0)), (gx, Obj.cells #[.string ⟨sx.toArray⟩, .int .i64 tx0, .int .i64 (zx : Int)] 54 (0, 0)), (ga, Obj.cells #[.int .u64 a, .int .u64 b] 25 (0, 0))] w) (Turns [(gr, Obj.cells #[.int .u64 0, .int .u64 0] 25 (0, 0)), (gx, Obj.cells #[.string ⟨sx.toArray⟩, .int .i64 tx0, .int .i64 (zx : Int)] 54 (0, 0)), (ga, Obj.cells #[.int .u64 a, .int .u64 b] 25 (0, 0))] w) (kdOf []) none0 (stays_good _ _) (S13.out) (holds0 _) ?_
                    refine g_look rfl rfl ?_ (fun w' hC => ?_) ?_
                    rotate_left
                    · go_simp
                      first | done | rfl
                    simp only [Act.put, List.setIfInBounds_toArray, List.set_cons_zero, List.set_cons_succ]
                    refine g_look rfl rfl (.bool false) (fun w' hC => ?_) ?_
                    · clear hC
                      go_simp
                      first | done | rfl
                    simp only [Act.put, List.setIfInBounds_toArray, List.set_cons_zero, List.set_cons_succ]
                    refine g_end ?_
                    intro w14 hC14 hh14
                    have S14 : Hid (Stays [(gr, Obj.cells #[.int .u64 0, .int .u64 0] 25 (0, 0)), (gx, Obj.cells #[.string ⟨sx.toArray⟩, .int .i64 tx0, .int .i64 (zx : Int)] 54 (0, 0)), (ga, Obj.cells #[.int .u64 a, .int .u64 b] 25 (0, 0))] w w14) := Lib.hid (stays_cons (stays_row hC14 (List.mem_cons_self ..)) (stays_cons (stays_row hC14 (List.mem_cons_of_mem _ (List.mem_cons_self ..))) (stays_cons (stays_row hC14 (List.mem_cons_of_mem _ (List.mem_cons_of_mem _ (List.mem_cons_self ..)))) (stays_nil (stays_below hC14)))))
                    clear S13
                    clear hC14 hh14
                    go_upto_region 22 with fail
                    refine reg_plain (Stays [(gr, Obj.cells #[.int .u64 0, .int .u64 0] 25 (0, 0)), (gx, Obj.cells #[.string ⟨sx.toArray⟩, .int .i64 tx0, .int .i64 (zx : Int)] 54 (0, 0))] w) (Turns [(gr, Obj.cells #[.int .u64 0, .int .u64 0] 25 (0, 0)), (gx, Obj.cells #[.string ⟨sx.toArray⟩, .int .i64 tx0, .int .i64 (zx : Int)] 54 (0, 0))] w) (kdOf [(0, .touch), (4, .make (fun _ => callM (.tuple #[.agg #[.int .u64 a3, .int .u64 b3], .bool ok3]))), (8, .touch)]) (Own.has none0 ga (Obj.cells #[.int .u64 a, .int .u64 b] 25 (0, 0))) (stays_good _ _) (stays_cons (stays_row S14.out (List.mem_cons_self ..)) (stays_cons (stays_row S14.out (List.mem_cons_of_mem _ (List.mem_cons_self ..))) (stays_nil (stays_below S14.out)))) (holds_has (holds0 _) (stays_row S14.out (List.mem_cons_of_mem _ (List.mem_cons_of_mem _ (List.mem_cons_self ..)))) ta.out) ?_
                    refine g_load_own 25 _ ga none 25 #[.int .u64 a, .int .u64 b] (0, 0) _ rfl rfl rfl rfl (has_same _ _ _) (by kernel_rfl) Try.underlying25 rfl (rfl) ?_
                    simp only [Act.put, List.setIfInBounds_toArray, List.set_cons_zero, List.set_cons_succ]
                    refine g_look rfl rfl ?_ (fun w' hC => ?_) ?_
                    rotate_left
                    · go_simp
                      first | done | rfl
                    simp only [Act.put, List.setIfInBounds_toArray, List.set_cons_zero, List.set_cons_succ]
                    refine g_look rfl rfl (.pointer (some ⟨gx, 2, none⟩)) (fun w' hC => ?_) ?_
                    · clear hC
                      go_simp
                      first | done | rfl | exact ⟨rfl, rfl⟩
                    simp only [Act.put, List.setIfInBounds_toArray, List.set_cons_zero, List.set_cons_succ]
                    refine g_look rfl rfl (.int .i64 (zx : Int)) (fun w' hC => ?_) ?_
                    · have c : w'.heap[gx]? = some (.cells #[.string ⟨sx.toArray⟩, .int .i64 tx0, .int .i64 (zx : Int)] 54 (0, 0)) := stays_row hC (List.mem_cons_of_mem _ (List.mem_cons_self ..))
                      have c0 : w'.cell? ⟨gx, 2, none⟩ = some (.int .i64 (zx : Int)) := (cell_of_row _ _ _ _ _ _ c).trans rfl
                      clear hC c
                      go_simp
                      first | done | rfl
                    simp only [Act.put, List.setIfInBounds_toArray, List.set_cons_zero, List.set_cons_succ]
                    refine g_call (stays_good _ _) (.tuple #[.agg #[.int .u64 a3, .int .u64 b3], .bool ok3]) rfl rfl (fun w' hC => ?_) ?_
                    · clear hC
                      go_simp
                      refine (tens_any _ a b v e zx HWV.out HUA.out HUB.out HCT.out.1 HCT.out.2).mono (fun e w2 h => ?_)
                      obtain ⟨h1, h2⟩ := h
                      rw [HE3.out] at h1
                      exact gives h1 h2
                    simp only [Act.put, List.setIfInBounds_toArray, List.set_cons_zero, List.set_cons_succ]
                    refine g_look rfl rfl ?_ (fun w' hC => ?_) ?_
                    rotate_left
                    · go_simp
                      first | done | rfl
                    simp only [Act.put, List.setIfInBounds_toArray, List.set_cons_zero, List.set_cons_succ]
                    refine g_look rfl rfl ?_ (fun w' hC => ?_) ?_
                    rotate_left
                    · go_simp
                      first | done | rfl
                    simp only [Act.put, List.setIfInBounds_toArray, List.set_cons_zero, List.set_cons_succ]
                    refine g_look rfl rfl ?_ (fun w' hC => ?_) ?_
                    rotate_left
                    · go_simp
                      first | done | rfl
                    simp only [Act.put, List.setIfInBounds_toArray, List.set_cons_zero, List.set_cons_succ]
                    refine g_store ga (some 0) 25 25 _ _ #[.int .u64 a, .int .u64 b] #[.int .u64 a3, .int .u64 b3] rfl rfl rfl rfl rfl (own_new _ _ _ _) (by kernel_rfl) (rfl) (rfl) (one25 _ _) ?_
                    simp only [Act.put]
                    refine g_look rfl rfl ?_ (fun w' hC => ?_) ?_
                    rotate_left
                    · go_simp
                      first | done | rfl
                    simp only [Act.put, List.setIfInBounds_toArray, List.set_cons_zero, List.set_cons_succ]
                    refine g_end ?_
                    intro w15 hC15 hh15
                    have S15 : Hid (Stays [(gr, Obj.cells #[.int .u64 0, .int .u64 0] 25 (0, 0)), (gx, Obj.cells #[.string ⟨sx.toArray⟩, .int .i64 tx0, .int .i64 (zx : Int)] 54 (0, 0)), (ga, Obj.cells #[.int .u64 a3, .int .u64 b3] 25 (0, 0))] w w15) := Lib.hid (stays_cons (stays_row hC15 (List.mem_cons_self ..)) (stays_cons (stays_row hC15 (List.mem_cons_of_mem _ (List.mem_cons_self ..))) (stays_cons ((hh15 _ _ _ (own_new _ _ _ _)).1) (stays_nil (stays_below hC15)))))
                    clear S14
                    clear hC15 hh15
                    cases ok3 with
                    | false =>
                      have HNN := Lib.hid (HNO.out rfl)
                      go_upto_region 23 with fail
                      refine reg_plain (Stays [(gr, Obj.cells #[.int .u64 0, .int .u64 0] 25 (0, 0)), (gx, Obj.cells #[.string ⟨sx.toArray⟩, .int .i64 tx0, .int .i64 (zx : Int)] 54 (0, 0)), (ga, Obj.cells #[.int .u64 a3, .int .u64 b3] 25 (0, 0))] w) (Turns [(gr, Obj.cells #[.int .u64 0, .int .u64 0] 25 (0, 0)), (gx, Obj.cells #[.string ⟨sx.toArray⟩, .int .i64 tx0, .int .i64 (zx : Int)] 54 (0, 0)), (ga, Obj.cells #[.int .u64 a3, .int .u64 b3] 25 (0, 0))] w) (kdOf []) none0 (stays_good _ _) (S15.out) (holds0 _) ?_
                      refine g_look rfl rfl ?_ (fun w' hC => ?_) ?_
                      rotate_left
                      · go_simp
                        first | done | rfl
                      simp only [Act.put, List.setIfInBounds_toArray, List.set_cons_zero, List.set_cons_succ]
                      refine g_look rfl rfl ?_ (fun w' hC => ?_) ?_
                      rotate_left
                      · go_simp
                        first | done | rfl
                      simp only [Act.put, List.setIfInBounds_toArray, List.set_cons_zero, List.set_cons_succ]
                      refine g_look rfl rfl ?_ (fun w' hC => ?_) ?_
                      rotate_left
                      · go_simp
                        first | done | rfl
                      simp only [Act.put, List.setIfInBounds_toArray, List.set_cons_zero, List.set_cons_succ]
                      first | (refine g_skip rfl ?_) | (refine g_load 25 _ ga 25 #[.int .u64 a3, .int .u64 b3] (0, 0) _ rfl rfl rfl rfl (fun w' hC => stays_row hC (List.mem_cons_of_mem _ (List.mem_cons_of_mem _ (List.mem_cons_self ..)))) Try.underlying25 rfl (rfl) ?_)
                      simp only [Act.put, List.setIfInBounds_toArray, List.set_cons_zero, List.set_cons_succ]
                      refine g_skip rfl ?_
                      simp only [Act.put, List.setIfInBounds_toArray, List.set_cons_zero, List.set_cons_succ]
                      first
                      | (refine g_skip rfl ?_)
                      | (refine g_look rfl rfl ?_ (fun w' hC => ?_) ?_
                         rotate_left
                         · go_simp
                           first | done | rfl)
                      simp only [Act.put, List.setIfInBounds_toArray, List.set_cons_zero, List.set_cons_succ]
                      refine g_look rfl rfl ?_ (fun w' hC => ?_) ?_
                      rotate_left
                      · go_simp
                        first | done | rfl
                      simp only [Act.put, List.setIfInBounds_toArray, List.set_cons_zero, List.set_cons_succ]
                      refine g_end ?_
                      intro w16 hC16 hh16
                      have S16 : Hid (Stays [(gr, Obj.cells #[.int .u64 0, .int .u64 0] 25 (0, 0)), (gx, Obj.cells #[.string ⟨sx.toArray⟩, .int .i64 tx0, .int .i64 (zx : Int)] 54 (0, 0)), (ga, Obj.cells #[.int .u64 a3, .int .u64 b3] 25 (0, 0))] w w16) := Lib.hid (stays_cons (stays_row hC16 (List.mem_cons_self ..)) (stays_cons (stays_row hC16 (List.mem_cons_of_mem _ (List.mem_cons_self ..))) (stays_cons (stays_row hC16 (List.mem_cons_of_mem _ (List.mem_cons_of_mem _ (List.mem_cons_self ..)))) (stays_nil (stays_below hC16)))))
                      clear S15
                      clear hC16 hh16
                      go_upto_region 24 with fail
                      refine reg_plain (Stays [(gx, Obj.cells #[.string ⟨sx.toArray⟩, .int .i64 tx0, .int .i64 (zx : Int)] 54 (0, 0)), (ga, Obj.cells #[.int .u64 a3, .int .u64 b3] 25 (0, 0))] w) (Turns [(gx, Obj.cells #[.string ⟨sx.toArray⟩, .int .i64 tx0, .int .i64 (zx : Int)] 54 (0, 0)), (ga, Obj.cells #[.int .u64 a3, .int .u64 b3] 25 (0, 0))] w) (kdOf [(1, .touch)]) (Own.has none0 gr (Obj.cells #[.int .u64 0, .int .u64 0] 25 (0, 0))) (stays_good _ _) (stays_cons (stays_row S16.out (List.mem_cons_of_mem _ (List.mem_cons_self ..))) (stays_cons (stays_row S16.out (List.mem_cons_of_mem _ (List.mem_cons_of_mem _ (List.mem_cons_self ..)))) (stays_nil (stays_below S16.out)))) (holds_has (holds0 _) (stays_row S16.out (List.mem_cons_self ..)) (turns_cons (turns_head tx.out).symm (turns_cons (turns_head ta.out).symm (turns_nil tr.out.2)))) ?_
                      refine g_look rfl rfl ?_ (fun w' hC => ?_) ?_
                      rotate_left
                      · go_simp
                        first | done | rfl
                      simp only [Act.put, List.setIfInBounds_toArray, List.set_cons_zero, List.set_cons_succ]
                      refine g_store gr none 25 25 _ _ #[.int .u64 0, .int .u64 0] #[.int .u64 0, .int .u64 0] rfl rfl rfl rfl rfl (has_same _ _ _) (by kernel_rfl) (rfl) (rfl) (one25 _ _) ?_
                      simp only [Act.put]
                      refine g_look rfl rfl ?_ (fun w' hC => ?_) ?_
                      rotate_left
                      · go_simp
                        first | done | rfl
                      simp only [Act.put, List.setIfInBounds_toArray, List.set_cons_zero, List.set_cons_succ]
                      refine g_end ?_
                      intro w17 hC17 hh17
                      have S17 : Hid (Stays [(gr, Obj.cells #[.int .u64 0, .int .u64 0] 25 (0, 0)), (gx, Obj.cells #[.string ⟨sx.toArray⟩, .int .i64 tx0, .int .i64 (zx : Int)] 54 (0, 0)), (ga, Obj.cells #[.int .u64 a3, .int .u64 b3] 25 (0, 0))] w w17) := Lib.hid (stays_cons ((hh17 _ _ _ (own_new _ _ _ _)).1) (stays_cons (stays_row hC17 (List.mem_cons_self ..)) (stays_cons (stays_row hC17 (List.mem_cons_of_mem _ (List.mem_cons_self ..))) (stays_nil (stays_below hC17)))))
                      clear S16
                      clear hC17 hh17
                      go_wp2_with fail
                      refine bodyPost_ret (v := .tuple #[.agg #[.int .u64 0, .int .u64 0], .int .i64 15]) (results_err8 (stays_head S17.out)) rfl ⟨congrArg Ending.returned (by rw [HVP2.out, if_neg (no_le HNN.out)]; rfl), stays_below S17.out⟩
                    | true =>
                      have HY := Lib.hid (HYES.out rfl)
                      by_cases hf : wval a3 b3 ≤ Most
                      · have HF : Hid (decide (wval a3 b3 ≤ Most) = true) := Lib.hid (decide_eq_true hf)
                        clear hf
                        go_upto_region 23 with fail
                        refine reg_plain (Stays [(gr, Obj.cells #[.int .u64 0, .int .u64 0] 25 (0, 0)), (gx, Obj.cells #[.string ⟨sx.toArray⟩, .int .i64 tx0, .int .i64 (zx : Int)] 54 (0, 0)), (ga, Obj.cells #[.int .u64 a3, .int .u64 b3] 25 (0, 0))] w) (Turns [(gr, Obj.cells #[.int .u64 0, .int .u64 0] 25 (0, 0)), (gx, Obj.cells #[.string ⟨sx.toArray⟩, .int .i64 tx0, .int .i64 (zx : Int)] 54 (0, 0)), (ga, Obj.cells #[.int .u64 a3, .int .u64 b3] 25 (0, 0))] w) (kdOf [(4, .make (fun _ => callM (.bool true)))]) none0 (stays_good _ _) (S15.out) (holds0 _) ?_
                        refine g_look rfl rfl ?_ (fun w' hC => ?_) ?_
                        rotate_left
                        · go_simp
                          first | done | rfl
                        simp only [Act.put, List.setIfInBounds_toArray, List.set_cons_zero, List.set_cons_succ]
                        refine g_look rfl rfl ?_ (fun w' hC => ?_) ?_
                        rotate_left
                        · go_simp
                          first | done | rfl
                        simp only [Act.put, List.setIfInBounds_toArray, List.set_cons_zero, List.set_cons_succ]
                        refine g_look rfl rfl ?_ (fun w' hC => ?_) ?_
                        rotate_left
                        · go_simp
                          first | done | rfl
                        simp only [Act.put, List.setIfInBounds_toArray, List.set_cons_zero, List.set_cons_succ]
                        first | (refine g_skip rfl ?_) | (refine g_load 25 _ ga 25 #[.int .u64 a3, .int .u64 b3] (0, 0) _ rfl rfl rfl rfl (fun w' hC => stays_row hC (List.mem_cons_of_mem _ (List.mem_cons_of_mem _ (List.mem_cons_self ..)))) Try.underlying25 rfl (rfl) ?_)
                        simp only [Act.put, List.setIfInBounds_toArray, List.set_cons_zero, List.set_cons_succ]
                        refine g_call (stays_good _ _) (.bool true) rfl rfl (fun w' hC => ?_) ?_
                        · clear hC
                          go_simp
                          refine (fits_any _ a3 b3 HUA3.out HUB3.out).mono (fun e w2 h => ?_)
                          obtain ⟨h1, h2⟩ := h
                          rw [HF.out] at h1
                          exact gives h1 h2
                        simp only [Act.put, List.setIfInBounds_toArray, List.set_cons_zero, List.set_cons_succ]
                        first
                        | (refine g_skip rfl ?_)
                        | (refine g_look rfl rfl ?_ (fun w' hC => ?_) ?_
                           rotate_left
                           · go_simp
                             first | done | rfl)
                        simp only [Act.put, List.setIfInBounds_toArray, List.set_cons_zero, List.set_cons_succ]
                        refine g_look rfl rfl ?_ (fun w' hC => ?_) ?_
                        rotate_left
                        · go_simp
                          first | done | rfl
                        simp only [Act.put, List.setIfInBounds_toArray, List.set_cons_zero, List.set_cons_succ]
                        refine g_end ?_
                        intro w16 hC16 hh16
                        have S16 : Hid (Stays [(gr, Obj.cells #[.int .u64 0, .int .u64 0] 25 (0, 0)), (gx, Obj.cells #[.string ⟨sx.toArray⟩, .int .i64 tx0, .int .i64 (zx : Int)] 54 (0, 0)), (ga, Obj.cells #[.int .u64 a3, .int .u64 b3] 25 (0, 0))] w w16) := Lib.hid (stays_cons (stays_row hC16 (List.mem_cons_self ..)) (stays_cons (stays_row hC16 (List.mem_cons_of_mem _ (List.mem_cons_self ..))) (stays_cons (stays_row hC16 (List.mem_cons_of_mem _ (List.mem_cons_of_mem _ (List.mem_cons_self ..)))) (stays_nil (stays_below hC16)))))
                        clear S15
                        clear hC16 hh16
                        go_upto_region 25 with fail
                        refine reg_plain (Stays [(gx, Obj.cells #[.string ⟨sx.toArray⟩, .int .i64 tx0, .int .i64 (zx : Int)] 54 (0, 0)), (ga, Obj.cells #[.int .u64 a3, .int .u64 b3] 25 (0, 0))] w) (Turns [(gx, Obj.cells #[.string ⟨sx.toArray⟩, .int .i64 tx0, .int .i64 (zx : Int)] 54 (0, 0)), (ga, Obj.cells #[.int .u64 a3, .int .u64 b3] 25 (0, 0))] w) (kdOf [(1, .touch)]) (Own.has none0 gr (Obj.cells #[.int .u64 0, .int .u64 0] 25 (0, 0))) (stays_good _ _) (stays_cons (stays_row S16.out (List.mem_cons_of_mem _ (List.mem_cons_self ..))) (stays_cons (stays_row S16.out (List.mem_cons_of_mem _ (List.mem_cons_of_mem _ (List.mem_cons_self ..)))) (stays_nil (stays_below S16.out)))) (holds_has (holds0 _) (stays_row S16.out (List.mem_cons_self ..)) (turns_cons (turns_head tx.out).symm (turns_cons (turns_head ta.out).symm (turns_nil tr.out.2)))) ?_
                        (refine g_load 25 _ ga 25 #[.int .u64 a3, .int .u64 b3] (0, 0) _ rfl rfl rfl rfl (fun w' hC => stays_row hC (List.mem_cons_of_mem _ (List.mem_cons_self ..))) Try.underlying25 rfl (rfl) ?_)
                        simp only [Act.put, List.setIfInBounds_toArray, List.set_cons_zero, List.set_cons_succ]
                        refine g_store gr none 25 25 _ _ #[.int .u64 0, .int .u64 0] #[.int .u64 a3, .int .u64 b3] rfl rfl rfl rfl rfl (has_same _ _ _) (by kernel_rfl) (rfl) (rfl) (one25 _ _) ?_
                        simp only [Act.put]
                        refine g_look rfl rfl ?_ (fun w' hC => ?_) ?_
                        rotate_left
                        · go_simp
                          first | done | rfl
                        simp only [Act.put, List.setIfInBounds_toArray, List.set_cons_zero, List.set_cons_succ]
                        refine g_end ?_
                        intro w17 hC17 hh17
                        have S17 : Hid (Stays [(gr, Obj.cells #[.int .u64 a3, .int .u64 b3] 25 (0, 0)), (gx, Obj.cells #[.string ⟨sx.toArray⟩, .int .i64 tx0, .int .i64 (zx : Int)] 54 (0, 0)), (ga, Obj.cells #[.int .u64 a3, .int .u64 b3] 25 (0, 0))] w w17) := Lib.hid (stays_cons ((hh17 _ _ _ (own_new _ _ _ _)).1) (stays_cons (stays_row hC17 (List.mem_cons_self ..)) (stays_cons (stays_row hC17 (List.mem_cons_of_mem _ (List.mem_cons_self ..))) (stays_nil (stays_below hC17)))))
                        clear S16
                        clear hC17 hh17
                        go_wp2_with fail
                        refine bodyPost_ret (v := .tuple #[.agg #[.int .u64 a3, .int .u64 b3], .int .i64 0]) (results_err8 (stays_row S17.out (List.mem_cons_self ..))) rfl ⟨congrArg Ending.returned (by rw [HVP2.out, if_pos (by have := of_decide_eq_true HF.out; rw [← HY.out]; exact this), ← wval_wn HUA3.out HUB3.out HY.out]; rfl), stays_below S17.out⟩
                      · have HF : Hid (decide (wval a3 b3 ≤ Most) = false) := Lib.hid (decide_eq_false hf)
                        clear hf
                        go_upto_region 23 with fail
                        refine reg_plain (Stays [(gr, Obj.cells #[.int .u64 0, .int .u64 0] 25 (0, 0)), (gx, Obj.cells #[.string ⟨sx.toArray⟩, .int .i64 tx0, .int .i64 (zx : Int)] 54 (0, 0)), (ga, Obj.cells #[.int .u64 a3, .int .u64 b3] 25 (0, 0))] w) (Turns [(gr, Obj.cells #[.int .u64 0, .int .u64 0] 25 (0, 0)), (gx, Obj.cells #[.string ⟨sx.toArray⟩, .int .i64 tx0, .int .i64 (zx : Int)] 54 (0, 0)), (ga, Obj.cells #[.int .u64 a3, .int .u64 b3] 25 (0, 0))] w) (kdOf [(4, .make (fun _ => callM (.bool false)))]) none0 (stays_good _ _) (S15.out) (holds0 _) ?_
                        refine g_look rfl rfl ?_ (fun w' hC => ?_) ?_
                        rotate_left
                        · go_simp
                          first | done | rfl
                        simp only [Act.put, List.setIfInBounds_toArray, List.set_cons_zero, List.set_cons_succ]
                        refine g_look rfl rfl ?_ (fun w' hC => ?_) ?_
                        rotate_left
                        · go_simp
                          first | done | rfl
                        simp only [Act.put, List.setIfInBounds_toArray, List.set_cons_zero, List.set_cons_succ]
                        refine g_look rfl rfl ?_ (fun w' hC => ?_) ?_
                        rotate_left
                        · go_simp
                          first | done | rfl
                        simp only [Act.put, List.setIfInBounds_toArray, List.set_cons_zero, List.set_cons_succ]
                        first | (refine g_skip rfl ?_) | (refine g_load 25 _ ga 25 #[.int .u64 a3, .int .u64 b3] (0, 0) _ rfl rfl rfl rfl (fun w' hC => stays_row hC (List.mem_cons_of_mem _ (List.mem_cons_of_mem _ (List.mem_cons_self ..)))) Try.underlying25 rfl (rfl) ?_)
                        simp only [Act.put, List.setIfInBounds_toArray, List.set_cons_zero, List.set_cons_succ]
                        refine g_call (stays_good _ _) (.bool false) rfl rfl (fun w' hC => ?_) ?_
                        · clear hC
                          go_simp
                          refine (fits_any _ a3 b3 HUA3.out HUB3.out).mono (fun e w2 h => ?_)
                          obtain ⟨h1, h2⟩ := h
                          rw [HF.out] at h1
                          exact gives h1 h2
                        simp only [Act.put, List.setIfInBounds_toArray, List.set_cons_zero, List.set_cons_succ]
                        first
                        | (refine g_skip rfl ?_)
                        | (refine g_look rfl rfl ?_ (fun w' hC => ?_) ?_
                           rotate_left
                           · go_simp
                             first | done | rfl)
                        simp only [Act.put, List.setIfInBounds_toArray, List.set_cons_zero, List.set_cons_succ]
                        refine g_look rfl rfl ?_ (fun w' hC => ?_) ?_
                        rotate_left
                        · go_simp
                          first | done | rfl
                        simp only [Act.put, List.setIfInBounds_toArray, List.set_cons_zero, List.set_cons_succ]
                        refine g_end ?_
                        intro w16 hC16 hh16
                        have S16 : Hid (Stays [(gr, Obj.cells #[.int .u64 0, .int .u64 0] 25 (0, 0)), (gx, Obj.cells #[.string ⟨sx.toArray⟩, .int .i64 tx0, .int .i64 (zx : Int)] 54 (0, 0)), (ga, Obj.cells #[.int .u64 a3, .int .u64 b3] 25 (0, 0))] w w16) := Lib.hid (stays_cons (stays_row hC16 (List.mem_cons_self ..)) (stays_cons (stays_row hC16 (List.mem_cons_of_mem _ (List.mem_cons_self ..))) (stays_cons (stays_row hC16 (List.mem_cons_of_mem _ (List.mem_cons_of_mem _ (List.mem_cons_self ..)))) (stays_nil (stays_below hC16)))))
                        clear S15
                        clear hC16 hh16
                        go_upto_region 24 with fail
                        refine reg_plain (Stays [(gx, Obj.cells #[.string ⟨sx.toArray⟩, .int .i64 tx0, .int .i64 (zx : Int)] 54 (0, 0)), (ga, Obj.cells #[.int .u64 a3, .int .u64 b3] 25 (0, 0))] w) (Turns [(gx, Obj.cells #[.string ⟨sx.toArray⟩, .int .i64 tx0, .int .i64 (zx : Int)] 54 (0, 0)), (ga, Obj.cells #[.int .u64 a3, .int .u64 b3] 25 (0, 0))] w) (kdOf [(1, .touch)]) (Own.has none0 gr (Obj.cells #[.int .u64 0, .int .u64 0] 25 (0, 0))) (stays_good _ _) (stays_cons (stays_row S16.out (List.mem_cons_of_mem _ (List.mem_cons_self ..))) (stays_cons (stays_row S16.out (List.mem_cons_of_mem _ (List.mem_cons_of_mem _ (List.mem_cons_self ..)))) (stays_nil (stays_below S16.out)))) (holds_has (holds0 _) (stays_row S16.out (List.mem_cons_self ..)) (turns_cons (turns_head tx.out).symm (turns_cons (turns_head ta.out).symm (turns_nil tr.out.2)))) ?_
                        refine g_look rfl rfl ?_ (fun w' hC => ?_) ?_
                        rotate_left
                        · go_simp
                          first | done | rfl
                        simp only [Act.put, List.setIfInBounds_toArray, List.set_cons_zero, List.set_cons_succ]
                        refine g_store gr none 25 25 _ _ #[.int .u64 0, .int .u64 0] #[.int .u64 0, .int .u64 0] rfl rfl rfl rfl rfl (has_same _ _ _) (by kernel_rfl) (rfl) (rfl) (one25 _ _) ?_
                        simp only [Act.put]
                        refine g_look rfl rfl ?_ (fun w' hC => ?_) ?_
                        rotate_left
                        · go_simp
                          first | done | rfl
                        simp only [Act.put, List.setIfInBounds_toArray, List.set_cons_zero, List.set_cons_succ]
                        refine g_end ?_
                        intro w17 hC17 hh17
                        have S17 : Hid (Stays [(gr, Obj.cells #[.int .u64 0, .int .u64 0] 25 (0, 0)), (gx, Obj.cells #[.string ⟨sx.toArray⟩, .int .i64 tx0, .int .i64 (zx : Int)] 54 (0, 0)), (ga, Obj.cells #[.int .u64 a3, .int .u64 b3] 25 (0, 0))] w w17) := Lib.hid (stays_cons ((hh17 _ _ _ (own_new _ _ _ _)).1) (stays_cons (stays_row hC17 (List.mem_cons_self ..)) (stays_cons (stays_row hC17 (List.mem_cons_of_mem _ (List.mem_cons_self ..))) (stays_nil (stays_below hC17)))))
                        clear S16
                        clear hC17 hh17
                        go_wp2_with fail
                        refine bodyPost_ret (v := .tuple #[.agg #[.int .u64 0, .int .u64 0], .int .i64 15]) (results_err8 (stays_head S17.out)) rfl ⟨congrArg Ending.returned (by rw [HVP2.out, if_neg (by have := of_decide_eq_false HF.out; rw [← HY.out]; exact this)]; rfl), stays_below S17.out⟩
        · have HSC := Lib.hid hsc
          have HSP := Lib.hid hsp
          clear hsc hsp
          go_upto_region 7 with fail
          refine reg_plain (Stays [(gr, Obj.cells #[.int .u64 0, .int .u64 0] 25 (0, 0))] w) (Turns [(gr, Obj.cells #[.int .u64 0, .int .u64 0] 25 (0, 0))] w) (kdOf [(1, .make (fun _ => callM (.tuple #[.agg #[.string ⟨sx.toArray⟩, .int .i64 tx0, .int .i64 (zx : Int)], .bool false]))), (5, .make (fun _ => allocM (.cells Z3 54))), (6, .touch)]) none0 (stays_good _ _) (S6.out) (holds0 _) ?_
          refine g_look rfl rfl ?_ (fun w' hC => ?_) ?_
          rotate_left
          · go_simp
            first | done | rfl
          simp only [Act.put, List.setIfInBounds_toArray, List.set_cons_zero, List.set_cons_succ]
          refine g_call (stays_good _ _) (.tuple #[.agg #[.string ⟨sx.toArray⟩, .int .i64 tx0, .int .i64 (zx : Int)], .bool false]) rfl rfl (fun w' hC => ?_) ?_
          · clear hC
            go_simp
            refine (scale_any _ R2 HLS.out).mono (fun e w2 h => ?_)
            obtain ⟨h1, h2⟩ := h
            rw [HSC.out] at h1
            exact gives h1 h2
          simp only [Act.put, List.setIfInBounds_toArray, List.set_cons_zero, List.set_cons_succ]
          refine g_look rfl rfl ?_ (fun w' hC => ?_) ?_
          rotate_left
          · go_simp
            first | done | rfl
          simp only [Act.put, List.setIfInBounds_toArray, List.set_cons_zero, List.set_cons_succ]
          refine g_look rfl rfl ?_ (fun w' hC => ?_) ?_
          rotate_left
          · go_simp
            first | done | rfl
          simp only [Act.put, List.setIfInBounds_toArray, List.set_cons_zero, List.set_cons_succ]
          refine g_look rfl rfl ?_ (fun w' hC => ?_) ?_
          rotate_left
          · go_simp
            first | done | rfl
          simp only [Act.put, List.setIfInBounds_toArray, List.set_cons_zero, List.set_cons_succ]
          refine g_alloc (stays_good _ _) (.cells Z3 54) rfl rfl (fun w' hC => ?_) (fun gx tx nx => ?_)
          · clear hC
            go_simp
            first | done | rfl | exact ⟨rfl, rfl⟩
          clear nx
          replace tx := Lib.hid tx
          simp only [Act.put, List.setIfInBounds_toArray, List.set_cons_zero, List.set_cons_succ]
          refine g_store gx (some 5) 54 54 _ _ Z3 #[.string ⟨sx.toArray⟩, .int .i64 tx0, .int .i64 (zx : Int)] rfl rfl rfl rfl rfl (own_new _ _ _ _) (by kernel_rfl) (rfl) (rfl) ((by simp [Value.oneCell'])) ?_
          simp only [Act.put]
          refine g_look rfl rfl ?_ (fun w' hC => ?_) ?_
          rotate_left
          · go_simp
            first | done | rfl
          simp only [Act.put, List.setIfInBounds_toArray, List.set_cons_zero, List.set_cons_succ]
          refine g_end ?_
          intro w7 hC7 hh7
          have S7 : Hid (Stays [(gr, Obj.cells #[.int .u64 0, .int .u64 0] 25 (0, 0)), (gx, Obj.cells #[.string ⟨sx.toArray⟩, .int .i64 tx0, .int .i64 (zx : Int)] 54 (0, 0))] w w7) := Lib.hid (stays_cons (stays_row hC7 (List.mem_cons_self ..)) (stays_cons ((hh7 _ _ _ (own_new _ _ _ _)).1) (stays_nil (stays_below hC7))))
          clear S6
          clear hC7 hh7
          go_upto_region 8 with fail
          refine reg_plain (Stays [(gr, Obj.cells #[.int .u64 0, .int .u64 0] 25 (0, 0)), (gx, Obj.cells #[.string ⟨sx.toArray⟩, .int .i64 tx0, .int .i64 (zx : Int)] 54 (0, 0))] w) (Turns [(gr, Obj.cells #[.int .u64 0, .int .u64 0] 25 (0, 0)), (gx, Obj.cells #[.string ⟨sx.toArray⟩, .int .i64 tx0, .int .i64 (zx : Int)] 54 (0, 0))] w) (kdOf []) none0 (stays_good _ _) (S7.out) (holds0 _) ?_
          refine g_look rfl rfl ?_ (fun w' hC => ?_) ?_
          rotate_left
          · go_simp
            first | done | rfl
          simp only [Act.put, List.setIfInBounds_toArray, List.set_cons_zero, List.set_cons_succ]
          refine g_look rfl rfl ?_ (fun w' hC => ?_) ?_
          rotate_left
          · go_simp
            first | done | rfl
          simp only [Act.put, List.setIfInBounds_toArray, List.set_cons_zero, List.set_cons_succ]
          refine g_look rfl rfl ?_ (fun w' hC => ?_) ?_
          rotate_left
          · go_simp
            first | done | rfl
          simp only [Act.put, List.setIfInBounds_toArray, List.set_cons_zero, List.set_cons_succ]
          first
          | (refine g_skip rfl ?_)
          | (refine g_look rfl rfl ?_ (fun w' hC => ?_) ?_
             rotate_left
             · go_simp
               first | done | rfl)
          simp only [Act.put, List.setIfInBounds_toArray, List.set_cons_zero, List.set_cons_succ]
          first
          | (refine g_skip rfl ?_)
          | (refine g_look rfl rfl ?_ (fun w' hC => ?_) ?_
             rotate_left
             · go_simp
               first | done | rfl)
          simp only [Act.put, List.setIfInBounds_toArray, List.set_cons_zero, List.set_cons_succ]
          first
          | (refine g_skip rfl ?_)
          | (refine g_look rfl rfl ?_ (fun w' hC => ?_) ?_
             rotate_left
             · go_simp
               first | done | rfl)
          simp only [Act.put, List.setIfInBounds_toArray, List.set_cons_zero, List.set_cons_succ]
          first
          | (refine g_skip rfl ?_)
          | (refine g_look rfl rfl ?_ (fun w' hC => ?_) ?_
             rotate_left
             · go_simp
               first | done | rfl)
          simp only [Act.put, List.setIfInBounds_toArray, List.set_cons_zero, List.set_cons_succ]
          refine g_look rfl rfl ?_ (fun w' hC => ?_) ?_
          rotate_left
          · go_simp
            first | done | rfl
          simp only [Act.put, List.setIfInBounds_toArray, List.set_cons_zero, List.set_cons_succ]
          refine g_look rfl rfl ?_ (fun w' hC => ?_) ?_
          rotate_left
          · go_simp
            first | done | rfl
          simp only [Act.put, List.setIfInBounds_toArray, List.set_cons_zero, List.set_cons_succ]
          refine g_end ?_
          intro w8 hC8 hh8
          have S8 : Hid (Stays [(gr, Obj.cells #[.int .u64 0, .int .u64 0] 25 (0, 0)), (gx, Obj.cells #[.string ⟨sx.toArray⟩, .int .i64 tx0, .int .i64 (zx : Int)] 54 (0, 0))] w w8) := Lib.hid (stays_cons (stays_row hC8 (List.mem_cons_self ..)) (stays_cons (stays_row hC8 (List.mem_cons_of_mem _ (List.mem_cons_self ..))) (stays_nil (stays_below hC8))))
          clear S7
          clear hC8 hh8
          go_upto_region 9 with fail
          refine reg_plain (Stays [(gx, Obj.cells #[.string ⟨sx.toArray⟩, .int .i64 tx0, .int .i64 (zx : Int)] 54 (0, 0))] w) (Turns [(gx, Obj.cells #[.string ⟨sx.toArray⟩, .int .i64 tx0, .int .i64 (zx : Int)] 54 (0, 0))] w) (kdOf [(1, .touch)]) (Own.has none0 gr (Obj.cells #[.int .u64 0, .int .u64 0] 25 (0, 0))) (stays_good _ _) (stays_cons (stays_row S8.out (List.mem_cons_of_mem _ (List.mem_cons_self ..))) (stays_nil (stays_below S8.out))) (holds_has (holds0 _) (stays_row S8.out (List.mem_cons_self ..)) (turns_cons (turns_head tx.out).symm (turns_nil tr.out.2))) ?_
          refine g_look rfl rfl ?_ (fun w' hC => ?_) ?_
          rotate_left
          · go_simp
            first | done | rfl
          simp only [Act.put, List.setIfInBounds_toArray, List.set_cons_zero, List.set_cons_succ]
          refine g_store gr none 25 25 _ _ #[.int .u64 0, .int .u64 0] #[.int .u64 0, .int .u64 0] rfl rfl rfl rfl rfl (has_same _ _ _) (by kernel_rfl) (rfl) (rfl) (one25 _ _) ?_
          simp only [Act.put]
          refine g_look rfl rfl ?_ (fun w' hC => ?_) ?_
          rotate_left
          · go_simp
            first | done | rfl
          simp only [Act.put, List.setIfInBounds_toArray, List.set_cons_zero, List.set_cons_succ]
          refine g_end ?_
          intro w9 hC9 hh9
          have S9 : Hid (Stays [(gr, Obj.cells #[.int .u64 0, .int .u64 0] 25 (0, 0)), (gx, Obj.cells #[.string ⟨sx.toArray⟩, .int .i64 tx0, .int .i64 (zx : Int)] 54 (0, 0))] w w9) := Lib.hid (stays_cons ((hh9 _ _ _ (own_new _ _ _ _)).1) (stays_cons (stays_row hC9 (List.mem_cons_self ..)) (stays_nil (stays_below hC9))))
          clear S8
          clear hC9 hh9
          go_wp2_with fail
          refine bodyPost_ret (v := .tuple #[.agg #[.int .u64 0, .int .u64 0], .int .i64 11]) (results_err8 (stays_head S9.out)) rfl ⟨congrArg Ending.returned (by rw [← HVP.out, parseW, HSP.out]; rfl), stays_below S9.out⟩
end Go.Proofs.Ythpdfacdjgkmpaa.Wi
