/- Amounts: times a power of two, by a power of ten, rounded up, by a walk. -/
import Derived.Test.YthpdfacdjgkmpaaEc
namespace Go.Proofs.Ythpdfacdjgkmpaa.Wi
open Go.RowKit K

attribute [local go_sem] lookTo stepTo Maker.step
theorem results_opt31 {W : World} {g : Nat} {x y : Value} {t : Bool} {tmps : Array Value} (h : W.heap[g]? = some (.cells #[x, y] 25 (0, 0))) (i24 : (Try.prog.info? 25).map (·.size) = some 2 := by rfl) (e4 : tmps.getD 6 undef = .pointer (some ⟨g, 0, none⟩) := by rfl) (e5 : tmps.getD 7 undef = .bool t := by rfl) :
    (results Try.f31 tmps).run Try.prog W = .ok (.tuple #[.agg #[x, y], .bool t]) W := by
  have h' := run_loadVar_row (P := Try.prog) W g 25 25 _ (0, 0) _ h Try.underlying25 rfl i24
  have e4' : tmps[6]?.getD undef = .pointer (some ⟨g, 0, none⟩) := by simpa using e4
  have e5' : tmps[7]?.getD undef = .bool t := by simpa using e5
  simp [results, Try.results31, e4', e5', asAddr, h']
theorem tuple2 {a b c d : Value} (h : Value.tuple #[a, b] = .tuple #[c, d]) : a = c ∧ b = d := by
  injection h with h
  simpa using h
theorem byUp_le {X e : Nat} : byUp X e ≤ X := by
  unfold byUp
  have h1 := Nat.div_add_mod X (10 ^ e)
  have h2 : 1 ≤ 10 ^ e := Nat.pow_pos (by decide)
  have h3 : X / 10 ^ e ≤ 10 ^ e * (X / 10 ^ e) := Nat.le_mul_of_pos_left _ h2
  split <;> omega
/-- By a power of ten, times one of two. -/
def downV (X t z : Nat) : Value := if z = 0 then .tuple #[wn (byUp X t : Nat), .bool true] else
  if ((X / 10 ^ t * 2 ^ z : Nat) : Int) < Lim then optV ((X / 10 ^ t * 2 ^ z + byUp (X % 10 ^ t * 2 ^ z) t : Nat) : Int) (((X / 10 ^ t * 2 ^ z + byUp (X % 10 ^ t * 2 ^ z) t : Nat) : Int) < 340282366920938463463374607431768211456)
  else .tuple #[wn (byUp (X % 10 ^ t * 2 ^ z) t : Nat), .bool false]
theorem left_open {X z : Nat} : ∃ (x1 x2 : Int) (ok : Bool), leftV (X : Int) (z : Int) = .tuple #[.agg #[.int .u64 x1, .int .u64 x2], .bool ok] ∧ U x1 ∧ U x2 ∧ (((X * 2 ^ z : Nat) : Int) < Lim → ok = true ∧ wval x1 x2 = ((X * 2 ^ z : Nat) : Int)) ∧ (¬ ((X * 2 ^ z : Nat) : Int) < Lim → ok = false ∧ x1 = 0 ∧ x2 = 0) := by
  have e1 : (X : Int) * 2 ^ ((z : Int).toNat) = ((X * 2 ^ z : Nat) : Int) := by simp
  have hz : (0 : Int) ≤ (z : Int) := by omega
  unfold leftV
  rw [e1]
  by_cases h : ((X * 2 ^ z : Nat) : Int) < Lim
  · obtain ⟨a, b, ha, hb, hv, he⟩ := opt_open (Int.natCast_nonneg (X * 2 ^ z)) h
    refine ⟨a, b, true, ?_, ha, hb, fun _ => ⟨rfl, hv⟩, fun h' => absurd h h'⟩
    rw [← he]
    unfold optV
    simp [hz]
  · refine ⟨0, 0, false, ?_, u_zero, u_zero, fun h' => absurd h' h, fun _ => ⟨rfl, rfl, rfl⟩⟩
    unfold optV
    rw [if_neg (fun h' => h h'.2)]
    rfl
set_option maxHeartbeats 4000000 in
set_option maxRecDepth 100000 in
theorem down_zero (w : World) (a0 b0 : Int) (X t : Nat) (hX : wval a0 b0 = (X : Int)) (ha : U a0) (hb : U b0) (ht : t ≤ 1000) : Calls Try.prog 31 #[wv a0 b0, .int .i64 t, .int .i64 0] w (Ret w (downV X t 0)) := by
  have hl : ((byUp X t : Nat) : Int) < Lim := Int.lt_of_le_of_lt (Int.ofNat_le.2 byUp_le) (by rw [← hX]; exact (wval_lt ha hb).2)
  obtain ⟨p1, p2, _, _, _, he⟩ := wn_open (Int.natCast_nonneg (byUp X t)) hl
  have hd : downV X t 0 = .tuple #[.agg #[.int .u64 p1, .int .u64 p2], .bool true] := by rw [downV, if_pos rfl, he]
  rw [hd]
  have HX := Lib.hid hX
  have HE := Lib.hid he
  have HA := Lib.hid ha
  have HB := Lib.hid hb
  clear hX ha hb he hl hd
  have S0 : Hid (Stays [] w w) := Lib.hid (stays_nil (Below.refl _ _))
  go_enter Try.func31, Try.ntmps31
  go_upto_region 0 with fail
  refine reg_plain (Stays [] w) (Turns [] w) (kdOf [(0, .make (fun _ => allocM (.cells #[.int .u64 a0, .int .u64 b0] 25))), (1, .make (fun _ => allocM (.cells #[.int .u64 0, .int .u64 0] 25)))]) none0 (stays_good _ _) (S0.out) (holds0 _) ?_
  refine g_alloc (stays_good _ _) (.cells #[.int .u64 a0, .int .u64 b0] 25) rfl rfl (fun w' hC => ?_) (fun gx tx nx => ?_)
  · clear hC
    go_simp
    first | done | rfl | exact ⟨rfl, rfl⟩
  clear nx
  replace tx := Lib.hid tx
  simp only [Act.put, List.setIfInBounds_toArray, List.set_cons_zero, List.set_cons_succ]
  refine g_alloc (stays_good _ _) (.cells #[.int .u64 0, .int .u64 0] 25) rfl rfl (fun w' hC => ?_) (fun gr tr nr => ?_)
  · clear hC
    go_simp
    first | done | rfl | exact ⟨rfl, rfl⟩
  obtain ⟨d_x_r, nr⟩ := own_none nr
  clear nr
  replace tr := Lib.hid tr
  simp only [Act.put, List.setIfInBounds_toArray, List.set_cons_zero, List.set_cons_succ]
  refine g_look rfl rfl ?_ (fun w' hC => ?_) ?_
  rotate_left
  · go_simp
    first | done | rfl
  simp only [Act.put, List.setIfInBounds_toArray, List.set_cons_zero, List.set_cons_succ]
  refine g_end ?_
  intro w1 hC1 hh1
  have S1 : Hid (Stays [(gx, Obj.cells #[.int .u64 a0, .int .u64 b0] 25 (0, 0)), (gr, Obj.cells #[.int .u64 0, .int .u64 0] 25 (0, 0))] w w1) := Lib.hid (stays_cons ((hh1 _ _ _ ((own_off _ (Ne.symm d_x_r)).trans (own_new _ _ _ _))).1) (stays_cons ((hh1 _ _ _ (own_new _ _ _ _)).1) (stays_nil (stays_below hC1))))
  clear hC1 hh1
  go_upto_region 2 with fail
  refine reg_plain (Stays [(gx, Obj.cells #[.int .u64 a0, .int .u64 b0] 25 (0, 0))] w) (Turns [(gx, Obj.cells #[.int .u64 a0, .int .u64 b0] 25 (0, 0))] w) (kdOf [(2, .make (fun _ => callM (.agg #[.int .u64 p1, .int .u64 p2]))), (3, .touch)]) (Own.has none0 gr (Obj.cells #[.int .u64 0, .int .u64 0] 25 (0, 0))) (stays_good _ _) (stays_cons (stays_row S1.out (List.mem_cons_self ..)) (stays_nil (stays_below S1.out))) (holds_has (holds0 _) (stays_row S1.out (List.mem_cons_of_mem _ (List.mem_cons_self ..))) (turns_cons d_x_r (turns_nil tr.out.2))) ?_
  (refine g_load 25 _ gx 25 #[.int .u64 a0, .int .u64 b0] (0, 0) _ rfl rfl rfl rfl (fun w' hC => stays_row hC (List.mem_cons_self ..)) Try.underlying25 rfl (rfl) ?_)
  simp only [Act.put, List.setIfInBounds_toArray, List.set_cons_zero, List.set_cons_succ]
  refine g_look rfl rfl ?_ (fun w' hC => ?_) ?_
  rotate_left
  · go_simp
    first | done | rfl
  simp only [Act.put, List.setIfInBounds_toArray, List.set_cons_zero, List.set_cons_succ]
  refine g_call (stays_good _ _) (.agg #[.int .u64 p1, .int .u64 p2]) rfl rfl (fun w' hC => ?_) ?_
  · clear hC
    go_simp
    refine (up_any _ a0 b0 X t HX.out HA.out HB.out ht).mono (fun e w2 h => ?_)
    obtain ⟨h1, h2⟩ := h
    rw [HE.out] at h1
    exact gives h1 h2
  simp only [Act.put, List.setIfInBounds_toArray, List.set_cons_zero, List.set_cons_succ]
  refine g_store gr none 25 25 _ _ #[.int .u64 0, .int .u64 0] #[.int .u64 p1, .int .u64 p2] rfl rfl rfl rfl rfl (has_same _ _ _) (by kernel_rfl) (rfl) (rfl) (one25 _ _) ?_
  simp only [Act.put]
  refine g_look rfl rfl ?_ (fun w' hC => ?_) ?_
  rotate_left
  · go_simp
    first | done | rfl
  simp only [Act.put, List.setIfInBounds_toArray, List.set_cons_zero, List.set_cons_succ]
  refine g_end ?_
  intro w2 hC2 hh2
  have S2 : Hid (Stays [(gx, Obj.cells #[.int .u64 a0, .int .u64 b0] 25 (0, 0)), (gr, Obj.cells #[.int .u64 p1, .int .u64 p2] 25 (0, 0))] w w2) := Lib.hid (stays_cons (stays_row hC2 (List.mem_cons_self ..)) (stays_cons ((hh2 _ _ _ (own_new _ _ _ _)).1) (stays_nil (stays_below hC2))))
  clear S1
  clear hC2 hh2
  go_wp2_with fail
  refine bodyPost_ret (v := .tuple #[.agg #[.int .u64 p1, .int .u64 p2], .bool true]) (results_opt31 (stays_head (stays_tail S2.out))) rfl ⟨rfl, stays_below S2.out⟩
theorem ten_lt {t : Nat} (h : t ≤ 19) : 10 ^ t ≤ 10000000000000000000 := Nat.le_trans (Nat.pow_le_pow_right (by decide) h) (by decide)
theorem two_lt {z : Nat} (h : z ≤ 60) : 2 ^ z ≤ 1152921504606846976 := Nat.le_trans (Nat.pow_le_pow_right (by decide) h) (by decide)
set_option maxHeartbeats 4000000 in
set_option maxRecDepth 100000 in
theorem down_two (w : World) (a0 b0 : Int) (X t z : Nat) (hX : wval a0 b0 = (X : Int)) (ha : U a0) (hb : U b0) (ht : t ≤ 19) (hz : z ≤ 60) (hz0 : z ≠ 0) : Calls Try.prog 31 #[wv a0 b0, .int .i64 t, .int .i64 z] w (Ret w (downV X t z)) := by
  obtain ⟨V, hV⟩ : ∃ V, downV X t z = V := ⟨_, rfl⟩
  rw [hV]
  have HV := Lib.hid hV
  have HX := Lib.hid hX
  have HA := Lib.hid ha
  have HB := Lib.hid hb
  have m1 : (if (19 : Int) < (t : Int) then (19 : Int) else (t : Int)) = (t : Int) := if_neg (by omega)
  have z1 : ¬ (z : Int) = 0 := by omega
  have z2 : ((z : Int) == 0) = false := by simp; omega
  clear hV hX ha hb
  have S0 : Hid (Stays [] w w) := Lib.hid (stays_nil (Below.refl _ _))
  go_enter Try.func31, Try.ntmps31
  go_upto_region 0 with fail
  refine reg_plain (Stays [] w) (Turns [] w) (kdOf [(0, .make (fun _ => allocM (.cells #[.int .u64 a0, .int .u64 b0] 25))), (1, .make (fun _ => allocM (.cells #[.int .u64 0, .int .u64 0] 25)))]) none0 (stays_good _ _) (S0.out) (holds0 _) ?_
  refine g_alloc (stays_good _ _) (.cells #[.int .u64 a0, .int .u64 b0] 25) rfl rfl (fun w' hC => ?_) (fun gx tx nx => ?_)
  · clear hC
    go_simp
    first | done | rfl | exact ⟨rfl, rfl⟩
  clear nx
  replace tx := Lib.hid tx
  simp only [Act.put, List.setIfInBounds_toArray, List.set_cons_zero, List.set_cons_succ]
  refine g_alloc (stays_good _ _) (.cells #[.int .u64 0, .int .u64 0] 25) rfl rfl (fun w' hC => ?_) (fun gr tr nr => ?_)
  · clear hC
    go_simp
    first | done | rfl | exact ⟨rfl, rfl⟩
  obtain ⟨d_x_r, nr⟩ := own_none nr
  clear nr
  replace tr := Lib.hid tr
  simp only [Act.put, List.setIfInBounds_toArray, List.set_cons_zero, List.set_cons_succ]
  refine g_look rfl rfl ?_ (fun w' hC => ?_) ?_
  rotate_left
  · go_simp
    first | done | rfl
  simp only [Act.put, List.setIfInBounds_toArray, List.set_cons_zero, List.set_cons_succ]
  refine g_end ?_
  intro w1 hC1 hh1
  have S1 : Hid (Stays [(gx, Obj.cells #[.int .u64 a0, .int .u64 b0] 25 (0, 0)), (gr, Obj.cells #[.int .u64 0, .int .u64 0] 25 (0, 0))] w w1) := Lib.hid (stays_cons ((hh1 _ _ _ ((own_off _ (Ne.symm d_x_r)).trans (own_new _ _ _ _))).1) (stays_cons ((hh1 _ _ _ (own_new _ _ _ _)).1) (stays_nil (stays_below hC1))))
  clear hC1 hh1
  go_upto_region 4 with fail
  refine reg_plain (Stays [(gx, Obj.cells #[.int .u64 a0, .int .u64 b0] 25 (0, 0)), (gr, Obj.cells #[.int .u64 0, .int .u64 0] 25 (0, 0))] w) (Turns [(gx, Obj.cells #[.int .u64 a0, .int .u64 b0] 25 (0, 0)), (gr, Obj.cells #[.int .u64 0, .int .u64 0] 25 (0, 0))] w) (kdOf []) none0 (stays_good _ _) (S1.out) (holds0 _) ?_
  refine g_look rfl rfl ?_ (fun w' hC => ?_) ?_
  rotate_left
  · go_simp
    first | done | rfl
  simp only [Act.put, List.setIfInBounds_toArray, List.set_cons_zero, List.set_cons_succ]
  refine g_look rfl rfl (.int .i64 (t : Int)) (fun w' hC => ?_) ?_
  · clear hC
    go_simp
    first | done | rfl | exact m1
  simp only [Act.put, List.setIfInBounds_toArray, List.set_cons_zero, List.set_cons_succ]
  refine g_look rfl rfl ?_ (fun w' hC => ?_) ?_
  rotate_left
  · go_simp
    first | done | rfl
  simp only [Act.put, List.setIfInBounds_toArray, List.set_cons_zero, List.set_cons_succ]
  refine g_end ?_
  intro w2 hC2 hh2
  have S2 : Hid (Stays [(gx, Obj.cells #[.int .u64 a0, .int .u64 b0] 25 (0, 0)), (gr, Obj.cells #[.int .u64 0, .int .u64 0] 25 (0, 0))] w w2) := Lib.hid (stays_cons (stays_row hC2 (List.mem_cons_self ..)) (stays_cons (stays_row hC2 (List.mem_cons_of_mem _ (List.mem_cons_self ..))) (stays_nil (stays_below hC2))))
  clear S1
  clear hC2 hh2
  go_wp2_with fail
  go_loopw [8, 28] (fun p i wr => ∃ k : Nat, k ≤ t ∧ i = .int .i64 k ∧ p = .int .u64 ((10 ^ k : Nat) : Int) ∧ Hid (Stays [(gx, Obj.cells #[.int .u64 a0, .int .u64 b0] 25 (0, 0)), (gr, Obj.cells #[.int .u64 0, .int .u64 0] 25 (0, 0))] w wr)) (fun _ i _ => t - (intOf i).toNat)
  case atStart => exact ⟨0, by omega, rfl, rfl, S2⟩
  case round =>
    obtain ⟨k, hk, rfl, rfl, S3⟩ := hrel
    clear S2
    by_cases hlt : k < t
    · have hlti : (k : Int) < (t : Int) := by omega
      have hwk : wrap64 ((k : Int) + 1) = (k : Int) + 1 := by
        simp only [wrap64]
        omega
      have h10 : 10 ^ (k + 1) ≤ 10000000000000000000 := ten_lt (by omega)
      have hp : 10 ^ (k + 1) = 10 ^ k * 10 := Nat.pow_succ ..
      obtain ⟨p, hpk⟩ : ∃ p, 10 ^ k = p := ⟨_, rfl⟩
      rw [hpk] at hp ⊢
      have hw : IntKind.u64.wrap ((p : Int) * 10) = (p : Int) * 10 := wu_small (by omega) (by omega)
      have HP := Lib.hid hp
      clear hp h10 hpk
      go_wp2_with fail
      go_roundw
      case rel => exact ⟨k + 1, by omega, rfl, by rw [HP.out]; rfl, S3⟩
      case measure =>
        show t - ((k : Int) + 1).toNat < t - (k : Int).toNat
        omega
    · obtain rfl : k = t := by omega
      have hlti : ¬ (k : Int) < (k : Int) := by omega
      obtain ⟨P, hP⟩ : ∃ P, 10 ^ k = P := ⟨_, rfl⟩
      have hP1 : P ≤ 10000000000000000000 := by rw [← hP]; exact ten_lt ht
      have hP0 : 0 < P := by rw [← hP]; exact Nat.pow_pos (by decide)
      rw [hP]
      have hx := wval_lt HA.out HB.out
      obtain ⟨q1, q2, r, hw, u1, u2, hv, hr⟩ := wby_open hx.1 hx.2 (show (0 : Int) < (P : Int) by omega) (by unfold U; omega)
      rw [HX.out] at hv hr
      obtain ⟨Q, hQ⟩ : ∃ Q, X / P = Q := ⟨_, rfl⟩
      obtain ⟨R, hR⟩ : ∃ R, X % P = R := ⟨_, rfl⟩
      have hv2 : wval q1 q2 = (Q : Int) := by rw [hv, ← hQ]; rfl
      have hr2 : r = (R : Int) := by rw [hr, ← hR]; rfl
      subst hr2
      have hRP : R < P := by rw [← hR]; exact Nat.mod_lt _ hP0
      obtain ⟨x1, x2, ok, hl, ux1, ux2, hyes, hno⟩ := left_open (X := Q) (z := z)
      have h2z := two_lt hz
      have hRz : R * 2 ^ z ≤ 10000000000000000000 * 1152921504606846976 := Nat.mul_le_mul (by omega) h2z
      obtain ⟨s1, s2, _, hs, us1, us2, hsy, _⟩ := left_open (X := R) (z := z)
      obtain ⟨rfl, hsv⟩ := hsy (by unfold Lim; generalize R * 2 ^ z = q at *; omega)
      obtain ⟨Y, hY⟩ : ∃ Y, R * 2 ^ z = Y := ⟨_, rfl⟩
      rw [hY] at hsv hRz
      have hs0 := wval_lt us1 us2
      obtain ⟨y1, y2, l, hy, uy1, uy2, hyv, hyl⟩ := wby_open hs0.1 hs0.2 (show (0 : Int) < (P : Int) by omega) (by unfold U; omega)
      rw [hsv] at hyv hyl
      have hyv2 : wval y1 y2 = ((Y / P : Nat) : Int) := by rw [hyv]; rfl
      obtain ⟨L, hL⟩ : ∃ L, Y % P = L := ⟨_, rfl⟩
      have hl2 : l = (L : Int) := by rw [hyl, ← hL]; rfl
      subst hl2
      have HW := Lib.hid hw
      have HQ := Lib.hid (show U q1 ∧ U q2 ∧ wval q1 q2 = (Q : Int) from ⟨u1, u2, hv2⟩)
      have HR := Lib.hid (show U (R : Int) by unfold U; omega)
      have HPU := Lib.hid (show U (P : Int) by unfold U; omega)
      have HL := Lib.hid hl
      have HXX := Lib.hid (show U x1 ∧ U x2 from ⟨ux1, ux2⟩)
      have HYES := Lib.hid hyes
      have HNO := Lib.hid hno
      have HS := Lib.hid hs
      have HSS := Lib.hid (show U s1 ∧ U s2 from ⟨us1, us2⟩)
      have HY := Lib.hid hy
      have HYY := Lib.hid (show U y1 ∧ U y2 ∧ wval y1 y2 = ((Y / P : Nat) : Int) from ⟨uy1, uy2, hyv2⟩)
      have HV2 : Hid (V = if ((Q * 2 ^ z : Nat) : Int) < Lim then optV ((Q * 2 ^ z + byUp Y k : Nat) : Int) (((Q * 2 ^ z + byUp Y k : Nat) : Int) < 340282366920938463463374607431768211456) else .tuple #[wn (byUp Y k : Nat), .bool false]) := Lib.hid (by
        rw [← HV.out, downV, if_neg hz0, hP, hQ, hR, hY])
      have HBY : Hid (byUp Y k = Y / P + (if L = 0 then 0 else 1)) := Lib.hid (by rw [byUp, hP, hL])
      have HYL : Hid (byUp Y k ≤ 10000000000000000000 * 1152921504606846976) := Lib.hid (Nat.le_trans byUp_le hRz)
      have HWR : Hid (wval 0 (R : Int) = (R : Int)) := Lib.hid (by unfold wval; omega)
      have hUz : (z : Int) < 9223372036854775808 ∧ -9223372036854775808 ≤ (z : Int) := by omega
      clear hP hP1 hP0 hx hw u1 u2 hv hr hQ hR hv2 hRP hl ux1 ux2 hyes hno h2z hRz hs us1 us2 hsy hsv hY hs0 hy uy1 uy2 hyv hyl hyv2 hL HV
      go_upto_region 8 with fail
      refine reg_plain (Stays [(gx, Obj.cells #[.int .u64 a0, .int .u64 b0] 25 (0, 0)), (gr, Obj.cells #[.int .u64 0, .int .u64 0] 25 (0, 0))] w) (Turns [(gx, Obj.cells #[.int .u64 a0, .int .u64 b0] 25 (0, 0)), (gr, Obj.cells #[.int .u64 0, .int .u64 0] 25 (0, 0))] w) (kdOf [(2, .make (fun _ => callM (.tuple #[.agg #[.int .u64 q1, .int .u64 q2], .int .u64 (R : Int), .bool true]))), (7, .make (fun _ => allocM (.cells #[.int .u64 0, .int .u64 0] 25))), (8, .touch)]) none0 (stays_good _ _) (S3.out) (holds0 _) ?_
      (refine g_load 25 _ gx 25 #[.int .u64 a0, .int .u64 b0] (0, 0) _ rfl rfl rfl rfl (fun w' hC => stays_row hC (List.mem_cons_self ..)) Try.underlying25 rfl (rfl) ?_)
      simp only [Act.put, List.setIfInBounds_toArray, List.set_cons_zero, List.set_cons_succ]
      refine g_look rfl rfl ?_ (fun w' hC => ?_) ?_
      rotate_left
      · go_simp
        first | done | rfl
      simp only [Act.put, List.setIfInBounds_toArray, List.set_cons_zero, List.set_cons_succ]
      refine g_call (stays_good _ _) (.tuple #[.agg #[.int .u64 q1, .int .u64 q2], .int .u64 (R : Int), .bool true]) rfl rfl (fun w' hC => ?_) ?_
      · clear hC
        go_simp
        refine (wby_any _ a0 b0 (P : Int) HA.out HB.out HPU.out).mono (fun e w2 h => ?_)
        obtain ⟨h1, h2⟩ := h
        rw [HW.out] at h1
        exact gives h1 h2
      simp only [Act.put, List.setIfInBounds_toArray, List.set_cons_zero, List.set_cons_succ]
      refine g_look rfl rfl ?_ (fun w' hC => ?_) ?_
      rotate_left
      · go_simp
        first | done | rfl
      simp only [Act.put, List.setIfInBounds_toArray, List.set_cons_zero, List.set_cons_succ]
      refine g_look rfl rfl ?_ (fun w' hC => ?_) ?_
      rotate_left
      · go_simp
        first | done | rfl
      simp only [Act.put, List.setIfInBounds_toArray, List.set_cons_zero, List.set_cons_succ]
      refine g_look rfl rfl ?_ (fun w' hC => ?_) ?_
      rotate_left
      · go_simp
        first | done | rfl
      simp only [Act.put, List.setIfInBounds_toArray, List.set_cons_zero, List.set_cons_succ]
      refine g_look rfl rfl ?_ (fun w' hC => ?_) ?_
      rotate_left
      · go_simp
        first | done | rfl
      simp only [Act.put, List.setIfInBounds_toArray, List.set_cons_zero, List.set_cons_succ]
      refine g_alloc (stays_good _ _) (.cells #[.int .u64 0, .int .u64 0] 25) rfl rfl (fun w' hC => ?_) (fun gq tq nq => ?_)
      · clear hC
        go_simp
        first | done | rfl | exact ⟨rfl, rfl⟩
      clear nq
      replace tq := Lib.hid tq
      simp only [Act.put, List.setIfInBounds_toArray, List.set_cons_zero, List.set_cons_succ]
      refine g_store gq (some 7) 25 25 _ _ #[.int .u64 0, .int .u64 0] #[.int .u64 q1, .int .u64 q2] rfl rfl rfl rfl rfl (own_new _ _ _ _) (by kernel_rfl) (rfl) (rfl) (one25 _ _) ?_
      simp only [Act.put]
      refine g_look rfl rfl ?_ (fun w' hC => ?_) ?_
      rotate_left
      · go_simp
        first | done | rfl
      simp only [Act.put, List.setIfInBounds_toArray, List.set_cons_zero, List.set_cons_succ]
      refine g_look rfl rfl ?_ (fun w' hC => ?_) ?_
      rotate_left
      · go_simp
        first | done | rfl
      simp only [Act.put, List.setIfInBounds_toArray, List.set_cons_zero, List.set_cons_succ]
      refine g_end ?_
      intro w4 hC4 hh4
      have S4 : Hid (Stays [(gx, Obj.cells #[.int .u64 a0, .int .u64 b0] 25 (0, 0)), (gr, Obj.cells #[.int .u64 0, .int .u64 0] 25 (0, 0)), (gq, Obj.cells #[.int .u64 q1, .int .u64 q2] 25 (0, 0))] w w4) := Lib.hid (stays_cons (stays_row hC4 (List.mem_cons_self ..)) (stays_cons (stays_row hC4 (List.mem_cons_of_mem _ (List.mem_cons_self ..))) (stays_cons ((hh4 _ _ _ (own_new _ _ _ _)).1) (stays_nil (stays_below hC4)))))
      clear S3
      clear hC4 hh4
      go_upto_region 9 with fail
      refine reg_plain (Stays [(gx, Obj.cells #[.int .u64 a0, .int .u64 b0] 25 (0, 0)), (gr, Obj.cells #[.int .u64 0, .int .u64 0] 25 (0, 0)), (gq, Obj.cells #[.int .u64 q1, .int .u64 q2] 25 (0, 0))] w) (Turns [(gx, Obj.cells #[.int .u64 a0, .int .u64 b0] 25 (0, 0)), (gr, Obj.cells #[.int .u64 0, .int .u64 0] 25 (0, 0)), (gq, Obj.cells #[.int .u64 q1, .int .u64 q2] 25 (0, 0))] w) (kdOf [(2, .make (fun _ => callM (.tuple #[.agg #[.int .u64 x1, .int .u64 x2], .bool ok]))), (6, .make (fun _ => allocM (.cells #[.int .u64 0, .int .u64 0] 25))), (7, .touch)]) none0 (stays_good _ _) (S4.out) (holds0 _) ?_
      (refine g_load 25 _ gq 25 #[.int .u64 q1, .int .u64 q2] (0, 0) _ rfl rfl rfl rfl (fun w' hC => stays_row hC (List.mem_cons_of_mem _ (List.mem_cons_of_mem _ (List.mem_cons_self ..)))) Try.underlying25 rfl (rfl) ?_)
      simp only [Act.put, List.setIfInBounds_toArray, List.set_cons_zero, List.set_cons_succ]
      refine g_look rfl rfl ?_ (fun w' hC => ?_) ?_
      rotate_left
      · go_simp
        first | done | rfl
      simp only [Act.put, List.setIfInBounds_toArray, List.set_cons_zero, List.set_cons_succ]
      refine g_call (stays_good _ _) (.tuple #[.agg #[.int .u64 x1, .int .u64 x2], .bool ok]) rfl rfl (fun w' hC => ?_) ?_
      · clear hC
        go_simp
        refine (left_any _ q1 q2 (z : Int) HQ.out.1 HQ.out.2.1 hUz.1 hUz.2).mono (fun e w2 h => ?_)
        obtain ⟨h1, h2⟩ := h
        rw [HQ.out.2.2, HL.out] at h1
        exact gives h1 h2
      simp only [Act.put, List.setIfInBounds_toArray, List.set_cons_zero, List.set_cons_succ]
      refine g_look rfl rfl ?_ (fun w' hC => ?_) ?_
      rotate_left
      · go_simp
        first | done | rfl
      simp only [Act.put, List.setIfInBounds_toArray, List.set_cons_zero, List.set_cons_succ]
      refine g_look rfl rfl ?_ (fun w' hC => ?_) ?_
      rotate_left
      · go_simp
        first | done | rfl
      simp only [Act.put, List.setIfInBounds_toArray, List.set_cons_zero, List.set_cons_succ]
      refine g_look rfl rfl ?_ (fun w' hC => ?_) ?_
      rotate_left
      · go_simp
        first | done | rfl
      simp only [Act.put, List.setIfInBounds_toArray, List.set_cons_zero, List.set_cons_succ]
      refine g_alloc (stays_good _ _) (.cells #[.int .u64 0, .int .u64 0] 25) rfl rfl (fun w' hC => ?_) (fun gu tu nu => ?_)
      · clear hC
        go_simp
        first | done | rfl | exact ⟨rfl, rfl⟩
      clear nu
      replace tu := Lib.hid tu
      simp only [Act.put, List.setIfInBounds_toArray, List.set_cons_zero, List.set_cons_succ]
      refine g_store gu (some 6) 25 25 _ _ #[.int .u64 0, .int .u64 0] #[.int .u64 x1, .int .u64 x2] rfl rfl rfl rfl rfl (own_new _ _ _ _) (by kernel_rfl) (rfl) (rfl) (one25 _ _) ?_
      simp only [Act.put]
      refine g_look rfl rfl ?_ (fun w' hC => ?_) ?_
      rotate_left
      · go_simp
        first | done | rfl
      simp only [Act.put, List.setIfInBounds_toArray, List.set_cons_zero, List.set_cons_succ]
      refine g_end ?_
      intro w5 hC5 hh5
      have S5 : Hid (Stays [(gx, Obj.cells #[.int .u64 a0, .int .u64 b0] 25 (0, 0)), (gr, Obj.cells #[.int .u64 0, .int .u64 0] 25 (0, 0)), (gu, Obj.cells #[.int .u64 x1, .int .u64 x2] 25 (0, 0))] w w5) := Lib.hid (stays_cons (stays_row hC5 (List.mem_cons_self ..)) (stays_cons (stays_row hC5 (List.mem_cons_of_mem _ (List.mem_cons_self ..))) (stays_cons ((hh5 _ _ _ (own_new _ _ _ _)).1) (stays_nil (stays_below hC5)))))
      clear S4
      clear hC5 hh5
      go_upto_region 10 with fail
      refine reg_plain (Stays [(gx, Obj.cells #[.int .u64 a0, .int .u64 b0] 25 (0, 0)), (gr, Obj.cells #[.int .u64 0, .int .u64 0] 25 (0, 0)), (gu, Obj.cells #[.int .u64 x1, .int .u64 x2] 25 (0, 0))] w) (Turns [(gx, Obj.cells #[.int .u64 a0, .int .u64 b0] 25 (0, 0)), (gr, Obj.cells #[.int .u64 0, .int .u64 0] 25 (0, 0)), (gu, Obj.cells #[.int .u64 x1, .int .u64 x2] 25 (0, 0))] w) (kdOf [(1, .make (fun _ => callM (wv 0 (R : Int)))), (3, .make (fun _ => callM (.tuple #[.agg #[.int .u64 s1, .int .u64 s2], .bool true]))), (7, .make (fun _ => allocM (.cells #[.int .u64 0, .int .u64 0] 25))), (8, .touch)]) none0 (stays_good _ _) (S5.out) (holds0 _) ?_
      refine g_look rfl rfl ?_ (fun w' hC => ?_) ?_
      rotate_left
      · go_simp
        first | done | rfl
      simp only [Act.put, List.setIfInBounds_toArray, List.set_cons_zero, List.set_cons_succ]
      refine g_call (stays_good _ _) (wv 0 (R : Int)) rfl rfl (fun w' hC => ?_) ?_
      · clear hC
        go_simp
        refine (of1_any _ (R : Int)).mono (fun e w2 h => ?_)
        obtain ⟨h1, h2⟩ := h
        exact gives h1 h2
      simp only [Act.put, List.setIfInBounds_toArray, List.set_cons_zero, List.set_cons_succ]
      refine g_look rfl rfl ?_ (fun w' hC => ?_) ?_
      rotate_left
      · go_simp
        first | done | rfl
      simp only [Act.put, List.setIfInBounds_toArray, List.set_cons_zero, List.set_cons_succ]
      refine g_call (stays_good _ _) (.tuple #[.agg #[.int .u64 s1, .int .u64 s2], .bool true]) rfl rfl (fun w' hC => ?_) ?_
      · clear hC
        go_simp
        refine (left_any _ 0 (R : Int) (z : Int) u_zero HR.out hUz.1 hUz.2).mono (fun e w2 h => ?_)
        obtain ⟨h1, h2⟩ := h
        rw [HWR.out, HS.out] at h1
        exact gives h1 h2
      simp only [Act.put, List.setIfInBounds_toArray, List.set_cons_zero, List.set_cons_succ]
      refine g_look rfl rfl ?_ (fun w' hC => ?_) ?_
      rotate_left
      · go_simp
        first | done | rfl
      simp only [Act.put, List.setIfInBounds_toArray, List.set_cons_zero, List.set_cons_succ]
      refine g_look rfl rfl ?_ (fun w' hC => ?_) ?_
      rotate_left
      · go_simp
        first | done | rfl
      simp only [Act.put, List.setIfInBounds_toArray, List.set_cons_zero, List.set_cons_succ]
      refine g_look rfl rfl ?_ (fun w' hC => ?_) ?_
      rotate_left
      · go_simp
        first | done | rfl
      simp only [Act.put, List.setIfInBounds_toArray, List.set_cons_zero, List.set_cons_succ]
      refine g_alloc (stays_good _ _) (.cells #[.int .u64 0, .int .u64 0] 25) rfl rfl (fun w' hC => ?_) (fun gs ts ns => ?_)
      · clear hC
        go_simp
        first | done | rfl | exact ⟨rfl, rfl⟩
      clear ns
      replace ts := Lib.hid ts
      simp only [Act.put, List.setIfInBounds_toArray, List.set_cons_zero, List.set_cons_succ]
      refine g_store gs (some 7) 25 25 _ _ #[.int .u64 0, .int .u64 0] #[.int .u64 s1, .int .u64 s2] rfl rfl rfl rfl rfl (own_new _ _ _ _) (by kernel_rfl) (rfl) (rfl) (one25 _ _) ?_
      simp only [Act.put]
      refine g_look rfl rfl ?_ (fun w' hC => ?_) ?_
      rotate_left
      · go_simp
        first | done | rfl
      simp only [Act.put, List.setIfInBounds_toArray, List.set_cons_zero, List.set_cons_succ]
      refine g_end ?_
      intro w6 hC6 hh6
      have S6 : Hid (Stays [(gx, Obj.cells #[.int .u64 a0, .int .u64 b0] 25 (0, 0)), (gr, Obj.cells #[.int .u64 0, .int .u64 0] 25 (0, 0)), (gu, Obj.cells #[.int .u64 x1, .int .u64 x2] 25 (0, 0)), (gs, Obj.cells #[.int .u64 s1, .int .u64 s2] 25 (0, 0))] w w6) := Lib.hid (stays_cons (stays_row hC6 (List.mem_cons_self ..)) (stays_cons (stays_row hC6 (List.mem_cons_of_mem _ (List.mem_cons_self ..))) (stays_cons (stays_row hC6 (List.mem_cons_of_mem _ (List.mem_cons_of_mem _ (List.mem_cons_self ..)))) (stays_cons ((hh6 _ _ _ (own_new _ _ _ _)).1) (stays_nil (stays_below hC6))))))
      clear S5
      clear hC6 hh6
      go_upto_region 11 with fail
      refine reg_plain (Stays [(gx, Obj.cells #[.int .u64 a0, .int .u64 b0] 25 (0, 0)), (gr, Obj.cells #[.int .u64 0, .int .u64 0] 25 (0, 0)), (gu, Obj.cells #[.int .u64 x1, .int .u64 x2] 25 (0, 0)), (gs, Obj.cells #[.int .u64 s1, .int .u64 s2] 25 (0, 0))] w) (Turns [(gx, Obj.cells #[.int .u64 a0, .int .u64 b0] 25 (0, 0)), (gr, Obj.cells #[.int .u64 0, .int .u64 0] 25 (0, 0)), (gu, Obj.cells #[.int .u64 x1, .int .u64 x2] 25 (0, 0)), (gs, Obj.cells #[.int .u64 s1, .int .u64 s2] 25 (0, 0))] w) (kdOf [(2, .make (fun _ => callM (.tuple #[.agg #[.int .u64 y1, .int .u64 y2], .int .u64 (L : Int), .bool true]))), (7, .make (fun _ => allocM (.cells #[.int .u64 0, .int .u64 0] 25))), (8, .touch)]) none0 (stays_good _ _) (S6.out) (holds0 _) ?_
      (refine g_load 25 _ gs 25 #[.int .u64 s1, .int .u64 s2] (0, 0) _ rfl rfl rfl rfl (fun w' hC => stays_row hC (List.mem_cons_of_mem _ (List.mem_cons_of_mem _ (List.mem_cons_of_mem _ (List.mem_cons_self ..))))) Try.underlying25 rfl (rfl) ?_)
      simp only [Act.put, List.setIfInBounds_toArray, List.set_cons_zero, List.set_cons_succ]
      refine g_look rfl rfl ?_ (fun w' hC => ?_) ?_
      rotate_left
      · go_simp
        first | done | rfl
      simp only [Act.put, List.setIfInBounds_toArray, List.set_cons_zero, List.set_cons_succ]
      refine g_call (stays_good _ _) (.tuple #[.agg #[.int .u64 y1, .int .u64 y2], .int .u64 (L : Int), .bool true]) rfl rfl (fun w' hC => ?_) ?_
      · clear hC
        go_simp
        refine (wby_any _ s1 s2 (P : Int) HSS.out.1 HSS.out.2 HPU.out).mono (fun e w2 h => ?_)
        obtain ⟨h1, h2⟩ := h
        rw [HY.out] at h1
        exact gives h1 h2
      simp only [Act.put, List.setIfInBounds_toArray, List.set_cons_zero, List.set_cons_succ]
      refine g_look rfl rfl ?_ (fun w' hC => ?_) ?_
      rotate_left
      · go_simp
        first | done | rfl
      simp only [Act.put, List.setIfInBounds_toArray, List.set_cons_zero, List.set_cons_succ]
      refine g_look rfl rfl ?_ (fun w' hC => ?_) ?_
      rotate_left
      · go_simp
        first | done | rfl
      simp only [Act.put, List.setIfInBounds_toArray, List.set_cons_zero, List.set_cons_succ]
      refine g_look rfl rfl ?_ (fun w' hC => ?_) ?_
      rotate_left
      · go_simp
        first | done | rfl
      simp only [Act.put, List.setIfInBounds_toArray, List.set_cons_zero, List.set_cons_succ]
      refine g_look rfl rfl ?_ (fun w' hC => ?_) ?_
      rotate_left
      · go_simp
        first | done | rfl
      simp only [Act.put, List.setIfInBounds_toArray, List.set_cons_zero, List.set_cons_succ]
      refine g_alloc (stays_good _ _) (.cells #[.int .u64 0, .int .u64 0] 25) rfl rfl (fun w' hC => ?_) (fun gy ty ny => ?_)
      · clear hC
        go_simp
        first | done | rfl | exact ⟨rfl, rfl⟩
      clear ny
      replace ty := Lib.hid ty
      simp only [Act.put, List.setIfInBounds_toArray, List.set_cons_zero, List.set_cons_succ]
      refine g_store gy (some 7) 25 25 _ _ #[.int .u64 0, .int .u64 0] #[.int .u64 y1, .int .u64 y2] rfl rfl rfl rfl rfl (own_new _ _ _ _) (by kernel_rfl) (rfl) (rfl) (one25 _ _) ?_
      simp only [Act.put]
      refine g_look rfl rfl ?_ (fun w' hC => ?_) ?_
      rotate_left
      · go_simp
        first | done | rfl
      simp only [Act.put, List.setIfInBounds_toArray, List.set_cons_zero, List.set_cons_succ]
      refine g_look rfl rfl ?_ (fun w' hC => ?_) ?_
      rotate_left
      · go_simp
        first | done | rfl
      simp only [Act.put, List.setIfInBounds_toArray, List.set_cons_zero, List.set_cons_succ]
      refine g_end ?_
      intro w7 hC7 hh7
      have S7 : Hid (Stays [(gx, Obj.cells #[.int .u64 a0, .int .u64 b0] 25 (0, 0)), (gr, Obj.cells #[.int .u64 0, .int .u64 0] 25 (0, 0)), (gu, Obj.cells #[.int .u64 x1, .int .u64 x2] 25 (0, 0)), (gy, Obj.cells #[.int .u64 y1, .int .u64 y2] 25 (0, 0))] w w7) := Lib.hid (stays_cons (stays_row hC7 (List.mem_cons_self ..)) (stays_cons (stays_row hC7 (List.mem_cons_of_mem _ (List.mem_cons_self ..))) (stays_cons (stays_row hC7 (List.mem_cons_of_mem _ (List.mem_cons_of_mem _ (List.mem_cons_self ..)))) (stays_cons ((hh7 _ _ _ (own_new _ _ _ _)).1) (stays_nil (stays_below hC7))))))
      clear S6
      clear hC7 hh7
      by_cases hL0 : L = 0
      · have hLi : ¬ (0 : Int) < (L : Int) := by omega
        have HB2 : Hid (U y1 ∧ U y2 ∧ wval y1 y2 = ((byUp Y k : Nat) : Int)) := Lib.hid ⟨HYY.out.1, HYY.out.2.1, by rw [HYY.out.2.2, HBY.out, if_pos hL0]; rfl⟩
        obtain ⟨o1, o2, is, ho⟩ : ∃ (o1 o2 : Int) (is : Bool), optV (wval x1 x2 + wval y1 y2) (wval x1 x2 + wval y1 y2 < 340282366920938463463374607431768211456) = .tuple #[.agg #[.int .u64 o1, .int .u64 o2], .bool is] := by
          unfold optV
          split
          · exact ⟨_, _, _, rfl⟩
          · exact ⟨0, 0, false, rfl⟩
        have HO := Lib.hid ho
        clear ho
        go_upto_region 14 with fail
        refine reg_plain (Stays [(gx, Obj.cells #[.int .u64 a0, .int .u64 b0] 25 (0, 0)), (gr, Obj.cells #[.int .u64 0, .int .u64 0] 25 (0, 0)), (gu, Obj.cells #[.int .u64 x1, .int .u64 x2] 25 (0, 0)), (gy, Obj.cells #[.int .u64 y1, .int .u64 y2] 25 (0, 0))] w) (Turns [(gx, Obj.cells #[.int .u64 a0, .int .u64 b0] 25 (0, 0)), (gr, Obj.cells #[.int .u64 0, .int .u64 0] 25 (0, 0)), (gu, Obj.cells #[.int .u64 x1, .int .u64 x2] 25 (0, 0)), (gy, Obj.cells #[.int .u64 y1, .int .u64 y2] 25 (0, 0))] w) (kdOf [(2, .make (fun _ => callM (.tuple #[.agg #[.int .u64 o1, .int .u64 o2], .bool is]))), (6, .make (fun _ => allocM (.cells #[.int .u64 0, .int .u64 0] 25))), (7, .touch)]) none0 (stays_good _ _) (S7.out) (holds0 _) ?_
        (refine g_load 25 _ gu 25 #[.int .u64 x1, .int .u64 x2] (0, 0) _ rfl rfl rfl rfl (fun w' hC => stays_row hC (List.mem_cons_of_mem _ (List.mem_cons_of_mem _ (List.mem_cons_self ..)))) Try.underlying25 rfl (rfl) ?_)
        simp only [Act.put, List.setIfInBounds_toArray, List.set_cons_zero, List.set_cons_succ]
        (refine g_load 25 _ gy 25 #[.int .u64 y1, .int .u64 y2] (0, 0) _ rfl rfl rfl rfl (fun w' hC => stays_row hC (List.mem_cons_of_mem _ (List.mem_cons_of_mem _ (List.mem_cons_of_mem _ (List.mem_cons_self ..))))) Try.underlying25 rfl (rfl) ?_)
        simp only [Act.put, List.setIfInBounds_toArray, List.set_cons_zero, List.set_cons_succ]
        refine g_call (stays_good _ _) (.tuple #[.agg #[.int .u64 o1, .int .u64 o2], .bool is]) rfl rfl (fun w' hC => ?_) ?_
        · clear hC
          go_simp
          refine (add_any _ x1 x2 y1 y2 HXX.out.1 HXX.out.2 HB2.out.1 HB2.out.2.1).mono (fun e w2 h => ?_)
          obtain ⟨h1, h2⟩ := h
          rw [HO.out] at h1
          exact gives h1 h2
        simp only [Act.put, List.setIfInBounds_toArray, List.set_cons_zero, List.set_cons_succ]
        refine g_look rfl rfl ?_ (fun w' hC => ?_) ?_
        rotate_left
        · go_simp
          first | done | rfl
        simp only [Act.put, List.setIfInBounds_toArray, List.set_cons_zero, List.set_cons_succ]
        refine g_look rfl rfl ?_ (fun w' hC => ?_) ?_
        rotate_left
        · go_simp
          first | done | rfl
        simp only [Act.put, List.setIfInBounds_toArray, List.set_cons_zero, List.set_cons_succ]
        refine g_look rfl rfl ?_ (fun w' hC => ?_) ?_
        rotate_left
        · go_simp
          first | done | rfl
        simp only [Act.put, List.setIfInBounds_toArray, List.set_cons_zero, List.set_cons_succ]
        refine g_alloc (stays_good _ _) (.cells #[.int .u64 0, .int .u64 0] 25) rfl rfl (fun w' hC => ?_) (fun gv tv nv => ?_)
        · clear hC
          go_simp
          first | done | rfl | exact ⟨rfl, rfl⟩
        clear nv
        replace tv := Lib.hid tv
        simp only [Act.put, List.setIfInBounds_toArray, List.set_cons_zero, List.set_cons_succ]
        refine g_store gv (some 6) 25 25 _ _ #[.int .u64 0, .int .u64 0] #[.int .u64 o1, .int .u64 o2] rfl rfl rfl rfl rfl (own_new _ _ _ _) (by kernel_rfl) (rfl) (rfl) (one25 _ _) ?_
        simp only [Act.put]
        refine g_look rfl rfl ?_ (fun w' hC => ?_) ?_
        rotate_left
        · go_simp
          first | done | rfl
        simp only [Act.put, List.setIfInBounds_toArray, List.set_cons_zero, List.set_cons_succ]
        refine g_end ?_
        intro w8 hC8 hh8
        have S8 : Hid (Stays [(gx, Obj.cells #[.int .u64 a0, .int .u64 b0] 25 (0, 0)), (gr, Obj.cells #[.int .u64 0, .int .u64 0] 25 (0, 0)), (gv, Obj.cells #[.int .u64 o1, .int .u64 o2] 25 (0, 0))] w w8) := Lib.hid (stays_cons (stays_row hC8 (List.mem_cons_self ..)) (stays_cons (stays_row hC8 (List.mem_cons_of_mem _ (List.mem_cons_self ..))) (stays_cons ((hh8 _ _ _ (own_new _ _ _ _)).1) (stays_nil (stays_below hC8)))))
        clear S7
        clear hC8 hh8
        have hq : ((Q * 2 ^ z : Nat) : Int) < Lim ∨ ¬ ((Q * 2 ^ z : Nat) : Int) < Lim := Decidable.em _
        rcases hq with hq | hq
        · obtain ⟨rfl, hxv⟩ := HYES.out hq
          have HF : Hid (.tuple #[.agg #[.int .u64 o1, .int .u64 o2], .bool is] = V) := Lib.hid (by rw [HV2.out, if_pos hq, ← HO.out, hxv, HB2.out.2.2]; rfl)
          clear hq hxv
          go_upto_region 15 with fail
          refine reg_plain (Stays [(gx, Obj.cells #[.int .u64 a0, .int .u64 b0] 25 (0, 0)), (gv, Obj.cells #[.int .u64 o1, .int .u64 o2] 25 (0, 0))] w) (Turns [(gx, Obj.cells #[.int .u64 a0, .int .u64 b0] 25 (0, 0)), (gv, Obj.cells #[.int .u64 o1, .int .u64 o2] 25 (0, 0))] w) (kdOf [(5, .touch)]) (Own.has none0 gr (Obj.cells #[.int .u64 0, .int .u64 0] 25 (0, 0))) (stays_good _ _) (stays_cons (stays_row S8.out (List.mem_cons_self ..)) (stays_cons (stays_row S8.out (List.mem_cons_of_mem _ (List.mem_cons_of_mem _ (List.mem_cons_self ..)))) (stays_nil (stays_below S8.out)))) (holds_has (holds0 _) (stays_row S8.out (List.mem_cons_of_mem _ (List.mem_cons_self ..))) (turns_cons d_x_r (turns_cons (turns_head (turns_tail tv.out)).symm (turns_nil tr.out.2)))) ?_
          (refine g_load 25 _ gv 25 #[.int .u64 o1, .int .u64 o2] (0, 0) _ rfl rfl rfl rfl (fun w' hC => stays_row hC (List.mem_cons_of_mem _ (List.mem_cons_self ..))) Try.underlying25 rfl (rfl) ?_)
          simp only [Act.put, List.setIfInBounds_toArray, List.set_cons_zero, List.set_cons_succ]
          refine g_look rfl rfl ?_ (fun w' hC => ?_) ?_
          rotate_left
          · go_simp
            first | done | rfl
          simp only [Act.put, List.setIfInBounds_toArray, List.set_cons_zero, List.set_cons_succ]
          refine g_look rfl rfl ?_ (fun w' hC => ?_) ?_
          rotate_left
          · go_simp
            first | done | rfl
          simp only [Act.put, List.setIfInBounds_toArray, List.set_cons_zero, List.set_cons_succ]
          first
          | (refine g_skip rfl ?_)
          | (refine g_look rfl rfl ?_ (fun w' hC => ?_) ?_
             rotate_left
             · go_simp
               first | done | rfl)
          simp only [Act.put, List.setIfInBounds_toArray, List.set_cons_zero, List.set_cons_succ]
          refine g_look rfl rfl ?_ (fun w' hC => ?_) ?_
          rotate_left
          · go_simp
            first | done | rfl
          simp only [Act.put, List.setIfInBounds_toArray, List.set_cons_zero, List.set_cons_succ]
          refine g_store gr none 25 25 _ _ #[.int .u64 0, .int .u64 0] #[.int .u64 o1, .int .u64 o2] rfl rfl rfl rfl rfl (has_same _ _ _) (by kernel_rfl) (rfl) (rfl) (one25 _ _) ?_
          simp only [Act.put]
          refine g_look rfl rfl ?_ (fun w' hC => ?_) ?_
          rotate_left
          · go_simp
            first | done | rfl
          simp only [Act.put, List.setIfInBounds_toArray, List.set_cons_zero, List.set_cons_succ]
          refine g_end ?_
          intro w9 hC9 hh9
          have S9 : Hid (Stays [(gx, Obj.cells #[.int .u64 a0, .int .u64 b0] 25 (0, 0)), (gr, Obj.cells #[.int .u64 o1, .int .u64 o2] 25 (0, 0)), (gv, Obj.cells #[.int .u64 o1, .int .u64 o2] 25 (0, 0))] w w9) := Lib.hid (stays_cons (stays_row hC9 (List.mem_cons_self ..)) (stays_cons ((hh9 _ _ _ (own_new _ _ _ _)).1) (stays_cons (stays_row hC9 (List.mem_cons_of_mem _ (List.mem_cons_self ..))) (stays_nil (stays_below hC9)))))
          clear S8
          clear hC9 hh9
          go_wp2_with fail
          refine bodyPost_ret (v := .tuple #[.agg #[.int .u64 o1, .int .u64 o2], .bool is]) (results_opt31 (stays_head (stays_tail S9.out))) rfl ⟨congrArg Ending.returned HF.out, stays_below S9.out⟩
        · obtain ⟨rfl, rfl, rfl⟩ := HNO.out hq
          have HF : Hid (.tuple #[.agg #[.int .u64 o1, .int .u64 o2], .bool false] = V) := Lib.hid (by
            have hs : wval 0 0 + wval y1 y2 = ((byUp Y k : Nat) : Int) := by rw [HB2.out.2.2]; unfold wval; omega
            have ho := HO.out
            rw [hs, opt_yes (by have := HYL.out; unfold Lim; omega)] at ho
            rw [HV2.out, if_neg hq, (tuple2 ho).1])
          clear hq
          go_upto_region 15 with fail
          refine reg_plain (Stays [(gx, Obj.cells #[.int .u64 a0, .int .u64 b0] 25 (0, 0)), (gv, Obj.cells #[.int .u64 o1, .int .u64 o2] 25 (0, 0))] w) (Turns [(gx, Obj.cells #[.int .u64 a0, .int .u64 b0] 25 (0, 0)), (gv, Obj.cells #[.int .u64 o1, .int .u64 o2] 25 (0, 0))] w) (kdOf [(5, .touch)]) (Own.has none0 gr (Obj.cells #[.int .u64 0, .int .u64 0] 25 (0, 0))) (stays_good _ _) (stays_cons (stays_row S8.out (List.mem_cons_self ..)) (stays_cons (stays_row S8.out (List.mem_cons_of_mem _ (List.mem_cons_of_mem _ (List.mem_cons_self ..)))) (stays_nil (stays_below S8.out)))) (holds_has (holds0 _) (stays_row S8.out (List.mem_cons_of_mem _ (List.mem_cons_self ..))) (turns_cons d_x_r (turns_cons (turns_head (turns_tail tv.out)).symm (turns_nil tr.out.2)))) ?_
          (refine g_load 25 _ gv 25 #[.int .u64 o1, .int .u64 o2] (0, 0) _ rfl rfl rfl rfl (fun w' hC => stays_row hC (List.mem_cons_of_mem _ (List.mem_cons_self ..))) Try.underlying25 rfl (rfl) ?_)
          simp only [Act.put, List.setIfInBounds_toArray, List.set_cons_zero, List.set_cons_succ]
          refine g_look rfl rfl ?_ (fun w' hC => ?_) ?_
          rotate_left
          · go_simp
            first | done | rfl
          simp only [Act.put, List.setIfInBounds_toArray, List.set_cons_zero, List.set_cons_succ]
          refine g_look rfl rfl ?_ (fun w' hC => ?_) ?_
          rotate_left
          · go_simp
            first | done | rfl
          simp only [Act.put, List.setIfInBounds_toArray, List.set_cons_zero, List.set_cons_succ]
          first
          | (refine g_skip rfl ?_)
          | (refine g_look rfl rfl ?_ (fun w' hC => ?_) ?_
             rotate_left
             · go_simp
               first | done | rfl)
          simp only [Act.put, List.setIfInBounds_toArray, List.set_cons_zero, List.set_cons_succ]
          refine g_look rfl rfl ?_ (fun w' hC => ?_) ?_
          rotate_left
          · go_simp
            first | done | rfl
          simp only [Act.put, List.setIfInBounds_toArray, List.set_cons_zero, List.set_cons_succ]
          refine g_store gr none 25 25 _ _ #[.int .u64 0, .int .u64 0] #[.int .u64 o1, .int .u64 o2] rfl rfl rfl rfl rfl (has_same _ _ _) (by kernel_rfl) (rfl) (rfl) (one25 _ _) ?_
          simp only [Act.put]
          refine g_look rfl rfl ?_ (fun w' hC => ?_) ?_
          rotate_left
          · go_simp
            first | done | rfl
          simp only [Act.put, List.setIfInBounds_toArray, List.set_cons_zero, List.set_cons_succ]
          refine g_end ?_
          intro w9 hC9 hh9
          have S9 : Hid (Stays [(gx, Obj.cells #[.int .u64 a0, .int .u64 b0] 25 (0, 0)), (gr, Obj.cells #[.int .u64 o1, .int .u64 o2] 25 (0, 0)), (gv, Obj.cells #[.int .u64 o1, .int .u64 o2] 25 (0, 0))] w w9) := Lib.hid (stays_cons (stays_row hC9 (List.mem_cons_self ..)) (stays_cons ((hh9 _ _ _ (own_new _ _ _ _)).1) (stays_cons (stays_row hC9 (List.mem_cons_of_mem _ (List.mem_cons_self ..))) (stays_nil (stays_below hC9)))))
          clear S8
          clear hC9 hh9
          go_wp2_with fail
          refine bodyPost_ret (v := .tuple #[.agg #[.int .u64 o1, .int .u64 o2], .bool false]) (results_opt31 (stays_head (stays_tail S9.out))) rfl ⟨congrArg Ending.returned HF.out, stays_below S9.out⟩
      · have hLi : (0 : Int) < (L : Int) := by omega
        have hsum : wval y1 y2 + wval 0 1 = ((byUp Y k : Nat) : Int) := by rw [HYY.out.2.2, HBY.out, if_neg hL0]; unfold wval; omega
        have hlim : ((byUp Y k : Nat) : Int) < Lim := by have := HYL.out; unfold Lim; omega
        obtain ⟨B, hB⟩ : ∃ B : Int, ((byUp Y k : Nat) : Int) = B := ⟨_, rfl⟩
        have hB0 : 0 ≤ B := by rw [← hB]; exact Int.natCast_nonneg _
        rw [hB] at hlim
        have HH := opt_open hB0 hlim
        rw [← hB] at HH
        obtain ⟨p1, p2, u1, u2, hv, hw⟩ := HH
        have HW2 : Hid (optV (wval y1 y2 + wval 0 1) (wval y1 y2 + wval 0 1 < 340282366920938463463374607431768211456) = .tuple #[.agg #[.int .u64 p1, .int .u64 p2], .bool true]) := Lib.hid (by rw [hsum]; exact hw)
        have HB2 : Hid (U p1 ∧ U p2 ∧ wval p1 p2 = ((byUp Y k : Nat) : Int)) := Lib.hid ⟨u1, u2, hv⟩
        clear hsum u1 u2 hv hw hlim hB hB0 hL0
        go_upto_region 12 with fail
        refine reg_plain (Stays [(gx, Obj.cells #[.int .u64 a0, .int .u64 b0] 25 (0, 0)), (gr, Obj.cells #[.int .u64 0, .int .u64 0] 25 (0, 0)), (gu, Obj.cells #[.int .u64 x1, .int .u64 x2] 25 (0, 0)), (gy, Obj.cells #[.int .u64 y1, .int .u64 y2] 25 (0, 0))] w) (Turns [(gx, Obj.cells #[.int .u64 a0, .int .u64 b0] 25 (0, 0)), (gr, Obj.cells #[.int .u64 0, .int .u64 0] 25 (0, 0)), (gu, Obj.cells #[.int .u64 x1, .int .u64 x2] 25 (0, 0)), (gy, Obj.cells #[.int .u64 y1, .int .u64 y2] 25 (0, 0))] w) (kdOf []) none0 (stays_good _ _) (S7.out) (holds0 _) ?_
        refine g_look rfl rfl ?_ (fun w' hC => ?_) ?_
        rotate_left
        · go_simp
          first | done | rfl
        simp only [Act.put, List.setIfInBounds_toArray, List.set_cons_zero, List.set_cons_succ]
        refine g_look rfl rfl (.bool true) (fun w' hC => ?_) ?_
        · clear hC
          go_simp
          first | done | rfl | omega | (simp; omega)
        simp only [Act.put, List.setIfInBounds_toArray, List.set_cons_zero, List.set_cons_succ]
        refine g_end ?_
        intro w8 hC8 hh8
        have S8 : Hid (Stays [(gx, Obj.cells #[.int .u64 a0, .int .u64 b0] 25 (0, 0)), (gr, Obj.cells #[.int .u64 0, .int .u64 0] 25 (0, 0)), (gu, Obj.cells #[.int .u64 x1, .int .u64 x2] 25 (0, 0)), (gy, Obj.cells #[.int .u64 y1, .int .u64 y2] 25 (0, 0))] w w8) := Lib.hid (stays_cons (stays_row hC8 (List.mem_cons_self ..)) (stays_cons (stays_row hC8 (List.mem_cons_of_mem _ (List.mem_cons_self ..))) (stays_cons (stays_row hC8 (List.mem_cons_of_mem _ (List.mem_cons_of_mem _ (List.mem_cons_self ..)))) (stays_cons (stays_row hC8 (List.mem_cons_of_mem _ (List.mem_cons_of_mem _ (List.mem_cons_of_mem _ (List.mem_cons_self ..))))) (stays_nil (stays_below hC8))))))
        clear S7
        clear hC8 hh8
        go_upto_region 13 with fail
        refine reg (Stays [(gx, Obj.cells #[.int .u64 a0, .int .u64 b0] 25 (0, 0)), (gr, Obj.cells #[.int .u64 0, .int .u64 0] 25 (0, 0)), (gu, Obj.cells #[.int .u64 x1, .int .u64 x2] 25 (0, 0))] w) (Turns [(gx, Obj.cells #[.int .u64 a0, .int .u64 b0] 25 (0, 0)), (gr, Obj.cells #[.int .u64 0, .int .u64 0] 25 (0, 0)), (gu, Obj.cells #[.int .u64 x1, .int .u64 x2] 25 (0, 0))] w) (kdOf [(0, .touch), (1, .make (fun _ => callM (wv 0 1))), (2, .make (fun _ => callM (.tuple #[.agg #[.int .u64 p1, .int .u64 p2], .bool true]))), (6, .touch)]) (Own.has none0 gy (Obj.cells #[.int .u64 y1, .int .u64 y2] 25 (0, 0))) (stays_good _ _) (by kernel_rfl) (by kernel_rfl) (stays_drew (stays_cons (stays_row S8.out (List.mem_cons_self ..)) (stays_cons (stays_row S8.out (List.mem_cons_of_mem _ (List.mem_cons_self ..))) (stays_cons (stays_row S8.out (List.mem_cons_of_mem _ (List.mem_cons_of_mem _ (List.mem_cons_self ..)))) (stays_nil (stays_below S8.out)))))) (holds_has (holds0 _) (stays_row (stays_drew S8.out) (List.mem_cons_of_mem _ (List.mem_cons_of_mem _ (List.mem_cons_of_mem _ (List.mem_cons_self ..))))) (turns_cons (turns_head ty.out) (turns_cons (turns_head (turns_tail ty.out)) (turns_cons (turns_head (turns_tail (turns_tail ty.out))) (turns_nil ty.out.2))))) ?_
        refine g_load_own 25 _ gy none 25 #[.int .u64 y1, .int .u64 y2] (0, 0) _ rfl rfl rfl rfl (has_same _ _ _) (by kernel_rfl) Try.underlying25 rfl (rfl) ?_
        simp only [Act.put, List.setIfInBounds_toArray, List.set_cons_zero, List.set_cons_succ]
        refine g_call (stays_good _ _) (wv 0 1) rfl rfl (fun w' hC => ?_) ?_
        · clear hC
          go_simp
          refine (of1_any _ 1).mono (fun e w2 h => ?_)
          obtain ⟨h1, h2⟩ := h
          exact gives h1 h2
        simp only [Act.put, List.setIfInBounds_toArray, List.set_cons_zero, List.set_cons_succ]
        refine g_call (stays_good _ _) (.tuple #[.agg #[.int .u64 p1, .int .u64 p2], .bool true]) rfl rfl (fun w' hC => ?_) ?_
        · clear hC
          go_simp
          refine (add_any _ y1 y2 0 1 HYY.out.1 HYY.out.2.1 u_zero u_one).mono (fun e w2 h => ?_)
          obtain ⟨h1, h2⟩ := h
          rw [HW2.out] at h1
          exact gives h1 h2
        simp only [Act.put, List.setIfInBounds_toArray, List.set_cons_zero, List.set_cons_succ]
        refine g_look rfl rfl ?_ (fun w' hC => ?_) ?_
        rotate_left
        · go_simp
          first | done | rfl
        simp only [Act.put, List.setIfInBounds_toArray, List.set_cons_zero, List.set_cons_succ]
        refine g_look rfl rfl ?_ (fun w' hC => ?_) ?_
        rotate_left
        · go_simp
          first | done | rfl
        simp only [Act.put, List.setIfInBounds_toArray, List.set_cons_zero, List.set_cons_succ]
        refine g_look rfl rfl ?_ (fun w' hC => ?_) ?_
        rotate_left
        · go_simp
          first | done | rfl
        simp only [Act.put, List.setIfInBounds_toArray, List.set_cons_zero, List.set_cons_succ]
        refine g_store gy (some 0) 25 25 _ _ #[.int .u64 y1, .int .u64 y2] #[.int .u64 p1, .int .u64 p2] rfl rfl rfl rfl rfl (own_new _ _ _ _) (by kernel_rfl) (rfl) (rfl) (one25 _ _) ?_
        simp only [Act.put]
        refine g_end ?_
        intro w9 hC9 hh9
        have S9 : Hid (Stays [(gx, Obj.cells #[.int .u64 a0, .int .u64 b0] 25 (0, 0)), (gr, Obj.cells #[.int .u64 0, .int .u64 0] 25 (0, 0)), (gu, Obj.cells #[.int .u64 x1, .int .u64 x2] 25 (0, 0)), (gy, Obj.cells #[.int .u64 p1, .int .u64 p2] 25 (0, 0))] w w9) := Lib.hid (stays_cons (stays_row hC9 (List.mem_cons_self ..)) (stays_cons (stays_row hC9 (List.mem_cons_of_mem _ (List.mem_cons_self ..))) (stays_cons (stays_row hC9 (List.mem_cons_of_mem _ (List.mem_cons_of_mem _ (List.mem_cons_self ..)))) (stays_cons ((hh9 _ _ _ (own_new _ _ _ _)).1) (stays_nil (stays_below hC9))))))
        clear S8
        clear hC9 hh9
        obtain ⟨o1, o2, is, ho⟩ : ∃ (o1 o2 : Int) (is : Bool), optV (wval x1 x2 + wval p1 p2) (wval x1 x2 + wval p1 p2 < 340282366920938463463374607431768211456) = .tuple #[.agg #[.int .u64 o1, .int .u64 o2], .bool is] := by
          unfold optV
          split
          · exact ⟨_, _, _, rfl⟩
          · exact ⟨0, 0, false, rfl⟩
        have HO := Lib.hid ho
        clear ho
        go_upto_region 14 with fail
        refine reg_plain (Stays [(gx, Obj.cells #[.int .u64 a0, .int .u64 b0] 25 (0, 0)), (gr, Obj.cells #[.int .u64 0, .int .u64 0] 25 (0, 0)), (gu, Obj.cells #[.int .u64 x1, .int .u64 x2] 25 (0, 0)), (gy, Obj.cells #[.int .u64 p1, .int .u64 p2] 25 (0, 0))] w) (Turns [(gx, Obj.cells #[.int .u64 a0, .int .u64 b0] 25 (0, 0)), (gr, Obj.cells #[.int .u64 0, .int .u64 0] 25 (0, 0)), (gu, Obj.cells #[.int .u64 x1, .int .u64 x2] 25 (0, 0)), (gy, Obj.cells #[.int .u64 p1, .int .u64 p2] 25 (0, 0))] w) (kdOf [(2, .make (fun _ => callM (.tuple #[.agg #[.int .u64 o1, .int .u64 o2], .bool is]))), (6, .make (fun _ => allocM (.cells #[.int .u64 0, .int .u64 0] 25))), (7, .touch)]) none0 (stays_good _ _) (S9.out) (holds0 _) ?_
        (refine g_load 25 _ gu 25 #[.int .u64 x1, .int .u64 x2] (0, 0) _ rfl rfl rfl rfl (fun w' hC => stays_row hC (List.mem_cons_of_mem _ (List.mem_cons_of_mem _ (List.mem_cons_self ..)))) Try.underlying25 rfl (rfl) ?_)
        simp only [Act.put, List.setIfInBounds_toArray, List.set_cons_zero, List.set_cons_succ]
        (refine g_load 25 _ gy 25 #[.int .u64 p1, .int .u64 p2] (0, 0) _ rfl rfl rfl rfl (fun w' hC => stays_row hC (List.mem_cons_of_mem _ (List.mem_cons_of_mem _ (List.mem_cons_of_mem _ (List.mem_cons_self ..))))) Try.underlying25 rfl (rfl) ?_)
        simp only [Act.put, List.setIfInBounds_toArray, List.set_cons_zero, List.set_cons_succ]
        refine g_call (stays_good _ _) (.tuple #[.agg #[.int .u64 o1, .int .u64 o2], .bool is]) rfl rfl (fun w' hC => ?_) ?_
        · clear hC
          go_simp
          refine (add_any _ x1 x2 p1 p2 HXX.out.1 HXX.out.2 HB2.out.1 HB2.out.2.1).mono (fun e w2 h => ?_)
          obtain ⟨h1, h2⟩ := h
          rw [HO.out] at h1
          exact gives h1 h2
        simp only [Act.put, List.setIfInBounds_toArray, List.set_cons_zero, List.set_cons_succ]
        refine g_look rfl rfl ?_ (fun w' hC => ?_) ?_
        rotate_left
        · go_simp
          first | done | rfl
        simp only [Act.put, List.setIfInBounds_toArray, List.set_cons_zero, List.set_cons_succ]
        refine g_look rfl rfl ?_ (fun w' hC => ?_) ?_
        rotate_left
        · go_simp
          first | done | rfl
        simp only [Act.put, List.setIfInBounds_toArray, List.set_cons_zero, List.set_cons_succ]
        refine g_look rfl rfl ?_ (fun w' hC => ?_) ?_
        rotate_left
        · go_simp
          first | done | rfl
        simp only [Act.put, List.setIfInBounds_toArray, List.set_cons_zero, List.set_cons_succ]
        refine g_alloc (stays_good _ _) (.cells #[.int .u64 0, .int .u64 0] 25) rfl rfl (fun w' hC => ?_) (fun gv tv nv => ?_)
        · clear hC
          go_simp
          first | done | rfl | exact ⟨rfl, rfl⟩
        clear nv
        replace tv := Lib.hid tv
        simp only [Act.put, List.setIfInBounds_toArray, List.set_cons_zero, List.set_cons_succ]
        refine g_store gv (some 6) 25 25 _ _ #[.int .u64 0, .int .u64 0] #[.int .u64 o1, .int .u64 o2] rfl rfl rfl rfl rfl (own_new _ _ _ _) (by kernel_rfl) (rfl) (rfl) (one25 _ _) ?_
        simp only [Act.put]
        refine g_look rfl rfl ?_ (fun w' hC => ?_) ?_
        rotate_left
        · go_simp
          first | done | rfl
        simp only [Act.put, List.setIfInBounds_toArray, List.set_cons_zero, List.set_cons_succ]
        refine g_end ?_
        intro w10 hC10 hh10
        have S10 : Hid (Stays [(gx, Obj.cells #[.int .u64 a0, .int .u64 b0] 25 (0, 0)), (gr, Obj.cells #[.int .u64 0, .int .u64 0] 25 (0, 0)), (gv, Obj.cells #[.int .u64 o1, .int .u64 o2] 25 (0, 0))] w w10) := Lib.hid (stays_cons (stays_row hC10 (List.mem_cons_self ..)) (stays_cons (stays_row hC10 (List.mem_cons_of_mem _ (List.mem_cons_self ..))) (stays_cons ((hh10 _ _ _ (own_new _ _ _ _)).1) (stays_nil (stays_below hC10)))))
        clear S9
        clear hC10 hh10
        have hq : ((Q * 2 ^ z : Nat) : Int) < Lim ∨ ¬ ((Q * 2 ^ z : Nat) : Int) < Lim := Decidable.em _
        rcases hq with hq | hq
        · obtain ⟨rfl, hxv⟩ := HYES.out hq
          have HF : Hid (.tuple #[.agg #[.int .u64 o1, .int .u64 o2], .bool is] = V) := Lib.hid (by rw [HV2.out, if_pos hq, ← HO.out, hxv, HB2.out.2.2]; rfl)
          clear hq hxv
          go_upto_region 15 with fail
          refine reg_plain (Stays [(gx, Obj.cells #[.int .u64 a0, .int .u64 b0] 25 (0, 0)), (gv, Obj.cells #[.int .u64 o1, .int .u64 o2] 25 (0, 0))] w) (Turns [(gx, Obj.cells #[.int .u64 a0, .int .u64 b0] 25 (0, 0)), (gv, Obj.cells #[.int .u64 o1, .int .u64 o2] 25 (0, 0))] w) (kdOf [(5, .touch)]) (Own.has none0 gr (Obj.cells #[.int .u64 0, .int .u64 0] 25 (0, 0))) (stays_good _ _) (stays_cons (stays_row S10.out (List.mem_cons_self ..)) (stays_cons (stays_row S10.out (List.mem_cons_of_mem _ (List.mem_cons_of_mem _ (List.mem_cons_self ..)))) (stays_nil (stays_below S10.out)))) (holds_has (holds0 _) (stays_row S10.out (List.mem_cons_of_mem _ (List.mem_cons_self ..))) (turns_cons d_x_r (turns_cons (turns_head (turns_tail tv.out)).symm (turns_nil tr.out.2)))) ?_
          (refine g_load 25 _ gv 25 #[.int .u64 o1, .int .u64 o2] (0, 0) _ rfl rfl rfl rfl (fun w' hC => stays_row hC (List.mem_cons_of_mem _ (List.mem_cons_self ..))) Try.underlying25 rfl (rfl) ?_)
          simp only [Act.put, List.setIfInBounds_toArray, List.set_cons_zero, List.set_cons_succ]
          refine g_look rfl rfl ?_ (fun w' hC => ?_) ?_
          rotate_left
          · go_simp
            first | done | rfl
          simp only [Act.put, List.setIfInBounds_toArray, List.set_cons_zero, List.set_cons_succ]
          refine g_look rfl rfl ?_ (fun w' hC => ?_) ?_
          rotate_left
          · go_simp
            first | done | rfl
          simp only [Act.put, List.setIfInBounds_toArray, List.set_cons_zero, List.set_cons_succ]
          first
          | (refine g_skip rfl ?_)
          | (refine g_look rfl rfl ?_ (fun w' hC => ?_) ?_
             rotate_left
             · go_simp
               first | done | rfl)
          simp only [Act.put, List.setIfInBounds_toArray, List.set_cons_zero, List.set_cons_succ]
          refine g_look rfl rfl ?_ (fun w' hC => ?_) ?_
          rotate_left
          · go_simp
            first | done | rfl
          simp only [Act.put, List.setIfInBounds_toArray, List.set_cons_zero, List.set_cons_succ]
          refine g_store gr none 25 25 _ _ #[.int .u64 0, .int .u64 0] #[.int .u64 o1, .int .u64 o2] rfl rfl rfl rfl rfl (has_same _ _ _) (by kernel_rfl) (rfl) (rfl) (one25 _ _) ?_
          simp only [Act.put]
          refine g_look rfl rfl ?_ (fun w' hC => ?_) ?_
          rotate_left
          · go_simp
            first | done | rfl
          simp only [Act.put, List.setIfInBounds_toArray, List.set_cons_zero, List.set_cons_succ]
          refine g_end ?_
          intro w11 hC11 hh11
          have S11 : Hid (Stays [(gx, Obj.cells #[.int .u64 a0, .int .u64 b0] 25 (0, 0)), (gr, Obj.cells #[.int .u64 o1, .int .u64 o2] 25 (0, 0)), (gv, Obj.cells #[.int .u64 o1, .int .u64 o2] 25 (0, 0))] w w11) := Lib.hid (stays_cons (stays_row hC11 (List.mem_cons_self ..)) (stays_cons ((hh11 _ _ _ (own_new _ _ _ _)).1) (stays_cons (stays_row hC11 (List.mem_cons_of_mem _ (List.mem_cons_self ..))) (stays_nil (stays_below hC11)))))
          clear S10
          clear hC11 hh11
          go_wp2_with fail
          refine bodyPost_ret (v := .tuple #[.agg #[.int .u64 o1, .int .u64 o2], .bool is]) (results_opt31 (stays_head (stays_tail S11.out))) rfl ⟨congrArg Ending.returned HF.out, stays_below S11.out⟩
        · obtain ⟨rfl, rfl, rfl⟩ := HNO.out hq
          have HF : Hid (.tuple #[.agg #[.int .u64 o1, .int .u64 o2], .bool false] = V) := Lib.hid (by
            have hs : wval 0 0 + wval p1 p2 = ((byUp Y k : Nat) : Int) := by rw [HB2.out.2.2]; unfold wval; omega
            have ho := HO.out
            rw [hs, opt_yes (by have := HYL.out; unfold Lim; omega)] at ho
            rw [HV2.out, if_neg hq, (tuple2 ho).1])
          clear hq
          go_upto_region 15 with fail
          refine reg_plain (Stays [(gx, Obj.cells #[.int .u64 a0, .int .u64 b0] 25 (0, 0)), (gv, Obj.cells #[.int .u64 o1, .int .u64 o2] 25 (0, 0))] w) (Turns [(gx, Obj.cells #[.int .u64 a0, .int .u64 b0] 25 (0, 0)), (gv, Obj.cells #[.int .u64 o1, .int .u64 o2] 25 (0, 0))] w) (kdOf [(5, .touch)]) (Own.has none0 gr (Obj.cells #[.int .u64 0, .int .u64 0] 25 (0, 0))) (stays_good _ _) (stays_cons (stays_row S10.out (List.mem_cons_self ..)) (stays_cons (stays_row S10.out (List.mem_cons_of_mem _ (List.mem_cons_of_mem _ (List.mem_cons_self ..)))) (stays_nil (stays_below S10.out)))) (holds_has (holds0 _) (stays_row S10.out (List.mem_cons_of_mem _ (List.mem_cons_self ..))) (turns_cons d_x_r (turns_cons (turns_head (turns_tail tv.out)).symm (turns_nil tr.out.2)))) ?_
          (refine g_load 25 _ gv 25 #[.int .u64 o1, .int .u64 o2] (0, 0) _ rfl rfl rfl rfl (fun w' hC => stays_row hC (List.mem_cons_of_mem _ (List.mem_cons_self ..))) Try.underlying25 rfl (rfl) ?_)
          simp only [Act.put, List.setIfInBounds_toArray, List.set_cons_zero, List.set_cons_succ]
          refine g_look rfl rfl ?_ (fun w' hC => ?_) ?_
          rotate_left
          · go_simp
            first | done | rfl
          simp only [Act.put, List.setIfInBounds_toArray, List.set_cons_zero, List.set_cons_succ]
          refine g_look rfl rfl ?_ (fun w' hC => ?_) ?_
          rotate_left
          · go_simp
            first | done | rfl
          simp only [Act.put, List.setIfInBounds_toArray, List.set_cons_zero, List.set_cons_succ]
          first
          | (refine g_skip rfl ?_)
          | (refine g_look rfl rfl ?_ (fun w' hC => ?_) ?_
             rotate_left
             · go_simp
               first | done | rfl)
          simp only [Act.put, List.setIfInBounds_toArray, List.set_cons_zero, List.set_cons_succ]
          refine g_look rfl rfl ?_ (fun w' hC => ?_) ?_
          rotate_left
          · go_simp
            first | done | rfl
          simp only [Act.put, List.setIfInBounds_toArray, List.set_cons_zero, List.set_cons_succ]
          refine g_store gr none 25 25 _ _ #[.int .u64 0, .int .u64 0] #[.int .u64 o1, .int .u64 o2] rfl rfl rfl rfl rfl (has_same _ _ _) (by kernel_rfl) (rfl) (rfl) (one25 _ _) ?_
          simp only [Act.put]
          refine g_look rfl rfl ?_ (fun w' hC => ?_) ?_
          rotate_left
          · go_simp
            first | done | rfl
          simp only [Act.put, List.setIfInBounds_toArray, List.set_cons_zero, List.set_cons_succ]
          refine g_end ?_
          intro w11 hC11 hh11
          have S11 : Hid (Stays [(gx, Obj.cells #[.int .u64 a0, .int .u64 b0] 25 (0, 0)), (gr, Obj.cells #[.int .u64 o1, .int .u64 o2] 25 (0, 0)), (gv, Obj.cells #[.int .u64 o1, .int .u64 o2] 25 (0, 0))] w w11) := Lib.hid (stays_cons (stays_row hC11 (List.mem_cons_self ..)) (stays_cons ((hh11 _ _ _ (own_new _ _ _ _)).1) (stays_cons (stays_row hC11 (List.mem_cons_of_mem _ (List.mem_cons_self ..))) (stays_nil (stays_below hC11)))))
          clear S10
          clear hC11 hh11
          go_wp2_with fail
          refine bodyPost_ret (v := .tuple #[.agg #[.int .u64 o1, .int .u64 o2], .bool false]) (results_opt31 (stays_head (stays_tail S11.out))) rfl ⟨congrArg Ending.returned HF.out, stays_below S11.out⟩
theorem down_any (w : World) (a0 b0 : Int) (X t z : Nat) (hX : wval a0 b0 = (X : Int)) (ha : U a0) (hb : U b0) (ht : t ≤ 1000) (htz : z ≠ 0 → t ≤ 19) (hz : z ≤ 60) : Calls Try.prog 31 #[wv a0 b0, .int .i64 t, .int .i64 z] w (Ret w (downV X t z)) := by
  by_cases h : z = 0
  · subst h
    exact down_zero w a0 b0 X t hX ha hb ht
  · exact down_two w a0 b0 X t z hX ha hb (htz h) hz h
end Go.Proofs.Ythpdfacdjgkmpaa.Wi
