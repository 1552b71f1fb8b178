/- WideBy: a walk. -/
import Derived.Test.YtfckignchmpeaaaDw
import Derived.Test.YtfckignchmpeaaaReg
import Derived.Deep.DeepCutAuto
namespace Go.Proofs.Ytfckignchmpeaaa.Wi
open Go.RowKit K

attribute [local go_sem ↓] eqn24
attribute [local go_sem] lookTo stepTo Maker.step
def z20 : Array Value := #[.int .u64 0, .int .u64 0, .int .u64 0, .int .u64 0, .int .u64 0, .int .u64 0, .int .u64 0, .int .u64 0, .int .u64 0, .int .u64 0, .int .u64 0, .int .u64 0, .int .u64 0, .int .u64 0, .int .u64 0, .int .u64 0, .int .u64 0, .int .u64 0, .int .u64 0, .int .u64 0]
theorem nat_u {n : Nat} (h : n < 65536 ^ 4) : U (n : Int) := by
  have : n < 18446744073709551616 := h
  unfold U
  omega
theorem nat_wval {a b X : Nat} (h : a * 65536 ^ 4 + b = X) : wval a b = (X : Int) := by
  have : a * 18446744073709551616 + b = X := h
  unfold wval
  omega
theorem nat_lt8 {a b X : Nat} (ha : a < 65536 ^ 4) (hb : b < 65536 ^ 4) (h : a * 65536 ^ 4 + b = X) : X < 65536 ^ 8 := by
  have h1 : a < 18446744073709551616 := ha
  have h2 : b < 18446744073709551616 := hb
  have h3 : a * 18446744073709551616 + b = X := h
  show X < 340282366920938463463374607431768211456
  omega
theorem one24 (x y : Int) : (#[Value.int .u64 x, .int .u64 y] : Array Value).all (·.oneCell') = true := by simp [Value.oneCell']
theorem lt8_20 {X : Nat} (h : X < 65536 ^ 8) : X < 65536 ^ 20 := Nat.lt_of_lt_of_le h (by decide)
theorem wide_nat {Y : Nat} (h : Y < 65536 ^ 8) : wideV Y = .tuple #[.agg #[.int .u64 ((Y : Int) / 18446744073709551616), .int .u64 ((Y : Int) % 18446744073709551616)], .bool true] := by
  have h' : Y < 340282366920938463463374607431768211456 := h
  unfold wideV wv
  rw [if_pos h]
  have e1 : ((Y / 65536 ^ 4 % 65536 ^ 4 : Nat) : Int) = (Y : Int) / 18446744073709551616 := by
    show ((Y / 18446744073709551616 % 18446744073709551616 : Nat) : Int) = _
    omega
  have e2 : ((Y % 65536 ^ 4 : Nat) : Int) = (Y : Int) % 18446744073709551616 := by
    show ((Y % 18446744073709551616 : Nat) : Int) = _
    omega
  rw [e1, e2]
theorem by_facts {X u : Nat} (hX : X < 65536 ^ 8) (h0 : 0 < u) (hu : u < 65536 ^ 4) : ∃ q1 q2 r : Int, wbyV (X : Int) u = .tuple #[.agg #[.int .u64 q1, .int .u64 q2], .int .u64 r, .bool true] ∧
    wideV (X / u) = .tuple #[.agg #[.int .u64 q1, .int .u64 q2], .bool true] ∧ wideV (X % u) = .tuple #[.agg #[.int .u64 0, .int .u64 r], .bool true] := by
  have h1 : X / u ≤ X := Nat.div_le_self _ _
  have h2 : X % u < u := Nat.mod_lt _ h0
  have hu' : u < 18446744073709551616 := hu
  refine ⟨((X / u : Nat) : Int) / 18446744073709551616, ((X / u : Nat) : Int) % 18446744073709551616, ((X % u : Nat) : Int), ?_, wide_nat (Nat.lt_of_le_of_lt h1 hX), ?_⟩
  · rw [wbyV, if_neg (by omega), wn, wv]
    simp
  · rw [wide_nat (Nat.lt_of_lt_of_le (Nat.lt_trans h2 hu) (by decide))]
    have e1 : ((X % u : Nat) : Int) / 18446744073709551616 = 0 := by omega
    have e2 : ((X % u : Nat) : Int) % 18446744073709551616 = ((X % u : Nat) : Int) := by omega
    rw [e1, e2]
theorem by_facts2 {X u : Nat} (hX : X < 65536 ^ 8) (hu : u < 65536 ^ 4) : ∃ (q1 q2 r : Int) (t : Bool), wbyV (X : Int) u = .tuple #[.agg #[.int .u64 q1, .int .u64 q2], .int .u64 r, .bool t] ∧
    (0 < u → t = true ∧ wideV (X / u) = .tuple #[.agg #[.int .u64 q1, .int .u64 q2], .bool true] ∧ wideV (X % u) = .tuple #[.agg #[.int .u64 0, .int .u64 r], .bool true]) ∧ (u = 0 → q1 = 0 ∧ q2 = 0 ∧ r = 0 ∧ t = false) := by
  by_cases h0 : 0 < u
  · obtain ⟨q1, q2, r, h1, h2, h3⟩ := by_facts hX h0 hu
    exact ⟨q1, q2, r, true, h1, fun _ => ⟨rfl, h2, h3⟩, fun h => by omega⟩
  · obtain rfl : u = 0 := by omega
    exact ⟨0, 0, 0, false, by rw [wbyV, if_pos (show ((0 : Nat) : Int) = 0 from rfl)]; rfl, fun h => by omega, fun _ => ⟨rfl, rfl, rfl, rfl⟩⟩
theorem left_neg {A n : Int} (h : n < 0) : leftV A n = .tuple #[.agg #[.int .u64 0, .int .u64 0], .bool false] := by
  rw [leftV, optV, if_neg (by omega)]
  rfl
theorem pow_cast (n : Nat) : ((2 ^ n : Nat) : Int) = (2 : Int) ^ n := by simp
theorem left_mid {X n : Nat} : ∃ (l1 l2 : Int) (t : Bool), leftV (X : Int) n = .tuple #[.agg #[.int .u64 l1, .int .u64 l2], .bool t] ∧ wideV (X * 2 ^ n) = .tuple #[.agg #[.int .u64 l1, .int .u64 l2], .bool t] := by
  have e : (X : Int) * 2 ^ (n : Int).toNat = ((X * 2 ^ n : Nat) : Int) := by simp
  by_cases h : X * 2 ^ n < 65536 ^ 8
  · have h' : X * 2 ^ n < 340282366920938463463374607431768211456 := h
    refine ⟨_, _, true, ?_, wide_nat h⟩
    rw [leftV, e, optV, if_pos (by omega)]
    rfl
  · have h' : ¬ X * 2 ^ n < 340282366920938463463374607431768211456 := h
    refine ⟨0, 0, false, ?_, ?_⟩
    · rw [leftV, e, optV, if_neg (by omega)]
      rfl
    · rw [wideV, if_neg h]
      rfl
theorem left_big {X : Nat} {n : Int} (hn : 128 ≤ n) : leftV (X : Int) n = .tuple #[.agg #[.int .u64 0, .int .u64 0], .bool (decide (X = 0))] := by
  obtain ⟨m, rfl⟩ := Int.eq_ofNat_of_zero_le (show 0 ≤ n by omega)
  have e : (X : Int) * 2 ^ (m : Int).toNat = ((X * 2 ^ m : Nat) : Int) := by simp
  by_cases h : X = 0
  · subst h
    have h0 : ((0 : Nat) : Int) * 2 ^ (m : Int).toNat = 0 := by simp
    rw [leftV, h0, optV, if_pos (by omega)]
    rfl
  · have h1 : 2 ^ 128 ≤ 2 ^ m := Nat.pow_le_pow_right (by decide) (by omega)
    have h2 : 1 * 2 ^ m ≤ X * 2 ^ m := Nat.mul_le_mul_right _ (by omega)
    have h3 : (2 : Nat) ^ 128 = 340282366920938463463374607431768211456 := by decide
    rw [leftV, e, optV, if_neg (by omega), decide_eq_false h]
    rfl
theorem right_down {X K : Nat} (hX : X < 65536 ^ 8) {n : Int} (h : n.toNat = K ∨ (128 ≤ n.toNat ∧ K = 128)) : ∃ d1 d2 : Int, wn ((X : Int) / 2 ^ n.toNat) = .agg #[.int .u64 d1, .int .u64 d2] ∧ wideV (X / 2 ^ K) = .tuple #[.agg #[.int .u64 d1, .int .u64 d2], .bool true] := by
  refine ⟨_, _, ?_, wide_nat (Nat.lt_of_le_of_lt (Nat.div_le_self _ _) hX)⟩
  have e : (X : Int) / 2 ^ n.toNat = ((X / 2 ^ n.toNat : Nat) : Int) := by simp
  have e2 : X / 2 ^ n.toNat = X / 2 ^ K := by
    rcases h with h | ⟨h, rfl⟩
    · rw [h]
    · have hX' : X < 2 ^ 128 := hX
      rw [Nat.div_eq_of_lt hX', Nat.div_eq_of_lt (Nat.lt_of_lt_of_le hX' (Nat.pow_le_pow_right (by decide) h))]
  rw [e, e2]
  rfl
theorem pow_le8 {K : Nat} (h : K ≤ 128) : 2 ^ K ≤ 65536 ^ 8 := Nat.le_trans (Nat.pow_le_pow_right (by decide) h) (by decide)
theorem pow_lt8 {K : Nat} (h : K < 128) : 2 ^ K < 65536 ^ 8 := Nat.lt_of_lt_of_le (Nat.pow_lt_pow_right (by decide) h) (by decide)
theorem div_room {X M : Nat} (hX : X < 65536 ^ 8) (hM : 0 < M) : X < M * 2 ^ 129 := by
  have h1 : 1 * 2 ^ 129 ≤ M * 2 ^ 129 := Nat.mul_le_mul_right _ hM
  have h2 : (65536 : Nat) ^ 8 ≤ 2 ^ 129 := by decide
  omega
theorem mul_lt20 {X M : Nat} (hX : X < 65536 ^ 8) (hM : M < 65536 ^ 8) : X * M < 65536 ^ 20 :=
  Nat.lt_of_le_of_lt (Nat.mul_le_mul (Nat.le_of_lt hX) (Nat.le_of_lt hM)) (by decide)
theorem zero_of {a b X : Nat} (h : a * 65536 ^ 4 + b = X) : X = 0 ↔ a = 0 ∧ b = 0 := by
  have h3 : a * 18446744073709551616 + b = X := h
  omega
attribute [local irreducible] fc
set_option maxHeartbeats 4000000 in
set_option maxRecDepth 100000 in
theorem by_negz (w : World) (a b u X : Nat) (n : Int) (ha : a < 65536 ^ 4) (hb : b < 65536 ^ 4) (hu : u < 65536 ^ 4) (hX : a * 65536 ^ 4 + b = X) (r1 : -9223372036854775808 ≤ n) (r2 : n ≤ 9223372036854775807) (hn : n < 0) (hz : X = 0) : Calls Try.prog 3 #[wv a b, .int .u64 u, .int .i64 n] w (Ret w (.bool true)) := by
  have ua : Hid (U a) := nat_u ha
  have ub : Hid (U b) := nat_u hb
  have uu : Hid (U u) := nat_u hu
  have vX : Hid (wval a b = (X : Int)) := nat_wval hX
  have kX : Hid (X < 65536 ^ 8) := nat_lt8 ha hb hX
  have HA := Lib.hid ha
  have HB := Lib.hid hb
  have HU := Lib.hid hu
  have HX := Lib.hid hX
  have HR : Hid (-9223372036854775808 ≤ n ∧ n < 9223372036854775808) := Lib.hid ⟨r1, by omega⟩
  have ez : (decide ((a : Int) = 0) && decide ((b : Int) = 0)) = true := by
    have := zero_of hX
    simp; exact this.1 hz
  have ez2 : (decide (a = 0) && decide (b = 0)) = true := by
    have := zero_of hX
    simp; exact this.1 hz
  have HL := Lib.hid (left_neg (A := (X : Int)) hn)
  obtain ⟨q1, q2, r, tq, hq, hqp, hqz⟩ := by_facts2 kX.out hu
  have HQ := Lib.hid hq
  have HQp := Lib.hid hqp
  have HQz := Lib.hid hqz
  clear hq hqp hqz
  obtain ⟨d1, d2, hd, hd2⟩ := right_down (X := X) (K := 0) kX.out (n := n) (Or.inl (by omega))
  have HD := Lib.hid hd
  obtain ⟨M, hM⟩ : ∃ M : Nat, 2 ^ 0 = M := ⟨_, rfl⟩
  have hM0 : 0 < M := by rw [← hM]; exact Nat.pow_pos (by decide)
  have hM8 : M ≤ 65536 ^ 8 := by rw [← hM]; exact pow_le8 (by omega)
  rw [hM] at hd2
  have HP := Lib.hid hM
  have HP0 := Lib.hid hM0
  have HP8 := Lib.hid hM8
  have HD2 := Lib.hid hd2
  clear ha hb hu hX hz hd hd2 r1 r2 hM hM0 hM8
  unfold wv
  have S0 : Hid (Stays [] w w) := Lib.hid (stays_nil (Below.refl _ _))
  go_enter Try.func3, Try.ntmps3
  go_upto_region 0 with fail
  refine reg_plain (Stays [] w) (Turns [] w) (kdOf [(0, .make (allocM (.cells #[.int .u64 (a : Int), .int .u64 (b : Int)] 24)))]) none0 (stays_good _ _) (S0.out) (holds0 _) ?_
  refine g_alloc (stays_good _ _) (.cells #[.int .u64 (a : Int), .int .u64 (b : Int)] 24) rfl rfl (fun w' hC => ?_) (fun ga ta na => ?_)
  · clear hC
    go_simp
    first | done | rfl | exact ⟨rfl, rfl⟩
  clear na
  replace ta := Lib.hid ta
  simp only [Act.put, List.setIfInBounds_toArray, List.set_cons_zero, List.set_cons_succ]
  refine g_look rfl rfl ?_ (fun w' hC => ?_) ?_
  rotate_left
  · go_simp
    first | done | rfl
  simp only [Act.put, List.setIfInBounds_toArray, List.set_cons_zero, List.set_cons_succ]
  refine g_end ?_
  intro w1 hC1 hh1
  have S1 : Hid (Stays [(ga, Obj.cells #[.int .u64 (a : Int), .int .u64 (b : Int)] 24 (0, 0))] w w1) := Lib.hid (stays_cons ((hh1 _ _ _ (own_new _ _ _ _)).1) (stays_nil (stays_below hC1)))
  clear hC1 hh1
  go_upto_region 1 with fail
  refine reg_plain (Stays [(ga, Obj.cells #[.int .u64 (a : Int), .int .u64 (b : Int)] 24 (0, 0))] w) (Turns [(ga, Obj.cells #[.int .u64 (a : Int), .int .u64 (b : Int)] 24 (0, 0))] w) (kdOf [(0, .make (callM (.bool true)))]) none0 (stays_good _ _) (S1.out) (holds0 _) ?_
  refine g_call (stays_good _ _) (.bool true) rfl rfl (fun w' hC => ?_) ?_
  · clear hC
    go_simp
    refine (first_any _).mono (fun e w2 h => ?_)
    obtain ⟨h1, h2⟩ := h
    exact gives h1 h2
  simp only [Act.put, List.setIfInBounds_toArray, List.set_cons_zero, List.set_cons_succ]
  refine g_look rfl rfl ?_ (fun w' hC => ?_) ?_
  rotate_left
  · go_simp
    first | done | rfl
  simp only [Act.put, List.setIfInBounds_toArray, List.set_cons_zero, List.set_cons_succ]
  refine g_end ?_
  intro w2 hC2 hh2
  have S2 : Hid (Stays [(ga, Obj.cells #[.int .u64 (a : Int), .int .u64 (b : Int)] 24 (0, 0))] w w2) := Lib.hid (stays_cons (stays_row hC2 (List.mem_cons_self ..)) (stays_nil (stays_below hC2)))
  clear S1
  clear hC2 hh2
  go_upto_region 3 with fail
  refine reg_plain (Stays [(ga, Obj.cells #[.int .u64 (a : Int), .int .u64 (b : Int)] 24 (0, 0))] w) (Turns [(ga, Obj.cells #[.int .u64 (a : Int), .int .u64 (b : Int)] 24 (0, 0))] w) (kdOf [(1, .make (callM (dg X))), (2, .make (allocM (.cells z20 27))), (3, .touch)]) none0 (stays_good _ _) (S2.out) (holds0 _) ?_
  (refine g_load 24 _ ga 24 #[.int .u64 (a : Int), .int .u64 (b : Int)] (0, 0) _ rfl rfl rfl rfl (fun w' hC => stays_row hC (List.mem_cons_self ..)) Try.underlying24 rfl (rfl) ?_)
  simp only [Act.put, List.setIfInBounds_toArray, List.set_cons_zero, List.set_cons_succ]
  refine g_call (stays_good _ _) (dg X) rfl rfl (fun w' hC => ?_) ?_
  · clear hC
    go_simp
    refine (of_any _ a b HA.out HB.out).mono (fun e w2 h => ?_)
    obtain ⟨h1, h2⟩ := h
    rw [HX.out] at h1
    exact gives h1 h2
  simp only [Act.put, List.setIfInBounds_toArray, List.set_cons_zero, List.set_cons_succ]
  refine g_alloc (stays_good _ _) (.cells z20 27) rfl rfl (fun w' hC => ?_) (fun gX tX nX => ?_)
  · clear hC
    go_simp
    first | done | rfl | exact ⟨rfl, rfl⟩
  clear nX
  replace tX := Lib.hid tX
  simp only [Act.put, List.setIfInBounds_toArray, List.set_cons_zero, List.set_cons_succ]
  refine g_store gX (some 2) 27 27 _ _ z20 (fc (dig X)) rfl rfl rfl rfl rfl (own_new _ _ _ _) (by kernel_rfl) (fc_size _) (info27 _) (fc_one _) ?_
  simp only [Act.put]
  refine g_end ?_
  intro w3 hC3 hh3
  have S3 : Hid (Stays [(ga, Obj.cells #[.int .u64 (a : Int), .int .u64 (b : Int)] 24 (0, 0)), (gX, Obj.cells (fc (dig X)) 27 (0, 0))] w w3) := Lib.hid (stays_cons (stays_row hC3 (List.mem_cons_self ..)) (stays_cons ((hh3 _ _ _ (own_new _ _ _ _)).1) (stays_nil (stays_below hC3))))
  clear S2
  clear hC3 hh3
  go_upto_region 4 with fail
  refine reg_plain (Stays [(ga, Obj.cells #[.int .u64 (a : Int), .int .u64 (b : Int)] 24 (0, 0)), (gX, Obj.cells (fc (dig X)) 27 (0, 0))] w) (Turns [(ga, Obj.cells #[.int .u64 (a : Int), .int .u64 (b : Int)] 24 (0, 0)), (gX, Obj.cells (fc (dig X)) 27 (0, 0))] w) (kdOf [(2, .make (callM (.tuple #[.agg #[.int .u64 q1, .int .u64 q2], .int .u64 r, .bool tq]))), (7, .make (allocM (.cells #[.int .u64 0, .int .u64 0] 24))), (8, .touch)]) none0 (stays_good _ _) (S3.out) (holds0 _) ?_
  (refine g_load 24 _ ga 24 #[.int .u64 (a : Int), .int .u64 (b : Int)] (0, 0) _ rfl rfl rfl rfl (fun w' hC => stays_row hC (List.mem_cons_self ..)) Try.underlying24 rfl (rfl) ?_)
  simp only [Act.put, List.setIfInBounds_toArray, List.set_cons_zero, List.set_cons_succ]
  refine g_look rfl rfl ?_ (fun w' hC => ?_) ?_
  rotate_left
  · go_simp
    first | done | rfl
  simp only [Act.put, List.setIfInBounds_toArray, List.set_cons_zero, List.set_cons_succ]
  refine g_call (stays_good _ _) (.tuple #[.agg #[.int .u64 q1, .int .u64 q2], .int .u64 r, .bool tq]) rfl rfl (fun w' hC => ?_) ?_
  · clear hC
    go_simp
    refine (wby_any _ a b u ua.out ub.out uu.out).mono (fun e w2 h => ?_)
    obtain ⟨h1, h2⟩ := h
    rw [vX.out, HQ.out] at h1
    exact gives h1 h2
  simp only [Act.put, List.setIfInBounds_toArray, List.set_cons_zero, List.set_cons_succ]
  refine g_look rfl rfl ?_ (fun w' hC => ?_) ?_
  rotate_left
  · go_simp
    first | done | rfl
  simp only [Act.put, List.setIfInBounds_toArray, List.set_cons_zero, List.set_cons_succ]
  refine g_look rfl rfl ?_ (fun w' hC => ?_) ?_
  rotate_left
  · go_simp
    first | done | rfl
  simp only [Act.put, List.setIfInBounds_toArray, List.set_cons_zero, List.set_cons_succ]
  refine g_look rfl rfl ?_ (fun w' hC => ?_) ?_
  rotate_left
  · go_simp
    first | done | rfl
  simp only [Act.put, List.setIfInBounds_toArray, List.set_cons_zero, List.set_cons_succ]
  refine g_look rfl rfl ?_ (fun w' hC => ?_) ?_
  rotate_left
  · go_simp
    first | done | rfl
  simp only [Act.put, List.setIfInBounds_toArray, List.set_cons_zero, List.set_cons_succ]
  refine g_alloc (stays_good _ _) (.cells #[.int .u64 0, .int .u64 0] 24) rfl rfl (fun w' hC => ?_) (fun gqq tqq nqq => ?_)
  · clear hC
    go_simp
    first | done | rfl | exact ⟨rfl, rfl⟩
  clear nqq
  replace tqq := Lib.hid tqq
  simp only [Act.put, List.setIfInBounds_toArray, List.set_cons_zero, List.set_cons_succ]
  refine g_store gqq (some 7) 24 24 _ _ #[.int .u64 0, .int .u64 0] #[.int .u64 q1, .int .u64 q2] rfl rfl rfl rfl rfl (own_new _ _ _ _) (by kernel_rfl) (rfl) (rfl) (one24 _ _) ?_
  simp only [Act.put]
  refine g_look rfl rfl ?_ (fun w' hC => ?_) ?_
  rotate_left
  · go_simp
    first | done | rfl
  simp only [Act.put, List.setIfInBounds_toArray, List.set_cons_zero, List.set_cons_succ]
  refine g_look rfl rfl ?_ (fun w' hC => ?_) ?_
  rotate_left
  · go_simp
    first | done | rfl
  simp only [Act.put, List.setIfInBounds_toArray, List.set_cons_zero, List.set_cons_succ]
  refine g_end ?_
  intro w4 hC4 hh4
  have S4 : Hid (Stays [(ga, Obj.cells #[.int .u64 (a : Int), .int .u64 (b : Int)] 24 (0, 0)), (gX, Obj.cells (fc (dig X)) 27 (0, 0)), (gqq, Obj.cells #[.int .u64 q1, .int .u64 q2] 24 (0, 0))] w w4) := Lib.hid (stays_cons (stays_row hC4 (List.mem_cons_self ..)) (stays_cons (stays_row hC4 (List.mem_cons_of_mem _ (List.mem_cons_self ..))) (stays_cons ((hh4 _ _ _ (own_new _ _ _ _)).1) (stays_nil (stays_below hC4)))))
  clear S3
  clear hC4 hh4
  go_upto_if 38 with fail
  go_cut [] (fun wx => Hid (Stays [(ga, Obj.cells #[.int .u64 (a : Int), .int .u64 (b : Int)] 24 (0, 0)), (gX, Obj.cells (fc (dig X)) 27 (0, 0))] w wx))
  case first =>
    by_cases hu0 : 0 < u
    · obtain ⟨rfl, hq2, hq3⟩ := HQp.out hu0
      have HQ2 := Lib.hid hq2
      have HQ3 := Lib.hid hq3
      clear hq2 hq3
      have HU0 := Lib.hid hu0
      have eu : ((u : Int) == 0) = false := by simp; omega
      simp only [eu]
      clear hu0 eu
      go_upto_region 8 with fail
      refine reg (Stays [(ga, Obj.cells #[.int .u64 (a : Int), .int .u64 (b : Int)] 24 (0, 0)), (gX, Obj.cells (fc (dig X)) 27 (0, 0)), (gqq, Obj.cells #[.int .u64 q1, .int .u64 q2] 24 (0, 0))] w) (Turns [(ga, Obj.cells #[.int .u64 (a : Int), .int .u64 (b : Int)] 24 (0, 0)), (gX, Obj.cells (fc (dig X)) 27 (0, 0)), (gqq, Obj.cells #[.int .u64 q1, .int .u64 q2] 24 (0, 0))] w) (kdOf [(3, .make (callM (dg u))), (4, .make (callM (.tuple #[dg (X / u), dg (X % u)]))), (8, .make (allocM (.cells z20 27))), (9, .make (allocM (.cells z20 27))), (10, .touch), (11, .touch)]) none0 (stays_good _ _) (by kernel_rfl) (by kernel_rfl) (stays_drew (S4.out)) (holds0 _) ?_
      (refine g_load 27 _ gX 27 (fc (dig X)) (0, 0) _ rfl rfl rfl rfl (fun w' hC => stays_row hC (List.mem_cons_of_mem _ (List.mem_cons_self ..))) Try.underlying27 rfl (info27 _) ?_)
      simp only [Act.put, List.setIfInBounds_toArray, List.set_cons_zero, List.set_cons_succ]
      refine g_look rfl rfl ?_ (fun w' hC => ?_) ?_
      rotate_left
      · go_simp
        first | done | rfl
      simp only [Act.put, List.setIfInBounds_toArray, List.set_cons_zero, List.set_cons_succ]
      refine g_look rfl rfl ?_ (fun w' hC => ?_) ?_
      rotate_left
      · go_simp
        first | done | rfl
      simp only [Act.put, List.setIfInBounds_toArray, List.set_cons_zero, List.set_cons_succ]
      refine g_call (stays_good _ _) (dg u) rfl rfl (fun w' hC => ?_) ?_
      · clear hC
        go_simp
        refine (of_any _ 0 u (by decide) HU.out).mono (fun e w2 h => ?_)
        obtain ⟨h1, h2⟩ := h
        rw [Nat.zero_mul, Nat.zero_add] at h1
        exact gives h1 h2
      simp only [Act.put, List.setIfInBounds_toArray, List.set_cons_zero, List.set_cons_succ]
      refine g_call (stays_good _ _) (.tuple #[dg (X / u), dg (X % u)]) rfl rfl (fun w' hC => ?_) ?_
      · clear hC
        go_simp
        refine (by_any _ X u (Nat.le_of_lt (Nat.lt_of_lt_of_le HU.out (by decide))) (div_room kX.out HU0.out)).mono (fun e w2 h => ?_)
        obtain ⟨h1, h2⟩ := h
        rw [byV] at h1
        exact gives h1 h2
      simp only [Act.put, List.setIfInBounds_toArray, List.set_cons_zero, List.set_cons_succ]
      refine g_look rfl rfl ?_ (fun w' hC => ?_) ?_
      rotate_left
      · go_simp
        first | done | rfl
      simp only [Act.put, List.setIfInBounds_toArray, List.set_cons_zero, List.set_cons_succ]
      refine g_look rfl rfl ?_ (fun w' hC => ?_) ?_
      rotate_left
      · go_simp
        first | done | rfl
      simp only [Act.put, List.setIfInBounds_toArray, List.set_cons_zero, List.set_cons_succ]
      refine g_look rfl rfl ?_ (fun w' hC => ?_) ?_
      rotate_left
      · go_simp
        first | done | rfl
      simp only [Act.put, List.setIfInBounds_toArray, List.set_cons_zero, List.set_cons_succ]
      refine g_alloc (stays_good _ _) (.cells z20 27) rfl rfl (fun w' hC => ?_) (fun gY tY nY => ?_)
      · clear hC
        go_simp
        first | done | rfl | exact ⟨rfl, rfl⟩
      clear nY
      replace tY := Lib.hid tY
      simp only [Act.put, List.setIfInBounds_toArray, List.set_cons_zero, List.set_cons_succ]
      refine g_alloc (stays_good _ _) (.cells z20 27) rfl rfl (fun w' hC => ?_) (fun gZ tZ nZ => ?_)
      · clear hC
        go_simp
        first | done | rfl | exact ⟨rfl, rfl⟩
      obtain ⟨d_Y_Z, nZ⟩ := own_none nZ
      clear nZ
      replace tZ := Lib.hid tZ
      simp only [Act.put, List.setIfInBounds_toArray, List.set_cons_zero, List.set_cons_succ]
      refine g_store gY (some 8) 27 27 _ _ z20 (fc (dig (X / u))) rfl rfl rfl rfl rfl ((own_off _ (Ne.symm d_Y_Z)).trans (own_new _ _ _ _)) (by kernel_rfl) (fc_size _) (info27 _) (fc_one _) ?_
      simp only [Act.put]
      refine g_store gZ (some 9) 27 27 _ _ z20 (fc (dig (X % u))) rfl rfl rfl rfl rfl ((own_off _ d_Y_Z).trans (own_new _ _ _ _)) (by kernel_rfl) (fc_size _) (info27 _) (fc_one _) ?_
      simp only [Act.put]
      refine g_end ?_
      intro w5 hC5 hh5
      have S5 : Hid (Stays [(ga, Obj.cells #[.int .u64 (a : Int), .int .u64 (b : Int)] 24 (0, 0)), (gX, Obj.cells (fc (dig X)) 27 (0, 0)), (gqq, Obj.cells #[.int .u64 q1, .int .u64 q2] 24 (0, 0)), (gY, Obj.cells (fc (dig (X / u))) 27 (0, 0)), (gZ, Obj.cells (fc (dig (X % u))) 27 (0, 0))] w w5) := Lib.hid (stays_cons (stays_row hC5 (List.mem_cons_self ..)) (stays_cons (stays_row hC5 (List.mem_cons_of_mem _ (List.mem_cons_self ..))) (stays_cons (stays_row hC5 (List.mem_cons_of_mem _ (List.mem_cons_of_mem _ (List.mem_cons_self ..)))) (stays_cons ((hh5 _ _ _ ((own_off _ (Ne.symm d_Y_Z)).trans (own_new _ _ _ _))).1) (stays_cons ((hh5 _ _ _ (own_new _ _ _ _)).1) (stays_nil (stays_below hC5)))))))
      clear S4
      clear hC5 hh5
      go_upto_region 9 with fail
      refine reg_plain (Stays [(ga, Obj.cells #[.int .u64 (a : Int), .int .u64 (b : Int)] 24 (0, 0)), (gX, Obj.cells (fc (dig X)) 27 (0, 0)), (gqq, Obj.cells #[.int .u64 q1, .int .u64 q2] 24 (0, 0)), (gY, Obj.cells (fc (dig (X / u))) 27 (0, 0)), (gZ, Obj.cells (fc (dig (X % u))) 27 (0, 0))] w) (Turns [(ga, Obj.cells #[.int .u64 (a : Int), .int .u64 (b : Int)] 24 (0, 0)), (gX, Obj.cells (fc (dig X)) 27 (0, 0)), (gqq, Obj.cells #[.int .u64 q1, .int .u64 q2] 24 (0, 0)), (gY, Obj.cells (fc (dig (X / u))) 27 (0, 0)), (gZ, Obj.cells (fc (dig (X % u))) 27 (0, 0))] w) (kdOf [(1, .make (callM (.tuple #[.agg #[.int .u64 q1, .int .u64 q2], .bool true]))), (5, .make (allocM (.cells #[.int .u64 0, .int .u64 0] 24))), (6, .touch)]) none0 (stays_good _ _) (S5.out) (holds0 _) ?_
      (refine g_load 27 _ gY 27 (fc (dig (X / u))) (0, 0) _ rfl rfl rfl rfl (fun w' hC => stays_row hC (List.mem_cons_of_mem _ (List.mem_cons_of_mem _ (List.mem_cons_of_mem _ (List.mem_cons_self ..))))) Try.underlying27 rfl (info27 _) ?_)
      simp only [Act.put, List.setIfInBounds_toArray, List.set_cons_zero, List.set_cons_succ]
      refine g_call (stays_good _ _) (.tuple #[.agg #[.int .u64 q1, .int .u64 q2], .bool true]) rfl rfl (fun w' hC => ?_) ?_
      · clear hC
        go_simp
        refine (wide_any _ (X / u) (lt8_20 (Nat.lt_of_le_of_lt (Nat.div_le_self _ _) kX.out))).mono (fun e w2 h => ?_)
        obtain ⟨h1, h2⟩ := h
        rw [HQ2.out] at h1
        exact gives h1 h2
      simp only [Act.put, List.setIfInBounds_toArray, List.set_cons_zero, List.set_cons_succ]
      refine g_look rfl rfl ?_ (fun w' hC => ?_) ?_
      rotate_left
      · go_simp
        first | done | rfl
      simp only [Act.put, List.setIfInBounds_toArray, List.set_cons_zero, List.set_cons_succ]
      refine g_look rfl rfl ?_ (fun w' hC => ?_) ?_
      rotate_left
      · go_simp
        first | done | rfl
      simp only [Act.put, List.setIfInBounds_toArray, List.set_cons_zero, List.set_cons_succ]
      refine g_look rfl rfl ?_ (fun w' hC => ?_) ?_
      rotate_left
      · go_simp
        first | done | rfl
      simp only [Act.put, List.setIfInBounds_toArray, List.set_cons_zero, List.set_cons_succ]
      refine g_alloc (stays_good _ _) (.cells #[.int .u64 0, .int .u64 0] 24) rfl rfl (fun w' hC => ?_) (fun gv tv nv => ?_)
      · clear hC
        go_simp
        first | done | rfl | exact ⟨rfl, rfl⟩
      clear nv
      replace tv := Lib.hid tv
      simp only [Act.put, List.setIfInBounds_toArray, List.set_cons_zero, List.set_cons_succ]
      refine g_store gv (some 5) 24 24 _ _ #[.int .u64 0, .int .u64 0] #[.int .u64 q1, .int .u64 q2] rfl rfl rfl rfl rfl (own_new _ _ _ _) (by kernel_rfl) (rfl) (rfl) (one24 _ _) ?_
      simp only [Act.put]
      refine g_look rfl rfl ?_ (fun w' hC => ?_) ?_
      rotate_left
      · go_simp
        first | done | rfl
      simp only [Act.put, List.setIfInBounds_toArray, List.set_cons_zero, List.set_cons_succ]
      refine g_end ?_
      intro w6 hC6 hh6
      have S6 : Hid (Stays [(ga, Obj.cells #[.int .u64 (a : Int), .int .u64 (b : Int)] 24 (0, 0)), (gX, Obj.cells (fc (dig X)) 27 (0, 0)), (gqq, Obj.cells #[.int .u64 q1, .int .u64 q2] 24 (0, 0)), (gY, Obj.cells (fc (dig (X / u))) 27 (0, 0)), (gZ, Obj.cells (fc (dig (X % u))) 27 (0, 0)), (gv, Obj.cells #[.int .u64 q1, .int .u64 q2] 24 (0, 0))] w w6) := Lib.hid (stays_cons (stays_row hC6 (List.mem_cons_self ..)) (stays_cons (stays_row hC6 (List.mem_cons_of_mem _ (List.mem_cons_self ..))) (stays_cons (stays_row hC6 (List.mem_cons_of_mem _ (List.mem_cons_of_mem _ (List.mem_cons_self ..)))) (stays_cons (stays_row hC6 (List.mem_cons_of_mem _ (List.mem_cons_of_mem _ (List.mem_cons_of_mem _ (List.mem_cons_self ..))))) (stays_cons (stays_row hC6 (List.mem_cons_of_mem _ (List.mem_cons_of_mem _ (List.mem_cons_of_mem _ (List.mem_cons_of_mem _ (List.mem_cons_self ..)))))) (stays_cons ((hh6 _ _ _ (own_new _ _ _ _)).1) (stays_nil (stays_below hC6))))))))
      clear S5
      clear hC6 hh6
      go_upto_region 10 with fail
      refine reg_plain (Stays [(ga, Obj.cells #[.int .u64 (a : Int), .int .u64 (b : Int)] 24 (0, 0)), (gX, Obj.cells (fc (dig X)) 27 (0, 0)), (gqq, Obj.cells #[.int .u64 q1, .int .u64 q2] 24 (0, 0)), (gY, Obj.cells (fc (dig (X / u))) 27 (0, 0)), (gZ, Obj.cells (fc (dig (X % u))) 27 (0, 0)), (gv, Obj.cells #[.int .u64 q1, .int .u64 q2] 24 (0, 0))] w) (Turns [(ga, Obj.cells #[.int .u64 (a : Int), .int .u64 (b : Int)] 24 (0, 0)), (gX, Obj.cells (fc (dig X)) 27 (0, 0)), (gqq, Obj.cells #[.int .u64 q1, .int .u64 q2] 24 (0, 0)), (gY, Obj.cells (fc (dig (X / u))) 27 (0, 0)), (gZ, Obj.cells (fc (dig (X % u))) 27 (0, 0)), (gv, Obj.cells #[.int .u64 q1, .int .u64 q2] 24 (0, 0))] w) (kdOf [(1, .make (callM (.tuple #[.agg #[.int .u64 0, .int .u64 r], .bool true]))), (5, .make (allocM (.cells #[.int .u64 0, .int .u64 0] 24))), (6, .touch)]) none0 (stays_good _ _) (S6.out) (holds0 _) ?_
      (refine g_load 27 _ gZ 27 (fc (dig (X % u))) (0, 0) _ rfl rfl rfl rfl (fun w' hC => stays_row hC (List.mem_cons_of_mem _ (List.mem_cons_of_mem _ (List.mem_cons_of_mem _ (List.mem_cons_of_mem _ (List.mem_cons_self ..)))))) Try.underlying27 rfl (info27 _) ?_)
      simp only [Act.put, List.setIfInBounds_toArray, List.set_cons_zero, List.set_cons_succ]
      refine g_call (stays_good _ _) (.tuple #[.agg #[.int .u64 0, .int .u64 r], .bool true]) rfl rfl (fun w' hC => ?_) ?_
      · clear hC
        go_simp
        refine (wide_any _ (X % u) (lt8_20 (Nat.lt_of_le_of_lt (Nat.mod_le _ _) kX.out))).mono (fun e w2 h => ?_)
        obtain ⟨h1, h2⟩ := h
        rw [HQ3.out] at h1
        exact gives h1 h2
      simp only [Act.put, List.setIfInBounds_toArray, List.set_cons_zero, List.set_cons_succ]
      refine g_look rfl rfl ?_ (fun w' hC => ?_) ?_
      rotate_left
      · go_simp
        first | done | rfl
      simp only [Act.put, List.setIfInBounds_toArray, List.set_cons_zero, List.set_cons_succ]
      refine g_look rfl rfl ?_ (fun w' hC => ?_) ?_
      rotate_left
      · go_simp
        first | done | rfl
      simp only [Act.put, List.setIfInBounds_toArray, List.set_cons_zero, List.set_cons_succ]
      refine g_look rfl rfl ?_ (fun w' hC => ?_) ?_
      rotate_left
      · go_simp
        first | done | rfl
      simp only [Act.put, List.setIfInBounds_toArray, List.set_cons_zero, List.set_cons_succ]
      refine g_alloc (stays_good _ _) (.cells #[.int .u64 0, .int .u64 0] 24) rfl rfl (fun w' hC => ?_) (fun gw tw nw => ?_)
      · clear hC
        go_simp
        first | done | rfl | exact ⟨rfl, rfl⟩
      clear nw
      replace tw := Lib.hid tw
      simp only [Act.put, List.setIfInBounds_toArray, List.set_cons_zero, List.set_cons_succ]
      refine g_store gw (some 5) 24 24 _ _ #[.int .u64 0, .int .u64 0] #[.int .u64 0, .int .u64 r] rfl rfl rfl rfl rfl (own_new _ _ _ _) (by kernel_rfl) (rfl) (rfl) (one24 _ _) ?_
      simp only [Act.put]
      refine g_look rfl rfl ?_ (fun w' hC => ?_) ?_
      rotate_left
      · go_simp
        first | done | rfl
      simp only [Act.put, List.setIfInBounds_toArray, List.set_cons_zero, List.set_cons_succ]
      refine g_end ?_
      intro w7 hC7 hh7
      have S7 : Hid (Stays [(ga, Obj.cells #[.int .u64 (a : Int), .int .u64 (b : Int)] 24 (0, 0)), (gX, Obj.cells (fc (dig X)) 27 (0, 0)), (gqq, Obj.cells #[.int .u64 q1, .int .u64 q2] 24 (0, 0)), (gY, Obj.cells (fc (dig (X / u))) 27 (0, 0)), (gZ, Obj.cells (fc (dig (X % u))) 27 (0, 0)), (gv, Obj.cells #[.int .u64 q1, .int .u64 q2] 24 (0, 0)), (gw, Obj.cells #[.int .u64 0, .int .u64 r] 24 (0, 0))] w w7) := Lib.hid (stays_cons (stays_row hC7 (List.mem_cons_self ..)) (stays_cons (stays_row hC7 (List.mem_cons_of_mem _ (List.mem_cons_self ..))) (stays_cons (stays_row hC7 (List.mem_cons_of_mem _ (List.mem_cons_of_mem _ (List.mem_cons_self ..)))) (stays_cons (stays_row hC7 (List.mem_cons_of_mem _ (List.mem_cons_of_mem _ (List.mem_cons_of_mem _ (List.mem_cons_self ..))))) (stays_cons (stays_row hC7 (List.mem_cons_of_mem _ (List.mem_cons_of_mem _ (List.mem_cons_of_mem _ (List.mem_cons_of_mem _ (List.mem_cons_self ..)))))) (stays_cons (stays_row hC7 (List.mem_cons_of_mem _ (List.mem_cons_of_mem _ (List.mem_cons_of_mem _ (List.mem_cons_of_mem _ (List.mem_cons_of_mem _ (List.mem_cons_self ..))))))) (stays_cons ((hh7 _ _ _ (own_new _ _ _ _)).1) (stays_nil (stays_below hC7)))))))))
      clear S6
      clear hC7 hh7
      go_upto_region 11 with fail
      refine reg_plain (Stays [(ga, Obj.cells #[.int .u64 (a : Int), .int .u64 (b : Int)] 24 (0, 0)), (gX, Obj.cells (fc (dig X)) 27 (0, 0)), (gqq, Obj.cells #[.int .u64 q1, .int .u64 q2] 24 (0, 0)), (gY, Obj.cells (fc (dig (X / u))) 27 (0, 0)), (gZ, Obj.cells (fc (dig (X % u))) 27 (0, 0)), (gv, Obj.cells #[.int .u64 q1, .int .u64 q2] 24 (0, 0)), (gw, Obj.cells #[.int .u64 0, .int .u64 r] 24 (0, 0))] w) (Turns [(ga, Obj.cells #[.int .u64 (a : Int), .int .u64 (b : Int)] 24 (0, 0)), (gX, Obj.cells (fc (dig X)) 27 (0, 0)), (gqq, Obj.cells #[.int .u64 q1, .int .u64 q2] 24 (0, 0)), (gY, Obj.cells (fc (dig (X / u))) 27 (0, 0)), (gZ, Obj.cells (fc (dig (X % u))) 27 (0, 0)), (gv, Obj.cells #[.int .u64 q1, .int .u64 q2] 24 (0, 0)), (gw, Obj.cells #[.int .u64 0, .int .u64 r] 24 (0, 0))] w) (kdOf []) none0 (stays_good _ _) (S7.out) (holds0 _) ?_
      refine g_look rfl rfl ?_ (fun w' hC => ?_) ?_
      rotate_left
      · go_simp
        first | done | rfl
      simp only [Act.put, List.setIfInBounds_toArray, List.set_cons_zero, List.set_cons_succ]
      refine g_look rfl rfl ?_ (fun w' hC => ?_) ?_
      rotate_left
      · go_simp
        first | done | rfl
      simp only [Act.put, List.setIfInBounds_toArray, List.set_cons_zero, List.set_cons_succ]
      refine g_look rfl rfl ?_ (fun w' hC => ?_) ?_
      rotate_left
      · go_simp
        first | done | rfl
      simp only [Act.put, List.setIfInBounds_toArray, List.set_cons_zero, List.set_cons_succ]
      first | (refine g_skip rfl ?_) | (refine g_load 24 _ gqq 24 #[.int .u64 q1, .int .u64 q2] (0, 0) _ rfl rfl rfl rfl (fun w' hC => stays_row hC (List.mem_cons_of_mem _ (List.mem_cons_of_mem _ (List.mem_cons_self ..)))) Try.underlying24 rfl (rfl) ?_)
      simp only [Act.put, List.setIfInBounds_toArray, List.set_cons_zero, List.set_cons_succ]
      first | (refine g_skip rfl ?_) | (refine g_load 24 _ gv 24 #[.int .u64 q1, .int .u64 q2] (0, 0) _ rfl rfl rfl rfl (fun w' hC => stays_row hC (List.mem_cons_of_mem _ (List.mem_cons_of_mem _ (List.mem_cons_of_mem _ (List.mem_cons_of_mem _ (List.mem_cons_of_mem _ (List.mem_cons_self ..))))))) Try.underlying24 rfl (rfl) ?_)
      simp only [Act.put, List.setIfInBounds_toArray, List.set_cons_zero, List.set_cons_succ]
      first
      | (refine g_skip rfl ?_)
      | (refine g_look rfl rfl ?_ (fun w' hC => ?_) ?_
         rotate_left
         · go_simp
           first | done | rfl)
      simp only [Act.put, List.setIfInBounds_toArray, List.set_cons_zero, List.set_cons_succ]
      refine g_look rfl rfl ?_ (fun w' hC => ?_) ?_
      rotate_left
      · go_simp
        first | done | rfl
      simp only [Act.put, List.setIfInBounds_toArray, List.set_cons_zero, List.set_cons_succ]
      refine g_look rfl rfl ?_ (fun w' hC => ?_) ?_
      rotate_left
      · go_simp
        first | done | rfl
      simp only [Act.put, List.setIfInBounds_toArray, List.set_cons_zero, List.set_cons_succ]
      first
      | (refine g_skip rfl ?_)
      | (refine g_look rfl rfl ?_ (fun w' hC => ?_) ?_
         rotate_left
         · go_simp
           first | done | rfl)
      simp only [Act.put, List.setIfInBounds_toArray, List.set_cons_zero, List.set_cons_succ]
      first
      | (refine g_skip rfl ?_)
      | (refine g_look rfl rfl ?_ (fun w' hC => ?_) ?_
         rotate_left
         · go_simp
           first | done | rfl)
      simp only [Act.put, List.setIfInBounds_toArray, List.set_cons_zero, List.set_cons_succ]
      first | (refine g_skip rfl ?_) | (refine g_load 24 _ gw 24 #[.int .u64 0, .int .u64 r] (0, 0) _ rfl rfl rfl rfl (fun w' hC => stays_row hC (List.mem_cons_of_mem _ (List.mem_cons_of_mem _ (List.mem_cons_of_mem _ (List.mem_cons_of_mem _ (List.mem_cons_of_mem _ (List.mem_cons_of_mem _ (List.mem_cons_self ..)))))))) Try.underlying24 rfl (rfl) ?_)
      simp only [Act.put, List.setIfInBounds_toArray, List.set_cons_zero, List.set_cons_succ]
      first
      | (refine g_skip rfl ?_)
      | (refine g_look rfl rfl ?_ (fun w' hC => ?_) ?_
         rotate_left
         · go_simp
           first | done | rfl)
      simp only [Act.put, List.setIfInBounds_toArray, List.set_cons_zero, List.set_cons_succ]
      refine g_look rfl rfl ?_ (fun w' hC => ?_) ?_
      rotate_left
      · go_simp
        first | done | rfl
      simp only [Act.put, List.setIfInBounds_toArray, List.set_cons_zero, List.set_cons_succ]
      refine g_end ?_
      intro w8 hC8 hh8
      have S8 : Hid (Stays [(ga, Obj.cells #[.int .u64 (a : Int), .int .u64 (b : Int)] 24 (0, 0)), (gX, Obj.cells (fc (dig X)) 27 (0, 0))] w w8) := Lib.hid (stays_cons (stays_row hC8 (List.mem_cons_self ..)) (stays_cons (stays_row hC8 (List.mem_cons_of_mem _ (List.mem_cons_self ..))) (stays_nil (stays_below hC8))))
      clear S7
      clear hC8 hh8
      go_wp2_with fail
      go_meet
      exact S8
    · obtain rfl : u = 0 := by omega
      obtain ⟨rfl, rfl, rfl, rfl⟩ := HQz.out rfl
      have eu : (((0 : Nat) : Int) == 0) = true := rfl
      simp only [eu]
      clear eu
      go_upto_region 6 with fail
      refine reg_plain (Stays [(ga, Obj.cells #[.int .u64 (a : Int), .int .u64 (b : Int)] 24 (0, 0)), (gX, Obj.cells (fc (dig X)) 27 (0, 0)), (gqq, Obj.cells #[.int .u64 0, .int .u64 0] 24 (0, 0))] w) (Turns [(ga, Obj.cells #[.int .u64 (a : Int), .int .u64 (b : Int)] 24 (0, 0)), (gX, Obj.cells (fc (dig X)) 27 (0, 0)), (gqq, Obj.cells #[.int .u64 0, .int .u64 0] 24 (0, 0))] w) (kdOf []) none0 (stays_good _ _) (S4.out) (holds0 _) ?_
      refine g_look rfl rfl ?_ (fun w' hC => ?_) ?_
      rotate_left
      · go_simp
        first | done | rfl
      simp only [Act.put, List.setIfInBounds_toArray, List.set_cons_zero, List.set_cons_succ]
      refine g_look rfl rfl ?_ (fun w' hC => ?_) ?_
      rotate_left
      · go_simp
        first | done | rfl
      simp only [Act.put, List.setIfInBounds_toArray, List.set_cons_zero, List.set_cons_succ]
      first | (refine g_skip rfl ?_) | (refine g_load 24 _ gqq 24 #[.int .u64 0, .int .u64 0] (0, 0) _ rfl rfl rfl rfl (fun w' hC => stays_row hC (List.mem_cons_of_mem _ (List.mem_cons_of_mem _ (List.mem_cons_self ..)))) Try.underlying24 rfl (rfl) ?_)
      simp only [Act.put, List.setIfInBounds_toArray, List.set_cons_zero, List.set_cons_succ]
      first
      | (refine g_skip rfl ?_)
      | (refine g_look rfl rfl ?_ (fun w' hC => ?_) ?_
         rotate_left
         · go_simp
           first | done | rfl)
      simp only [Act.put, List.setIfInBounds_toArray, List.set_cons_zero, List.set_cons_succ]
      first
      | (refine g_skip rfl ?_)
      | (refine g_look rfl rfl ?_ (fun w' hC => ?_) ?_
         rotate_left
         · go_simp
           first | done | rfl)
      simp only [Act.put, List.setIfInBounds_toArray, List.set_cons_zero, List.set_cons_succ]
      refine g_look rfl rfl ?_ (fun w' hC => ?_) ?_
      rotate_left
      · go_simp
        first | done | rfl
      simp only [Act.put, List.setIfInBounds_toArray, List.set_cons_zero, List.set_cons_succ]
      refine g_look rfl rfl ?_ (fun w' hC => ?_) ?_
      rotate_left
      · go_simp
        first | done | rfl
      simp only [Act.put, List.setIfInBounds_toArray, List.set_cons_zero, List.set_cons_succ]
      first
      | (refine g_skip rfl ?_)
      | (refine g_look rfl rfl ?_ (fun w' hC => ?_) ?_
         rotate_left
         · go_simp
           first | done | rfl)
      simp only [Act.put, List.setIfInBounds_toArray, List.set_cons_zero, List.set_cons_succ]
      first
      | (refine g_skip rfl ?_)
      | (refine g_look rfl rfl ?_ (fun w' hC => ?_) ?_
         rotate_left
         · go_simp
           first | done | rfl)
      simp only [Act.put, List.setIfInBounds_toArray, List.set_cons_zero, List.set_cons_succ]
      refine g_look rfl rfl ?_ (fun w' hC => ?_) ?_
      rotate_left
      · go_simp
        first | done | rfl
      simp only [Act.put, List.setIfInBounds_toArray, List.set_cons_zero, List.set_cons_succ]
      refine g_end ?_
      intro w5 hC5 hh5
      have S5 : Hid (Stays [(ga, Obj.cells #[.int .u64 (a : Int), .int .u64 (b : Int)] 24 (0, 0)), (gX, Obj.cells (fc (dig X)) 27 (0, 0))] w w5) := Lib.hid (stays_cons (stays_row hC5 (List.mem_cons_self ..)) (stays_cons (stays_row hC5 (List.mem_cons_of_mem _ (List.mem_cons_self ..))) (stays_nil (stays_below hC5))))
      clear S4
      clear hC5 hh5
      go_wp2_with fail
      go_meet
      exact S5
  case rest =>
    clear S4
    have S90 : Hid (Stays [(ga, Obj.cells #[.int .u64 (a : Int), .int .u64 (b : Int)] 24 (0, 0)), (gX, Obj.cells (fc (dig X)) 27 (0, 0))] w wc) := hcut
    clear hcut
    go_upto_region 13 with fail
    refine reg_plain (Stays [(ga, Obj.cells #[.int .u64 (a : Int), .int .u64 (b : Int)] 24 (0, 0)), (gX, Obj.cells (fc (dig X)) 27 (0, 0))] w) (Turns [(ga, Obj.cells #[.int .u64 (a : Int), .int .u64 (b : Int)] 24 (0, 0)), (gX, Obj.cells (fc (dig X)) 27 (0, 0))] w) (kdOf []) none0 (stays_good _ _) (S90.out) (holds0 _) ?_
    refine g_look rfl rfl ?_ (fun w' hC => ?_) ?_
    rotate_left
    · go_simp
      first | done | rfl
    simp only [Act.put, List.setIfInBounds_toArray, List.set_cons_zero, List.set_cons_succ]
    refine g_look rfl rfl (.int .i64 n) (fun w' hC => ?_) ?_
    · go_simp
      first | done | rfl | omega | (split <;> omega)
    simp only [Act.put, List.setIfInBounds_toArray, List.set_cons_zero, List.set_cons_succ]
    refine g_look rfl rfl (.int .i64 0) (fun w' hC => ?_) ?_
    · go_simp
      first | done | rfl | omega | (split <;> omega)
    simp only [Act.put, List.setIfInBounds_toArray, List.set_cons_zero, List.set_cons_succ]
    refine g_look rfl rfl ?_ (fun w' hC => ?_) ?_
    rotate_left
    · go_simp
      first | done | rfl
    simp only [Act.put, List.setIfInBounds_toArray, List.set_cons_zero, List.set_cons_succ]
    refine g_end ?_
    intro w91 hC91 hh91
    have S91 : Hid (Stays [(ga, Obj.cells #[.int .u64 (a : Int), .int .u64 (b : Int)] 24 (0, 0)), (gX, Obj.cells (fc (dig X)) 27 (0, 0))] w w91) := Lib.hid (stays_cons (stays_row hC91 (List.mem_cons_self ..)) (stays_cons (stays_row hC91 (List.mem_cons_of_mem _ (List.mem_cons_self ..))) (stays_nil (stays_below hC91))))
    clear S90
    clear hC91 hh91
    go_upto_region 14 with fail
    refine reg_plain (Stays [(ga, Obj.cells #[.int .u64 (a : Int), .int .u64 (b : Int)] 24 (0, 0)), (gX, Obj.cells (fc (dig X)) 27 (0, 0))] w) (Turns [(ga, Obj.cells #[.int .u64 (a : Int), .int .u64 (b : Int)] 24 (0, 0)), (gX, Obj.cells (fc (dig X)) 27 (0, 0))] w) (kdOf [(2, .make (callM (.tuple #[.agg #[.int .u64 0, .int .u64 0], .bool false]))), (6, .make (allocM (.cells #[.int .u64 0, .int .u64 0] 24))), (7, .touch)]) none0 (stays_good _ _) (S91.out) (holds0 _) ?_
    (refine g_load 24 _ ga 24 #[.int .u64 (a : Int), .int .u64 (b : Int)] (0, 0) _ rfl rfl rfl rfl (fun w' hC => stays_row hC (List.mem_cons_self ..)) Try.underlying24 rfl (rfl) ?_)
    simp only [Act.put, List.setIfInBounds_toArray, List.set_cons_zero, List.set_cons_succ]
    refine g_look rfl rfl ?_ (fun w' hC => ?_) ?_
    rotate_left
    · go_simp
      first | done | rfl
    simp only [Act.put, List.setIfInBounds_toArray, List.set_cons_zero, List.set_cons_succ]
    refine g_call (stays_good _ _) (.tuple #[.agg #[.int .u64 0, .int .u64 0], .bool false]) rfl rfl (fun w' hC => ?_) ?_
    · clear hC
      go_simp
      refine (left_any _ a b n ua.out ub.out HR.out.2 HR.out.1).mono (fun e w2 h => ?_)
      obtain ⟨h1, h2⟩ := h
      rw [vX.out, HL.out] at h1
      exact gives h1 h2
    simp only [Act.put, List.setIfInBounds_toArray, List.set_cons_zero, List.set_cons_succ]
    refine g_look rfl rfl ?_ (fun w' hC => ?_) ?_
    rotate_left
    · go_simp
      first | done | rfl
    simp only [Act.put, List.setIfInBounds_toArray, List.set_cons_zero, List.set_cons_succ]
    refine g_look rfl rfl ?_ (fun w' hC => ?_) ?_
    rotate_left
    · go_simp
      first | done | rfl
    simp only [Act.put, List.setIfInBounds_toArray, List.set_cons_zero, List.set_cons_succ]
    refine g_look rfl rfl ?_ (fun w' hC => ?_) ?_
    rotate_left
    · go_simp
      first | done | rfl
    simp only [Act.put, List.setIfInBounds_toArray, List.set_cons_zero, List.set_cons_succ]
    refine g_alloc (stays_good _ _) (.cells #[.int .u64 0, .int .u64 0] 24) rfl rfl (fun w' hC => ?_) (fun gup tup nup => ?_)
    · clear hC
      go_simp
      first | done | rfl | exact ⟨rfl, rfl⟩
    clear nup
    replace tup := Lib.hid tup
    simp only [Act.put, List.setIfInBounds_toArray, List.set_cons_zero, List.set_cons_succ]
    refine g_store gup (some 6) 24 24 _ _ #[.int .u64 0, .int .u64 0] #[.int .u64 0, .int .u64 0] rfl rfl rfl rfl rfl (own_new _ _ _ _) (by kernel_rfl) (rfl) (rfl) (one24 _ _) ?_
    simp only [Act.put]
    refine g_look rfl rfl ?_ (fun w' hC => ?_) ?_
    rotate_left
    · go_simp
      first | done | rfl
    simp only [Act.put, List.setIfInBounds_toArray, List.set_cons_zero, List.set_cons_succ]
    refine g_end ?_
    intro w92 hC92 hh92
    have S92 : Hid (Stays [(ga, Obj.cells #[.int .u64 (a : Int), .int .u64 (b : Int)] 24 (0, 0)), (gX, Obj.cells (fc (dig X)) 27 (0, 0)), (gup, Obj.cells #[.int .u64 0, .int .u64 0] 24 (0, 0))] w w92) := Lib.hid (stays_cons (stays_row hC92 (List.mem_cons_self ..)) (stays_cons (stays_row hC92 (List.mem_cons_of_mem _ (List.mem_cons_self ..))) (stays_cons ((hh92 _ _ _ (own_new _ _ _ _)).1) (stays_nil (stays_below hC92)))))
    clear S91
    clear hC92 hh92
    go_upto_region 15 with fail
    refine reg_plain (Stays [(ga, Obj.cells #[.int .u64 (a : Int), .int .u64 (b : Int)] 24 (0, 0)), (gX, Obj.cells (fc (dig X)) 27 (0, 0)), (gup, Obj.cells #[.int .u64 0, .int .u64 0] 24 (0, 0))] w) (Turns [(ga, Obj.cells #[.int .u64 (a : Int), .int .u64 (b : Int)] 24 (0, 0)), (gX, Obj.cells (fc (dig X)) 27 (0, 0)), (gup, Obj.cells #[.int .u64 0, .int .u64 0] 24 (0, 0))] w) (kdOf [(8, .make (allocM (.cells #[.int .u64 0, .int .u64 0] 24))), (9, .touch)]) none0 (stays_good _ _) (S92.out) (holds0 _) ?_
    refine g_look rfl rfl ?_ (fun w' hC => ?_) ?_
    rotate_left
    · go_simp
      first | done | rfl
    simp only [Act.put, List.setIfInBounds_toArray, List.set_cons_zero, List.set_cons_succ]
    (refine g_load 24 _ ga 24 #[.int .u64 (a : Int), .int .u64 (b : Int)] (0, 0) _ rfl rfl rfl rfl (fun w' hC => stays_row hC (List.mem_cons_self ..)) Try.underlying24 rfl (rfl) ?_)
    simp only [Act.put, List.setIfInBounds_toArray, List.set_cons_zero, List.set_cons_succ]
    refine g_look rfl rfl ?_ (fun w' hC => ?_) ?_
    rotate_left
    · go_simp
      first | done | rfl
    simp only [Act.put, List.setIfInBounds_toArray, List.set_cons_zero, List.set_cons_succ]
    refine g_look rfl rfl ?_ (fun w' hC => ?_) ?_
    rotate_left
    · go_simp
      first | done | rfl
    simp only [Act.put, List.setIfInBounds_toArray, List.set_cons_zero, List.set_cons_succ]
    refine g_look rfl rfl ?_ (fun w' hC => ?_) ?_
    rotate_left
    · go_simp
      first | done | rfl
    simp only [Act.put, List.setIfInBounds_toArray, List.set_cons_zero, List.set_cons_succ]
    first
    | (refine g_skip rfl ?_)
    | (refine g_look rfl rfl ?_ (fun w' hC => ?_) ?_
       rotate_left
       · go_simp
         first | done | rfl)
    simp only [Act.put, List.setIfInBounds_toArray, List.set_cons_zero, List.set_cons_succ]
    first
    | (refine g_skip rfl ?_)
    | (refine g_look rfl rfl ?_ (fun w' hC => ?_) ?_
       rotate_left
       · go_simp
         first | done | rfl)
    simp only [Act.put, List.setIfInBounds_toArray, List.set_cons_zero, List.set_cons_succ]
    refine g_look rfl rfl ?_ (fun w' hC => ?_) ?_
    rotate_left
    · go_simp
      first | done | rfl
    simp only [Act.put, List.setIfInBounds_toArray, List.set_cons_zero, List.set_cons_succ]
    refine g_alloc (stays_good _ _) (.cells #[.int .u64 0, .int .u64 0] 24) rfl rfl (fun w' hC => ?_) (fun gwant twant nwant => ?_)
    · clear hC
      go_simp
      first | done | rfl | exact ⟨rfl, rfl⟩
    clear nwant
    replace twant := Lib.hid twant
    simp only [Act.put, List.setIfInBounds_toArray, List.set_cons_zero, List.set_cons_succ]
    refine g_store gwant (some 8) 24 24 _ _ #[.int .u64 0, .int .u64 0] #[.int .u64 0, .int .u64 0] rfl rfl rfl rfl rfl (own_new _ _ _ _) (by kernel_rfl) (rfl) (rfl) (one24 _ _) ?_
    simp only [Act.put]
    refine g_look rfl rfl ?_ (fun w' hC => ?_) ?_
    rotate_left
    · go_simp
      first | done | rfl
    simp only [Act.put, List.setIfInBounds_toArray, List.set_cons_zero, List.set_cons_succ]
    refine g_end ?_
    intro w93 hC93 hh93
    have S93 : Hid (Stays [(ga, Obj.cells #[.int .u64 (a : Int), .int .u64 (b : Int)] 24 (0, 0)), (gX, Obj.cells (fc (dig X)) 27 (0, 0)), (gup, Obj.cells #[.int .u64 0, .int .u64 0] 24 (0, 0)), (gwant, Obj.cells #[.int .u64 0, .int .u64 0] 24 (0, 0))] w w93) := Lib.hid (stays_cons (stays_row hC93 (List.mem_cons_self ..)) (stays_cons (stays_row hC93 (List.mem_cons_of_mem _ (List.mem_cons_self ..))) (stays_cons (stays_row hC93 (List.mem_cons_of_mem _ (List.mem_cons_of_mem _ (List.mem_cons_self ..)))) (stays_cons ((hh93 _ _ _ (own_new _ _ _ _)).1) (stays_nil (stays_below hC93))))))
    clear S92
    clear hC93 hh93
    go_upto_region 18 with fail
    refine reg (Stays [(ga, Obj.cells #[.int .u64 (a : Int), .int .u64 (b : Int)] 24 (0, 0)), (gX, Obj.cells (fc (dig X)) 27 (0, 0)), (gup, Obj.cells #[.int .u64 0, .int .u64 0] 24 (0, 0)), (gwant, Obj.cells #[.int .u64 0, .int .u64 0] 24 (0, 0))] w) (Turns [(ga, Obj.cells #[.int .u64 (a : Int), .int .u64 (b : Int)] 24 (0, 0)), (gX, Obj.cells (fc (dig X)) 27 (0, 0)), (gup, Obj.cells #[.int .u64 0, .int .u64 0] 24 (0, 0)), (gwant, Obj.cells #[.int .u64 0, .int .u64 0] 24 (0, 0))] w) (kdOf [(2, .make (callM (dg M))), (3, .make (callM (.tuple #[dg (X / M), dg (X % M)]))), (7, .make (allocM (.cells z20 27))), (8, .make (allocM (.cells z20 27))), (9, .touch), (10, .touch)]) none0 (stays_good _ _) (by kernel_rfl) (by kernel_rfl) (stays_drew (S93.out)) (holds0 _) ?_
    (refine g_load 27 _ gX 27 (fc (dig X)) (0, 0) _ rfl rfl rfl rfl (fun w' hC => stays_row hC (List.mem_cons_of_mem _ (List.mem_cons_self ..))) Try.underlying27 rfl (info27 _) ?_)
    simp only [Act.put, List.setIfInBounds_toArray, List.set_cons_zero, List.set_cons_succ]
    refine g_look rfl rfl ?_ (fun w' hC => ?_) ?_
    rotate_left
    · go_simp
      first | done | rfl
    simp only [Act.put, List.setIfInBounds_toArray, List.set_cons_zero, List.set_cons_succ]
    refine g_call (stays_good _ _) (dg M) rfl rfl (fun w' hC => ?_) ?_
    · clear hC
      go_simp
      refine (power_any _ 0 (by omega)).mono (fun e w2 h => ?_)
      obtain ⟨h1, h2⟩ := h
      rw [HP.out] at h1
      exact gives h1 h2
    simp only [Act.put, List.setIfInBounds_toArray, List.set_cons_zero, List.set_cons_succ]
    refine g_call (stays_good _ _) (.tuple #[dg (X / M), dg (X % M)]) rfl rfl (fun w' hC => ?_) ?_
    · clear hC
      go_simp
      refine (by_any _ X M HP8.out (div_room kX.out HP0.out)).mono (fun e w2 h => ?_)
      obtain ⟨h1, h2⟩ := h
      rw [byV] at h1
      exact gives h1 h2
    simp only [Act.put, List.setIfInBounds_toArray, List.set_cons_zero, List.set_cons_succ]
    refine g_look rfl rfl ?_ (fun w' hC => ?_) ?_
    rotate_left
    · go_simp
      first | done | rfl
    simp only [Act.put, List.setIfInBounds_toArray, List.set_cons_zero, List.set_cons_succ]
    refine g_look rfl rfl ?_ (fun w' hC => ?_) ?_
    rotate_left
    · go_simp
      first | done | rfl
    simp only [Act.put, List.setIfInBounds_toArray, List.set_cons_zero, List.set_cons_succ]
    refine g_look rfl rfl ?_ (fun w' hC => ?_) ?_
    rotate_left
    · go_simp
      first | done | rfl
    simp only [Act.put, List.setIfInBounds_toArray, List.set_cons_zero, List.set_cons_succ]
    refine g_alloc (stays_good _ _) (.cells z20 27) rfl rfl (fun w' hC => ?_) (fun gP tP nP => ?_)
    · clear hC
      go_simp
      first | done | rfl | exact ⟨rfl, rfl⟩
    clear nP
    replace tP := Lib.hid tP
    simp only [Act.put, List.setIfInBounds_toArray, List.set_cons_zero, List.set_cons_succ]
    refine g_alloc (stays_good _ _) (.cells z20 27) rfl rfl (fun w' hC => ?_) (fun gRr tRr nRr => ?_)
    · clear hC
      go_simp
      first | done | rfl | exact ⟨rfl, rfl⟩
    obtain ⟨d_P_Rr, nRr⟩ := own_none nRr
    clear nRr
    replace tRr := Lib.hid tRr
    simp only [Act.put, List.setIfInBounds_toArray, List.set_cons_zero, List.set_cons_succ]
    refine g_store gP (some 7) 27 27 _ _ z20 (fc (dig (X / M))) rfl rfl rfl rfl rfl ((own_off _ (Ne.symm d_P_Rr)).trans (own_new _ _ _ _)) (by kernel_rfl) (fc_size _) (info27 _) (fc_one _) ?_
    simp only [Act.put]
    refine g_store gRr (some 8) 27 27 _ _ z20 (fc (dig (X % M))) rfl rfl rfl rfl rfl ((own_off _ d_P_Rr).trans (own_new _ _ _ _)) (by kernel_rfl) (fc_size _) (info27 _) (fc_one _) ?_
    simp only [Act.put]
    refine g_end ?_
    intro w94 hC94 hh94
    have S94 : Hid (Stays [(ga, Obj.cells #[.int .u64 (a : Int), .int .u64 (b : Int)] 24 (0, 0)), (gup, Obj.cells #[.int .u64 0, .int .u64 0] 24 (0, 0)), (gwant, Obj.cells #[.int .u64 0, .int .u64 0] 24 (0, 0)), (gP, Obj.cells (fc (dig (X / M))) 27 (0, 0))] w w94) := Lib.hid (stays_cons (stays_row hC94 (List.mem_cons_self ..)) (stays_cons (stays_row hC94 (List.mem_cons_of_mem _ (List.mem_cons_of_mem _ (List.mem_cons_self ..)))) (stays_cons (stays_row hC94 (List.mem_cons_of_mem _ (List.mem_cons_of_mem _ (List.mem_cons_of_mem _ (List.mem_cons_self ..))))) (stays_cons ((hh94 _ _ _ ((own_off _ (Ne.symm d_P_Rr)).trans (own_new _ _ _ _))).1) (stays_nil (stays_below hC94))))))
    clear S93
    clear hC94 hh94
    go_upto_region 19 with fail
    refine reg_plain (Stays [(ga, Obj.cells #[.int .u64 (a : Int), .int .u64 (b : Int)] 24 (0, 0)), (gup, Obj.cells #[.int .u64 0, .int .u64 0] 24 (0, 0)), (gwant, Obj.cells #[.int .u64 0, .int .u64 0] 24 (0, 0)), (gP, Obj.cells (fc (dig (X / M))) 27 (0, 0))] w) (Turns [(ga, Obj.cells #[.int .u64 (a : Int), .int .u64 (b : Int)] 24 (0, 0)), (gup, Obj.cells #[.int .u64 0, .int .u64 0] 24 (0, 0)), (gwant, Obj.cells #[.int .u64 0, .int .u64 0] 24 (0, 0)), (gP, Obj.cells (fc (dig (X / M))) 27 (0, 0))] w) (kdOf [(1, .make (callM (.tuple #[.agg #[.int .u64 d1, .int .u64 d2], .bool true]))), (5, .make (allocM (.cells #[.int .u64 0, .int .u64 0] 24))), (6, .touch)]) none0 (stays_good _ _) (S94.out) (holds0 _) ?_
    (refine g_load 27 _ gP 27 (fc (dig (X / M))) (0, 0) _ rfl rfl rfl rfl (fun w' hC => stays_row hC (List.mem_cons_of_mem _ (List.mem_cons_of_mem _ (List.mem_cons_of_mem _ (List.mem_cons_self ..))))) Try.underlying27 rfl (info27 _) ?_)
    simp only [Act.put, List.setIfInBounds_toArray, List.set_cons_zero, List.set_cons_succ]
    refine g_call (stays_good _ _) (.tuple #[.agg #[.int .u64 d1, .int .u64 d2], .bool true]) rfl rfl (fun w' hC => ?_) ?_
    · clear hC
      go_simp
      refine (wide_any _ (X / M) (lt8_20 (Nat.lt_of_le_of_lt (Nat.div_le_self _ _) kX.out))).mono (fun e w2 h => ?_)
      obtain ⟨h1, h2⟩ := h
      rw [HD2.out] at h1
      exact gives h1 h2
    simp only [Act.put, List.setIfInBounds_toArray, List.set_cons_zero, List.set_cons_succ]
    refine g_look rfl rfl ?_ (fun w' hC => ?_) ?_
    rotate_left
    · go_simp
      first | done | rfl
    simp only [Act.put, List.setIfInBounds_toArray, List.set_cons_zero, List.set_cons_succ]
    refine g_look rfl rfl ?_ (fun w' hC => ?_) ?_
    rotate_left
    · go_simp
      first | done | rfl
    simp only [Act.put, List.setIfInBounds_toArray, List.set_cons_zero, List.set_cons_succ]
    refine g_look rfl rfl ?_ (fun w' hC => ?_) ?_
    rotate_left
    · go_simp
      first | done | rfl
    simp only [Act.put, List.setIfInBounds_toArray, List.set_cons_zero, List.set_cons_succ]
    refine g_alloc (stays_good _ _) (.cells #[.int .u64 0, .int .u64 0] 24) rfl rfl (fun w' hC => ?_) (fun gdown tdown ndown => ?_)
    · clear hC
      go_simp
      first | done | rfl | exact ⟨rfl, rfl⟩
    clear ndown
    replace tdown := Lib.hid tdown
    simp only [Act.put, List.setIfInBounds_toArray, List.set_cons_zero, List.set_cons_succ]
    refine g_store gdown (some 5) 24 24 _ _ #[.int .u64 0, .int .u64 0] #[.int .u64 d1, .int .u64 d2] rfl rfl rfl rfl rfl (own_new _ _ _ _) (by kernel_rfl) (rfl) (rfl) (one24 _ _) ?_
    simp only [Act.put]
    refine g_look rfl rfl ?_ (fun w' hC => ?_) ?_
    rotate_left
    · go_simp
      first | done | rfl
    simp only [Act.put, List.setIfInBounds_toArray, List.set_cons_zero, List.set_cons_succ]
    refine g_end ?_
    intro w95 hC95 hh95
    have S95 : Hid (Stays [(ga, Obj.cells #[.int .u64 (a : Int), .int .u64 (b : Int)] 24 (0, 0)), (gup, Obj.cells #[.int .u64 0, .int .u64 0] 24 (0, 0)), (gwant, Obj.cells #[.int .u64 0, .int .u64 0] 24 (0, 0)), (gdown, Obj.cells #[.int .u64 d1, .int .u64 d2] 24 (0, 0))] w w95) := Lib.hid (stays_cons (stays_row hC95 (List.mem_cons_self ..)) (stays_cons (stays_row hC95 (List.mem_cons_of_mem _ (List.mem_cons_self ..))) (stays_cons (stays_row hC95 (List.mem_cons_of_mem _ (List.mem_cons_of_mem _ (List.mem_cons_self ..)))) (stays_cons ((hh95 _ _ _ (own_new _ _ _ _)).1) (stays_nil (stays_below hC95))))))
    clear S94
    clear hC95 hh95
    go_upto_region 20 with fail
    refine reg (Stays [(ga, Obj.cells #[.int .u64 (a : Int), .int .u64 (b : Int)] 24 (0, 0)), (gup, Obj.cells #[.int .u64 0, .int .u64 0] 24 (0, 0)), (gwant, Obj.cells #[.int .u64 0, .int .u64 0] 24 (0, 0)), (gdown, Obj.cells #[.int .u64 d1, .int .u64 d2] 24 (0, 0))] w) (Turns [(ga, Obj.cells #[.int .u64 (a : Int), .int .u64 (b : Int)] 24 (0, 0)), (gup, Obj.cells #[.int .u64 0, .int .u64 0] 24 (0, 0)), (gwant, Obj.cells #[.int .u64 0, .int .u64 0] 24 (0, 0)), (gdown, Obj.cells #[.int .u64 d1, .int .u64 d2] 24 (0, 0))] w) (kdOf [(11, .make (callM (.agg #[.int .u64 d1, .int .u64 d2])))]) none0 (stays_good _ _) (by kernel_rfl) (by kernel_rfl) (stays_drew (S95.out)) (holds0 _) ?_
    refine g_look rfl rfl ?_ (fun w' hC => ?_) ?_
    rotate_left
    · go_simp
      first | done | rfl
    simp only [Act.put, List.setIfInBounds_toArray, List.set_cons_zero, List.set_cons_succ]
    refine g_look rfl rfl ?_ (fun w' hC => ?_) ?_
    rotate_left
    · go_simp
      first | done | rfl
    simp only [Act.put, List.setIfInBounds_toArray, List.set_cons_zero, List.set_cons_succ]
    refine g_look rfl rfl ?_ (fun w' hC => ?_) ?_
    rotate_left
    · go_simp
      first | done | rfl
    simp only [Act.put, List.setIfInBounds_toArray, List.set_cons_zero, List.set_cons_succ]
    refine g_look rfl rfl ?_ (fun w' hC => ?_) ?_
    rotate_left
    · go_simp
      first | done | rfl
    simp only [Act.put, List.setIfInBounds_toArray, List.set_cons_zero, List.set_cons_succ]
    first | (refine g_skip rfl ?_) | (refine g_load 24 _ gup 24 #[.int .u64 0, .int .u64 0] (0, 0) _ rfl rfl rfl rfl (fun w' hC => stays_row hC (List.mem_cons_of_mem _ (List.mem_cons_self ..))) Try.underlying24 rfl (rfl) ?_)
    simp only [Act.put, List.setIfInBounds_toArray, List.set_cons_zero, List.set_cons_succ]
    first | (refine g_skip rfl ?_) | (refine g_load 24 _ gwant 24 #[.int .u64 0, .int .u64 0] (0, 0) _ rfl rfl rfl rfl (fun w' hC => stays_row hC (List.mem_cons_of_mem _ (List.mem_cons_of_mem _ (List.mem_cons_self ..)))) Try.underlying24 rfl (rfl) ?_)
    simp only [Act.put, List.setIfInBounds_toArray, List.set_cons_zero, List.set_cons_succ]
    first
    | (refine g_skip rfl ?_)
    | (refine g_look rfl rfl ?_ (fun w' hC => ?_) ?_
       rotate_left
       · go_simp
         first | done | rfl)
    simp only [Act.put, List.setIfInBounds_toArray, List.set_cons_zero, List.set_cons_succ]
    refine g_look rfl rfl ?_ (fun w' hC => ?_) ?_
    rotate_left
    · go_simp
      first | done | rfl
    simp only [Act.put, List.setIfInBounds_toArray, List.set_cons_zero, List.set_cons_succ]
    refine g_look rfl rfl ?_ (fun w' hC => ?_) ?_
    rotate_left
    · go_simp
      first | done | rfl
    simp only [Act.put, List.setIfInBounds_toArray, List.set_cons_zero, List.set_cons_succ]
    first | (refine g_skip rfl ?_) | (refine g_load 24 _ ga 24 #[.int .u64 (a : Int), .int .u64 (b : Int)] (0, 0) _ rfl rfl rfl rfl (fun w' hC => stays_row hC (List.mem_cons_self ..)) Try.underlying24 rfl (rfl) ?_)
    simp only [Act.put, List.setIfInBounds_toArray, List.set_cons_zero, List.set_cons_succ]
    first
    | (refine g_skip rfl ?_)
    | (refine g_look rfl rfl ?_ (fun w' hC => ?_) ?_
       rotate_left
       · go_simp
         first | done | rfl)
    simp only [Act.put, List.setIfInBounds_toArray, List.set_cons_zero, List.set_cons_succ]
    first
    | (refine g_skip rfl ?_)
    | skip
    refine g_call (stays_good _ _) (.agg #[.int .u64 d1, .int .u64 d2]) rfl rfl (fun w' hC => ?_) ?_
    · clear hC
      go_simp
      refine (right_any _ a b n ua.out ub.out HR.out.2 HR.out.1).mono (fun e w2 h => ?_)
      obtain ⟨h1, h2⟩ := h
      rw [vX.out, HD.out] at h1
      exact gives h1 h2
    simp only [Act.put, List.setIfInBounds_toArray, List.set_cons_zero, List.set_cons_succ]
    first | (refine g_skip rfl ?_) | (refine g_load 24 _ gdown 24 #[.int .u64 d1, .int .u64 d2] (0, 0) _ rfl rfl rfl rfl (fun w' hC => stays_row hC (List.mem_cons_of_mem _ (List.mem_cons_of_mem _ (List.mem_cons_of_mem _ (List.mem_cons_self ..))))) Try.underlying24 rfl (rfl) ?_)
    simp only [Act.put, List.setIfInBounds_toArray, List.set_cons_zero, List.set_cons_succ]
    first
    | (refine g_skip rfl ?_)
    | (refine g_look rfl rfl ?_ (fun w' hC => ?_) ?_
       rotate_left
       · go_simp
         first | done | rfl)
    simp only [Act.put, List.setIfInBounds_toArray, List.set_cons_zero, List.set_cons_succ]
    refine g_look rfl rfl ?_ (fun w' hC => ?_) ?_
    rotate_left
    · go_simp
      first | done | rfl
    simp only [Act.put, List.setIfInBounds_toArray, List.set_cons_zero, List.set_cons_succ]
    refine g_look rfl rfl ?_ (fun w' hC => ?_) ?_
    rotate_left
    · go_simp
      first | done | rfl
    simp only [Act.put, List.setIfInBounds_toArray, List.set_cons_zero, List.set_cons_succ]
    refine g_end ?_
    intro w96 hC96 hh96
    have S96 : Hid (Stays [(ga, Obj.cells #[.int .u64 (a : Int), .int .u64 (b : Int)] 24 (0, 0)), (gup, Obj.cells #[.int .u64 0, .int .u64 0] 24 (0, 0)), (gwant, Obj.cells #[.int .u64 0, .int .u64 0] 24 (0, 0)), (gdown, Obj.cells #[.int .u64 d1, .int .u64 d2] 24 (0, 0))] w w96) := Lib.hid (stays_cons (stays_row hC96 (List.mem_cons_self ..)) (stays_cons (stays_row hC96 (List.mem_cons_of_mem _ (List.mem_cons_self ..))) (stays_cons (stays_row hC96 (List.mem_cons_of_mem _ (List.mem_cons_of_mem _ (List.mem_cons_self ..)))) (stays_cons (stays_row hC96 (List.mem_cons_of_mem _ (List.mem_cons_of_mem _ (List.mem_cons_of_mem _ (List.mem_cons_self ..))))) (stays_nil (stays_below hC96))))))
    clear S95
    clear hC96 hh96
    go_wp2_with fail
    refine bodyPost_ret (v := .bool true) (by simp [results, Try.results3, go_sem]) rfl ⟨rfl, stays_below S96.out⟩
set_option maxHeartbeats 4000000 in
set_option maxRecDepth 100000 in
theorem by_negn (w : World) (a b u X : Nat) (n : Int) (ha : a < 65536 ^ 4) (hb : b < 65536 ^ 4) (hu : u < 65536 ^ 4) (hX : a * 65536 ^ 4 + b = X) (r1 : -9223372036854775808 ≤ n) (r2 : n ≤ 9223372036854775807) (hn : n < 0) (hz : ¬ X = 0) : Calls Try.prog 3 #[wv a b, .int .u64 u, .int .i64 n] w (Ret w (.bool true)) := by
  have ua : Hid (U a) := nat_u ha
  have ub : Hid (U b) := nat_u hb
  have uu : Hid (U u) := nat_u hu
  have vX : Hid (wval a b = (X : Int)) := nat_wval hX
  have kX : Hid (X < 65536 ^ 8) := nat_lt8 ha hb hX
  have HA := Lib.hid ha
  have HB := Lib.hid hb
  have HU := Lib.hid hu
  have HX := Lib.hid hX
  have HR : Hid (-9223372036854775808 ≤ n ∧ n < 9223372036854775808) := Lib.hid ⟨r1, by omega⟩
  have ez : (decide ((a : Int) = 0) && decide ((b : Int) = 0)) = false := by
    have := zero_of hX
    simp; omega
  have ez2 : (decide (a = 0) && decide (b = 0)) = false := by
    have := zero_of hX
    simp; omega
  have HL := Lib.hid (left_neg (A := (X : Int)) hn)
  obtain ⟨q1, q2, r, tq, hq, hqp, hqz⟩ := by_facts2 kX.out hu
  have HQ := Lib.hid hq
  have HQp := Lib.hid hqp
  have HQz := Lib.hid hqz
  clear hq hqp hqz
  obtain ⟨d1, d2, hd, hd2⟩ := right_down (X := X) (K := 0) kX.out (n := n) (Or.inl (by omega))
  have HD := Lib.hid hd
  obtain ⟨M, hM⟩ : ∃ M : Nat, 2 ^ 0 = M := ⟨_, rfl⟩
  have hM0 : 0 < M := by rw [← hM]; exact Nat.pow_pos (by decide)
  have hM8 : M ≤ 65536 ^ 8 := by rw [← hM]; exact pow_le8 (by omega)
  rw [hM] at hd2
  have HP := Lib.hid hM
  have HP0 := Lib.hid hM0
  have HP8 := Lib.hid hM8
  have HD2 := Lib.hid hd2
  clear ha hb hu hX hz hd hd2 r1 r2 hM hM0 hM8
  unfold wv
  have S0 : Hid (Stays [] w w) := Lib.hid (stays_nil (Below.refl _ _))
  go_enter Try.func3, Try.ntmps3
  go_upto_region 0 with fail
  refine reg_plain (Stays [] w) (Turns [] w) (kdOf [(0, .make (allocM (.cells #[.int .u64 (a : Int), .int .u64 (b : Int)] 24)))]) none0 (stays_good _ _) (S0.out) (holds0 _) ?_
  refine g_alloc (stays_good _ _) (.cells #[.int .u64 (a : Int), .int .u64 (b : Int)] 24) rfl rfl (fun w' hC => ?_) (fun ga ta na => ?_)
  · clear hC
    go_simp
    first | done | rfl | exact ⟨rfl, rfl⟩
  clear na
  replace ta := Lib.hid ta
  simp only [Act.put, List.setIfInBounds_toArray, List.set_cons_zero, List.set_cons_succ]
  refine g_look rfl rfl ?_ (fun w' hC => ?_) ?_
  rotate_left
  · go_simp
    first | done | rfl
  simp only [Act.put, List.setIfInBounds_toArray, List.set_cons_zero, List.set_cons_succ]
  refine g_end ?_
  intro w1 hC1 hh1
  have S1 : Hid (Stays [(ga, Obj.cells #[.int .u64 (a : Int), .int .u64 (b : Int)] 24 (0, 0))] w w1) := Lib.hid (stays_cons ((hh1 _ _ _ (own_new _ _ _ _)).1) (stays_nil (stays_below hC1)))
  clear hC1 hh1
  go_upto_region 1 with fail
  refine reg_plain (Stays [(ga, Obj.cells #[.int .u64 (a : Int), .int .u64 (b : Int)] 24 (0, 0))] w) (Turns [(ga, Obj.cells #[.int .u64 (a : Int), .int .u64 (b : Int)] 24 (0, 0))] w) (kdOf [(0, .make (callM (.bool true)))]) none0 (stays_good _ _) (S1.out) (holds0 _) ?_
  refine g_call (stays_good _ _) (.bool true) rfl rfl (fun w' hC => ?_) ?_
  · clear hC
    go_simp
    refine (first_any _).mono (fun e w2 h => ?_)
    obtain ⟨h1, h2⟩ := h
    exact gives h1 h2
  simp only [Act.put, List.setIfInBounds_toArray, List.set_cons_zero, List.set_cons_succ]
  refine g_look rfl rfl ?_ (fun w' hC => ?_) ?_
  rotate_left
  · go_simp
    first | done | rfl
  simp only [Act.put, List.setIfInBounds_toArray, List.set_cons_zero, List.set_cons_succ]
  refine g_end ?_
  intro w2 hC2 hh2
  have S2 : Hid (Stays [(ga, Obj.cells #[.int .u64 (a : Int), .int .u64 (b : Int)] 24 (0, 0))] w w2) := Lib.hid (stays_cons (stays_row hC2 (List.mem_cons_self ..)) (stays_nil (stays_below hC2)))
  clear S1
  clear hC2 hh2
  go_upto_region 3 with fail
  refine reg_plain (Stays [(ga, Obj.cells #[.int .u64 (a : Int), .int .u64 (b : Int)] 24 (0, 0))] w) (Turns [(ga, Obj.cells #[.int .u64 (a : Int), .int .u64 (b : Int)] 24 (0, 0))] w) (kdOf [(1, .make (callM (dg X))), (2, .make (allocM (.cells z20 27))), (3, .touch)]) none0 (stays_good _ _) (S2.out) (holds0 _) ?_
  (refine g_load 24 _ ga 24 #[.int .u64 (a : Int), .int .u64 (b : Int)] (0, 0) _ rfl rfl rfl rfl (fun w' hC => stays_row hC (List.mem_cons_self ..)) Try.underlying24 rfl (rfl) ?_)
  simp only [Act.put, List.setIfInBounds_toArray, List.set_cons_zero, List.set_cons_succ]
  refine g_call (stays_good _ _) (dg X) rfl rfl (fun w' hC => ?_) ?_
  · clear hC
    go_simp
    refine (of_any _ a b HA.out HB.out).mono (fun e w2 h => ?_)
    obtain ⟨h1, h2⟩ := h
    rw [HX.out] at h1
    exact gives h1 h2
  simp only [Act.put, List.setIfInBounds_toArray, List.set_cons_zero, List.set_cons_succ]
  refine g_alloc (stays_good _ _) (.cells z20 27) rfl rfl (fun w' hC => ?_) (fun gX tX nX => ?_)
  · clear hC
    go_simp
    first | done | rfl | exact ⟨rfl, rfl⟩
  clear nX
  replace tX := Lib.hid tX
  simp only [Act.put, List.setIfInBounds_toArray, List.set_cons_zero, List.set_cons_succ]
  refine g_store gX (some 2) 27 27 _ _ z20 (fc (dig X)) rfl rfl rfl rfl rfl (own_new _ _ _ _) (by kernel_rfl) (fc_size _) (info27 _) (fc_one _) ?_
  simp only [Act.put]
  refine g_end ?_
  intro w3 hC3 hh3
  have S3 : Hid (Stays [(ga, Obj.cells #[.int .u64 (a : Int), .int .u64 (b : Int)] 24 (0, 0)), (gX, Obj.cells (fc (dig X)) 27 (0, 0))] w w3) := Lib.hid (stays_cons (stays_row hC3 (List.mem_cons_self ..)) (stays_cons ((hh3 _ _ _ (own_new _ _ _ _)).1) (stays_nil (stays_below hC3))))
  clear S2
  clear hC3 hh3
  go_upto_region 4 with fail
  refine reg_plain (Stays [(ga, Obj.cells #[.int .u64 (a : Int), .int .u64 (b : Int)] 24 (0, 0)), (gX, Obj.cells (fc (dig X)) 27 (0, 0))] w) (Turns [(ga, Obj.cells #[.int .u64 (a : Int), .int .u64 (b : Int)] 24 (0, 0)), (gX, Obj.cells (fc (dig X)) 27 (0, 0))] w) (kdOf [(2, .make (callM (.tuple #[.agg #[.int .u64 q1, .int .u64 q2], .int .u64 r, .bool tq]))), (7, .make (allocM (.cells #[.int .u64 0, .int .u64 0] 24))), (8, .touch)]) none0 (stays_good _ _) (S3.out) (holds0 _) ?_
  (refine g_load 24 _ ga 24 #[.int .u64 (a : Int), .int .u64 (b : Int)] (0, 0) _ rfl rfl rfl rfl (fun w' hC => stays_row hC (List.mem_cons_self ..)) Try.underlying24 rfl (rfl) ?_)
  simp only [Act.put, List.setIfInBounds_toArray, List.set_cons_zero, List.set_cons_succ]
  refine g_look rfl rfl ?_ (fun w' hC => ?_) ?_
  rotate_left
  · go_simp
    first | done | rfl
  simp only [Act.put, List.setIfInBounds_toArray, List.set_cons_zero, List.set_cons_succ]
  refine g_call (stays_good _ _) (.tuple #[.agg #[.int .u64 q1, .int .u64 q2], .int .u64 r, .bool tq]) rfl rfl (fun w' hC => ?_) ?_
  · clear hC
    go_simp
    refine (wby_any _ a b u ua.out ub.out uu.out).mono (fun e w2 h => ?_)
    obtain ⟨h1, h2⟩ := h
    rw [vX.out, HQ.out] at h1
    exact gives h1 h2
  simp only [Act.put, List.setIfInBounds_toArray, List.set_cons_zero, List.set_cons_succ]
  refine g_look rfl rfl ?_ (fun w' hC => ?_) ?_
  rotate_left
  · go_simp
    first | done | rfl
  simp only [Act.put, List.setIfInBounds_toArray, List.set_cons_zero, List.set_cons_succ]
  refine g_look rfl rfl ?_ (fun w' hC => ?_) ?_
  rotate_left
  · go_simp
    first | done | rfl
  simp only [Act.put, List.setIfInBounds_toArray, List.set_cons_zero, List.set_cons_succ]
  refine g_look rfl rfl ?_ (fun w' hC => ?_) ?_
  rotate_left
  · go_simp
    first | done | rfl
  simp only [Act.put, List.setIfInBounds_toArray, List.set_cons_zero, List.set_cons_succ]
  refine g_look rfl rfl ?_ (fun w' hC => ?_) ?_
  rotate_left
  · go_simp
    first | done | rfl
  simp only [Act.put, List.setIfInBounds_toArray, List.set_cons_zero, List.set_cons_succ]
  refine g_alloc (stays_good _ _) (.cells #[.int .u64 0, .int .u64 0] 24) rfl rfl (fun w' hC => ?_) (fun gqq tqq nqq => ?_)
  · clear hC
    go_simp
    first | done | rfl | exact ⟨rfl, rfl⟩
  clear nqq
  replace tqq := Lib.hid tqq
  simp only [Act.put, List.setIfInBounds_toArray, List.set_cons_zero, List.set_cons_succ]
  refine g_store gqq (some 7) 24 24 _ _ #[.int .u64 0, .int .u64 0] #[.int .u64 q1, .int .u64 q2] rfl rfl rfl rfl rfl (own_new _ _ _ _) (by kernel_rfl) (rfl) (rfl) (one24 _ _) ?_
  simp only [Act.put]
  refine g_look rfl rfl ?_ (fun w' hC => ?_) ?_
  rotate_left
  · go_simp
    first | done | rfl
  simp only [Act.put, List.setIfInBounds_toArray, List.set_cons_zero, List.set_cons_succ]
  refine g_look rfl rfl ?_ (fun w' hC => ?_) ?_
  rotate_left
  · go_simp
    first | done | rfl
  simp only [Act.put, List.setIfInBounds_toArray, List.set_cons_zero, List.set_cons_succ]
  refine g_end ?_
  intro w4 hC4 hh4
  have S4 : Hid (Stays [(ga, Obj.cells #[.int .u64 (a : Int), .int .u64 (b : Int)] 24 (0, 0)), (gX, Obj.cells (fc (dig X)) 27 (0, 0)), (gqq, Obj.cells #[.int .u64 q1, .int .u64 q2] 24 (0, 0))] w w4) := Lib.hid (stays_cons (stays_row hC4 (List.mem_cons_self ..)) (stays_cons (stays_row hC4 (List.mem_cons_of_mem _ (List.mem_cons_self ..))) (stays_cons ((hh4 _ _ _ (own_new _ _ _ _)).1) (stays_nil (stays_below hC4)))))
  clear S3
  clear hC4 hh4
  go_upto_if 38 with fail
  go_cut [] (fun wx => Hid (Stays [(ga, Obj.cells #[.int .u64 (a : Int), .int .u64 (b : Int)] 24 (0, 0)), (gX, Obj.cells (fc (dig X)) 27 (0, 0))] w wx))
  case first =>
    by_cases hu0 : 0 < u
    · obtain ⟨rfl, hq2, hq3⟩ := HQp.out hu0
      have HQ2 := Lib.hid hq2
      have HQ3 := Lib.hid hq3
      clear hq2 hq3
      have HU0 := Lib.hid hu0
      have eu : ((u : Int) == 0) = false := by simp; omega
      simp only [eu]
      clear hu0 eu
      go_upto_region 8 with fail
      refine reg (Stays [(ga, Obj.cells #[.int .u64 (a : Int), .int .u64 (b : Int)] 24 (0, 0)), (gX, Obj.cells (fc (dig X)) 27 (0, 0)), (gqq, Obj.cells #[.int .u64 q1, .int .u64 q2] 24 (0, 0))] w) (Turns [(ga, Obj.cells #[.int .u64 (a : Int), .int .u64 (b : Int)] 24 (0, 0)), (gX, Obj.cells (fc (dig X)) 27 (0, 0)), (gqq, Obj.cells #[.int .u64 q1, .int .u64 q2] 24 (0, 0))] w) (kdOf [(3, .make (callM (dg u))), (4, .make (callM (.tuple #[dg (X / u), dg (X % u)]))), (8, .make (allocM (.cells z20 27))), (9, .make (allocM (.cells z20 27))), (10, .touch), (11, .touch)]) none0 (stays_good _ _) (by kernel_rfl) (by kernel_rfl) (stays_drew (S4.out)) (holds0 _) ?_
      (refine g_load 27 _ gX 27 (fc (dig X)) (0, 0) _ rfl rfl rfl rfl (fun w' hC => stays_row hC (List.mem_cons_of_mem _ (List.mem_cons_self ..))) Try.underlying27 rfl (info27 _) ?_)
      simp only [Act.put, List.setIfInBounds_toArray, List.set_cons_zero, List.set_cons_succ]
      refine g_look rfl rfl ?_ (fun w' hC => ?_) ?_
      rotate_left
      · go_simp
        first | done | rfl
      simp only [Act.put, List.setIfInBounds_toArray, List.set_cons_zero, List.set_cons_succ]
      refine g_look rfl rfl ?_ (fun w' hC => ?_) ?_
      rotate_left
      · go_simp
        first | done | rfl
      simp only [Act.put, List.setIfInBounds_toArray, List.set_cons_zero, List.set_cons_succ]
      refine g_call (stays_good _ _) (dg u) rfl rfl (fun w' hC => ?_) ?_
      · clear hC
        go_simp
        refine (of_any _ 0 u (by decide) HU.out).mono (fun e w2 h => ?_)
        obtain ⟨h1, h2⟩ := h
        rw [Nat.zero_mul, Nat.zero_add] at h1
        exact gives h1 h2
      simp only [Act.put, List.setIfInBounds_toArray, List.set_cons_zero, List.set_cons_succ]
      refine g_call (stays_good _ _) (.tuple #[dg (X / u), dg (X % u)]) rfl rfl (fun w' hC => ?_) ?_
      · clear hC
        go_simp
        refine (by_any _ X u (Nat.le_of_lt (Nat.lt_of_lt_of_le HU.out (by decide))) (div_room kX.out HU0.out)).mono (fun e w2 h => ?_)
        obtain ⟨h1, h2⟩ := h
        rw [byV] at h1
        exact gives h1 h2
      simp only [Act.put, List.setIfInBounds_toArray, List.set_cons_zero, List.set_cons_succ]
      refine g_look rfl rfl ?_ (fun w' hC => ?_) ?_
      rotate_left
      · go_simp
        first | done | rfl
      simp only [Act.put, List.setIfInBounds_toArray, List.set_cons_zero, List.set_cons_succ]
      refine g_look rfl rfl ?_ (fun w' hC => ?_) ?_
      rotate_left
      · go_simp
        first | done | rfl
      simp only [Act.put, List.setIfInBounds_toArray, List.set_cons_zero, List.set_cons_succ]
      refine g_look rfl rfl ?_ (fun w' hC => ?_) ?_
      rotate_left
      · go_simp
        first | done | rfl
      simp only [Act.put, List.setIfInBounds_toArray, List.set_cons_zero, List.set_cons_succ]
      refine g_alloc (stays_good _ _) (.cells z20 27) rfl rfl (fun w' hC => ?_) (fun gY tY nY => ?_)
      · clear hC
        go_simp
        first | done | rfl | exact ⟨rfl, rfl⟩
      clear nY
      replace tY := Lib.hid tY
      simp only [Act.put, List.setIfInBounds_toArray, List.set_cons_zero, List.set_cons_succ]
      refine g_alloc (stays_good _ _) (.cells z20 27) rfl rfl (fun w' hC => ?_) (fun gZ tZ nZ => ?_)
      · clear hC
        go_simp
        first | done | rfl | exact ⟨rfl, rfl⟩
      obtain ⟨d_Y_Z, nZ⟩ := own_none nZ
      clear nZ
      replace tZ := Lib.hid tZ
      simp only [Act.put, List.setIfInBounds_toArray, List.set_cons_zero, List.set_cons_succ]
      refine g_store gY (some 8) 27 27 _ _ z20 (fc (dig (X / u))) rfl rfl rfl rfl rfl ((own_off _ (Ne.symm d_Y_Z)).trans (own_new _ _ _ _)) (by kernel_rfl) (fc_size _) (info27 _) (fc_one _) ?_
      simp only [Act.put]
      refine g_store gZ (some 9) 27 27 _ _ z20 (fc (dig (X % u))) rfl rfl rfl rfl rfl ((own_off _ d_Y_Z).trans (own_new _ _ _ _)) (by kernel_rfl) (fc_size _) (info27 _) (fc_one _) ?_
      simp only [Act.put]
      refine g_end ?_
      intro w5 hC5 hh5
      have S5 : Hid (Stays [(ga, Obj.cells #[.int .u64 (a : Int), .int .u64 (b : Int)] 24 (0, 0)), (gX, Obj.cells (fc (dig X)) 27 (0, 0)), (gqq, Obj.cells #[.int .u64 q1, .int .u64 q2] 24 (0, 0)), (gY, Obj.cells (fc (dig (X / u))) 27 (0, 0)), (gZ, Obj.cells (fc (dig (X % u))) 27 (0, 0))] w w5) := Lib.hid (stays_cons (stays_row hC5 (List.mem_cons_self ..)) (stays_cons (stays_row hC5 (List.mem_cons_of_mem _ (List.mem_cons_self ..))) (stays_cons (stays_row hC5 (List.mem_cons_of_mem _ (List.mem_cons_of_mem _ (List.mem_cons_self ..)))) (stays_cons ((hh5 _ _ _ ((own_off _ (Ne.symm d_Y_Z)).trans (own_new _ _ _ _))).1) (stays_cons ((hh5 _ _ _ (own_new _ _ _ _)).1) (stays_nil (stays_below hC5)))))))
      clear S4
      clear hC5 hh5
      go_upto_region 9 with fail
      refine reg_plain (Stays [(ga, Obj.cells #[.int .u64 (a : Int), .int .u64 (b : Int)] 24 (0, 0)), (gX, Obj.cells (fc (dig X)) 27 (0, 0)), (gqq, Obj.cells #[.int .u64 q1, .int .u64 q2] 24 (0, 0)), (gY, Obj.cells (fc (dig (X / u))) 27 (0, 0)), (gZ, Obj.cells (fc (dig (X % u))) 27 (0, 0))] w) (Turns [(ga, Obj.cells #[.int .u64 (a : Int), .int .u64 (b : Int)] 24 (0, 0)), (gX, Obj.cells (fc (dig X)) 27 (0, 0)), (gqq, Obj.cells #[.int .u64 q1, .int .u64 q2] 24 (0, 0)), (gY, Obj.cells (fc (dig (X / u))) 27 (0, 0)), (gZ, Obj.cells (fc (dig (X % u))) 27 (0, 0))] w) (kdOf [(1, .make (callM (.tuple #[.agg #[.int .u64 q1, .int .u64 q2], .bool true]))), (5, .make (allocM (.cells #[.int .u64 0, .int .u64 0] 24))), (6, .touch)]) none0 (stays_good _ _) (S5.out) (holds0 _) ?_
      (refine g_load 27 _ gY 27 (fc (dig (X / u))) (0, 0) _ rfl rfl rfl rfl (fun w' hC => stays_row hC (List.mem_cons_of_mem _ (List.mem_cons_of_mem _ (List.mem_cons_of_mem _ (List.mem_cons_self ..))))) Try.underlying27 rfl (info27 _) ?_)
      simp only [Act.put, List.setIfInBounds_toArray, List.set_cons_zero, List.set_cons_succ]
      refine g_call (stays_good _ _) (.tuple #[.agg #[.int .u64 q1, .int .u64 q2], .bool true]) rfl rfl (fun w' hC => ?_) ?_
      · clear hC
        go_simp
        refine (wide_any _ (X / u) (lt8_20 (Nat.lt_of_le_of_lt (Nat.div_le_self _ _) kX.out))).mono (fun e w2 h => ?_)
        obtain ⟨h1, h2⟩ := h
        rw [HQ2.out] at h1
        exact gives h1 h2
      simp only [Act.put, List.setIfInBounds_toArray, List.set_cons_zero, List.set_cons_succ]
      refine g_look rfl rfl ?_ (fun w' hC => ?_) ?_
      rotate_left
      · go_simp
        first | done | rfl
      simp only [Act.put, List.setIfInBounds_toArray, List.set_cons_zero, List.set_cons_succ]
      refine g_look rfl rfl ?_ (fun w' hC => ?_) ?_
      rotate_left
      · go_simp
        first | done | rfl
      simp only [Act.put, List.setIfInBounds_toArray, List.set_cons_zero, List.set_cons_succ]
      refine g_look rfl rfl ?_ (fun w' hC => ?_) ?_
      rotate_left
      · go_simp
        first | done | rfl
      simp only [Act.put, List.setIfInBounds_toArray, List.set_cons_zero, List.set_cons_succ]
      refine g_alloc (stays_good _ _) (.cells #[.int .u64 0, .int .u64 0] 24) rfl rfl (fun w' hC => ?_) (fun gv tv nv => ?_)
      · clear hC
        go_simp
        first | done | rfl | exact ⟨rfl, rfl⟩
      clear nv
      replace tv := Lib.hid tv
      simp only [Act.put, List.setIfInBounds_toArray, List.set_cons_zero, List.set_cons_succ]
      refine g_store gv (some 5) 24 24 _ _ #[.int .u64 0, .int .u64 0] #[.int .u64 q1, .int .u64 q2] rfl rfl rfl rfl rfl (own_new _ _ _ _) (by kernel_rfl) (rfl) (rfl) (one24 _ _) ?_
      simp only [Act.put]
      refine g_look rfl rfl ?_ (fun w' hC => ?_) ?_
      rotate_left
      · go_simp
        first | done | rfl
      simp only [Act.put, List.setIfInBounds_toArray, List.set_cons_zero, List.set_cons_succ]
      refine g_end ?_
      intro w6 hC6 hh6
      have S6 : Hid (Stays [(ga, Obj.cells #[.int .u64 (a : Int), .int .u64 (b : Int)] 24 (0, 0)), (gX, Obj.cells (fc (dig X)) 27 (0, 0)), (gqq, Obj.cells #[.int .u64 q1, .int .u64 q2] 24 (0, 0)), (gY, Obj.cells (fc (dig (X / u))) 27 (0, 0)), (gZ, Obj.cells (fc (dig (X % u))) 27 (0, 0)), (gv, Obj.cells #[.int .u64 q1, .int .u64 q2] 24 (0, 0))] w w6) := Lib.hid (stays_cons (stays_row hC6 (List.mem_cons_self ..)) (stays_cons (stays_row hC6 (List.mem_cons_of_mem _ (List.mem_cons_self ..))) (stays_cons (stays_row hC6 (List.mem_cons_of_mem _ (List.mem_cons_of_mem _ (List.mem_cons_self ..)))) (stays_cons (stays_row hC6 (List.mem_cons_of_mem _ (List.mem_cons_of_mem _ (List.mem_cons_of_mem _ (List.mem_cons_self ..))))) (stays_cons (stays_row hC6 (List.mem_cons_of_mem _ (List.mem_cons_of_mem _ (List.mem_cons_of_mem _ (List.mem_cons_of_mem _ (List.mem_cons_self ..)))))) (stays_cons ((hh6 _ _ _ (own_new _ _ _ _)).1) (stays_nil (stays_below hC6))))))))
      clear S5
      clear hC6 hh6
      go_upto_region 10 with fail
      refine reg_plain (Stays [(ga, Obj.cells #[.int .u64 (a : Int), .int .u64 (b : Int)] 24 (0, 0)), (gX, Obj.cells (fc (dig X)) 27 (0, 0)), (gqq, Obj.cells #[.int .u64 q1, .int .u64 q2] 24 (0, 0)), (gY, Obj.cells (fc (dig (X / u))) 27 (0, 0)), (gZ, Obj.cells (fc (dig (X % u))) 27 (0, 0)), (gv, Obj.cells #[.int .u64 q1, .int .u64 q2] 24 (0, 0))] w) (Turns [(ga, Obj.cells #[.int .u64 (a : Int), .int .u64 (b : Int)] 24 (0, 0)), (gX, Obj.cells (fc (dig X)) 27 (0, 0)), (gqq, Obj.cells #[.int .u64 q1, .int .u64 q2] 24 (0, 0)), (gY, Obj.cells (fc (dig (X / u))) 27 (0, 0)), (gZ, Obj.cells (fc (dig (X % u))) 27 (0, 0)), (gv, Obj.cells #[.int .u64 q1, .int .u64 q2] 24 (0, 0))] w) (kdOf [(1, .make (callM (.tuple #[.agg #[.int .u64 0, .int .u64 r], .bool true]))), (5, .make (allocM (.cells #[.int .u64 0, .int .u64 0] 24))), (6, .touch)]) none0 (stays_good _ _) (S6.out) (holds0 _) ?_
      (refine g_load 27 _ gZ 27 (fc (dig (X % u))) (0, 0) _ rfl rfl rfl rfl (fun w' hC => stays_row hC (List.mem_cons_of_mem _ (List.mem_cons_of_mem _ (List.mem_cons_of_mem _ (List.mem_cons_of_mem _ (List.mem_cons_self ..)))))) Try.underlying27 rfl (info27 _) ?_)
      simp only [Act.put, List.setIfInBounds_toArray, List.set_cons_zero, List.set_cons_succ]
      refine g_call (stays_good _ _) (.tuple #[.agg #[.int .u64 0, .int .u64 r], .bool true]) rfl rfl (fun w' hC => ?_) ?_
      · clear hC
        go_simp
        refine (wide_any _ (X % u) (lt8_20 (Nat.lt_of_le_of_lt (Nat.mod_le _ _) kX.out))).mono (fun e w2 h => ?_)
        obtain ⟨h1, h2⟩ := h
        rw [HQ3.out] at h1
        exact gives h1 h2
      simp only [Act.put, List.setIfInBounds_toArray, List.set_cons_zero, List.set_cons_succ]
      refine g_look rfl rfl ?_ (fun w' hC => ?_) ?_
      rotate_left
      · go_simp
        first | done | rfl
      simp only [Act.put, List.setIfInBounds_toArray, List.set_cons_zero, List.set_cons_succ]
      refine g_look rfl rfl ?_ (fun w' hC => ?_) ?_
      rotate_left
      · go_simp
        first | done | rfl
      simp only [Act.put, List.setIfInBounds_toArray, List.set_cons_zero, List.set_cons_succ]
      refine g_look rfl rfl ?_ (fun w' hC => ?_) ?_
      rotate_left
      · go_simp
        first | done | rfl
      simp only [Act.put, List.setIfInBounds_toArray, List.set_cons_zero, List.set_cons_succ]
      refine g_alloc (stays_good _ _) (.cells #[.int .u64 0, .int .u64 0] 24) rfl rfl (fun w' hC => ?_) (fun gw tw nw => ?_)
      · clear hC
        go_simp
        first | done | rfl | exact ⟨rfl, rfl⟩
      clear nw
      replace tw := Lib.hid tw
      simp only [Act.put, List.setIfInBounds_toArray, List.set_cons_zero, List.set_cons_succ]
      refine g_store gw (some 5) 24 24 _ _ #[.int .u64 0, .int .u64 0] #[.int .u64 0, .int .u64 r] rfl rfl rfl rfl rfl (own_new _ _ _ _) (by kernel_rfl) (rfl) (rfl) (one24 _ _) ?_
      simp only [Act.put]
      refine g_look rfl rfl ?_ (fun w' hC => ?_) ?_
      rotate_left
      · go_simp
        first | done | rfl
      simp only [Act.put, List.setIfInBounds_toArray, List.set_cons_zero, List.set_cons_succ]
      refine g_end ?_
      intro w7 hC7 hh7
      have S7 : Hid (Stays [(ga, Obj.cells #[.int .u64 (a : Int), .int .u64 (b : Int)] 24 (0, 0)), (gX, Obj.cells (fc (dig X)) 27 (0, 0)), (gqq, Obj.cells #[.int .u64 q1, .int .u64 q2] 24 (0, 0)), (gY, Obj.cells (fc (dig (X / u))) 27 (0, 0)), (gZ, Obj.cells (fc (dig (X % u))) 27 (0, 0)), (gv, Obj.cells #[.int .u64 q1, .int .u64 q2] 24 (0, 0)), (gw, Obj.cells #[.int .u64 0, .int .u64 r] 24 (0, 0))] w w7) := Lib.hid (stays_cons (stays_row hC7 (List.mem_cons_self ..)) (stays_cons (stays_row hC7 (List.mem_cons_of_mem _ (List.mem_cons_self ..))) (stays_cons (stays_row hC7 (List.mem_cons_of_mem _ (List.mem_cons_of_mem _ (List.mem_cons_self ..)))) (stays_cons (stays_row hC7 (List.mem_cons_of_mem _ (List.mem_cons_of_mem _ (List.mem_cons_of_mem _ (List.mem_cons_self ..))))) (stays_cons (stays_row hC7 (List.mem_cons_of_mem _ (List.mem_cons_of_mem _ (List.mem_cons_of_mem _ (List.mem_cons_of_mem _ (List.mem_cons_self ..)))))) (stays_cons (stays_row hC7 (List.mem_cons_of_mem _ (List.mem_cons_of_mem _ (List.mem_cons_of_mem _ (List.mem_cons_of_mem _ (List.mem_cons_of_mem _ (List.mem_cons_self ..))))))) (stays_cons ((hh7 _ _ _ (own_new _ _ _ _)).1) (stays_nil (stays_below hC7)))))))))
      clear S6
      clear hC7 hh7
      go_upto_region 11 with fail
      refine reg_plain (Stays [(ga, Obj.cells #[.int .u64 (a : Int), .int .u64 (b : Int)] 24 (0, 0)), (gX, Obj.cells (fc (dig X)) 27 (0, 0)), (gqq, Obj.cells #[.int .u64 q1, .int .u64 q2] 24 (0, 0)), (gY, Obj.cells (fc (dig (X / u))) 27 (0, 0)), (gZ, Obj.cells (fc (dig (X % u))) 27 (0, 0)), (gv, Obj.cells #[.int .u64 q1, .int .u64 q2] 24 (0, 0)), (gw, Obj.cells #[.int .u64 0, .int .u64 r] 24 (0, 0))] w) (Turns [(ga, Obj.cells #[.int .u64 (a : Int), .int .u64 (b : Int)] 24 (0, 0)), (gX, Obj.cells (fc (dig X)) 27 (0, 0)), (gqq, Obj.cells #[.int .u64 q1, .int .u64 q2] 24 (0, 0)), (gY, Obj.cells (fc (dig (X / u))) 27 (0, 0)), (gZ, Obj.cells (fc (dig (X % u))) 27 (0, 0)), (gv, Obj.cells #[.int .u64 q1, .int .u64 q2] 24 (0, 0)), (gw, Obj.cells #[.int .u64 0, .int .u64 r] 24 (0, 0))] w) (kdOf []) none0 (stays_good _ _) (S7.out) (holds0 _) ?_
      refine g_look rfl rfl ?_ (fun w' hC => ?_) ?_
      rotate_left
      · go_simp
        first | done | rfl
      simp only [Act.put, List.setIfInBounds_toArray, List.set_cons_zero, List.set_cons_succ]
      refine g_look rfl rfl ?_ (fun w' hC => ?_) ?_
      rotate_left
      · go_simp
        first | done | rfl
      simp only [Act.put, List.setIfInBounds_toArray, List.set_cons_zero, List.set_cons_succ]
      refine g_look rfl rfl ?_ (fun w' hC => ?_) ?_
      rotate_left
      · go_simp
        first | done | rfl
      simp only [Act.put, List.setIfInBounds_toArray, List.set_cons_zero, List.set_cons_succ]
      first | (refine g_skip rfl ?_) | (refine g_load 24 _ gqq 24 #[.int .u64 q1, .int .u64 q2] (0, 0) _ rfl rfl rfl rfl (fun w' hC => stays_row hC (List.mem_cons_of_mem _ (List.mem_cons_of_mem _ (List.mem_cons_self ..)))) Try.underlying24 rfl (rfl) ?_)
      simp only [Act.put, List.setIfInBounds_toArray, List.set_cons_zero, List.set_cons_succ]
      first | (refine g_skip rfl ?_) | (refine g_load 24 _ gv 24 #[.int .u64 q1, .int .u64 q2] (0, 0) _ rfl rfl rfl rfl (fun w' hC => stays_row hC (List.mem_cons_of_mem _ (List.mem_cons_of_mem _ (List.mem_cons_of_mem _ (List.mem_cons_of_mem _ (List.mem_cons_of_mem _ (List.mem_cons_self ..))))))) Try.underlying24 rfl (rfl) ?_)
      simp only [Act.put, List.setIfInBounds_toArray, List.set_cons_zero, List.set_cons_succ]
      first
      | (refine g_skip rfl ?_)
      | (refine g_look rfl rfl ?_ (fun w' hC => ?_) ?_
         rotate_left
         · go_simp
           first | done | rfl)
      simp only [Act.put, List.setIfInBounds_toArray, List.set_cons_zero, List.set_cons_succ]
      refine g_look rfl rfl ?_ (fun w' hC => ?_) ?_
      rotate_left
      · go_simp
        first | done | rfl
      simp only [Act.put, List.setIfInBounds_toArray, List.set_cons_zero, List.set_cons_succ]
      refine g_look rfl rfl ?_ (fun w' hC => ?_) ?_
      rotate_left
      · go_simp
        first | done | rfl
      simp only [Act.put, List.setIfInBounds_toArray, List.set_cons_zero, List.set_cons_succ]
      first
      | (refine g_skip rfl ?_)
      | (refine g_look rfl rfl ?_ (fun w' hC => ?_) ?_
         rotate_left
         · go_simp
           first | done | rfl)
      simp only [Act.put, List.setIfInBounds_toArray, List.set_cons_zero, List.set_cons_succ]
      first
      | (refine g_skip rfl ?_)
      | (refine g_look rfl rfl ?_ (fun w' hC => ?_) ?_
         rotate_left
         · go_simp
           first | done | rfl)
      simp only [Act.put, List.setIfInBounds_toArray, List.set_cons_zero, List.set_cons_succ]
      first | (refine g_skip rfl ?_) | (refine g_load 24 _ gw 24 #[.int .u64 0, .int .u64 r] (0, 0) _ rfl rfl rfl rfl (fun w' hC => stays_row hC (List.mem_cons_of_mem _ (List.mem_cons_of_mem _ (List.mem_cons_of_mem _ (List.mem_cons_of_mem _ (List.mem_cons_of_mem _ (List.mem_cons_of_mem _ (List.mem_cons_self ..)))))))) Try.underlying24 rfl (rfl) ?_)
      simp only [Act.put, List.setIfInBounds_toArray, List.set_cons_zero, List.set_cons_succ]
      first
      | (refine g_skip rfl ?_)
      | (refine g_look rfl rfl ?_ (fun w' hC => ?_) ?_
         rotate_left
         · go_simp
           first | done | rfl)
      simp only [Act.put, List.setIfInBounds_toArray, List.set_cons_zero, List.set_cons_succ]
      refine g_look rfl rfl ?_ (fun w' hC => ?_) ?_
      rotate_left
      · go_simp
        first | done | rfl
      simp only [Act.put, List.setIfInBounds_toArray, List.set_cons_zero, List.set_cons_succ]
      refine g_end ?_
      intro w8 hC8 hh8
      have S8 : Hid (Stays [(ga, Obj.cells #[.int .u64 (a : Int), .int .u64 (b : Int)] 24 (0, 0)), (gX, Obj.cells (fc (dig X)) 27 (0, 0))] w w8) := Lib.hid (stays_cons (stays_row hC8 (List.mem_cons_self ..)) (stays_cons (stays_row hC8 (List.mem_cons_of_mem _ (List.mem_cons_self ..))) (stays_nil (stays_below hC8))))
      clear S7
      clear hC8 hh8
      go_wp2_with fail
      go_meet
      exact S8
    · obtain rfl : u = 0 := by omega
      obtain ⟨rfl, rfl, rfl, rfl⟩ := HQz.out rfl
      have eu : (((0 : Nat) : Int) == 0) = true := rfl
      simp only [eu]
      clear eu
      go_upto_region 6 with fail
      refine reg_plain (Stays [(ga, Obj.cells #[.int .u64 (a : Int), .int .u64 (b : Int)] 24 (0, 0)), (gX, Obj.cells (fc (dig X)) 27 (0, 0)), (gqq, Obj.cells #[.int .u64 0, .int .u64 0] 24 (0, 0))] w) (Turns [(ga, Obj.cells #[.int .u64 (a : Int), .int .u64 (b : Int)] 24 (0, 0)), (gX, Obj.cells (fc (dig X)) 27 (0, 0)), (gqq, Obj.cells #[.int .u64 0, .int .u64 0] 24 (0, 0))] w) (kdOf []) none0 (stays_good _ _) (S4.out) (holds0 _) ?_
      refine g_look rfl rfl ?_ (fun w' hC => ?_) ?_
      rotate_left
      · go_simp
        first | done | rfl
      simp only [Act.put, List.setIfInBounds_toArray, List.set_cons_zero, List.set_cons_succ]
      refine g_look rfl rfl ?_ (fun w' hC => ?_) ?_
      rotate_left
      · go_simp
        first | done | rfl
      simp only [Act.put, List.setIfInBounds_toArray, List.set_cons_zero, List.set_cons_succ]
      first | (refine g_skip rfl ?_) | (refine g_load 24 _ gqq 24 #[.int .u64 0, .int .u64 0] (0, 0) _ rfl rfl rfl rfl (fun w' hC => stays_row hC (List.mem_cons_of_mem _ (List.mem_cons_of_mem _ (List.mem_cons_self ..)))) Try.underlying24 rfl (rfl) ?_)
      simp only [Act.put, List.setIfInBounds_toArray, List.set_cons_zero, List.set_cons_succ]
      first
      | (refine g_skip rfl ?_)
      | (refine g_look rfl rfl ?_ (fun w' hC => ?_) ?_
         rotate_left
         · go_simp
           first | done | rfl)
      simp only [Act.put, List.setIfInBounds_toArray, List.set_cons_zero, List.set_cons_succ]
      first
      | (refine g_skip rfl ?_)
      | (refine g_look rfl rfl ?_ (fun w' hC => ?_) ?_
         rotate_left
         · go_simp
           first | done | rfl)
      simp only [Act.put, List.setIfInBounds_toArray, List.set_cons_zero, List.set_cons_succ]
      refine g_look rfl rfl ?_ (fun w' hC => ?_) ?_
      rotate_left
      · go_simp
        first | done | rfl
      simp only [Act.put, List.setIfInBounds_toArray, List.set_cons_zero, List.set_cons_succ]
      refine g_look rfl rfl ?_ (fun w' hC => ?_) ?_
      rotate_left
      · go_simp
        first | done | rfl
      simp only [Act.put, List.setIfInBounds_toArray, List.set_cons_zero, List.set_cons_succ]
      first
      | (refine g_skip rfl ?_)
      | (refine g_look rfl rfl ?_ (fun w' hC => ?_) ?_
         rotate_left
         · go_simp
           first | done | rfl)
      simp only [Act.put, List.setIfInBounds_toArray, List.set_cons_zero, List.set_cons_succ]
      first
      | (refine g_skip rfl ?_)
      | (refine g_look rfl rfl ?_ (fun w' hC => ?_) ?_
         rotate_left
         · go_simp
           first | done | rfl)
      simp only [Act.put, List.setIfInBounds_toArray, List.set_cons_zero, List.set_cons_succ]
      refine g_look rfl rfl ?_ (fun w' hC => ?_) ?_
      rotate_left
      · go_simp
        first | done | rfl
      simp only [Act.put, List.setIfInBounds_toArray, List.set_cons_zero, List.set_cons_succ]
      refine g_end ?_
      intro w5 hC5 hh5
      have S5 : Hid (Stays [(ga, Obj.cells #[.int .u64 (a : Int), .int .u64 (b : Int)] 24 (0, 0)), (gX, Obj.cells (fc (dig X)) 27 (0, 0))] w w5) := Lib.hid (stays_cons (stays_row hC5 (List.mem_cons_self ..)) (stays_cons (stays_row hC5 (List.mem_cons_of_mem _ (List.mem_cons_self ..))) (stays_nil (stays_below hC5))))
      clear S4
      clear hC5 hh5
      go_wp2_with fail
      go_meet
      exact S5
  case rest =>
    clear S4
    have S90 : Hid (Stays [(ga, Obj.cells #[.int .u64 (a : Int), .int .u64 (b : Int)] 24 (0, 0)), (gX, Obj.cells (fc (dig X)) 27 (0, 0))] w wc) := hcut
    clear hcut
    go_upto_region 13 with fail
    refine reg_plain (Stays [(ga, Obj.cells #[.int .u64 (a : Int), .int .u64 (b : Int)] 24 (0, 0)), (gX, Obj.cells (fc (dig X)) 27 (0, 0))] w) (Turns [(ga, Obj.cells #[.int .u64 (a : Int), .int .u64 (b : Int)] 24 (0, 0)), (gX, Obj.cells (fc (dig X)) 27 (0, 0))] w) (kdOf []) none0 (stays_good _ _) (S90.out) (holds0 _) ?_
    refine g_look rfl rfl ?_ (fun w' hC => ?_) ?_
    rotate_left
    · go_simp
      first | done | rfl
    simp only [Act.put, List.setIfInBounds_toArray, List.set_cons_zero, List.set_cons_succ]
    refine g_look rfl rfl (.int .i64 n) (fun w' hC => ?_) ?_
    · go_simp
      first | done | rfl | omega | (split <;> omega)
    simp only [Act.put, List.setIfInBounds_toArray, List.set_cons_zero, List.set_cons_succ]
    refine g_look rfl rfl (.int .i64 0) (fun w' hC => ?_) ?_
    · go_simp
      first | done | rfl | omega | (split <;> omega)
    simp only [Act.put, List.setIfInBounds_toArray, List.set_cons_zero, List.set_cons_succ]
    refine g_look rfl rfl ?_ (fun w' hC => ?_) ?_
    rotate_left
    · go_simp
      first | done | rfl
    simp only [Act.put, List.setIfInBounds_toArray, List.set_cons_zero, List.set_cons_succ]
    refine g_end ?_
    intro w91 hC91 hh91
    have S91 : Hid (Stays [(ga, Obj.cells #[.int .u64 (a : Int), .int .u64 (b : Int)] 24 (0, 0)), (gX, Obj.cells (fc (dig X)) 27 (0, 0))] w w91) := Lib.hid (stays_cons (stays_row hC91 (List.mem_cons_self ..)) (stays_cons (stays_row hC91 (List.mem_cons_of_mem _ (List.mem_cons_self ..))) (stays_nil (stays_below hC91))))
    clear S90
    clear hC91 hh91
    go_upto_region 14 with fail
    refine reg_plain (Stays [(ga, Obj.cells #[.int .u64 (a : Int), .int .u64 (b : Int)] 24 (0, 0)), (gX, Obj.cells (fc (dig X)) 27 (0, 0))] w) (Turns [(ga, Obj.cells #[.int .u64 (a : Int), .int .u64 (b : Int)] 24 (0, 0)), (gX, Obj.cells (fc (dig X)) 27 (0, 0))] w) (kdOf [(2, .make (callM (.tuple #[.agg #[.int .u64 0, .int .u64 0], .bool false]))), (6, .make (allocM (.cells #[.int .u64 0, .int .u64 0] 24))), (7, .touch)]) none0 (stays_good _ _) (S91.out) (holds0 _) ?_
    (refine g_load 24 _ ga 24 #[.int .u64 (a : Int), .int .u64 (b : Int)] (0, 0) _ rfl rfl rfl rfl (fun w' hC => stays_row hC (List.mem_cons_self ..)) Try.underlying24 rfl (rfl) ?_)
    simp only [Act.put, List.setIfInBounds_toArray, List.set_cons_zero, List.set_cons_succ]
    refine g_look rfl rfl ?_ (fun w' hC => ?_) ?_
    rotate_left
    · go_simp
      first | done | rfl
    simp only [Act.put, List.setIfInBounds_toArray, List.set_cons_zero, List.set_cons_succ]
    refine g_call (stays_good _ _) (.tuple #[.agg #[.int .u64 0, .int .u64 0], .bool false]) rfl rfl (fun w' hC => ?_) ?_
    · clear hC
      go_simp
      refine (left_any _ a b n ua.out ub.out HR.out.2 HR.out.1).mono (fun e w2 h => ?_)
      obtain ⟨h1, h2⟩ := h
      rw [vX.out, HL.out] at h1
      exact gives h1 h2
    simp only [Act.put, List.setIfInBounds_toArray, List.set_cons_zero, List.set_cons_succ]
    refine g_look rfl rfl ?_ (fun w' hC => ?_) ?_
    rotate_left
    · go_simp
      first | done | rfl
    simp only [Act.put, List.setIfInBounds_toArray, List.set_cons_zero, List.set_cons_succ]
    refine g_look rfl rfl ?_ (fun w' hC => ?_) ?_
    rotate_left
    · go_simp
      first | done | rfl
    simp only [Act.put, List.setIfInBounds_toArray, List.set_cons_zero, List.set_cons_succ]
    refine g_look rfl rfl ?_ (fun w' hC => ?_) ?_
    rotate_left
    · go_simp
      first | done | rfl
    simp only [Act.put, List.setIfInBounds_toArray, List.set_cons_zero, List.set_cons_succ]
    refine g_alloc (stays_good _ _) (.cells #[.int .u64 0, .int .u64 0] 24) rfl rfl (fun w' hC => ?_) (fun gup tup nup => ?_)
    · clear hC
      go_simp
      first | done | rfl | exact ⟨rfl, rfl⟩
    clear nup
    replace tup := Lib.hid tup
    simp only [Act.put, List.setIfInBounds_toArray, List.set_cons_zero, List.set_cons_succ]
    refine g_store gup (some 6) 24 24 _ _ #[.int .u64 0, .int .u64 0] #[.int .u64 0, .int .u64 0] rfl rfl rfl rfl rfl (own_new _ _ _ _) (by kernel_rfl) (rfl) (rfl) (one24 _ _) ?_
    simp only [Act.put]
    refine g_look rfl rfl ?_ (fun w' hC => ?_) ?_
    rotate_left
    · go_simp
      first | done | rfl
    simp only [Act.put, List.setIfInBounds_toArray, List.set_cons_zero, List.set_cons_succ]
    refine g_end ?_
    intro w92 hC92 hh92
    have S92 : Hid (Stays [(ga, Obj.cells #[.int .u64 (a : Int), .int .u64 (b : Int)] 24 (0, 0)), (gX, Obj.cells (fc (dig X)) 27 (0, 0)), (gup, Obj.cells #[.int .u64 0, .int .u64 0] 24 (0, 0))] w w92) := Lib.hid (stays_cons (stays_row hC92 (List.mem_cons_self ..)) (stays_cons (stays_row hC92 (List.mem_cons_of_mem _ (List.mem_cons_self ..))) (stays_cons ((hh92 _ _ _ (own_new _ _ _ _)).1) (stays_nil (stays_below hC92)))))
    clear S91
    clear hC92 hh92
    go_upto_region 15 with fail
    refine reg_plain (Stays [(ga, Obj.cells #[.int .u64 (a : Int), .int .u64 (b : Int)] 24 (0, 0)), (gX, Obj.cells (fc (dig X)) 27 (0, 0)), (gup, Obj.cells #[.int .u64 0, .int .u64 0] 24 (0, 0))] w) (Turns [(ga, Obj.cells #[.int .u64 (a : Int), .int .u64 (b : Int)] 24 (0, 0)), (gX, Obj.cells (fc (dig X)) 27 (0, 0)), (gup, Obj.cells #[.int .u64 0, .int .u64 0] 24 (0, 0))] w) (kdOf [(8, .make (allocM (.cells #[.int .u64 0, .int .u64 0] 24))), (9, .touch)]) none0 (stays_good _ _) (S92.out) (holds0 _) ?_
    refine g_look rfl rfl ?_ (fun w' hC => ?_) ?_
    rotate_left
    · go_simp
      first | done | rfl
    simp only [Act.put, List.setIfInBounds_toArray, List.set_cons_zero, List.set_cons_succ]
    (refine g_load 24 _ ga 24 #[.int .u64 (a : Int), .int .u64 (b : Int)] (0, 0) _ rfl rfl rfl rfl (fun w' hC => stays_row hC (List.mem_cons_self ..)) Try.underlying24 rfl (rfl) ?_)
    simp only [Act.put, List.setIfInBounds_toArray, List.set_cons_zero, List.set_cons_succ]
    refine g_look rfl rfl ?_ (fun w' hC => ?_) ?_
    rotate_left
    · go_simp
      first | done | rfl
    simp only [Act.put, List.setIfInBounds_toArray, List.set_cons_zero, List.set_cons_succ]
    refine g_look rfl rfl ?_ (fun w' hC => ?_) ?_
    rotate_left
    · go_simp
      first | done | rfl
    simp only [Act.put, List.setIfInBounds_toArray, List.set_cons_zero, List.set_cons_succ]
    refine g_look rfl rfl ?_ (fun w' hC => ?_) ?_
    rotate_left
    · go_simp
      first | done | rfl
    simp only [Act.put, List.setIfInBounds_toArray, List.set_cons_zero, List.set_cons_succ]
    first
    | (refine g_skip rfl ?_)
    | (refine g_look rfl rfl ?_ (fun w' hC => ?_) ?_
       rotate_left
       · go_simp
         first | done | rfl)
    simp only [Act.put, List.setIfInBounds_toArray, List.set_cons_zero, List.set_cons_succ]
    first
    | (refine g_skip rfl ?_)
    | (refine g_look rfl rfl ?_ (fun w' hC => ?_) ?_
       rotate_left
       · go_simp
         first | done | rfl)
    simp only [Act.put, List.setIfInBounds_toArray, List.set_cons_zero, List.set_cons_succ]
    refine g_look rfl rfl ?_ (fun w' hC => ?_) ?_
    rotate_left
    · go_simp
      first | done | rfl
    simp only [Act.put, List.setIfInBounds_toArray, List.set_cons_zero, List.set_cons_succ]
    refine g_alloc (stays_good _ _) (.cells #[.int .u64 0, .int .u64 0] 24) rfl rfl (fun w' hC => ?_) (fun gwant twant nwant => ?_)
    · clear hC
      go_simp
      first | done | rfl | exact ⟨rfl, rfl⟩
    clear nwant
    replace twant := Lib.hid twant
    simp only [Act.put, List.setIfInBounds_toArray, List.set_cons_zero, List.set_cons_succ]
    refine g_store gwant (some 8) 24 24 _ _ #[.int .u64 0, .int .u64 0] #[.int .u64 0, .int .u64 0] rfl rfl rfl rfl rfl (own_new _ _ _ _) (by kernel_rfl) (rfl) (rfl) (one24 _ _) ?_
    simp only [Act.put]
    refine g_look rfl rfl ?_ (fun w' hC => ?_) ?_
    rotate_left
    · go_simp
      first | done | rfl
    simp only [Act.put, List.setIfInBounds_toArray, List.set_cons_zero, List.set_cons_succ]
    refine g_end ?_
    intro w93 hC93 hh93
    have S93 : Hid (Stays [(ga, Obj.cells #[.int .u64 (a : Int), .int .u64 (b : Int)] 24 (0, 0)), (gX, Obj.cells (fc (dig X)) 27 (0, 0)), (gup, Obj.cells #[.int .u64 0, .int .u64 0] 24 (0, 0)), (gwant, Obj.cells #[.int .u64 0, .int .u64 0] 24 (0, 0))] w w93) := Lib.hid (stays_cons (stays_row hC93 (List.mem_cons_self ..)) (stays_cons (stays_row hC93 (List.mem_cons_of_mem _ (List.mem_cons_self ..))) (stays_cons (stays_row hC93 (List.mem_cons_of_mem _ (List.mem_cons_of_mem _ (List.mem_cons_self ..)))) (stays_cons ((hh93 _ _ _ (own_new _ _ _ _)).1) (stays_nil (stays_below hC93))))))
    clear S92
    clear hC93 hh93
    go_upto_region 18 with fail
    refine reg (Stays [(ga, Obj.cells #[.int .u64 (a : Int), .int .u64 (b : Int)] 24 (0, 0)), (gX, Obj.cells (fc (dig X)) 27 (0, 0)), (gup, Obj.cells #[.int .u64 0, .int .u64 0] 24 (0, 0)), (gwant, Obj.cells #[.int .u64 0, .int .u64 0] 24 (0, 0))] w) (Turns [(ga, Obj.cells #[.int .u64 (a : Int), .int .u64 (b : Int)] 24 (0, 0)), (gX, Obj.cells (fc (dig X)) 27 (0, 0)), (gup, Obj.cells #[.int .u64 0, .int .u64 0] 24 (0, 0)), (gwant, Obj.cells #[.int .u64 0, .int .u64 0] 24 (0, 0))] w) (kdOf [(2, .make (callM (dg M))), (3, .make (callM (.tuple #[dg (X / M), dg (X % M)]))), (7, .make (allocM (.cells z20 27))), (8, .make (allocM (.cells z20 27))), (9, .touch), (10, .touch)]) none0 (stays_good _ _) (by kernel_rfl) (by kernel_rfl) (stays_drew (S93.out)) (holds0 _) ?_
    (refine g_load 27 _ gX 27 (fc (dig X)) (0, 0) _ rfl rfl rfl rfl (fun w' hC => stays_row hC (List.mem_cons_of_mem _ (List.mem_cons_self ..))) Try.underlying27 rfl (info27 _) ?_)
    simp only [Act.put, List.setIfInBounds_toArray, List.set_cons_zero, List.set_cons_succ]
    refine g_look rfl rfl ?_ (fun w' hC => ?_) ?_
    rotate_left
    · go_simp
      first | done | rfl
    simp only [Act.put, List.setIfInBounds_toArray, List.set_cons_zero, List.set_cons_succ]
    refine g_call (stays_good _ _) (dg M) rfl rfl (fun w' hC => ?_) ?_
    · clear hC
      go_simp
      refine (power_any _ 0 (by omega)).mono (fun e w2 h => ?_)
      obtain ⟨h1, h2⟩ := h
      rw [HP.out] at h1
      exact gives h1 h2
    simp only [Act.put, List.setIfInBounds_toArray, List.set_cons_zero, List.set_cons_succ]
    refine g_call (stays_good _ _) (.tuple #[dg (X / M), dg (X % M)]) rfl rfl (fun w' hC => ?_) ?_
    · clear hC
      go_simp
      refine (by_any _ X M HP8.out (div_room kX.out HP0.out)).mono (fun e w2 h => ?_)
      obtain ⟨h1, h2⟩ := h
      rw [byV] at h1
      exact gives h1 h2
    simp only [Act.put, List.setIfInBounds_toArray, List.set_cons_zero, List.set_cons_succ]
    refine g_look rfl rfl ?_ (fun w' hC => ?_) ?_
    rotate_left
    · go_simp
      first | done | rfl
    simp only [Act.put, List.setIfInBounds_toArray, List.set_cons_zero, List.set_cons_succ]
    refine g_look rfl rfl ?_ (fun w' hC => ?_) ?_
    rotate_left
    · go_simp
      first | done | rfl
    simp only [Act.put, List.setIfInBounds_toArray, List.set_cons_zero, List.set_cons_succ]
    refine g_look rfl rfl ?_ (fun w' hC => ?_) ?_
    rotate_left
    · go_simp
      first | done | rfl
    simp only [Act.put, List.setIfInBounds_toArray, List.set_cons_zero, List.set_cons_succ]
    refine g_alloc (stays_good _ _) (.cells z20 27) rfl rfl (fun w' hC => ?_) (fun gP tP nP => ?_)
    · clear hC
      go_simp
      first | done | rfl | exact ⟨rfl, rfl⟩
    clear nP
    replace tP := Lib.hid tP
    simp only [Act.put, List.setIfInBounds_toArray, List.set_cons_zero, List.set_cons_succ]
    refine g_alloc (stays_good _ _) (.cells z20 27) rfl rfl (fun w' hC => ?_) (fun gRr tRr nRr => ?_)
    · clear hC
      go_simp
      first | done | rfl | exact ⟨rfl, rfl⟩
    obtain ⟨d_P_Rr, nRr⟩ := own_none nRr
    clear nRr
    replace tRr := Lib.hid tRr
    simp only [Act.put, List.setIfInBounds_toArray, List.set_cons_zero, List.set_cons_succ]
    refine g_store gP (some 7) 27 27 _ _ z20 (fc (dig (X / M))) rfl rfl rfl rfl rfl ((own_off _ (Ne.symm d_P_Rr)).trans (own_new _ _ _ _)) (by kernel_rfl) (fc_size _) (info27 _) (fc_one _) ?_
    simp only [Act.put]
    refine g_store gRr (some 8) 27 27 _ _ z20 (fc (dig (X % M))) rfl rfl rfl rfl rfl ((own_off _ d_P_Rr).trans (own_new _ _ _ _)) (by kernel_rfl) (fc_size _) (info27 _) (fc_one _) ?_
    simp only [Act.put]
    refine g_end ?_
    intro w94 hC94 hh94
    have S94 : Hid (Stays [(ga, Obj.cells #[.int .u64 (a : Int), .int .u64 (b : Int)] 24 (0, 0)), (gup, Obj.cells #[.int .u64 0, .int .u64 0] 24 (0, 0)), (gwant, Obj.cells #[.int .u64 0, .int .u64 0] 24 (0, 0)), (gP, Obj.cells (fc (dig (X / M))) 27 (0, 0))] w w94) := Lib.hid (stays_cons (stays_row hC94 (List.mem_cons_self ..)) (stays_cons (stays_row hC94 (List.mem_cons_of_mem _ (List.mem_cons_of_mem _ (List.mem_cons_self ..)))) (stays_cons (stays_row hC94 (List.mem_cons_of_mem _ (List.mem_cons_of_mem _ (List.mem_cons_of_mem _ (List.mem_cons_self ..))))) (stays_cons ((hh94 _ _ _ ((own_off _ (Ne.symm d_P_Rr)).trans (own_new _ _ _ _))).1) (stays_nil (stays_below hC94))))))
    clear S93
    clear hC94 hh94
    go_upto_region 19 with fail
    refine reg_plain (Stays [(ga, Obj.cells #[.int .u64 (a : Int), .int .u64 (b : Int)] 24 (0, 0)), (gup, Obj.cells #[.int .u64 0, .int .u64 0] 24 (0, 0)), (gwant, Obj.cells #[.int .u64 0, .int .u64 0] 24 (0, 0)), (gP, Obj.cells (fc (dig (X / M))) 27 (0, 0))] w) (Turns [(ga, Obj.cells #[.int .u64 (a : Int), .int .u64 (b : Int)] 24 (0, 0)), (gup, Obj.cells #[.int .u64 0, .int .u64 0] 24 (0, 0)), (gwant, Obj.cells #[.int .u64 0, .int .u64 0] 24 (0, 0)), (gP, Obj.cells (fc (dig (X / M))) 27 (0, 0))] w) (kdOf [(1, .make (callM (.tuple #[.agg #[.int .u64 d1, .int .u64 d2], .bool true]))), (5, .make (allocM (.cells #[.int .u64 0, .int .u64 0] 24))), (6, .touch)]) none0 (stays_good _ _) (S94.out) (holds0 _) ?_
    (refine g_load 27 _ gP 27 (fc (dig (X / M))) (0, 0) _ rfl rfl rfl rfl (fun w' hC => stays_row hC (List.mem_cons_of_mem _ (List.mem_cons_of_mem _ (List.mem_cons_of_mem _ (List.mem_cons_self ..))))) Try.underlying27 rfl (info27 _) ?_)
    simp only [Act.put, List.setIfInBounds_toArray, List.set_cons_zero, List.set_cons_succ]
    refine g_call (stays_good _ _) (.tuple #[.agg #[.int .u64 d1, .int .u64 d2], .bool true]) rfl rfl (fun w' hC => ?_) ?_
    · clear hC
      go_simp
      refine (wide_any _ (X / M) (lt8_20 (Nat.lt_of_le_of_lt (Nat.div_le_self _ _) kX.out))).mono (fun e w2 h => ?_)
      obtain ⟨h1, h2⟩ := h
      rw [HD2.out] at h1
      exact gives h1 h2
    simp only [Act.put, List.setIfInBounds_toArray, List.set_cons_zero, List.set_cons_succ]
    refine g_look rfl rfl ?_ (fun w' hC => ?_) ?_
    rotate_left
    · go_simp
      first | done | rfl
    simp only [Act.put, List.setIfInBounds_toArray, List.set_cons_zero, List.set_cons_succ]
    refine g_look rfl rfl ?_ (fun w' hC => ?_) ?_
    rotate_left
    · go_simp
      first | done | rfl
    simp only [Act.put, List.setIfInBounds_toArray, List.set_cons_zero, List.set_cons_succ]
    refine g_look rfl rfl ?_ (fun w' hC => ?_) ?_
    rotate_left
    · go_simp
      first | done | rfl
    simp only [Act.put, List.setIfInBounds_toArray, List.set_cons_zero, List.set_cons_succ]
    refine g_alloc (stays_good _ _) (.cells #[.int .u64 0, .int .u64 0] 24) rfl rfl (fun w' hC => ?_) (fun gdown tdown ndown => ?_)
    · clear hC
      go_simp
      first | done | rfl | exact ⟨rfl, rfl⟩
    clear ndown
    replace tdown := Lib.hid tdown
    simp only [Act.put, List.setIfInBounds_toArray, List.set_cons_zero, List.set_cons_succ]
    refine g_store gdown (some 5) 24 24 _ _ #[.int .u64 0, .int .u64 0] #[.int .u64 d1, .int .u64 d2] rfl rfl rfl rfl rfl (own_new _ _ _ _) (by kernel_rfl) (rfl) (rfl) (one24 _ _) ?_
    simp only [Act.put]
    refine g_look rfl rfl ?_ (fun w' hC => ?_) ?_
    rotate_left
    · go_simp
      first | done | rfl
    simp only [Act.put, List.setIfInBounds_toArray, List.set_cons_zero, List.set_cons_succ]
    refine g_end ?_
    intro w95 hC95 hh95
    have S95 : Hid (Stays [(ga, Obj.cells #[.int .u64 (a : Int), .int .u64 (b : Int)] 24 (0, 0)), (gup, Obj.cells #[.int .u64 0, .int .u64 0] 24 (0, 0)), (gwant, Obj.cells #[.int .u64 0, .int .u64 0] 24 (0, 0)), (gdown, Obj.cells #[.int .u64 d1, .int .u64 d2] 24 (0, 0))] w w95) := Lib.hid (stays_cons (stays_row hC95 (List.mem_cons_self ..)) (stays_cons (stays_row hC95 (List.mem_cons_of_mem _ (List.mem_cons_self ..))) (stays_cons (stays_row hC95 (List.mem_cons_of_mem _ (List.mem_cons_of_mem _ (List.mem_cons_self ..)))) (stays_cons ((hh95 _ _ _ (own_new _ _ _ _)).1) (stays_nil (stays_below hC95))))))
    clear S94
    clear hC95 hh95
    go_upto_region 20 with fail
    refine reg (Stays [(ga, Obj.cells #[.int .u64 (a : Int), .int .u64 (b : Int)] 24 (0, 0)), (gup, Obj.cells #[.int .u64 0, .int .u64 0] 24 (0, 0)), (gwant, Obj.cells #[.int .u64 0, .int .u64 0] 24 (0, 0)), (gdown, Obj.cells #[.int .u64 d1, .int .u64 d2] 24 (0, 0))] w) (Turns [(ga, Obj.cells #[.int .u64 (a : Int), .int .u64 (b : Int)] 24 (0, 0)), (gup, Obj.cells #[.int .u64 0, .int .u64 0] 24 (0, 0)), (gwant, Obj.cells #[.int .u64 0, .int .u64 0] 24 (0, 0)), (gdown, Obj.cells #[.int .u64 d1, .int .u64 d2] 24 (0, 0))] w) (kdOf [(11, .make (callM (.agg #[.int .u64 d1, .int .u64 d2])))]) none0 (stays_good _ _) (by kernel_rfl) (by kernel_rfl) (stays_drew (S95.out)) (holds0 _) ?_
    refine g_look rfl rfl ?_ (fun w' hC => ?_) ?_
    rotate_left
    · go_simp
      first | done | rfl
    simp only [Act.put, List.setIfInBounds_toArray, List.set_cons_zero, List.set_cons_succ]
    refine g_look rfl rfl ?_ (fun w' hC => ?_) ?_
    rotate_left
    · go_simp
      first | done | rfl
    simp only [Act.put, List.setIfInBounds_toArray, List.set_cons_zero, List.set_cons_succ]
    refine g_look rfl rfl ?_ (fun w' hC => ?_) ?_
    rotate_left
    · go_simp
      first | done | rfl
    simp only [Act.put, List.setIfInBounds_toArray, List.set_cons_zero, List.set_cons_succ]
    refine g_look rfl rfl ?_ (fun w' hC => ?_) ?_
    rotate_left
    · go_simp
      first | done | rfl
    simp only [Act.put, List.setIfInBounds_toArray, List.set_cons_zero, List.set_cons_succ]
    first | (refine g_skip rfl ?_) | (refine g_load 24 _ gup 24 #[.int .u64 0, .int .u64 0] (0, 0) _ rfl rfl rfl rfl (fun w' hC => stays_row hC (List.mem_cons_of_mem _ (List.mem_cons_self ..))) Try.underlying24 rfl (rfl) ?_)
    simp only [Act.put, List.setIfInBounds_toArray, List.set_cons_zero, List.set_cons_succ]
    first | (refine g_skip rfl ?_) | (refine g_load 24 _ gwant 24 #[.int .u64 0, .int .u64 0] (0, 0) _ rfl rfl rfl rfl (fun w' hC => stays_row hC (List.mem_cons_of_mem _ (List.mem_cons_of_mem _ (List.mem_cons_self ..)))) Try.underlying24 rfl (rfl) ?_)
    simp only [Act.put, List.setIfInBounds_toArray, List.set_cons_zero, List.set_cons_succ]
    first
    | (refine g_skip rfl ?_)
    | (refine g_look rfl rfl ?_ (fun w' hC => ?_) ?_
       rotate_left
       · go_simp
         first | done | rfl)
    simp only [Act.put, List.setIfInBounds_toArray, List.set_cons_zero, List.set_cons_succ]
    refine g_look rfl rfl ?_ (fun w' hC => ?_) ?_
    rotate_left
    · go_simp
      first | done | rfl
    simp only [Act.put, List.setIfInBounds_toArray, List.set_cons_zero, List.set_cons_succ]
    refine g_look rfl rfl ?_ (fun w' hC => ?_) ?_
    rotate_left
    · go_simp
      first | done | rfl
    simp only [Act.put, List.setIfInBounds_toArray, List.set_cons_zero, List.set_cons_succ]
    first | (refine g_skip rfl ?_) | (refine g_load 24 _ ga 24 #[.int .u64 (a : Int), .int .u64 (b : Int)] (0, 0) _ rfl rfl rfl rfl (fun w' hC => stays_row hC (List.mem_cons_self ..)) Try.underlying24 rfl (rfl) ?_)
    simp only [Act.put, List.setIfInBounds_toArray, List.set_cons_zero, List.set_cons_succ]
    first
    | (refine g_skip rfl ?_)
    | (refine g_look rfl rfl ?_ (fun w' hC => ?_) ?_
       rotate_left
       · go_simp
         first | done | rfl)
    simp only [Act.put, List.setIfInBounds_toArray, List.set_cons_zero, List.set_cons_succ]
    first
    | (refine g_skip rfl ?_)
    | skip
    refine g_call (stays_good _ _) (.agg #[.int .u64 d1, .int .u64 d2]) rfl rfl (fun w' hC => ?_) ?_
    · clear hC
      go_simp
      refine (right_any _ a b n ua.out ub.out HR.out.2 HR.out.1).mono (fun e w2 h => ?_)
      obtain ⟨h1, h2⟩ := h
      rw [vX.out, HD.out] at h1
      exact gives h1 h2
    simp only [Act.put, List.setIfInBounds_toArray, List.set_cons_zero, List.set_cons_succ]
    first | (refine g_skip rfl ?_) | (refine g_load 24 _ gdown 24 #[.int .u64 d1, .int .u64 d2] (0, 0) _ rfl rfl rfl rfl (fun w' hC => stays_row hC (List.mem_cons_of_mem _ (List.mem_cons_of_mem _ (List.mem_cons_of_mem _ (List.mem_cons_self ..))))) Try.underlying24 rfl (rfl) ?_)
    simp only [Act.put, List.setIfInBounds_toArray, List.set_cons_zero, List.set_cons_succ]
    first
    | (refine g_skip rfl ?_)
    | (refine g_look rfl rfl ?_ (fun w' hC => ?_) ?_
       rotate_left
       · go_simp
         first | done | rfl)
    simp only [Act.put, List.setIfInBounds_toArray, List.set_cons_zero, List.set_cons_succ]
    refine g_look rfl rfl ?_ (fun w' hC => ?_) ?_
    rotate_left
    · go_simp
      first | done | rfl
    simp only [Act.put, List.setIfInBounds_toArray, List.set_cons_zero, List.set_cons_succ]
    refine g_look rfl rfl ?_ (fun w' hC => ?_) ?_
    rotate_left
    · go_simp
      first | done | rfl
    simp only [Act.put, List.setIfInBounds_toArray, List.set_cons_zero, List.set_cons_succ]
    refine g_end ?_
    intro w96 hC96 hh96
    have S96 : Hid (Stays [(ga, Obj.cells #[.int .u64 (a : Int), .int .u64 (b : Int)] 24 (0, 0)), (gup, Obj.cells #[.int .u64 0, .int .u64 0] 24 (0, 0)), (gwant, Obj.cells #[.int .u64 0, .int .u64 0] 24 (0, 0)), (gdown, Obj.cells #[.int .u64 d1, .int .u64 d2] 24 (0, 0))] w w96) := Lib.hid (stays_cons (stays_row hC96 (List.mem_cons_self ..)) (stays_cons (stays_row hC96 (List.mem_cons_of_mem _ (List.mem_cons_self ..))) (stays_cons (stays_row hC96 (List.mem_cons_of_mem _ (List.mem_cons_of_mem _ (List.mem_cons_self ..)))) (stays_cons (stays_row hC96 (List.mem_cons_of_mem _ (List.mem_cons_of_mem _ (List.mem_cons_of_mem _ (List.mem_cons_self ..))))) (stays_nil (stays_below hC96))))))
    clear S95
    clear hC96 hh96
    go_wp2_with fail
    refine bodyPost_ret (v := .bool true) (by simp [results, Try.results3, go_sem]) rfl ⟨rfl, stays_below S96.out⟩
end Go.Proofs.Ytfckignchmpeaaa.Wi
