/- The document's greatest amount, and which numbers are amounts, by walks. -/
import Derived.Test.YthpdfacdjgkmpaaEu
namespace Go.Proofs.Ythpdfacdjgkmpaa.Wi
open Go.RowKit K

attribute [local go_sem] lookTo stepTo Maker.step
attribute [local irreducible] fc
theorem dg_e9 : Value.agg #[.int .u64 51712, .int .u64 15258, .int .u64 0, .int .u64 0, .int .u64 0, .int .u64 0, .int .u64 0, .int .u64 0, .int .u64 0, .int .u64 0, .int .u64 0, .int .u64 0, .int .u64 0, .int .u64 0, .int .u64 0, .int .u64 0, .int .u64 0, .int .u64 0, .int .u64 0, .int .u64 0] = dg 1000000000 := by kernel_rfl
theorem results_dg39 {W : World} {g X : Nat} {tmps : Array Value} (h : W.heap[g]? = some (.cells (fc (dig X)) 41 (0, 0))) (e4 : tmps.getD 0 undef = .pointer (some ⟨g, 0, none⟩) := by rfl) :
    (results Try.f39 tmps).run Try.prog W = .ok (dg X) W := by
  have h' := run_loadVar_row (P := Try.prog) W g 41 41 _ (0, 0) _ h Try.underlying41 rfl (info27 _)
  have e4' : tmps[0]?.getD undef = .pointer (some ⟨g, 0, none⟩) := by simpa using e4
  simp [results, Try.results39, e4', asAddr, h', dg]
set_option maxHeartbeats 4000000 in
set_option maxRecDepth 100000 in
theorem dmost_any (w : World) (P M : Nat) (hP : 2 ^ 60 = P) (hM : P * 1000000000 = M) (hP8 : P < 65536 ^ 8) : Calls Try.prog 39 #[] w (Ret w (dg M)) := by
  have HP := Lib.hid hP
  have HM := Lib.hid hM
  have HP8 := Lib.hid hP8
  clear hP hM hP8
  have S0 : Hid (Stays [] w w) := Lib.hid (stays_nil (Below.refl _ _))
  go_enter Try.func39, Try.ntmps39
  go_upto_region 0 with fail
  refine reg_plain (Stays [] w) (Turns [] w) (kdOf [(0, .make (fun _ => allocM (.cells z20 41)))]) none0 (stays_good _ _) (S0.out) (holds0 _) ?_
  refine g_alloc (stays_good _ _) (.cells z20 41) rfl rfl (fun w' hC => ?_) (fun gd td nd => ?_)
  · clear hC
    go_simp
    first | done | rfl | exact ⟨rfl, rfl⟩
  clear nd
  replace td := Lib.hid td
  simp only [Act.put, sa, sb]
  refine g_end ?_
  intro w1 hC1 hh1
  have S1 : Hid (Stays [(gd, Obj.cells z20 41 (0, 0))] w w1) := Lib.hid (stays_cons ((hh1 _ _ _ (own_new _ _ _ _)).1) (stays_nil (stays_below hC1)))
  clear hC1 hh1
  rw [z20_zero] at S1
  go_upto_region 1 with fail
  refine reg_plain (Stays [] w) (Turns [] w) (kdOf [(0, .make (fun _ => callM (dg P))), (2, .make (fun _ => callM (dg M))), (3, .touch)]) (Own.has none0 gd (Obj.cells (fc (dig 0)) 41 (0, 0))) (stays_good _ _) (stays_nil (stays_below S1.out)) (holds_has (holds0 _) (stays_row S1.out (List.mem_cons_self ..)) td.out) ?_
  refine g_call (stays_good _ _) (dg P) rfl rfl (fun w' hC => ?_) ?_
  · clear hC
    go_simp
    refine (power_any _ 60 (by decide)).mono (fun e w2 h => ?_)
    obtain ⟨h1, h2⟩ := h
    rw [HP.out] at h1
    exact gives h1 h2
  simp only [Act.put, sa, sb, sc]
  refine g_look rfl rfl (dg 1000000000) (fun w' hC => ?_) ?_
  · go_simp
    first | done | exact dg_e9
  simp only [Act.put, sa, sb, sc]
  refine g_call (stays_good _ _) (dg M) rfl rfl (fun w' hC => ?_) ?_
  · clear hC
    go_simp
    refine (times_any _ P 1000000000 HP8.out (by decide)).mono (fun e w2 h => ?_)
    obtain ⟨h1, h2⟩ := h
    rw [HM.out] at h1
    exact gives h1 h2
  simp only [Act.put, sa, sb, sc]
  refine g_store gd none 41 41 _ _ (fc (dig 0)) (fc (dig M)) rfl rfl rfl rfl rfl (has_same _ _ _) (by kernel_rfl) ((by first | exact fc_size _ | exact (fc_size _).trans (fc_size _).symm)) (info27 _) (fc_one _) ?_
  simp only [Act.put]
  refine g_end ?_
  intro w2 hC2 hh2
  have S2 : Hid (Stays [(gd, Obj.cells (fc (dig M)) 41 (0, 0))] w w2) := Lib.hid (stays_cons ((hh2 _ _ _ (own_new _ _ _ _)).1) (stays_nil (stays_below hC2)))
  clear S1
  clear hC2 hh2
  go_wp2_with fail
  refine bodyPost_ret (v := dg M) (results_dg39 (stays_head S2.out)) rfl ⟨rfl, stays_below S2.out⟩
theorem fits_nat {a b : Int} (ha : U a) (hb : U b) : ∃ h l : Nat, a = (h : Int) ∧ b = (l : Int) ∧ h < 65536 ^ 4 ∧ l < 65536 ^ 4 ∧ ((h * 65536 ^ 4 + l : Nat) : Int) = wval a b ∧ (!decide (1152921504606846976000000000 < h * 65536 ^ 4 + l)) = decide (wval a b ≤ Most) := by
  obtain ⟨h, rfl⟩ : ∃ h : Nat, a = (h : Int) := ⟨a.toNat, (Int.toNat_of_nonneg ha.1).symm⟩
  obtain ⟨l, rfl⟩ : ∃ l : Nat, b = (l : Int) := ⟨b.toNat, (Int.toNat_of_nonneg hb.1).symm⟩
  unfold U at ha hb
  have e4 : (65536 : Nat) ^ 4 = 18446744073709551616 := by decide
  refine ⟨h, l, rfl, rfl, by omega, by omega, ?_, ?_⟩
  · unfold wval; rw [e4]; omega
  · rw [e4]
    unfold wval Most
    by_cases hx : 1152921504606846976000000000 < h * 18446744073709551616 + l
    · rw [decide_eq_true hx, decide_eq_false (by omega)]; rfl
    · rw [decide_eq_false hx, decide_eq_true (by omega)]; rfl
theorem lt20 {h l : Nat} (hh : h < 65536 ^ 4) (hl : l < 65536 ^ 4) : h * 65536 ^ 4 + l < 65536 ^ 20 := by
  have e4 : (65536 : Nat) ^ 4 = 18446744073709551616 := by decide
  rw [e4] at *
  exact Nat.lt_of_lt_of_le (show h * 18446744073709551616 + l < 340282366920938463463374607431768211456 by omega) (by decide)
set_option maxHeartbeats 4000000 in
set_option maxRecDepth 100000 in
theorem dfits_any (w : World) (a b : Int) (ha : U a) (hb : U b) : Calls Try.prog 10 #[wv a b] w (Ret w (.bool (decide (wval a b ≤ Most)))) := by
  obtain ⟨h, l, rfl, rfl, hh, hl, hv, hd⟩ := fits_nat ha hb
  rw [← hd]
  have HH := Lib.hid hh
  have HL := Lib.hid hl
  have H20 := Lib.hid (lt20 hh hl)
  obtain ⟨X, hX⟩ : ∃ X, h * 65536 ^ 4 + l = X := ⟨_, rfl⟩
  rw [hX] at H20 ⊢
  have HX := Lib.hid hX
  obtain ⟨P, hP⟩ : ∃ P, 2 ^ 60 = P := ⟨_, rfl⟩
  obtain ⟨M, hM⟩ : ∃ M, P * 1000000000 = M := ⟨_, rfl⟩
  have hP8 : P < 65536 ^ 8 := by rw [← hP]; decide
  have hM2 : M = 1152921504606846976000000000 := by rw [← hM, ← hP]
  have hM20 : M < 65536 ^ 20 := by rw [hM2]; decide
  rw [← hM2]
  have HP := Lib.hid hP
  have HM := Lib.hid hM
  have HP8 := Lib.hid hP8
  have HM20 := Lib.hid hM20
  clear hh hl hv hd ha hb hX hP hM hP8 hM2 hM20
  have S0 : Hid (Stays [] w w) := Lib.hid (stays_nil (Below.refl _ _))
  go_enter Try.func10, Try.ntmps10
  go_upto_region 0 with fail
  refine reg_plain (Stays [] w) (Turns [] w) (kdOf [(0, .make (fun _ => allocM (.cells #[.int .u64 (h : Int), .int .u64 (l : Int)] 25)))]) none0 (stays_good _ _) (S0.out) (holds0 _) ?_
  refine g_alloc (stays_good _ _) (.cells #[.int .u64 (h : Int), .int .u64 (l : Int)] 25) rfl rfl (fun w' hC => ?_) (fun gx tx nx => ?_)
  · clear hC
    go_simp
    first | done | rfl | exact ⟨rfl, rfl⟩
  clear nx
  replace tx := Lib.hid tx
  simp only [Act.put, sa, sb, sc]
  refine g_look rfl rfl ?_ (fun w' hC => ?_) ?_
  rotate_left
  · go_simp
    first | done | rfl
  simp only [Act.put, sa, sb, sc]
  refine g_end ?_
  intro w1 hC1 hh1
  have S1 : Hid (Stays [(gx, Obj.cells #[.int .u64 (h : Int), .int .u64 (l : Int)] 25 (0, 0))] w w1) := Lib.hid (stays_cons ((hh1 _ _ _ (own_new _ _ _ _)).1) (stays_nil (stays_below hC1)))
  clear hC1 hh1
  go_upto_region 1 with fail
  refine reg (Stays [(gx, Obj.cells #[.int .u64 (h : Int), .int .u64 (l : Int)] 25 (0, 0))] w) (Turns [(gx, Obj.cells #[.int .u64 (h : Int), .int .u64 (l : Int)] 25 (0, 0))] w) (kdOf [(0, .make (fun _ => callM (dg M))), (2, .make (fun _ => callM (dg X))), (3, .make (fun _ => callM (.bool (decide (M < X)))))]) none0 (stays_good _ _) (by kernel_rfl) (by kernel_rfl) (stays_drew (S1.out)) (holds0 _) ?_
  refine g_call (stays_good _ _) (dg M) rfl rfl (fun w' hC => ?_) ?_
  · clear hC
    go_simp
    refine (dmost_any _ P M HP.out HM.out HP8.out).mono (fun e w2 h => ?_)
    obtain ⟨h1, h2⟩ := h
    exact gives h1 h2
  simp only [Act.put, sa, sb, sc]
  (refine g_load 25 _ gx 25 #[.int .u64 (h : Int), .int .u64 (l : Int)] (0, 0) _ rfl rfl rfl rfl (fun w' hC => stays_row hC (List.mem_cons_self ..)) Try.underlying25 rfl (rfl) ?_)
  simp only [Act.put, sa, sb, sc]
  refine g_call (stays_good _ _) (dg X) rfl rfl (fun w' hC => ?_) ?_
  · clear hC
    go_simp
    refine (of_any _ h l HH.out HL.out).mono (fun e w2 h => ?_)
    obtain ⟨h1, h2⟩ := h
    rw [HX.out] at h1
    exact gives h1 h2
  simp only [Act.put, sa, sb, sc]
  refine g_call (stays_good _ _) (.bool (decide (M < X))) rfl rfl (fun w' hC => ?_) ?_
  · clear hC
    go_simp
    refine (less_any _ M X HM20.out H20.out).mono (fun e w2 h => ?_)
    obtain ⟨h1, h2⟩ := h
    exact gives h1 h2
  simp only [Act.put, sa, sb, sc]
  refine g_look rfl rfl ?_ (fun w' hC => ?_) ?_
  rotate_left
  · go_simp
    first | done | rfl
  simp only [Act.put, sa, sb, sc]
  refine g_look rfl rfl ?_ (fun w' hC => ?_) ?_
  rotate_left
  · go_simp
    first | done | rfl
  simp only [Act.put, sa, sb, sc]
  refine g_end ?_
  intro w2 hC2 hh2
  have S2 : Hid (Stays [(gx, Obj.cells #[.int .u64 (h : Int), .int .u64 (l : Int)] 25 (0, 0))] w w2) := Lib.hid (stays_cons (stays_row hC2 (List.mem_cons_self ..)) (stays_nil (stays_below hC2)))
  clear S1
  clear hC2 hh2
  go_wp2_with fail
  refine bodyPost_ret (v := .bool (!decide (M < X))) (by simp [results, Try.results10, go_sem]) rfl ⟨rfl, stays_below S2.out⟩
end Go.Proofs.Ythpdfacdjgkmpaa.Wi
