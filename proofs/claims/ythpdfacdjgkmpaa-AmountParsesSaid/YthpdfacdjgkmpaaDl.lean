/- Wide numbers: products by a word: a walk. -/
import Derived.Test.YthpdfacdjgkmpaaDk
import Derived.Deep.RegionHeld3
import Derived.Deep.DeepCutAuto
namespace Go.Proofs.Ythpdfacdjgkmpaa.Wi
open Go.RowKit K

theorem results_opt28 {W : World} {g : Nat} {x y : Value} {t : Bool} {tmps : Array Value} (h : W.heap[g]? = some (.cells #[x, y] 25 (0, 0))) (i24 : (Try.prog.info? 25).map (·.size) = some 2) (e4 : tmps.getD 4 undef = .pointer (some ⟨g, 0, none⟩) := by rfl) (e5 : tmps.getD 5 undef = .bool t := by rfl) :
    (results Try.f29 tmps).run Try.prog W = .ok (.tuple #[.agg #[x, y], .bool t]) W := by
  have h' := run_loadVar_row (P := Try.prog) W g 25 25 _ (0, 0) _ h Try.underlying25 rfl i24
  have e4' : tmps[4]?.getD undef = .pointer (some ⟨g, 0, none⟩) := by simpa using e4
  have e5' : tmps[5]?.getD undef = .bool t := by simpa using e5
  simp [results, Try.results29, e4', e5', asAddr, h']
set_option maxHeartbeats 4000000 in
theorem product_exact (w : World) (x y : Int) (hx : U x) (hy : U y) : Calls Try.prog 54 #[.int .u64 x, .int .u64 y] w fun e w' => e = .returned (.agg #[.int .u64 (x * y / 18446744073709551616), .int .u64 (x * y % 18446744073709551616)]) ∧ ∃ c d : Value, w' = w.alloc (.cells #[c, d] 25) := by
  unfold U at hx hy
  go_enter Try.func54, Try.ntmps54
  go_wp2
  refine bodyPost_ret (v := .agg #[.int .u64 (x * y / 18446744073709551616), .int .u64 (x * y % 18446744073709551616)]) ?_ rfl ⟨rfl, _, _, rfl⟩
  rw [← mul64_arith x y hx.1 hx.2 hy.1 hy.2]
  simp [results, Try.results54, go_sem, and_mod, and_low32 x hx.1 hx.2, and_low32 y hy.1 hy.2, wu64]
set_option maxHeartbeats 4000000 in
theorem times_word_any (w : World) (a b u : Int) (ha : U a) (hb : U b) (hu : U u) : Calls Try.prog 29 #[wv a b, .int .u64 u] w (Ret w (optV (wval a b * u) (wval a b * u < 340282366920938463463374607431768211456))) := by
  obtain ⟨V, hV⟩ : ∃ V, optV (wval a b * u) (wval a b * u < 340282366920938463463374607431768211456) = V := ⟨_, rfl⟩
  rw [hV]
  have HV := Lib.hid hV
  have HA := Lib.hid ha
  have HB := Lib.hid hb
  have HU := Lib.hid hu
  clear hV ha hb hu
  unfold wv
  go_enter Try.func29, Try.ntmps29
  go_upto_region 1 with fail
  go_cut [6, 7] (fun p q wx => ∃ g6 g7 : Nat, p = .pointer (some ⟨g6, 0, none⟩) ∧ q = .pointer (some ⟨g7, 0, none⟩) ∧ Hid (wx.heap[g6]? = some (.cells #[.int .u64 (a * u / 18446744073709551616), .int .u64 (a * u % 18446744073709551616)] 25 (0, 0))) ∧ Hid (wx.heap[g7]? = some (.cells #[.int .u64 (b * u / 18446744073709551616), .int .u64 (b * u % 18446744073709551616)] 25 (0, 0))) ∧ Hid (wx.heap[w.heap.size + 1]? = some (.cells #[.int .u64 0, .int .u64 0] 25 (0, 0))) ∧ w.heap.size + 1 < g6 ∧ w.heap.size + 1 < g7 ∧ Hid (Below w.heap.size w wx))
  case first =>
    go_region_held3 (fun w' => w'.cell? ⟨w.heap.size, 0, none⟩ = some (.int .u64 a) ∧ w'.cell? ⟨w.heap.size, 1, none⟩ = some (.int .u64 b)) (simp [go_sem, World.cell?_alloc_past])
      (first
        | (go_at_call_of 54 (Value.int .u64 a); refine (product_exact _ a u HA.out HU.out).mono ?_; rintro e w' ⟨rfl, c, d, rfl⟩)
        | (go_at_call_of 54 (Value.int .u64 b); refine (product_exact _ b u HB.out HU.out).mono ?_; rintro e w' ⟨rfl, c, d, rfl⟩))
    all_goals (go_wp2_with fail; go_meet; exact ⟨_, _, rfl, rfl, (by show _ = _; (repeat (first | exact blk_new (by simp; done) | refine blk_alloc ?_ _ | refine blk_drew ?_))), (by show _ = _; (repeat (first | exact blk_new (by simp; done) | refine blk_alloc ?_ _ | refine blk_drew ?_))), (by show _ = _; (repeat (first | exact blk_new (by simp; done) | refine blk_alloc ?_ _ | refine blk_drew ?_))), by omega, by omega, (by show Below _ _ _; (repeat (first | exact Below.refl _ _ | refine b_alloc ?_ _ | refine b_set ?_ (by first | exact Nat.le_refl _ | (simp; omega) | omega | simp) _ | refine b_drew ?_)))⟩)
  case rest =>
    obtain ⟨g6, g7, rfl, rfl, r6, r7, r1, l6, l7, hbel⟩ := hcut
    have hA : 0 ≤ a * u := Int.mul_nonneg HA.out.1 HU.out.1
    have hB : 0 ≤ b * u := Int.mul_nonneg HB.out.1 HU.out.1
    have hA2 : a * u ≤ 18446744073709551615 * 18446744073709551615 := Int.mul_le_mul (by have := HA.out.2; omega) (by have := HU.out.2; omega) HU.out.1 (by decide)
    have hB2 : b * u ≤ 18446744073709551615 * 18446744073709551615 := Int.mul_le_mul (by have := HB.out.2; omega) (by have := HU.out.2; omega) HU.out.1 (by decide)
    have hX : wval a b * u = a * u * 18446744073709551616 + b * u := by rw [wval, Int.add_mul, Int.mul_right_comm a]
    have HV3 := HV.out
    rw [hX] at HV3
    clear HV HA HB HU hX
    generalize a * u = A at *
    generalize b * u = B at *
    obtain ⟨x, y, hx, hy, hAx, bx, by_⟩ : ∃ x y : Int, A / 18446744073709551616 = x ∧ A % 18446744073709551616 = y ∧ A = x * 18446744073709551616 + y ∧ 0 ≤ x ∧ U y := ⟨_, _, rfl, rfl, by omega, by omega, by unfold U; omega⟩
    obtain ⟨z, t, hz, ht, hBz, bz, bt⟩ : ∃ z t : Int, B / 18446744073709551616 = z ∧ B % 18446744073709551616 = t ∧ B = z * 18446744073709551616 + t ∧ U z ∧ U t := ⟨_, _, rfl, rfl, by omega, by unfold U; omega, by unfold U; omega⟩
    rw [hx, hy] at r6
    rw [hz, ht] at r7
    have HV := Lib.hid HV3
    have HAx := Lib.hid hAx
    have HBz := Lib.hid hBz
    clear hx hy hz ht hAx hBz HV3 hA hB hA2 hB2
    have p0 : wc.cell? ⟨g6, 0, none⟩ = some (.int .u64 x) := (cell_of_row _ _ _ _ _ _ r6.out).trans rfl
    have p1 : wc.cell? ⟨g6, 1, none⟩ = some (.int .u64 y) := (cell_of_row _ _ _ _ _ _ r6.out).trans rfl
    have p2 := frozen_of_row _ _ 0 _ _ r6.out
    have p3 := frozen_of_row _ _ 1 _ _ r6.out
    have p4 := blk_lt r6.out
    have q0 : wc.cell? ⟨g7, 0, none⟩ = some (.int .u64 z) := (cell_of_row _ _ _ _ _ _ r7.out).trans rfl
    have q1 : wc.cell? ⟨g7, 1, none⟩ = some (.int .u64 t) := (cell_of_row _ _ _ _ _ _ r7.out).trans rfl
    have q2 := frozen_of_row _ _ 0 _ _ r7.out
    have q3 := frozen_of_row _ _ 1 _ _ r7.out
    have q4 := blk_lt r7.out
    have d0 : wc.cell? ⟨(w.heap.size + 1), 0, none⟩ = some (.int .u64 0) := (cell_of_row _ _ _ _ _ _ r1.out).trans rfl
    have d1 : wc.cell? ⟨(w.heap.size + 1), 1, none⟩ = some (.int .u64 0) := (cell_of_row _ _ _ _ _ _ r1.out).trans rfl
    have d2 := frozen_of_row _ _ 0 _ _ r1.out
    have d3 := frozen_of_row _ _ 1 _ _ r1.out
    have d4 := blk_lt r1.out
    by_cases h0 : x = 0
    · subst h0
      go_wp2_with fail
      refine (add_any _ y 0 z t by_ (by unfold U; decide) bz bt).mono ?_
      rintro e w5 ⟨rfl, hb5⟩
      have s1 := blk_below r1.out hb5
      have m0 : w5.cell? ⟨(w.heap.size + 1), 0, none⟩ = some (.int .u64 0) := (cell_of_row _ _ _ _ _ _ s1).trans rfl
      have m1 : w5.cell? ⟨(w.heap.size + 1), 1, none⟩ = some (.int .u64 0) := (cell_of_row _ _ _ _ _ _ s1).trans rfl
      have m2 := frozen_of_row _ _ 0 _ _ s1
      have m3 := frozen_of_row _ _ 1 _ _ s1
      have m4 := blk_lt s1
      have hb6 := Lib.hid (b_then hbel.out hb5)
      have S1 := Lib.hid s1
      have eX : wval y 0 + wval z t = A * 18446744073709551616 + B := by rw [HAx.out, HBz.out]; unfold wval; omega
      rw [eX]
      have HV4 := HV.out
      unfold optV at HV4 ⊢
      by_cases hf : A * 18446744073709551616 + B < 340282366920938463463374607431768211456
      · rw [if_pos hf] at HV4 ⊢
        rw [HV4]
        rw [← HV4]
        have HV5 := Lib.hid HV4
        unfold wv
        obtain ⟨P, hP⟩ : ∃ P : Int, (A * 18446744073709551616 + B) / 18446744073709551616 = P := ⟨_, rfl⟩
        obtain ⟨Q, hQ⟩ : ∃ Q : Int, (A * 18446744073709551616 + B) % 18446744073709551616 = Q := ⟨_, rfl⟩
        rw [hP, hQ] at HV4 ⊢
        clear HV5 hf eX
        have HV5 := Lib.hid HV4
        clear HV4
        go_wp2_with fail
        refine bodyPost_ret (v := .tuple #[.agg #[.int .u64 P, .int .u64 Q], .bool true]) (results_opt28 (set24_1 (set24_0 S1.out)) rfl) rfl ⟨congrArg Ending.returned HV5.out, b_set (b_set hb6.out (by simp) _) (by simp) _⟩
      · rw [if_neg hf] at HV4 ⊢
        unfold wv at HV4 ⊢
        clear hf eX
        have HV5 := Lib.hid HV4
        clear HV4
        go_wp2_with fail
        refine bodyPost_ret (v := .tuple #[.agg #[.int .u64 0, .int .u64 0], .bool false]) (results_opt28 (set24_1 (set24_0 S1.out)) rfl) rfl ⟨congrArg Ending.returned HV5.out, b_set (b_set hb6.out (by simp) _) (by simp) _⟩
    · go_wp2_with fail
      refine bodyPost_ret (v := .tuple #[.agg #[.int .u64 0, .int .u64 0], .bool false]) (results_opt28 (set24_1 (set24_0 r1.out)) rfl) rfl ⟨congrArg Ending.returned ?_, b_set (b_set hbel.out (by simp) _) (by simp) _⟩
      rw [← HV.out]
      have h1 := HAx.out
      have h2 := HBz.out
      have h3 := by_
      unfold U at h3 bz bt
      exact optV_no (by omega)
end Go.Proofs.Ythpdfacdjgkmpaa.Wi
