/- Wide numbers: up by bits: a walk. -/
import Derived.Test.YthpdfacdjgkmpaaDj
namespace Go.Proofs.Ythpdfacdjgkmpaa.Wi
open Go.RowKit K

theorem or_comm64 {x y : Int} (hx : U x) (hy : U y) : bits .or .u64 y x = bits .or .u64 x y := by
  obtain ⟨a, rfl⟩ := Int.eq_ofNat_of_zero_le hx.1
  obtain ⟨b, rfl⟩ := Int.eq_ofNat_of_zero_le hy.1
  unfold U at hx hy
  rw [bits_or_u64_nat a b (by omega) (by omega), bits_or_u64_nat b a (by omega) (by omega), Nat.or_comm]
/-- So many bits up fit, just where the length tells. -/
theorem fits_iff {X n : Int} (h0 : 0 < X) (hn : 0 ≤ n) : X * 2 ^ n.toNat < 340282366920938463463374607431768211456 ↔ n + (bitLen X.toNat : Int) ≤ 128 := by
  obtain ⟨a, rfl⟩ := Int.eq_ofNat_of_zero_le (Int.le_of_lt h0)
  obtain ⟨k, rfl⟩ := Int.eq_ofNat_of_zero_le hn
  have ha : a ≠ 0 := by omega
  obtain ⟨s1, s2⟩ := bitLen_spec a
  have s2 := s2 ha
  have e1 : ((a : Int) * 2 ^ ((k : Int)).toNat < 340282366920938463463374607431768211456) ↔ a * 2 ^ k < 2 ^ 128 := by
    have : ((a : Int) * 2 ^ ((k : Int)).toNat) = ((a * 2 ^ k : Nat) : Int) := by simp
    rw [this]
    constructor <;> intro h <;> omega
  have e2 : (((a : Int)).toNat) = a := rfl
  rw [e1, e2]
  generalize bitLen a = L at *
  constructor
  · intro h
    by_cases hc : (k : Int) + (L : Int) ≤ 128
    · exact hc
    · exfalso
      have h1 : 2 ^ 128 ≤ 2 ^ (L - 1 + k) := Nat.pow_le_pow_right (by omega) (by omega)
      have h2 : 2 ^ (L - 1 + k) ≤ a * 2 ^ k := by rw [Nat.pow_add]; exact Nat.mul_le_mul_right _ s2
      omega
  · intro h
    have h1 : a * 2 ^ k < 2 ^ L * 2 ^ k := Nat.mul_lt_mul_of_pos_right s1 (Nat.two_pow_pos k)
    have h2 : 2 ^ (L + k) ≤ 2 ^ 128 := Nat.pow_le_pow_right (by omega) (by omega)
    rw [← Nat.pow_add] at h1
    omega
theorem left_far {a b n : Int} (ha : 0 ≤ a) (hb : 0 ≤ b) (h0 : 64 ≤ n) (hX : wval a b * 2 ^ n.toNat < 340282366920938463463374607431768211456) : IntKind.u64.wrap (b * 2 ^ (n - 64).toNat) = b * 2 ^ (n - 64).toNat ∧ wval a b * 2 ^ n.toNat = b * 2 ^ (n - 64).toNat * 18446744073709551616 + 0 := by
  have ht := two_pos (n - 64).toNat
  have e : wval a b * 2 ^ n.toNat = a * 2 ^ (n - 64).toNat * 340282366920938463463374607431768211456 + b * 2 ^ (n - 64).toNat * 18446744073709551616 := by
    rw [show n.toNat = (n - 64).toNat + 64 by omega, Int.pow_add, show ((2 : Int) ^ 64) = 18446744073709551616 by decide, ← Int.mul_assoc, wval, Int.add_mul, Int.mul_right_comm a]
    omega
  have h1 : 0 ≤ a * 2 ^ (n - 64).toNat := Int.mul_nonneg ha (by omega)
  have h2 : 0 ≤ b * 2 ^ (n - 64).toNat := Int.mul_nonneg hb (by omega)
  rw [e] at hX
  rw [e, wu64]
  omega
theorem left_near {a b n : Int} (ha : 0 ≤ a) (hb : 0 ≤ b) (hb' : b < 18446744073709551616) (h0 : 0 ≤ n) (h1 : n < 64) (hX : wval a b * 2 ^ n.toNat < 340282366920938463463374607431768211456) :
    bits .or .u64 (IntKind.u64.wrap (a * 2 ^ n.toNat)) (b / 2 ^ (64 - n).toNat) = a * 2 ^ n.toNat + b / 2 ^ (64 - n).toNat ∧ wval a b * 2 ^ n.toNat = (a * 2 ^ n.toNat + b / 2 ^ (64 - n).toNat) * 18446744073709551616 + IntKind.u64.wrap (b * 2 ^ n.toNat) := by
  have hp := two_pos n.toNat
  have hq := two_pos (64 - n).toNat
  have hpq := pow_split h0 (show n ≤ 64 by omega)
  have hqp : (2 : Int) ^ (64 - n).toNat * 2 ^ n.toNat = 18446744073709551616 := by rw [Int.mul_comm]; exact hpq
  obtain ⟨u1, u2⟩ := up_parts hq hp hqp hb
  have e : wval a b * 2 ^ n.toNat = a * 2 ^ n.toNat * 18446744073709551616 + b * 2 ^ n.toNat := by
    rw [wval, Int.add_mul, Int.mul_right_comm a]
  have h2 : 0 ≤ a * 2 ^ n.toNat := Int.mul_nonneg ha (by omega)
  have h3 : 0 ≤ b * 2 ^ n.toNat := Int.mul_nonneg hb (by omega)
  have h4 : 0 ≤ b / 2 ^ (64 - n).toNat := Int.ediv_nonneg hb (by omega)
  have h5 : b / 2 ^ (64 - n).toNat < 2 ^ n.toNat := Int.ediv_lt_of_lt_mul hq (by rw [hpq]; exact hb')
  have h6 : b / 2 ^ (64 - n).toNat ≤ b := Int.ediv_le_self _ hb
  have h7 : a * 2 ^ n.toNat % 2 ^ n.toNat = 0 := Int.mul_emod_left _ _
  rw [e] at hX
  have hw : IntKind.u64.wrap (a * 2 ^ n.toNat) = a * 2 ^ n.toNat := by rw [wu64]; omega
  refine ⟨?_, ?_⟩
  · rw [hw, or_comm64 ⟨h4, by omega⟩ ⟨h2, by omega⟩, or_sum n.toNat h4 h5 h2 h7 (by omega) (by omega), Int.add_comm]
  · rw [e, wu64]
    omega
theorem results_opt13 {W : World} {g : Nat} {x y : Value} {t : Bool} {tmps : Array Value} (h : W.heap[g]? = some (.cells #[x, y] 25 (0, 0))) (i24 : (Try.prog.info? 25).map (·.size) = some 2) (e4 : tmps.getD 4 undef = .pointer (some ⟨g, 0, none⟩) := by rfl) (e5 : tmps.getD 5 undef = .bool t := by rfl) :
    (results Try.f57 tmps).run Try.prog W = .ok (.tuple #[.agg #[x, y], .bool t]) W := by
  have h' := run_loadVar_row (P := Try.prog) W g 25 25 _ (0, 0) _ h Try.underlying25 rfl i24
  have e4' : tmps[4]?.getD undef = .pointer (some ⟨g, 0, none⟩) := by simpa using e4
  have e5' : tmps[5]?.getD undef = .bool t := by simpa using e5
  simp [results, Try.results57, e4', e5', asAddr, h']
def leftV (X n : Int) : Value := optV (X * 2 ^ n.toNat) (0 ≤ n ∧ X * 2 ^ n.toNat < 340282366920938463463374607431768211456)
theorem left_none (w : World) (n : Int) : Calls Try.prog 57 #[wv 0 0, .int .i64 n] w (Ret w (leftV (wval 0 0) n)) := by
  obtain ⟨V, hV⟩ : ∃ V, leftV (wval 0 0) n = V := ⟨_, rfl⟩
  rw [hV]
  have HV := Lib.hid hV
  clear hV
  unfold wv
  by_cases h0 : 0 ≤ n
  · go_enter Try.func57, Try.ntmps57
    go_wp2
    refine bodyPost_ret (v := .tuple #[.agg #[.int .u64 0, .int .u64 0], .bool true]) (by simp [results, Try.results57, go_sem]; done) rfl ⟨congrArg Ending.returned ?_, by (repeat (first | exact Below.refl _ _ | refine b_alloc ?_ _ | refine b_set ?_ (by first | exact Nat.le_refl _ | (simp; omega) | omega | simp) _ | refine b_drew ?_))⟩
    rw [← HV.out]
    exact optV_yes ⟨h0, by simp [wval]⟩ (by omega) (by simp [wval])
  · go_enter Try.func57, Try.ntmps57
    go_wp2
    refine bodyPost_ret (v := .tuple #[.agg #[.int .u64 0, .int .u64 0], .bool false]) (by simp [results, Try.results57, go_sem]; done) rfl ⟨congrArg Ending.returned ?_, by (repeat (first | exact Below.refl _ _ | refine b_alloc ?_ _ | refine b_set ?_ (by first | exact Nat.le_refl _ | (simp; omega) | omega | simp) _ | refine b_drew ?_))⟩
    rw [← HV.out]
    exact optV_no (fun h => by omega)
set_option maxHeartbeats 4000000 in
theorem left_hi (w : World) (a b n : Int) (ha : U a) (hb : U b) (h : a ≠ 0) (hn : n < 9223372036854775808) (hn' : -9223372036854775808 ≤ n) : Calls Try.prog 57 #[wv a b, .int .i64 n] w (Ret w (leftV (wval a b) n)) := by
  have HA := Lib.hid ha
  have HB := Lib.hid hb
  unfold U at ha hb
  obtain ⟨V, hV⟩ : ∃ V, leftV (wval a b) n = V := ⟨_, rfl⟩
  rw [hV]
  have HV := Lib.hid hV
  clear hV
  have hp : 0 < wval a b := by unfold wval; omega
  by_cases h0 : n < 0
  · unfold wv
    go_enter Try.func57, Try.ntmps57
    go_wp2_with fail
    refine bodyPost_ret (v := .tuple #[.agg #[.int .u64 0, .int .u64 0], .bool false]) (by simp [results, Try.results57, go_sem]; done) rfl ⟨congrArg Ending.returned ?_, by (repeat (first | exact Below.refl _ _ | refine b_alloc ?_ _ | refine b_set ?_ (by first | exact Nat.le_refl _ | (simp; omega) | omega | simp) _ | refine b_drew ?_))⟩
    rw [← HV.out]
    exact optV_no (fun h => by omega)
  · have hf := fits_iff hp (show 0 ≤ n by omega)
    have hl : bitLen (wval a b).toNat ≤ 128 := bitLen_lt _ 128 (by unfold wval; omega)
    have hv := HV.out
    unfold leftV at hv
    obtain ⟨L, hL⟩ : ∃ L : Int, (bitLen (wval a b).toNat : Int) = L := ⟨_, rfl⟩
    rw [hL] at hf
    have HL := Lib.hid hL
    have hL0 : 0 ≤ L := by omega
    have hL1 : L ≤ 128 := by omega
    have HF := Lib.hid hf
    have HV2 := Lib.hid hv
    have e1 : IntKind.i64.wrap (128 - L) = 128 - L := by simp [IntKind.wrap, IntKind.signed, IntKind.bits]; omega
    clear hf hl hv hL
    unfold wv
    go_enter Try.func57, Try.ntmps57
    go_wp2_with fail
    refine (bits_any _ a b HA.out HB.out).mono ?_
    rintro e w1 ⟨rfl, hb1⟩
    rw [HL.out]
    have r0 : w1.heap[w.heap.size]? = some (.cells #[.int .u64 a, .int .u64 b] 25 (0, 0)) := blk_below (blk_alloc (blk_new rfl) _) hb1
    have r1 : w1.heap[w.heap.size + 1]? = some (.cells #[.int .u64 0, .int .u64 0] 25 (0, 0)) := blk_below (blk_new (by simp)) hb1
    have R0 := Lib.hid r0
    have R1 := Lib.hid r1
    have HB1 := Lib.hid (b_then (b_alloc (b_alloc (Below.refl _ _) _) _) hb1)
    have c0 : w1.cell? ⟨w.heap.size, 0, none⟩ = some (.int .u64 a) := (cell_of_row _ _ _ _ _ _ r0).trans rfl
    have c1 : w1.cell? ⟨w.heap.size, 1, none⟩ = some (.int .u64 b) := (cell_of_row _ _ _ _ _ _ r0).trans rfl
    have c2 := frozen_of_row _ _ 0 _ _ r0
    have c3 := frozen_of_row _ _ 1 _ _ r0
    have c4 := blk_lt r0
    have d0 : w1.cell? ⟨(w.heap.size + 1), 0, none⟩ = some (.int .u64 0) := (cell_of_row _ _ _ _ _ _ r1).trans rfl
    have d1 : w1.cell? ⟨(w.heap.size + 1), 1, none⟩ = some (.int .u64 0) := (cell_of_row _ _ _ _ _ _ r1).trans rfl
    have d2 := frozen_of_row _ _ 0 _ _ r1
    have d3 := frozen_of_row _ _ 1 _ _ r1
    have d4 := blk_lt r1
    clear r0 r1 hb1
    by_cases h1 : 128 - L < n
    · go_wp2_with fail
      refine bodyPost_ret (v := .tuple #[.agg #[.int .u64 0, .int .u64 0], .bool false]) (results_opt13 (set24_1 (set24_0 R1.out)) rfl) rfl ⟨congrArg Ending.returned ?_, b_set (b_set HB1.out (by simp) _) (by simp) _⟩
      rw [← HV.out]
      exact optV_no (fun h => by have := HF.out.1 h.2; omega)
    · by_cases h2 : 64 ≤ n
      · have e2 : (0 : Int) ≤ n - 64 := by omega
        have e3 : IntKind.i64.wrap (n - 64) = n - 64 := by simp [IntKind.wrap, IntKind.signed, IntKind.bits]; omega
        go_wp2_with fail
        obtain ⟨m1, m2⟩ := left_far (n := n) HA.out.1 HB.out.1 h2 (HF.out.2 (by omega))
        refine bodyPost_ret (v := .tuple #[.agg #[.int .u64 (IntKind.u64.wrap (b * 2 ^ (n - 64).toNat)), .int .u64 0], .bool true]) (results_opt13 (set24_1 (set24_0 R1.out)) rfl) rfl ⟨congrArg Ending.returned ?_, b_set (b_set HB1.out (by simp) _) (by simp) _⟩
        rw [← HV.out, m1]
        exact optV_yes ⟨h0, HF.out.2 (by omega)⟩ (by omega) m2
      · have e2 : (0 : Int) ≤ 64 - n := by omega
        have e3 : IntKind.i64.wrap (64 - n) = 64 - n := by simp [IntKind.wrap, IntKind.signed, IntKind.bits]; omega
        go_wp2_with fail
        go_region
        go_wp2_with fail
        obtain ⟨m1, m2⟩ := left_near (n := n) HA.out.1 HB.out.1 HB.out.2 h0 h2 (HF.out.2 (by omega))
        refine bodyPost_ret (v := .tuple #[.agg #[.int .u64 (bits .or .u64 (IntKind.u64.wrap (a * 2 ^ n.toNat)) (b / 2 ^ (64 - n).toNat)), .int .u64 (IntKind.u64.wrap (b * 2 ^ n.toNat))], .bool true]) (results_opt13 (blk_drew (set24_1 (set24_0 R1.out))) rfl) rfl ⟨congrArg Ending.returned ?_, b_drew (b_set (b_set HB1.out (by simp) _) (by simp) _)⟩
        rw [← HV.out, m1]
        exact optV_yes ⟨h0, HF.out.2 (by omega)⟩ (by rw [wu64]; omega) m2
set_option maxHeartbeats 4000000 in
theorem left_lo (w : World) (b n : Int) (hb : U b) (h : b ≠ 0) (hn : n < 9223372036854775808) (hn' : -9223372036854775808 ≤ n) : Calls Try.prog 57 #[wv 0 b, .int .i64 n] w (Ret w (leftV (wval 0 b) n)) := by
  have HA : Hid (U 0) := ⟨by decide, by decide⟩
  have HB := Lib.hid hb
  unfold U at hb
  obtain ⟨V, hV⟩ : ∃ V, leftV (wval 0 b) n = V := ⟨_, rfl⟩
  rw [hV]
  have HV := Lib.hid hV
  clear hV
  have hp : 0 < wval 0 b := by unfold wval; omega
  by_cases h0 : n < 0
  · unfold wv
    go_enter Try.func57, Try.ntmps57
    go_wp2_with fail
    refine bodyPost_ret (v := .tuple #[.agg #[.int .u64 0, .int .u64 0], .bool false]) (by simp [results, Try.results57, go_sem]; done) rfl ⟨congrArg Ending.returned ?_, by (repeat (first | exact Below.refl _ _ | refine b_alloc ?_ _ | refine b_set ?_ (by first | exact Nat.le_refl _ | (simp; omega) | omega | simp) _ | refine b_drew ?_))⟩
    rw [← HV.out]
    exact optV_no (fun h => by omega)
  · have hf := fits_iff hp (show 0 ≤ n by omega)
    have hl : bitLen (wval 0 b).toNat ≤ 128 := bitLen_lt _ 128 (by unfold wval; omega)
    have hv := HV.out
    unfold leftV at hv
    obtain ⟨L, hL⟩ : ∃ L : Int, (bitLen (wval 0 b).toNat : Int) = L := ⟨_, rfl⟩
    rw [hL] at hf
    have HL := Lib.hid hL
    have hL0 : 0 ≤ L := by omega
    have hL1 : L ≤ 128 := by omega
    have HF := Lib.hid hf
    have HV2 := Lib.hid hv
    have e1 : IntKind.i64.wrap (128 - L) = 128 - L := by simp [IntKind.wrap, IntKind.signed, IntKind.bits]; omega
    clear hf hl hv hL
    unfold wv
    go_enter Try.func57, Try.ntmps57
    go_wp2_with fail
    refine (bits_any _ 0 b HA.out HB.out).mono ?_
    rintro e w1 ⟨rfl, hb1⟩
    rw [HL.out]
    have r0 : w1.heap[w.heap.size]? = some (.cells #[.int .u64 0, .int .u64 b] 25 (0, 0)) := blk_below (blk_alloc (blk_new rfl) _) hb1
    have r1 : w1.heap[w.heap.size + 1]? = some (.cells #[.int .u64 0, .int .u64 0] 25 (0, 0)) := blk_below (blk_new (by simp)) hb1
    have R0 := Lib.hid r0
    have R1 := Lib.hid r1
    have HB1 := Lib.hid (b_then (b_alloc (b_alloc (Below.refl _ _) _) _) hb1)
    have c0 : w1.cell? ⟨w.heap.size, 0, none⟩ = some (.int .u64 0) := (cell_of_row _ _ _ _ _ _ r0).trans rfl
    have c1 : w1.cell? ⟨w.heap.size, 1, none⟩ = some (.int .u64 b) := (cell_of_row _ _ _ _ _ _ r0).trans rfl
    have c2 := frozen_of_row _ _ 0 _ _ r0
    have c3 := frozen_of_row _ _ 1 _ _ r0
    have c4 := blk_lt r0
    have d0 : w1.cell? ⟨(w.heap.size + 1), 0, none⟩ = some (.int .u64 0) := (cell_of_row _ _ _ _ _ _ r1).trans rfl
    have d1 : w1.cell? ⟨(w.heap.size + 1), 1, none⟩ = some (.int .u64 0) := (cell_of_row _ _ _ _ _ _ r1).trans rfl
    have d2 := frozen_of_row _ _ 0 _ _ r1
    have d3 := frozen_of_row _ _ 1 _ _ r1
    have d4 := blk_lt r1
    clear r0 r1 hb1
    by_cases h1 : 128 - L < n
    · go_wp2_with fail
      refine bodyPost_ret (v := .tuple #[.agg #[.int .u64 0, .int .u64 0], .bool false]) (results_opt13 (set24_1 (set24_0 R1.out)) rfl) rfl ⟨congrArg Ending.returned ?_, b_set (b_set HB1.out (by simp) _) (by simp) _⟩
      rw [← HV.out]
      exact optV_no (fun h => by have := HF.out.1 h.2; omega)
    · by_cases h2 : 64 ≤ n
      · have e2 : (0 : Int) ≤ n - 64 := by omega
        have e3 : IntKind.i64.wrap (n - 64) = n - 64 := by simp [IntKind.wrap, IntKind.signed, IntKind.bits]; omega
        go_wp2_with fail
        obtain ⟨m1, m2⟩ := left_far (n := n) HA.out.1 HB.out.1 h2 (HF.out.2 (by omega))
        refine bodyPost_ret (v := .tuple #[.agg #[.int .u64 (IntKind.u64.wrap (b * 2 ^ (n - 64).toNat)), .int .u64 0], .bool true]) (results_opt13 (set24_1 (set24_0 R1.out)) rfl) rfl ⟨congrArg Ending.returned ?_, b_set (b_set HB1.out (by simp) _) (by simp) _⟩
        rw [← HV.out, m1]
        exact optV_yes ⟨h0, HF.out.2 (by omega)⟩ (by omega) m2
      · have e2 : (0 : Int) ≤ 64 - n := by omega
        have e3 : IntKind.i64.wrap (64 - n) = 64 - n := by simp [IntKind.wrap, IntKind.signed, IntKind.bits]; omega
        go_wp2_with fail
        go_region
        go_wp2_with fail
        obtain ⟨m1, m2⟩ := left_near (n := n) HA.out.1 HB.out.1 HB.out.2 h0 h2 (HF.out.2 (by omega))
        rw [show IntKind.u64.wrap (0 * 2 ^ n.toNat) = 0 by rw [Int.zero_mul]; rfl] at m1
        refine bodyPost_ret (v := .tuple #[.agg #[.int .u64 (bits .or .u64 (0) (b / 2 ^ (64 - n).toNat)), .int .u64 (IntKind.u64.wrap (b * 2 ^ n.toNat))], .bool true]) (results_opt13 (blk_drew (set24_1 (set24_0 R1.out))) rfl) rfl ⟨congrArg Ending.returned ?_, b_drew (b_set (b_set HB1.out (by simp) _) (by simp) _)⟩
        rw [← HV.out, m1]
        exact optV_yes ⟨h0, HF.out.2 (by omega)⟩ (by rw [wu64]; omega) m2
theorem left_any (w : World) (a b n : Int) (ha : U a) (hb : U b) (hn : n < 9223372036854775808) (hn' : -9223372036854775808 ≤ n) : Calls Try.prog 57 #[wv a b, .int .i64 n] w (Ret w (leftV (wval a b) n)) := by
  by_cases h : a = 0
  · subst h
    by_cases h' : b = 0
    · subst h'
      exact left_none w n
    · exact left_lo w b n hb h' hn hn'
  · exact left_hi w a b n ha hb h hn hn'

end Go.Proofs.Ythpdfacdjgkmpaa.Wi
