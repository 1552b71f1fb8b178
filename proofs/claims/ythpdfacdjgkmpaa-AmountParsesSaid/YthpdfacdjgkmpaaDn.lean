/- Wide numbers by a word: a walk. -/
import Derived.Test.YthpdfacdjgkmpaaDl
import Derived.WalkSmall
namespace Go.Proofs.Ythpdfacdjgkmpaa.Wi
open Go.RowKit K

/-- How it stands ahead of bit k - 1. -/
def WbyAt (X u : Int) (k : Nat) (Q r : Int) : Prop := X / 2 ^ k = u * Q + r ∧ 0 ≤ r ∧ r < u ∧ 0 ≤ Q
theorem halve (X : Int) (k : Nat) : X / 2 ^ k = 2 * (X / 2 ^ (k + 1)) + X / 2 ^ k % 2 := by
  have : X / 2 ^ (k + 1) = X / 2 ^ k / 2 := by rw [Int.pow_succ, Int.ediv_ediv_of_nonneg (Int.le_of_lt (two_pos k))]
  rw [this]
  omega
/-- One round's words. -/
structure Wby (X u R h l : Int) (m : Nat) (beta T T' h' l' : Int) : Prop where
  bit : X / 2 ^ m % 2 = beta
  b0 : 0 ≤ beta
  b1 : beta ≤ 1
  sum : T = 2 * R + beta
  sum' : T' = T % 18446744073709551616
  eo : bits .or .u64 (IntKind.u64.wrap (R * 2)) beta = T'
  eh : bits .or .u64 (IntKind.u64.wrap (h * 2)) (l / 9223372036854775808) = h'
  el : IntKind.u64.wrap (l * 2) = l'
  e1 : bits .or .u64 l' 1 = l' + 1
  uh : U h'
  ul : U l'
  ul1 : U (l' + 1)
  yes : u ≤ T → WbyAt X u m (wval h' (l' + 1)) (T - u)
  no : T < u → WbyAt X u m (wval h' l') T
theorem or_low {x y : Int} (k : Nat) (hx : 0 ≤ x) (hxk : x < 2 ^ k) (hy : 0 ≤ y) (hyk : y % 2 ^ k = 0) (hk : k ≤ 64) (hy64 : y < 18446744073709551616) (hx64 : x < 18446744073709551616) : bits .or .u64 y x = y + x := by
  rw [or_comm64 ⟨hx, hx64⟩ ⟨hy, hy64⟩, or_sum k hx hxk hy hyk hk hy64, Int.add_comm]
theorem wby_round {X u R h l : Int} {m : Nat} (hX : 0 ≤ X) (hX' : X < 340282366920938463463374607431768211456) (hu : U u) (hQ : WbyAt X u (m + 1) (wval h l) R) (hhl : U h ∧ U l) : ∃ F : Int × Int × Int × Int × Int, Wby X u R h l m F.1 F.2.1 F.2.2.1 F.2.2.2.1 F.2.2.2.2 := by
  obtain ⟨q1, q2, q3, q4⟩ := hQ
  obtain ⟨⟨h1, h2⟩, l1, l2⟩ := hhl
  obtain ⟨u1, u2⟩ := hu
  have hv := halve X m
  have b0 : 0 ≤ X / 2 ^ m % 2 := by omega
  have b1 : X / 2 ^ m % 2 ≤ 1 := by omega
  have hle : X / 2 ^ m ≤ X := Int.ediv_le_self _ hX
  rw [q1] at hv
  generalize hbe : X / 2 ^ m % 2 = be at *
  have eq2 : X / 2 ^ m = u * (2 * wval h l) + (2 * R + be) := by
    rw [hv, Int.mul_left_comm]; omega
  have hsmall : 2 * wval h l < 340282366920938463463374607431768211456 := by
    have h3 : 2 * wval h l ≤ u * (2 * wval h l) := by
      have : 1 * (2 * wval h l) ≤ u * (2 * wval h l) := Int.mul_le_mul_of_nonneg_right (by omega) (by omega)
      omega
    omega
  unfold wval at hsmall
  have hl9 : 0 ≤ l / 9223372036854775808 ∧ l / 9223372036854775808 < 2 := by omega
  refine ⟨⟨be, 2 * R + be, (2 * R + be) % 18446744073709551616, h * 2 + l / 9223372036854775808, l * 2 % 18446744073709551616⟩, ?_⟩
  refine ⟨hbe, b0, b1, rfl, rfl, ?_, ?_, ?_, ?_, ?_, ?_, ?_, ?_, ?_⟩
  · rw [wu64, or_low 1 b0 (by omega) (by omega) (by omega) (by omega) (by omega) (by omega)]
    show _ = (2 * R + be) % _
    omega
  · rw [wu64, or_low 1 hl9.1 (by omega) (by omega) (by omega) (by omega) (by omega) (by omega)]
    show _ = h * 2 + _
    omega
  · rw [wu64]
  · exact or_low 1 (by decide) (by decide) (by show 0 ≤ l * 2 % 18446744073709551616; omega) (by show l * 2 % 18446744073709551616 % 2 ^ 1 = 0; omega) (by omega) (by show l * 2 % 18446744073709551616 < _; omega) (by decide)
  · show 0 ≤ h * 2 + _ ∧ h * 2 + _ < _
    omega
  · show 0 ≤ l * 2 % _ ∧ l * 2 % _ < _
    omega
  · show 0 ≤ l * 2 % _ + 1 ∧ l * 2 % _ + 1 < _
    omega
  · intro hT
    have hw : wval (h * 2 + l / 9223372036854775808) (l * 2 % 18446744073709551616 + 1) = 2 * wval h l + 1 := by unfold wval; omega
    show WbyAt X u m (wval (h * 2 + l / 9223372036854775808) (l * 2 % 18446744073709551616 + 1)) (2 * R + be - u)
    have hT' : u ≤ 2 * R + be := hT
    rw [hw]
    refine ⟨?_, by omega, by omega, by omega⟩
    rw [eq2, Int.mul_add, Int.mul_one]
    omega
  · intro hT
    have hw : wval (h * 2 + l / 9223372036854775808) (l * 2 % 18446744073709551616) = 2 * wval h l := by unfold wval; omega
    show WbyAt X u m (wval (h * 2 + l / 9223372036854775808) (l * 2 % 18446744073709551616)) (2 * R + be)
    have hT' : 2 * R + be < u := hT
    rw [hw]
    exact ⟨eq2, by omega, hT', by omega⟩
theorem results_opt10 {W : World} {g : Nat} {x y r : Value} {t : Bool} {tmps : Array Value} (h : W.heap[g]? = some (.cells #[x, y] 25 (0, 0))) (i24 : (Try.prog.info? 25).map (·.size) = some 2) (e4 : tmps.getD 4 undef = .pointer (some ⟨g, 0, none⟩) := by rfl) (e5 : tmps.getD 5 undef = r := by rfl) (e6 : tmps.getD 6 undef = .bool t := by rfl) :
    (results Try.f46 tmps).run Try.prog W = .ok (.tuple #[.agg #[x, y], r, .bool t]) W := by
  have h' := run_loadVar_row (P := Try.prog) W g 25 25 _ (0, 0) _ h Try.underlying25 rfl i24
  have e4' : tmps[4]?.getD undef = .pointer (some ⟨g, 0, none⟩) := by simpa using e4
  have e5' : tmps[5]?.getD undef = r := by simpa using e5
  have e6' : tmps[6]?.getD undef = .bool t := by simpa using e6
  simp [results, Try.results46, e4', e5', e6', asAddr, h']
theorem field24_1 (x y : Value) (w : World) : (Instr.field 25 (.agg #[x, y]) 1).run Try.prog w = .ok y w := by
  rfl
attribute [local go_sem] field24_1
def wbyV (X u : Int) : Value := if u = 0 then .tuple #[wv 0 0, .int .u64 0, .bool false] else .tuple #[wn (X / u), .int .u64 (X % u), .bool true]
set_option maxHeartbeats 4000000 in
theorem wby_any (w : World) (a b u : Int) (ha : U a) (hb : U b) (hu : U u) : Calls Try.prog 46 #[wv a b, .int .u64 u] w (Ret w (wbyV (wval a b) u)) := by
  obtain ⟨V, hV⟩ : ∃ V, wbyV (wval a b) u = V := ⟨_, rfl⟩
  rw [hV]
  have HV := Lib.hid hV
  have HA := Lib.hid ha
  have HB := Lib.hid hb
  have HU := Lib.hid hu
  clear hV
  unfold U at ha hb hu
  unfold wv
  by_cases h0 : u = 0
  · subst h0
    go_enter Try.func46, Try.ntmps46
    go_wp2_with fail
    refine bodyPost_ret (v := .tuple #[.agg #[.int .u64 0, .int .u64 0], .int .u64 0, .bool false]) (by simp [results, Try.results46, go_sem]; done) rfl ⟨congrArg Ending.returned ?_, by (repeat (first | exact Below.refl _ _ | refine b_alloc ?_ _ | refine b_set ?_ (by first | exact Nat.le_refl _ | (simp; omega) | omega | simp) _ | refine b_drew ?_))⟩
    rw [← HV.out, wbyV, if_pos rfl, wv]
  · go_enter Try.func46, Try.ntmps46
    go_wp2_with fail
    refine (bits_any _ a b HA.out HB.out).mono ?_
    rintro e w1 ⟨rfl, hb1⟩
    have hl : bitLen (wval a b).toNat ≤ 128 := bitLen_lt _ 128 (by unfold wval; omega)
    have hlt : wval a b / 2 ^ (bitLen (wval a b).toNat) = 0 := by
      have h1 := (bitLen_spec (wval a b).toNat).1
      refine Int.ediv_eq_zero_of_lt (by unfold wval; omega) ?_
      have : ((wval a b).toNat : Int) < ((2 ^ bitLen (wval a b).toNat : Nat) : Int) := by exact_mod_cast h1
      rw [Int.toNat_of_nonneg (by unfold wval; omega)] at this
      simpa using this
    obtain ⟨L, hL⟩ : ∃ L : Nat, bitLen (wval a b).toNat = L := ⟨_, rfl⟩
    rw [hL] at hl hlt ⊢
    have e1 : IntKind.i64.wrap ((L : Int) - 1) = (L : Int) - 1 := by simp [IntKind.wrap, IntKind.signed, IntKind.bits]; omega
    have HL := Lib.hid hlt
    clear hL hlt
    have r0 : w1.heap[w.heap.size]? = some (.cells #[.int .u64 a, .int .u64 b] 25 (0, 0)) := blk_below (blk_alloc (blk_alloc (blk_new rfl) _) _) hb1
    have r1 : w1.heap[w.heap.size + 1]? = some (.cells #[.int .u64 0, .int .u64 0] 25 (0, 0)) := blk_below (blk_alloc (blk_new (by simp)) _) hb1
    have r2 : w1.heap[w.heap.size + 1 + 1]? = some (.cells #[.int .u64 0, .int .u64 0] 25 (0, 0)) := blk_below (blk_new (by simp)) hb1
    have R0 := Lib.hid r0
    have R1 := Lib.hid r1
    have R2 := Lib.hid r2
    have HB1 := Lib.hid (b_then (b_alloc (b_alloc (b_alloc (Below.refl _ _) _) _) _) hb1)
    clear r0 r1 r2 hb1
    go_wp2_with fail
    go_loopw [8, 9, 10] (fun r o i wr => ∃ (k : Nat) (R O h l : Int), k ≤ 128 ∧ r = .int .u64 R ∧ o = .int .u64 O ∧ i = .int .i64 ((k : Int) - 1) ∧ Hid (WbyAt (wval a b) u k (wval h l) R) ∧ Hid (U h ∧ U l) ∧ Hid (wr.heap[w.heap.size]? = some (.cells #[.int .u64 a, .int .u64 b] 25 (0, 0))) ∧ Hid (wr.heap[w.heap.size + 1]? = some (.cells #[.int .u64 0, .int .u64 0] 25 (0, 0))) ∧ Hid (wr.heap[w.heap.size + 1 + 1]? = some (.cells #[.int .u64 h, .int .u64 l] 25 (0, 0))) ∧ Hid (Below w.heap.size w wr)) (fun _ _ i _ => (intOf i + 1).toNat)
    case atStart => exact ⟨L, 0, 0, 0, 0, hl, rfl, rfl, rfl, ⟨by rw [HL.out]; simp [wval], by omega, by omega, by simp [wval]⟩, ⟨by unfold U; decide, by unfold U; decide⟩, R0, R1, R2, HB1⟩
    case round =>
      obtain ⟨k, R, O, h, l, hk, rfl, rfl, rfl, hQ, hhl, g0, g1, g2, gb⟩ := hrel
      clear R0 R1 R2 HB1 HL e1 hl
      obtain ⟨wo, rfl⟩ : ∃ wo : World, wo = wr := ⟨_, rfl⟩
      by_cases hk0 : 0 < k
      · obtain ⟨m, rfl⟩ : ∃ m, k = m + 1 := ⟨k - 1, by omega⟩
        have em : (((m + 1 : Nat) : Int) - 1) = (m : Int) := by omega
        rw [em]
        clear em
        have c0 : wo.cell? ⟨w.heap.size, 0, none⟩ = some (.int .u64 a) := (cell_of_row _ _ _ _ _ _ g0.out).trans rfl
        have c1 : wo.cell? ⟨w.heap.size, 1, none⟩ = some (.int .u64 b) := (cell_of_row _ _ _ _ _ _ g0.out).trans rfl
        have c2 := frozen_of_row _ _ 0 _ _ g0.out
        have c3 := frozen_of_row _ _ 1 _ _ g0.out
        have c4 := blk_lt g0.out
        have d0 : wo.cell? ⟨(w.heap.size + 1 + 1), 0, none⟩ = some (.int .u64 h) := (cell_of_row _ _ _ _ _ _ g2.out).trans rfl
        have d1 : wo.cell? ⟨(w.heap.size + 1 + 1), 1, none⟩ = some (.int .u64 l) := (cell_of_row _ _ _ _ _ _ g2.out).trans rfl
        have d2 := frozen_of_row _ _ 0 _ _ g2.out
        have d3 := frozen_of_row _ _ 1 _ _ g2.out
        have d4 := blk_lt g2.out
        obtain ⟨F, hF⟩ := wby_round (X := wval a b) (u := u) (m := m) (h := h) (l := l) (R := R) (by unfold wval; omega) (by unfold wval; omega) ⟨hu.1, hu.2⟩ hQ.out hhl.out
        go_wp2_with fail
        refine (right_any _ a b m HA.out HB.out (by omega) (by omega)).mono ?_
        rintro e w5 ⟨rfl, hb5⟩
        obtain ⟨be, T, T', h', l'⟩ := F
        replace hF : Wby (wval a b) u R h l m be T T' h' l' := hF
        have HF := Lib.hid hF
        have p0 : w5.heap[w.heap.size]? = some (.cells #[.int .u64 a, .int .u64 b] 25 (0, 0)) := blk_below g0.out hb5
        have p1 : w5.heap[w.heap.size + 1]? = some (.cells #[.int .u64 0, .int .u64 0] 25 (0, 0)) := blk_below g1.out hb5
        have p2 : w5.heap[w.heap.size + 1 + 1]? = some (.cells #[.int .u64 h, .int .u64 l] 25 (0, 0)) := blk_below g2.out hb5
        have i0 : w5.cell? ⟨w.heap.size, 0, none⟩ = some (.int .u64 a) := (cell_of_row _ _ _ _ _ _ p0).trans rfl
        have i1 : w5.cell? ⟨w.heap.size, 1, none⟩ = some (.int .u64 b) := (cell_of_row _ _ _ _ _ _ p0).trans rfl
        have i2 := frozen_of_row _ _ 0 _ _ p0
        have i3 := frozen_of_row _ _ 1 _ _ p0
        have i4 := blk_lt p0
        have j0 : w5.cell? ⟨(w.heap.size + 1 + 1), 0, none⟩ = some (.int .u64 h) := (cell_of_row _ _ _ _ _ _ p2).trans rfl
        have j1 : w5.cell? ⟨(w.heap.size + 1 + 1), 1, none⟩ = some (.int .u64 l) := (cell_of_row _ _ _ _ _ _ p2).trans rfl
        have j2 := frozen_of_row _ _ 0 _ _ p2
        have j3 := frozen_of_row _ _ 1 _ _ p2
        have j4 := blk_lt p2
        have P0 := Lib.hid p0
        have P1 := Lib.hid p1
        have P2 := Lib.hid p2
        have pb := Lib.hid (b_then gb.out hb5)
        have hRR : 0 ≤ R ∧ R < u := ⟨hQ.out.2.1, hQ.out.2.2.1⟩
        clear c0 c1 c2 c3 c4 d0 d1 d2 d3 d4 p0 p1 p2 g0 g1 g2 gb hb5 hQ
        have y1 := hF.eo
        have y2 := hF.eh
        have y3 := hF.el
        have y4 := hF.e1
        have y5 := hF.sum'
        have y6 := hF.sum
        have y7 := hF.b0
        have y8 := hF.b1
        have y9 := hF.bit
        clear hF
        rw [Int.toNat_natCast]
        obtain ⟨RR, hR0⟩ : ∃ RR, wval a b / 2 ^ m = RR := ⟨_, rfl⟩
        rw [hR0] at y9 ⊢
        unfold wn wv
        obtain ⟨hi, hhi⟩ : ∃ x, RR / 18446744073709551616 = x := ⟨_, rfl⟩
        obtain ⟨lo, hlo⟩ : ∃ x, RR % 18446744073709551616 = x := ⟨_, rfl⟩
        rw [hhi, hlo]
        have y10 : bits .and .u64 lo 1 = be := by
          rw [and_one_u64 lo (by omega) (by omega)]; omega
        clear hR0 hhi y9 hlo
        have HM := Lib.hid hk
        by_cases hO : R / 9223372036854775808 = 0
        · obtain rfl : T' = T := by omega
          by_cases hge : u ≤ T'
          · have hT64 : T' < 18446744073709551616 := by omega
            have y11 : IntKind.u64.wrap (T' - u) = T' - u := by rw [wu64]; omega
            clear y5 y6 y7 y8
            have HG := Lib.hid hge
            go_wp2_with fail
            go_roundw
            case rel => exact ⟨m, T' - u, 0, h', l' + 1, by omega, rfl, rfl, rfl, HF.out.yes HG.out, ⟨HF.out.uh, HF.out.ul1⟩, ((blk_far (blk_far (blk_far P0.out (show w.heap.size ≠ w.heap.size + 1 + 1 by omega) _) (show w.heap.size ≠ w.heap.size + 1 + 1 by omega) _) (show w.heap.size ≠ w.heap.size + 1 + 1 by omega) _)), ((blk_far (blk_far (blk_far P1.out (show w.heap.size + 1 ≠ w.heap.size + 1 + 1 by omega) _) (show w.heap.size + 1 ≠ w.heap.size + 1 + 1 by omega) _) (show w.heap.size + 1 ≠ w.heap.size + 1 + 1 by omega) _)), (set24_1 (set24_1 (set24_0 P2.out))), (b_set (b_set (b_set pb.out (show w.heap.size ≤ w.heap.size + 1 + 1 by omega) _) (show w.heap.size ≤ w.heap.size + 1 + 1 by omega) _) (show w.heap.size ≤ w.heap.size + 1 + 1 by omega) _)⟩
            case measure => simp [intOf]
          · clear y5 y6 y7 y8
            have HG := Lib.hid hge
            go_wp2_with fail
            go_roundw
            case rel => exact ⟨m, T', 0, h', l', by omega, rfl, rfl, rfl, HF.out.no (by have := HG.out; omega), ⟨HF.out.uh, HF.out.ul⟩, ((blk_far (blk_far P0.out (show w.heap.size ≠ w.heap.size + 1 + 1 by omega) _) (show w.heap.size ≠ w.heap.size + 1 + 1 by omega) _)), ((blk_far (blk_far P1.out (show w.heap.size + 1 ≠ w.heap.size + 1 + 1 by omega) _) (show w.heap.size + 1 ≠ w.heap.size + 1 + 1 by omega) _)), (set24_1 (set24_0 P2.out)), (b_set (b_set pb.out (show w.heap.size ≤ w.heap.size + 1 + 1 by omega) _) (show w.heap.size ≤ w.heap.size + 1 + 1 by omega) _)⟩
            case measure => simp [intOf]
        · have hR := hhl.out
          have y12 : IntKind.u64.wrap (T' - u) = T - u := by rw [wu64]; omega
          have y13 : (R / 9223372036854775808 != 0) = true := by simp [hO]
          have HG : Hid (u ≤ T) := by show u ≤ T; omega
          clear y5 y6 y7 y8 hR
          go_wp2_with fail
          go_roundw
          case rel => exact ⟨m, T - u, R / 9223372036854775808, h', l' + 1, by omega, rfl, rfl, rfl, HF.out.yes HG.out, ⟨HF.out.uh, HF.out.ul1⟩, ((blk_far (blk_far (blk_far P0.out (show w.heap.size ≠ w.heap.size + 1 + 1 by omega) _) (show w.heap.size ≠ w.heap.size + 1 + 1 by omega) _) (show w.heap.size ≠ w.heap.size + 1 + 1 by omega) _)), ((blk_far (blk_far (blk_far P1.out (show w.heap.size + 1 ≠ w.heap.size + 1 + 1 by omega) _) (show w.heap.size + 1 ≠ w.heap.size + 1 + 1 by omega) _) (show w.heap.size + 1 ≠ w.heap.size + 1 + 1 by omega) _)), (set24_1 (set24_1 (set24_0 P2.out))), (b_set (b_set (b_set pb.out (show w.heap.size ≤ w.heap.size + 1 + 1 by omega) _) (show w.heap.size ≤ w.heap.size + 1 + 1 by omega) _) (show w.heap.size ≤ w.heap.size + 1 + 1 by omega) _)⟩
          case measure => simp [intOf]
      · obtain rfl : k = 0 := by omega
        have hq := hQ.out
        obtain ⟨q1, q2, q3, q4⟩ := hq
        rw [Int.pow_zero, Int.ediv_one] at q1
        have z1 : wval a b / u = wval h l := by
          rw [q1, Int.add_comm, Int.add_mul_ediv_left _ _ h0, Int.ediv_eq_zero_of_lt q2 q3, Int.zero_add]
        have z2 : wval a b % u = R := by
          rw [q1, Int.add_comm, Int.add_mul_emod_self_left, Int.emod_eq_of_lt q2 q3]
        have hv := HV.out
        rw [wbyV, if_neg h0, z1, z2] at hv
        have HV2 := Lib.hid hv
        have hh := hhl.out
        unfold U at hh
        clear q1 z1 z2 hv
        have c0 : wo.cell? ⟨(w.heap.size + 1), 0, none⟩ = some (.int .u64 0) := (cell_of_row _ _ _ _ _ _ g1.out).trans rfl
        have c1 : wo.cell? ⟨(w.heap.size + 1), 1, none⟩ = some (.int .u64 0) := (cell_of_row _ _ _ _ _ _ g1.out).trans rfl
        have c2 := frozen_of_row _ _ 0 _ _ g1.out
        have c3 := frozen_of_row _ _ 1 _ _ g1.out
        have c4 := blk_lt g1.out
        have d0 : wo.cell? ⟨(w.heap.size + 1 + 1), 0, none⟩ = some (.int .u64 h) := (cell_of_row _ _ _ _ _ _ g2.out).trans rfl
        have d1 : wo.cell? ⟨(w.heap.size + 1 + 1), 1, none⟩ = some (.int .u64 l) := (cell_of_row _ _ _ _ _ _ g2.out).trans rfl
        have d2 := frozen_of_row _ _ 0 _ _ g2.out
        have d3 := frozen_of_row _ _ 1 _ _ g2.out
        have d4 := blk_lt g2.out
        go_wp2_with fail
        refine bodyPost_ret (v := .tuple #[.agg #[.int .u64 h, .int .u64 l], .int .u64 R, .bool true]) (results_opt10 (set24_1 (set24_0 g1.out)) rfl) rfl ⟨congrArg Ending.returned ?_, b_set (b_set gb.out (by simp) _) (by simp) _⟩
        rw [← HV2.out]
        rw [show wn (wval h l) = _ from wn_of hh.2 rfl]
end Go.Proofs.Ythpdfacdjgkmpaa.Wi
