/- FaultPlays' walk. -/
import Derived.Test.YtbfkcfmkbdlngaaFe
import Derived.Outline
import Derived.Deep.RegionWith
import Derived.Deep.RegionHeld3
import Derived.Test.YtbfkcfmkbdlngaaApp
import Derived.Deep.AppendLies
import Derived.Deep.RegionLaw
import Derived.Deep.QuietTactic
import Derived.BigQuiet
namespace Go.Proofs.Ytbfkcfmkbdlngaa.Fa
open Go.RowKit K

theorem info23 : (Try.prog.info? 23).map (fun i => (i.zero, i.size, i.bytes)) = some (some (.pointer none), 1, 8) := by kernel_rfl
theorem info33 : (Try.prog.info? 33).map (fun i => (i.zero, i.size, i.bytes)) = some (some (.agg #[.int .i64 0, .int .i64 0, .int .i64 0, .bool false]), 4, 32) := by kernel_rfl
theorem pw_cell {w w1 : World} (h : Below w.heap.size w w1) {a : Addr} {v : Value} (hc : w.cell? a = some v) : w1.cell? a = some v := (h.cell (World.block_lt_of_cell? w a hc)).trans hc
theorem wrap_u64 (x : Int) : 0 ≤ IntKind.u64.wrap x ∧ IntKind.u64.wrap x < 18446744073709551616 := by
  simp [IntKind.wrap, IntKind.signed, IntKind.bits]; omega
theorem at_ex (x : Int) (n : Nat) (hn : 0 < n) : ∃ a : Nat, (IntKind.u64.wrap x).tmod (n : Int) = (a : Int) ∧ a < n := by
  have h := (wrap_u64 x).1
  rw [Int.tmod_eq_emod_of_nonneg h]
  have h1 := Int.emod_nonneg (IntKind.u64.wrap x) (show (n : Int) ≠ 0 by omega)
  have h2 := Int.emod_lt_of_pos (IntKind.u64.wrap x) (show (0 : Int) < n by omega)
  exact ⟨((IntKind.u64.wrap x) % n).toNat, by omega, by omega⟩
set_option maxHeartbeats 400000 in
set_option maxRecDepth 100000 in
theorem plays_long (A : Option Addr) (len cap : Nat) (hlen : 100 < len) (hmax : len ≤ 9223372036854775807) (w : World) :
    Calls Try.prog 4 #[.slice A len cap] w fun e w' => e = .returned (.bool true) ∧ Below w.heap.size w w' := by
  have hdl : decide ((100 : Int) < (len : Int)) = true := by simp; omega
  go_enter Try.func4, Try.ntmps4
  go_wp2_with fail
  refine (first_any _).mono ?_
  rintro e w1 ⟨rfl, hb⟩
  have B1 := Lib.hid hb
  clear hb
  go_wp2_with fail
  go_ret
  exact ⟨rfl, B1.out⟩
set_option maxHeartbeats 20000000 in
set_option maxRecDepth 100000 in
theorem plays_any (A : Option Addr) (lb lo len cap : Nat) (hlen : len ≤ 100) (K T N : Nat → Int) (w : World) (hA : 0 < len → A = some ⟨lb, lo, none⟩)
    (hc0 : ∀ i, i < len → w.cell? ⟨lb, lo + i * 3, none⟩ = some (.int .i64 (K i)))
    (hc1 : ∀ i, i < len → w.cell? ⟨lb, lo + i * 3 + 1, none⟩ = some (.int .i64 (T i)))
    (hN : ∀ i, i < len → -9223372036854775808 ≤ N i ∧ N i ≤ 9223372036854775807)
    (hc2 : ∀ i, i < len → w.cell? ⟨lb, lo + i * 3 + 2, none⟩ = some (.int .i64 (N i))) :
    Calls Try.prog 4 #[.slice A len cap] w fun e w' => e = .returned (.bool true) ∧ Below w.heap.size w w' := by
  have HA := Lib.hid hA
  clear hA
  have C0 := Lib.hid hc0
  have C1 := Lib.hid hc1
  have C2 := Lib.hid hc2
  clear hc0 hc1 hc2
  have RN := Lib.hid hN
  clear hN
  have hdl : decide ((100 : Int) < (len : Int)) = false := by simp; omega
  go_enter Try.func4, Try.ntmps4
  go_wp2_with fail
  refine (first_any _).mono ?_
  rintro e w1 ⟨rfl, hb⟩
  have B1 := Lib.hid hb
  clear hb
  go_wp2_with fail
  refine (new_any _).mono ?_
  rintro e w2 ⟨g0, rfl, hg, hp, hb⟩
  have hg := Nat.le_trans B1.out.size hg
  have B2 := Lib.hid (b_then B1.out hb)
  have P2 := Lib.hid hp
  clear hb hp B1
  go_wp2_with fail
  refine (rnew_any _).mono ?_
  rintro e w3 ⟨rfl, hb⟩
  have B3 := Lib.hid (b_then (b_alloc B2.out _) hb)
  have hb3 := Lib.hid hb
  clear hb
  unfold pv
  go_wp2_with fail
  go_loopw [24, 3, 4] (fun i x3 x4 wr => ∃ (k : Nat) (v3 v4 : Value) (gs : List Nat) (ps : List P4), k ≤ len ∧ i = .int .i64 k ∧ v3 = x3 ∧ v4 = x4 ∧ Hid (Both w.heap.size wr v3 v4 gs ps) ∧ Hid (Below w.heap.size w wr)) (fun i _ _ _ => len - (intOf i).toNat)
  case atStart => exact ⟨0, _, _, [g0], [⟨-1, 0, 0, false⟩], Nat.zero_le _, rfl, rfl, rfl, Both.start hg B2.out.size P2.out hb3.out, b_alloc B3.out _⟩
  case round =>
    obtain ⟨k, v3, v4, gs, ps, hk, rfl, rfl, rfl, hB, hbel⟩ := hrel
    clear B2 B3 P2 hb3
    have hsz := hbel.out.size
    by_cases h : k < len
    · obtain rfl := HA.out (by omega)
      have hlb : lb < w.heap.size := World.block_lt_of_cell? _ _ (C0.out k h)
      have c0 : wr.cell? ⟨lb, lo + k * 3, none⟩ = some (.int .i64 (K k)) := (hbel.out.cell hlb).trans (C0.out k h)
      have c1 : wr.cell? ⟨lb, lo + k * 3 + 1, none⟩ = some (.int .i64 (T k)) := (hbel.out.cell hlb).trans (C1.out k h)
      have c2 : wr.cell? ⟨lb, lo + k * 3 + 2, none⟩ = some (.int .i64 (N k)) := (hbel.out.cell hlb).trans (C2.out k h)
      have hmost := hB.out.most
      have hpos := hB.out.pos
      obtain ⟨at_, hat, hlt⟩ := at_ex (T k) gs.length hpos
      obtain ⟨g, ga, ca, gw, cw, cura, curw, p, o⟩ := hB.out.open_ at_ hlt
      obtain rfl := o.e3
      obtain rfl := o.e4
      have O := Lib.hid o
      clear o
      have lga := blk_lt O.out.hga
      have lgw := blk_lt O.out.hgw
      have lg := O.out.pl.lt
      have llb : lb < wr.heap.size := by omega
      have cca : wr.cell? ⟨ga, at_, none⟩ = some (.pointer (some ⟨g, 0, none⟩)) := (cell_of_row _ _ _ _ _ _ O.out.hga).trans O.out.at_
      obtain ⟨cw0, cw1, cw2, cw3, zw0, zw1, zw2, zw3⟩ := want_at O.out.hgw O.out.c0 O.out.c1 O.out.c2 O.out.c3
      have rn := RN.out k h
      have hi0 : (0 : Int) ≤ (at_ : Int) := by omega
      have hi1 : (at_ : Int) < (gs.length : Int) := by omega
      by_cases k4 : (IntKind.u64.wrap (K k)).tmod 9 = 4
      · go_wp2_with fail
        refine still_tail 6 (by kernel_rfl) (by kernel_rfl) ?_
        simp only [List.take_succ_cons, List.take_zero, List.drop_succ_cons, List.drop_zero]
        repeat still_step
        refine wpStill_nil ?_
        go_wp2_with fail
        refine (arm_some _ g _ _ _ _ _ (O.out.pl.alloc _).drew).mono ?_
        rintro e w5 ⟨rfl, hp5, hb5⟩
        have hw5 : w5.heap[gw]? = some (.cells curw 33 (0, 0)) := (hb5.block gw (by simp; omega) (by simpa using O.out.nwg)).trans (blk_alloc O.out.hgw _)
        have S5 := Lib.hid ((((Step.refl wr g gw).alloc _).drew).grown hb5)
        have D5 := Lib.hid (b_row (b_drew (b_alloc hbel.out _)) hb5 O.out.Bg)
        have P5 := Lib.hid hp5
        have do2 : w5.cell? ⟨wr.heap.size, 2, none⟩ = some (.int .i64 (N k)) := hb5.cell (by go_simp) (by simp; omega)
        have lga5 : ga < w5.heap.size := Nat.lt_of_lt_of_le lga S5.out.size
        have lgw5 := blk_lt hw5
        obtain ⟨dw0, dw1, dw2, dw3, yw0, yw1, yw2, yw3⟩ := want_at hw5 O.out.c0 O.out.c1 O.out.c2 O.out.c3
        have H5 := Lib.hid hw5
        clear cw0 cw1 cw2 cw3 zw0 zw1 zw2 zw3 hb5 hp5 hw5
        go_wp2_with fail
        go_region_with (first | (go_at_call 13; refine (rarm_any _ _ _ _ _ _).mono ?_; rintro e w6 ⟨rfl, hb6⟩; have hw6 := blk_below (w := World.drew w5) H5.out hb6; obtain ⟨ew0, ew1, ew2, ew3, xw0, xw1, xw2, xw3⟩ := want_at hw6 O.out.c0 O.out.c1 O.out.c2 O.out.c3; have lgw6 := blk_lt hw6; have H6 := Lib.hid hw6; have HB6 := Lib.hid hb6; clear hb6 hw6; unfold pv))
        all_goals go_wp2_with fail
        all_goals go_roundw
        all_goals first | exact ⟨k + 1, _, _, gs, ps.set at_ (⟨armA (N k), p.f, p.t, p.d⟩ : P4), by omega, by go_num, rfl, rfl, hB.out.turn4 O.out (S5.out.drew.below HB6.out) (⟨armA (N k), p.f, p.t, p.d⟩ : P4) (Plan.below (Plan.drew P5.out) HB6.out) (fits_arm O.out.fit rn.2) H6.out, b_set4 (b_then (b_drew D5.out) HB6.out) O.out.Bw _ _ _ _ _ _ _ _⟩ | (simp [intOf]; omega)
      by_cases k5 : (IntKind.u64.wrap (K k)).tmod 9 = 5
      · go_wp2_with fail
        refine still_tail 6 (by kernel_rfl) (by kernel_rfl) ?_
        simp only [List.take_succ_cons, List.take_zero, List.drop_succ_cons, List.drop_zero]
        repeat still_step
        refine wpStill_nil ?_
        go_wp2_with fail
        refine (fail_some _ g _ _ _ _ _ (O.out.pl.alloc _).drew).mono ?_
        rintro e w5 ⟨rfl, hp5, hb5⟩
        have hw5 : w5.heap[gw]? = some (.cells curw 33 (0, 0)) := (hb5.block gw (by simp; omega) (by simpa using O.out.nwg)).trans (blk_alloc O.out.hgw _)
        have S5 := Lib.hid ((((Step.refl wr g gw).alloc _).drew).grown hb5)
        have D5 := Lib.hid (b_row (b_drew (b_alloc hbel.out _)) hb5 O.out.Bg)
        have P5 := Lib.hid hp5
        have do2 : w5.cell? ⟨wr.heap.size, 2, none⟩ = some (.int .i64 (N k)) := hb5.cell (by go_simp) (by simp; omega)
        have lga5 : ga < w5.heap.size := Nat.lt_of_lt_of_le lga S5.out.size
        have lgw5 := blk_lt hw5
        obtain ⟨dw0, dw1, dw2, dw3, yw0, yw1, yw2, yw3⟩ := want_at hw5 O.out.c0 O.out.c1 O.out.c2 O.out.c3
        have H5 := Lib.hid hw5
        clear cw0 cw1 cw2 cw3 zw0 zw1 zw2 zw3 hb5 hp5 hw5
        go_wp2_with fail
        go_region_with (first | (go_at_call 14; refine (rfail_any _ _ _ _ _ _).mono ?_; rintro e w6 ⟨rfl, hb6⟩; have hw6 := blk_below (w := World.drew w5) H5.out hb6; obtain ⟨ew0, ew1, ew2, ew3, xw0, xw1, xw2, xw3⟩ := want_at hw6 O.out.c0 O.out.c1 O.out.c2 O.out.c3; have lgw6 := blk_lt hw6; have H6 := Lib.hid hw6; have HB6 := Lib.hid hb6; clear hb6 hw6; unfold pv))
        all_goals go_wp2_with fail
        all_goals go_roundw
        all_goals first | exact ⟨k + 1, _, _, gs, ps.set at_ (⟨p.a, failF (N k), p.t, p.d⟩ : P4), by omega, by go_num, rfl, rfl, hB.out.turn4 O.out (S5.out.drew.below HB6.out) (⟨p.a, failF (N k), p.t, p.d⟩ : P4) (Plan.below (Plan.drew P5.out) HB6.out) (fits_fail O.out.fit) H6.out, b_set4 (b_then (b_drew D5.out) HB6.out) O.out.Bw _ _ _ _ _ _ _ _⟩ | (simp [intOf]; omega)
      by_cases k6 : (IntKind.u64.wrap (K k)).tmod 9 = 6
      · go_wp2_with fail
        refine (up_some _ g _ _ _ _ (O.out.pl.alloc _)).mono ?_
        rintro e w5 ⟨rfl, hp5, hb5⟩
        have hw5 : w5.heap[gw]? = some (.cells curw 33 (0, 0)) := (hb5.block gw (by simp; omega) (by simpa using O.out.nwg)).trans (blk_alloc O.out.hgw _)
        have S5 := Lib.hid ((((Step.refl wr g gw).alloc _)).grown hb5)
        have D5 := Lib.hid (b_row (b_alloc hbel.out _) hb5 O.out.Bg)
        have P5 := Lib.hid hp5
        have do2 : w5.cell? ⟨wr.heap.size, 2, none⟩ = some (.int .i64 (N k)) := hb5.cell (by go_simp) (by simp; omega)
        have lga5 : ga < w5.heap.size := Nat.lt_of_lt_of_le lga S5.out.size
        have lgw5 := blk_lt hw5
        obtain ⟨dw0, dw1, dw2, dw3, yw0, yw1, yw2, yw3⟩ := want_at hw5 O.out.c0 O.out.c1 O.out.c2 O.out.c3
        have H5 := Lib.hid hw5
        clear cw0 cw1 cw2 cw3 zw0 zw1 zw2 zw3 hb5 hp5 hw5
        go_wp2_with fail
        refine (rup_any _ _ _ _ _).mono ?_
        rintro e w6 ⟨rfl, hb6⟩
        have hw6 := blk_below H5.out hb6
        obtain ⟨ew0, ew1, ew2, ew3, xw0, xw1, xw2, xw3⟩ := want_at hw6 O.out.c0 O.out.c1 O.out.c2 O.out.c3
        have lgw6 := blk_lt hw6
        have H6 := Lib.hid hw6
        have HB6 := Lib.hid hb6
        clear hb6 hw6
        unfold pv
        go_wp2_with fail
        go_roundw
        case rel => exact ⟨k + 1, _, _, gs, ps.set at_ ⟨-1, 0, p.t, false⟩, by omega, by go_num, rfl, rfl, hB.out.turn4 O.out (S5.out.below HB6.out) ⟨-1, 0, p.t, false⟩ (Plan.below P5.out HB6.out) fits_up H6.out, b_set4 (b_then D5.out HB6.out) O.out.Bw _ _ _ _ _ _ _ _⟩
        case measure => simp [intOf]; omega
      by_cases k7 : (IntKind.u64.wrap (K k)).tmod 9 = 7
      · go_wp2_with fail
        refine (kill_some _ g _ _ _ _ (O.out.pl.alloc _)).mono ?_
        rintro e w5 ⟨rfl, hp5, hb5⟩
        have hw5 : w5.heap[gw]? = some (.cells curw 33 (0, 0)) := (hb5.block gw (by simp; omega) (by simpa using O.out.nwg)).trans (blk_alloc O.out.hgw _)
        have S5 := Lib.hid ((((Step.refl wr g gw).alloc _)).grown hb5)
        have D5 := Lib.hid (b_row (b_alloc hbel.out _) hb5 O.out.Bg)
        have P5 := Lib.hid hp5
        have do2 : w5.cell? ⟨wr.heap.size, 2, none⟩ = some (.int .i64 (N k)) := hb5.cell (by go_simp) (by simp; omega)
        have lga5 : ga < w5.heap.size := Nat.lt_of_lt_of_le lga S5.out.size
        have lgw5 := blk_lt hw5
        obtain ⟨dw0, dw1, dw2, dw3, yw0, yw1, yw2, yw3⟩ := want_at hw5 O.out.c0 O.out.c1 O.out.c2 O.out.c3
        have H5 := Lib.hid hw5
        clear cw0 cw1 cw2 cw3 zw0 zw1 zw2 zw3 hb5 hp5 hw5
        go_wp2_with fail
        go_roundw
        case rel => exact ⟨k + 1, _, _, gs, ps.set at_ ⟨p.a, p.f, p.t, true⟩, by omega, by go_num, rfl, rfl, hB.out.turn1 O.out S5.out P5.out H5.out, b_set D5.out O.out.Bw _⟩
        case measure => simp [intOf]; omega
      by_cases k8 : (IntKind.u64.wrap (K k)).tmod 9 = 8
      · rcases Nat.lt_or_ge gs.length 4 with h4 | h4
        · have hl4 : ((gs.length : Int) < 4) := by omega
          have hwa := Lib.hid (show Value.ownBlock (.slice (some ⟨gw, 0, none⟩) gs.length cw) ≠ Value.ownBlock (.slice (some ⟨ga, 0, none⟩) gs.length ca) from fun e => O.out.naw (by injection e with e; exact e.symm))
          go_wp2_with fail
          go_region_held3 (fun W => W.cell? ⟨ga, at_, none⟩ = some (.pointer (some ⟨g, 0, none⟩)) ∧ W.cell? ⟨gw, at_ * 4, none⟩ = some (.int .i64 p.a) ∧ W.cell? ⟨gw, at_ * 4 + 1, none⟩ = some (.int .i64 p.f) ∧ W.cell? ⟨gw, at_ * 4 + 2, none⟩ = some (.int .i64 p.t) ∧ W.cell? ⟨gw, at_ * 4 + 3, none⟩ = some (.bool p.d))
            (first | exact cells_appW O.out happB (by assumption) | exact cells_appA O.out happA (by assumption) | exact cells_below hbN (by first | assumption | go_keep) | exact cells_below (b_alloc (Below.refl _ _) _) (by assumption) | go_keep)
            (first
              | (go_at_call 18; refine (clone_some _ g p.a p.f p.t p.d ?_).mono ?_; (repeat (with_reducible first | exact O.out.pl | refine Plan.drew ?_ | refine Plan.alloc ?_ _)); rintro e w5 ⟨gN, rfl, hgN, hpN, hbN⟩)
              | (refine step_app _ (by rfl) _ _ _ (by rfl) w.heap.size 23 (.pointer none) 1 8 Try.underlying31 info23 (by rfl) (by omega) (.slice (some ⟨ga, 0, none⟩) gs.length ca) gs.length (ptrs gs) (by rfl) _ _ _ [.pointer (some ⟨gN, 0, none⟩)] (by rfl) (by rfl) (by simp [Value.oneCell']) (by omega) (by unfold maxLen; omega) (by omega) ?_ ?_ ?_ ?_
                 · (repeat (with_reducible first | exact hB.out.all | refine World.ownsRow.alloc ?_ _ | refine own_drew ?_ | refine own_below ?_ hbN))
                 · (refine news_one (t := 23) (fr := (0, 0)) ?_; repeat (first | exact blk_new (by simp) | (intro hc; have q3 := hbN.size; have q4 : some _ = some ga := hc; simp at q3 q4; omega) | with_reducible first | refine blk_drew ?_ | refine blk_alloc ?_ _))
                 · (have q1 := hbN.size; simp at q1 ⊢; omega)
                 intro g3 cap3 wd happA)
              | (refine step_app _ (by rfl) _ _ _ (by rfl) w.heap.size 33 (.agg #[.int .i64 0, .int .i64 0, .int .i64 0, .bool false]) 4 32 Try.underlying35 info33 (by rfl) (by omega) (.slice (some ⟨gw, 0, none⟩) gs.length cw) gs.length (rows ps) (by rfl) _ _ _ [.int .i64 p.a, .int .i64 p.f, .int .i64 p.t, .bool p.d] (by rfl) (by rfl) (by simp [Value.oneCell']) (by omega) (by unfold maxLen; omega) (by omega) ?_ ?_ ?_ ?_
                 · (repeat (with_reducible first | exact hB.out.want | refine World.ownsRow.alloc ?_ _ | refine own_drew ?_ | refine own_below ?_ hbN | refine happA.other ?_ (.inr ?_) | exact hwa.out))
                 · (refine news_all (cs := #[.int .i64 p.a, .int .i64 p.f, .int .i64 p.t, .bool p.d]) (t := 33) (fr := (0, 0)) ?_; repeat (first | exact blk_new (by simp) | (intro hc; have q3 := hbN.size; have q4 : some _ = some ga := hc; simp at q3 q4; omega) | with_reducible first | refine blk_drew ?_ | refine blk_alloc ?_ _ | refine blk_grown ?_ happA.grow ?_ | refine blk_below ?_ hbN))
                 · (have q1 := hbN.size; have q2 := happA.grow.size; simp at q1 q2 ⊢; omega)
                 intro g4 cap4 wf happB))
          all_goals go_wp2_with fail
          all_goals go_roundw
          all_goals first | exact ⟨k + 1, _, _, gs ++ [gN], ps ++ [p], by omega, by go_num, by simp, by simp, hB.out.clone O.out h4 hsz (by repeat (first | exact Below.refl _ _ | with_reducible refine b_alloc ?_ _ | with_reducible refine b_drew ?_)) hgN hpN hbN (by repeat (first | exact Below.refl _ _ | with_reducible refine b_alloc ?_ _ | with_reducible refine b_drew ?_)) happA (by repeat (first | exact Below.refl _ _ | with_reducible refine b_alloc ?_ _ | with_reducible refine b_drew ?_)) happB, clone_below hbel.out (by repeat (first | exact Below.refl _ _ | with_reducible refine b_alloc ?_ _ | with_reducible refine b_drew ?_)) hbN (by repeat (first | exact Below.refl _ _ | with_reducible refine b_alloc ?_ _ | with_reducible refine b_drew ?_)) happA (by repeat (first | exact Below.refl _ _ | with_reducible refine b_alloc ?_ _ | with_reducible refine b_drew ?_)) happB⟩ | (simp [intOf]; omega)
        · have hl4 : ¬ ((gs.length : Int) < 4) := by omega
          go_wp2_with fail
          go_roundw
          case rel => exact ⟨k + 1, _, _, gs, ps, by omega, by go_num, rfl, rfl, hB.out.stay (b_alloc (Below.refl _ _) _), b_alloc hbel.out _⟩
          case measure => simp [intOf]; omega
      · have n4 : ((IntKind.u64.wrap (K k)).tmod 9 == 4) = false := by simpa using k4
        have n5 : ((IntKind.u64.wrap (K k)).tmod 9 == 5) = false := by simpa using k5
        have n6 : ((IntKind.u64.wrap (K k)).tmod 9 == 6) = false := by simpa using k6
        have n7 : ((IntKind.u64.wrap (K k)).tmod 9 == 7) = false := by simpa using k7
        have n8 : ((IntKind.u64.wrap (K k)).tmod 9 == 8) = false := by simpa using k8
        clear k4 k5 k6 k7 k8
        obtain ⟨r, a', f', t', d', hr⟩ : ∃ r a' f' t' d', tryR p.a p.f p.t p.d = (r, a', f', t', d') := ⟨_, _, _, _, _, rfl⟩
        have HR := Lib.hid hr
        clear hr
        have naw : ¬ ga = gw := O.out.naw
        have nwa : ¬ gw = ga := fun e => O.out.naw e.symm
        go_wp2_with fail
        refine (rtry_to _ p.a p.f p.t p.d r a' f' t' d' O.out.fit HR.out).mono ?_
        rintro e w6 ⟨rfl, hb6⟩
        have hw6 : w6.heap[gw]? = some (.cells curw 33 (0, 0)) := (hb6.block gw (by simp; omega)).trans (blk_alloc O.out.hgw _)
        have ha6 : w6.heap[ga]? = some (.cells cura 23 (0, 0)) := (hb6.block ga (by simp; omega)).trans (blk_alloc O.out.hga _)
        obtain ⟨dw0, dw1, dw2, dw3, yw0, yw1, yw2, yw3⟩ := want_at hw6 O.out.c0 O.out.c1 O.out.c2 O.out.c3
        have cca6 : w6.cell? ⟨ga, at_, none⟩ = some (.pointer (some ⟨g, 0, none⟩)) := (cell_of_row _ _ _ _ _ _ ha6).trans O.out.at_
        have lgw6 := blk_lt hw6
        have lga6 := blk_lt ha6
        have S6 := Lib.hid (((Step.refl wr g gw).alloc _).below hb6)
        have D6 := Lib.hid (b_then (b_alloc hbel.out _) hb6)
        have P6 := Lib.hid (Plan.below (Plan.alloc O.out.pl _) hb6)
        have W6 := Lib.hid hw6
        clear cw0 cw1 cw2 cw3 zw0 zw1 zw2 zw3 cca hb6 hw6 ha6
        unfold pv
        go_wp2_with fail
        refine (try_to _ g p.a p.f p.t p.d r a' f' t' d' O.out.fit HR.out ?_).mono ?_
        · exact Plan.alloc (Plan.far4 P6.out O.out.nwg _ _ _ _ _ _ _ _) _
        rintro e w7 ⟨rfl, hp7, hb7⟩
        have S7 := Lib.hid (((S6.out.set4 _ _ _ _ _ _ _ _).alloc _).grown hb7)
        have D7 := Lib.hid (b_row (b_alloc (b_set4 D6.out O.out.Bw _ _ _ _ _ _ _ _) _) hb7 O.out.Bg)
        have H7 := Lib.hid (set4_grown W6.out O.out.nwg hb7)
        have P7 := Lib.hid hp7
        clear hb7 hp7 dw0 dw1 dw2 dw3 yw0 yw1 yw2 yw3 cca6
        go_wp2_with fail
        go_roundw
        case rel => exact ⟨k + 1, _, _, gs, ps.set at_ ⟨a', f', t', d'⟩, by omega, by go_num, rfl, rfl, hB.out.turn O.out (p' := ⟨a', f', t', d'⟩) S7.out P7.out (fits_tryR O.out.fit HR.out) H7.out, D7.out⟩
        case measure => simp [intOf]; omega
    · obtain rfl : k = len := by omega
      obtain ⟨wo, rfl⟩ : ∃ wo : World, wo = wr := ⟨_, rfl⟩
      obtain ⟨ga, ca, gw, cw, rfl, rfl⟩ := hB.out.shape
      have hmost := hB.out.most
      go_wp2_with fail
      go_loopw [146] (fun j wq => ∃ q : Nat, q ≤ gs.length ∧ j = .int .i64 q ∧ Hid (Both w.heap.size wq (.slice (some ⟨ga, 0, none⟩) gs.length ca) (.slice (some ⟨gw, 0, none⟩) gs.length cw) gs ps) ∧ Hid (Below w.heap.size w wq)) (fun j _ => gs.length - (intOf j).toNat)
      case atStart => exact ⟨0, Nat.zero_le _, rfl, hB, hbel⟩
      case round =>
        obtain ⟨q, hq, rfl, hB2, hbel2⟩ := hrel
        clear hB hbel hsz
        by_cases hql : q < gs.length
        · obtain ⟨g, cura, curw, p, o⟩ := hB2.out.open2 q hql
          have O := Lib.hid o
          clear o
          have cca : wr.cell? ⟨ga, q, none⟩ = some (.pointer (some ⟨g, 0, none⟩)) := (cell_of_row _ _ _ _ _ _ O.out.hga).trans O.out.at_
          obtain ⟨cw0, cw1, cw2, cw3, zw0, zw1, zw2, zw3⟩ := want_at O.out.hgw O.out.c0 O.out.c1 O.out.c2 O.out.c3
          have hi0 : (0 : Int) ≤ (q : Int) := by omega
          have hi1 : (q : Int) < (gs.length : Int) := by omega
          have hd : (p.d != p.d) = false := by simp
          have ht : (p.t != p.t) = false := by simp
          have hf : (p.f != p.f) = false := by simp
          go_wp2_with fail
          go_quiet (first | (go_at_call 10; exact quiet_same (down_some _ g p.a p.f p.t p.d (O.out.pl.drewN _))) | (go_at_call 11; exact quiet_same (tried_some _ g p.a p.f p.t p.d (O.out.pl.drewN _))) | (go_at_call 20; exact quiet_same (failing_some _ g p.a p.f p.t p.d (O.out.pl.drewN _))))
          go_wp2_with fail
          go_roundw
          case rel => exact ⟨q + 1, by omega, by go_num, hB2.out.stay (b_drewN (Below.refl _ _) _), b_drewN hbel2.out _⟩
          case measure => simp [intOf]; omega
        · go_wp2_with fail
          refine (arm_nil _ _).mono ?_
          rintro e w9 ⟨rfl, rfl⟩
          go_wp2_with fail
          refine (fail_nil _ _).mono ?_
          rintro e w9 ⟨rfl, rfl⟩
          go_wp2_with fail
          refine (kill_nil _).mono ?_
          rintro e w9 ⟨rfl, rfl⟩
          go_wp2_with fail
          refine (up_nil _).mono ?_
          rintro e w9 ⟨rfl, rfl⟩
          go_wp2_with fail
          refine (try_nil _).mono ?_
          rintro e w9 ⟨rfl, rfl⟩
          go_wp2_with fail
          refine (down_nil _).mono ?_
          rintro e w9 ⟨rfl, rfl⟩
          go_wp2_with fail
          refine (tried_nil _).mono ?_
          rintro e w9 ⟨rfl, rfl⟩
          go_wp2_with fail
          refine (failing_nil _).mono ?_
          rintro e w9 ⟨rfl, rfl⟩
          go_wp2_with fail
          refine (clone_nil _).mono ?_
          rintro e w9 ⟨rfl, rfl⟩
          go_wp2_with fail
          go_ret
          exact ⟨rfl, hbel2.out⟩
end Go.Proofs.Ytbfkcfmkbdlngaa.Fa
