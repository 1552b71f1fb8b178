/- WideBack: a walk. -/
import Derived.Test.YtfckignchmpeaaaDw
import Derived.Deep.DeepCutAuto
import Derived.Test.YtfckignchmpeaaaDx
namespace Go.Proofs.Ytfckignchmpeaaa.Wi
open Go.RowKit K

attribute [local go_sem ↓] eqn24
set_option maxHeartbeats 4000000 in
set_option maxRecDepth 100000 in
theorem back_any (w : World) (a b c d u n : Int) (ha : U a) (hb : U b) (hc : U c) (hd : U d) (hu : U u) (hn : n < 9223372036854775808) (hn' : -9223372036854775808 ≤ n) : Calls Try.prog 6 #[.agg #[.int .u64 a, .int .u64 b, .int .u64 c, .int .u64 d, .int .u64 u, .int .i64 n]] w (Ret w (.bool true)) := by
  have HA := Lib.hid ha
  have HB := Lib.hid hb
  have HC := Lib.hid hc
  have HD := Lib.hid hd
  have HU := Lib.hid hu
  have HN := Lib.hid hn
  have HN2 := Lib.hid hn'
  clear ha hb hc hd hu hn hn'
  go_enter Try.func6, Try.ntmps6
  go_wp2_with fail
  refine (first_any _).mono ?_
  rintro e w1 ⟨rfl, h1⟩
  have B1 := Lib.hid (b_then (by first | exact (Below.refl w.heap.size w) | exact b_drew (Below.refl w.heap.size w) | exact (b_alloc (Below.refl w.heap.size w) _) | exact b_drew (b_alloc (Below.refl w.heap.size w) _) | exact (b_alloc (b_alloc (Below.refl w.heap.size w) _) _) | exact b_drew (b_alloc (b_alloc (Below.refl w.heap.size w) _) _) | exact (b_alloc (b_alloc (b_alloc (Below.refl w.heap.size w) _) _) _) | exact b_drew (b_alloc (b_alloc (b_alloc (Below.refl w.heap.size w) _) _) _) | exact (b_alloc (b_alloc (b_alloc (b_alloc (Below.refl w.heap.size w) _) _) _) _) | exact b_drew (b_alloc (b_alloc (b_alloc (b_alloc (Below.refl w.heap.size w) _) _) _) _) | exact (b_alloc (b_alloc (b_alloc (b_alloc (b_alloc (Below.refl w.heap.size w) _) _) _) _) _) | exact b_drew (b_alloc (b_alloc (b_alloc (b_alloc (b_alloc (Below.refl w.heap.size w) _) _) _) _) _)) h1)
  have rc : w1.heap[w.heap.size]? = some (.cells #[.int .u64 a, .int .u64 b, .int .u64 c, .int .u64 d, .int .u64 u, .int .i64 n] 53 (0, 0)) := by first | exact blk_below (blk_new rfl) h1 | exact blk_below (blk_drew (blk_new rfl)) h1 | exact blk_below (blk_alloc (blk_new rfl) _) h1 | exact blk_below (blk_drew (blk_alloc (blk_new rfl) _)) h1 | exact blk_below (blk_alloc (blk_alloc (blk_new rfl) _) _) h1 | exact blk_below (blk_drew (blk_alloc (blk_alloc (blk_new rfl) _) _)) h1 | exact blk_below (blk_alloc (blk_alloc (blk_alloc (blk_new rfl) _) _) _) h1 | exact blk_below (blk_drew (blk_alloc (blk_alloc (blk_alloc (blk_new rfl) _) _) _)) h1 | exact blk_below (blk_alloc (blk_alloc (blk_alloc (blk_alloc (blk_new rfl) _) _) _) _) h1 | exact blk_below (blk_drew (blk_alloc (blk_alloc (blk_alloc (blk_alloc (blk_new rfl) _) _) _) _)) h1 | exact blk_below (blk_new (by simp)) h1 | exact blk_below (blk_drew (blk_new (by simp))) h1 | exact blk_below (blk_alloc (blk_new (by simp)) _) h1 | exact blk_below (blk_drew (blk_alloc (blk_new (by simp)) _)) h1 | exact blk_below (blk_alloc (blk_alloc (blk_new (by simp)) _) _) h1 | exact blk_below (blk_drew (blk_alloc (blk_alloc (blk_new (by simp)) _) _)) h1 | exact blk_below (blk_alloc (blk_alloc (blk_alloc (blk_new (by simp)) _) _) _) h1 | exact blk_below (blk_drew (blk_alloc (blk_alloc (blk_alloc (blk_new (by simp)) _) _) _)) h1 | exact blk_below (blk_alloc (blk_alloc (blk_alloc (blk_alloc (blk_new (by simp)) _) _) _) _) h1 | exact blk_below (blk_drew (blk_alloc (blk_alloc (blk_alloc (blk_alloc (blk_new (by simp)) _) _) _) _)) h1
  have fcc0 : w1.cell? ⟨w.heap.size, 0, none⟩ = some (.int .u64 a) := (cell_of_row _ _ _ _ _ _ rc).trans rfl
  have fcz0 := frozen_of_row _ _ 0 _ _ rc
  have fcc1 : w1.cell? ⟨w.heap.size, 1, none⟩ = some (.int .u64 b) := (cell_of_row _ _ _ _ _ _ rc).trans rfl
  have fcz1 := frozen_of_row _ _ 1 _ _ rc
  have fcc2 : w1.cell? ⟨w.heap.size, 2, none⟩ = some (.int .u64 c) := (cell_of_row _ _ _ _ _ _ rc).trans rfl
  have fcz2 := frozen_of_row _ _ 2 _ _ rc
  have fcc3 : w1.cell? ⟨w.heap.size, 3, none⟩ = some (.int .u64 d) := (cell_of_row _ _ _ _ _ _ rc).trans rfl
  have fcz3 := frozen_of_row _ _ 3 _ _ rc
  have fcc4 : w1.cell? ⟨w.heap.size, 4, none⟩ = some (.int .u64 u) := (cell_of_row _ _ _ _ _ _ rc).trans rfl
  have fcz4 := frozen_of_row _ _ 4 _ _ rc
  have fcc5 : w1.cell? ⟨w.heap.size, 5, none⟩ = some (.int .i64 n) := (cell_of_row _ _ _ _ _ _ rc).trans rfl
  have fcz5 := frozen_of_row _ _ 5 _ _ rc
  have fcl := blk_lt rc
  have Rc := Lib.hid rc
  clear rc
  clear h1
  go_wp2_with fail
  have hL : ∀ w' : World, Keeps [(w.heap.size, Obj.cells #[.int .u64 a, .int .u64 b, .int .u64 c, .int .u64 d, .int .u64 u, .int .i64 n] 53 (0, 0))] w w1.heap.size w' → (w'.cell? ⟨w.heap.size, 0, none⟩ = some (.int .u64 a) ∧ w'.cell? ⟨w.heap.size, 1, none⟩ = some (.int .u64 b) ∧ w'.cell? ⟨w.heap.size, 2, none⟩ = some (.int .u64 c) ∧ w'.cell? ⟨w.heap.size, 3, none⟩ = some (.int .u64 d) ∧ w'.cell? ⟨w.heap.size, 4, none⟩ = some (.int .u64 u) ∧ w'.cell? ⟨w.heap.size, 5, none⟩ = some (.int .i64 n)) := by
    intro w' hK
    have r := keeps_row hK (List.mem_singleton.2 rfl)
    exact ⟨(cell_of_row _ _ _ _ _ _ r).trans rfl, (cell_of_row _ _ _ _ _ _ r).trans rfl, (cell_of_row _ _ _ _ _ _ r).trans rfl, (cell_of_row _ _ _ _ _ _ r).trans rfl, (cell_of_row _ _ _ _ _ _ r).trans rfl, (cell_of_row _ _ _ _ _ _ r).trans rfl⟩
  have HL := Lib.hid hL
  clear hL
  have HK0 : Hid (Keeps [(w.heap.size, Obj.cells #[.int .u64 a, .int .u64 b, .int .u64 c, .int .u64 d, .int .u64 u, .int .i64 n] 53 (0, 0))] w w1.heap.size w1) := by
    refine ⟨fun g o hm => ?_, by omega, Nat.le_refl _, B1.out⟩
    cases List.mem_singleton.1 hm
    exact ⟨Rc.out, fcl⟩
  have HKB : Hid (Below w.heap.size w w1) := B1.out
  go_cut [3, 4, 5, 6] (fun p q r t wx => ∃ gA gB : Nat, p = .pointer (some ⟨gA, 0, none⟩) ∧ q = .pointer (some ⟨gB, 0, none⟩) ∧ r = .int .u64 u ∧ t = .int .i64 n ∧ w.heap.size ≤ gA ∧ w.heap.size ≤ gB ∧ Hid (wx.heap[gA]? = some (.cells #[.int .u64 a, .int .u64 b] 24 (0, 0))) ∧ Hid (wx.heap[gB]? = some (.cells #[.int .u64 c, .int .u64 d] 24 (0, 0))) ∧ Hid (Below w.heap.size w wx))
  case first =>
    first
      | (go_region_held3 (fun w' => (w'.cell? ⟨w.heap.size, 0, none⟩ = some (.int .u64 a) ∧ w'.cell? ⟨w.heap.size, 1, none⟩ = some (.int .u64 b) ∧ w'.cell? ⟨w.heap.size, 2, none⟩ = some (.int .u64 c) ∧ w'.cell? ⟨w.heap.size, 3, none⟩ = some (.int .u64 d) ∧ w'.cell? ⟨w.heap.size, 4, none⟩ = some (.int .u64 u) ∧ w'.cell? ⟨w.heap.size, 5, none⟩ = some (.int .i64 n)) ∧ w1.heap.size ≤ w'.heap.size ∧ Hid (Keeps [(w.heap.size, Obj.cells #[.int .u64 a, .int .u64 b, .int .u64 c, .int .u64 d, .int .u64 u, .int .i64 n] 53 (0, 0))] w w1.heap.size w')) (first | (refine sStart HL.out ?_; repeat (first | exact HK0.out | refine keeps_drew ?_ | refine keeps_alloc ?_ _ | refine keeps_set ?_ (by first | omega | (dsimp only; refine keepsH ?_; repeat (first | exact HK0.out | refine keeps_drew ?_ | refine keeps_alloc ?_ _ | refine keeps_below (by assumption) ?_)) | (simp; omega)) _ | refine keeps_below (by assumption) ?_)))
        (first | fail | fail))
    all_goals
      go_wp2_with fail
      go_meet
      refine ⟨_, _, rfl, rfl, rfl, rfl, ?_, ?_, ?_, ?_, ?_⟩
      · first | omega | (simp; omega)
      · first | omega | (simp; omega)
      · show _ = _
        (repeat (first | exact blk_new rfl | exact blk_new (by simp; done) | refine set24_1 (set24_0 ?_) | refine blk_far ?_ (by first | omega | (simp; done)) _ | refine blk_alloc ?_ _ | refine blk_drew ?_ | assumption))
      · show _ = _
        (repeat (first | exact blk_new rfl | exact blk_new (by simp; done) | refine set24_1 (set24_0 ?_) | refine blk_far ?_ (by first | omega | (simp; done)) _ | refine blk_alloc ?_ _ | refine blk_drew ?_ | assumption))
      · show Below _ _ _
        (repeat (first | exact HKB.out | refine b_drew ?_ | refine b_alloc ?_ _ | refine b_set ?_ (by first | omega | (simp; omega)) _ | refine b_then ?_ (by assumption)))
  case rest =>
    obtain ⟨gA, gB, rfl, rfl, rfl, rfl, lA, lB, RA, RB, BB⟩ := hcut
    clear HL HK0 HKB Rc fcc0 fcz0 fcc1 fcz1 fcc2 fcz2 fcc3 fcz3 fcc4 fcz4 fcc5 fcz5 fcl B1
    have fac0 : wc.cell? ⟨gA, 0, none⟩ = some (.int .u64 a) := (cell_of_row _ _ _ _ _ _ RA.out).trans rfl
    have faz0 := frozen_of_row _ _ 0 _ _ RA.out
    have fac1 : wc.cell? ⟨gA, 1, none⟩ = some (.int .u64 b) := (cell_of_row _ _ _ _ _ _ RA.out).trans rfl
    have faz1 := frozen_of_row _ _ 1 _ _ RA.out
    have fal := blk_lt RA.out
    have Ra := RA
    have fbc0 : wc.cell? ⟨gB, 0, none⟩ = some (.int .u64 c) := (cell_of_row _ _ _ _ _ _ RB.out).trans rfl
    have fbz0 := frozen_of_row _ _ 0 _ _ RB.out
    have fbc1 : wc.cell? ⟨gB, 1, none⟩ = some (.int .u64 d) := (cell_of_row _ _ _ _ _ _ RB.out).trans rfl
    have fbz1 := frozen_of_row _ _ 1 _ _ RB.out
    have fbl := blk_lt RB.out
    have Rb := RB
    obtain ⟨x1, y1, t1, ho1, hx1, hy1, hs1⟩ := opt_spec (X := wval a b + wval c d) (by have h1 := HA.out; have h2 := HB.out; have h3 := HC.out; have h4 := HD.out; unfold U at h1 h2 h3 h4; unfold wval; omega)
    have HO1 := Lib.hid ho1
    have HX1 := Lib.hid hx1
    have HY1 := Lib.hid hy1
    have HS1 := Lib.hid hs1
    clear ho1 hx1 hy1 hs1
    go_wp2_with fail
    refine (add_any _ a b c d HA.out HB.out HC.out HD.out).mono ?_
    rintro e w2 ⟨rfl, h2⟩
    rw [HO1.out]
    have B2 := Lib.hid (b_then (by first | exact (BB.out) | exact b_drew (BB.out) | exact (b_alloc (BB.out) _) | exact b_drew (b_alloc (BB.out) _) | exact (b_alloc (b_alloc (BB.out) _) _) | exact b_drew (b_alloc (b_alloc (BB.out) _) _) | exact (b_alloc (b_alloc (b_alloc (BB.out) _) _) _) | exact b_drew (b_alloc (b_alloc (b_alloc (BB.out) _) _) _) | exact (b_alloc (b_alloc (b_alloc (b_alloc (BB.out) _) _) _) _) | exact b_drew (b_alloc (b_alloc (b_alloc (b_alloc (BB.out) _) _) _) _) | exact (b_alloc (b_alloc (b_alloc (b_alloc (b_alloc (BB.out) _) _) _) _) _) | exact b_drew (b_alloc (b_alloc (b_alloc (b_alloc (b_alloc (BB.out) _) _) _) _) _)) h2)
    have ra : w2.heap[gA]? = some (.cells #[.int .u64 a, .int .u64 b] 24 (0, 0)) := by first | exact blk_below (Ra.out) h2 | exact blk_below (blk_drew (Ra.out)) h2 | exact blk_below (blk_alloc (Ra.out) _) h2 | exact blk_below (blk_drew (blk_alloc (Ra.out) _)) h2 | exact blk_below (blk_alloc (blk_alloc (Ra.out) _) _) h2 | exact blk_below (blk_drew (blk_alloc (blk_alloc (Ra.out) _) _)) h2 | exact blk_below (blk_alloc (blk_alloc (blk_alloc (Ra.out) _) _) _) h2 | exact blk_below (blk_drew (blk_alloc (blk_alloc (blk_alloc (Ra.out) _) _) _)) h2 | exact blk_below (blk_alloc (blk_alloc (blk_alloc (blk_alloc (Ra.out) _) _) _) _) h2 | exact blk_below (blk_drew (blk_alloc (blk_alloc (blk_alloc (blk_alloc (Ra.out) _) _) _) _)) h2 | exact blk_below (blk_new rfl) h2 | exact blk_below (blk_drew (blk_new rfl)) h2 | exact blk_below (blk_alloc (blk_new rfl) _) h2 | exact blk_below (blk_drew (blk_alloc (blk_new rfl) _)) h2 | exact blk_below (blk_alloc (blk_alloc (blk_new rfl) _) _) h2 | exact blk_below (blk_drew (blk_alloc (blk_alloc (blk_new rfl) _) _)) h2 | exact blk_below (blk_alloc (blk_alloc (blk_alloc (blk_new rfl) _) _) _) h2 | exact blk_below (blk_drew (blk_alloc (blk_alloc (blk_alloc (blk_new rfl) _) _) _)) h2 | exact blk_below (blk_alloc (blk_alloc (blk_alloc (blk_alloc (blk_new rfl) _) _) _) _) h2 | exact blk_below (blk_drew (blk_alloc (blk_alloc (blk_alloc (blk_alloc (blk_new rfl) _) _) _) _)) h2 | exact blk_below (blk_new (by simp)) h2 | exact blk_below (blk_drew (blk_new (by simp))) h2 | exact blk_below (blk_alloc (blk_new (by simp)) _) h2 | exact blk_below (blk_drew (blk_alloc (blk_new (by simp)) _)) h2 | exact blk_below (blk_alloc (blk_alloc (blk_new (by simp)) _) _) h2 | exact blk_below (blk_drew (blk_alloc (blk_alloc (blk_new (by simp)) _) _)) h2 | exact blk_below (blk_alloc (blk_alloc (blk_alloc (blk_new (by simp)) _) _) _) h2 | exact blk_below (blk_drew (blk_alloc (blk_alloc (blk_alloc (blk_new (by simp)) _) _) _)) h2 | exact blk_below (blk_alloc (blk_alloc (blk_alloc (blk_alloc (blk_new (by simp)) _) _) _) _) h2 | exact blk_below (blk_drew (blk_alloc (blk_alloc (blk_alloc (blk_alloc (blk_new (by simp)) _) _) _) _)) h2
    have rb : w2.heap[gB]? = some (.cells #[.int .u64 c, .int .u64 d] 24 (0, 0)) := by first | exact blk_below (Rb.out) h2 | exact blk_below (blk_drew (Rb.out)) h2 | exact blk_below (blk_alloc (Rb.out) _) h2 | exact blk_below (blk_drew (blk_alloc (Rb.out) _)) h2 | exact blk_below (blk_alloc (blk_alloc (Rb.out) _) _) h2 | exact blk_below (blk_drew (blk_alloc (blk_alloc (Rb.out) _) _)) h2 | exact blk_below (blk_alloc (blk_alloc (blk_alloc (Rb.out) _) _) _) h2 | exact blk_below (blk_drew (blk_alloc (blk_alloc (blk_alloc (Rb.out) _) _) _)) h2 | exact blk_below (blk_alloc (blk_alloc (blk_alloc (blk_alloc (Rb.out) _) _) _) _) h2 | exact blk_below (blk_drew (blk_alloc (blk_alloc (blk_alloc (blk_alloc (Rb.out) _) _) _) _)) h2 | exact blk_below (blk_new rfl) h2 | exact blk_below (blk_drew (blk_new rfl)) h2 | exact blk_below (blk_alloc (blk_new rfl) _) h2 | exact blk_below (blk_drew (blk_alloc (blk_new rfl) _)) h2 | exact blk_below (blk_alloc (blk_alloc (blk_new rfl) _) _) h2 | exact blk_below (blk_drew (blk_alloc (blk_alloc (blk_new rfl) _) _)) h2 | exact blk_below (blk_alloc (blk_alloc (blk_alloc (blk_new rfl) _) _) _) h2 | exact blk_below (blk_drew (blk_alloc (blk_alloc (blk_alloc (blk_new rfl) _) _) _)) h2 | exact blk_below (blk_alloc (blk_alloc (blk_alloc (blk_alloc (blk_new rfl) _) _) _) _) h2 | exact blk_below (blk_drew (blk_alloc (blk_alloc (blk_alloc (blk_alloc (blk_new rfl) _) _) _) _)) h2 | exact blk_below (blk_new (by simp)) h2 | exact blk_below (blk_drew (blk_new (by simp))) h2 | exact blk_below (blk_alloc (blk_new (by simp)) _) h2 | exact blk_below (blk_drew (blk_alloc (blk_new (by simp)) _)) h2 | exact blk_below (blk_alloc (blk_alloc (blk_new (by simp)) _) _) h2 | exact blk_below (blk_drew (blk_alloc (blk_alloc (blk_new (by simp)) _) _)) h2 | exact blk_below (blk_alloc (blk_alloc (blk_alloc (blk_new (by simp)) _) _) _) h2 | exact blk_below (blk_drew (blk_alloc (blk_alloc (blk_alloc (blk_new (by simp)) _) _) _)) h2 | exact blk_below (blk_alloc (blk_alloc (blk_alloc (blk_alloc (blk_new (by simp)) _) _) _) _) h2 | exact blk_below (blk_drew (blk_alloc (blk_alloc (blk_alloc (blk_alloc (blk_new (by simp)) _) _) _) _)) h2
    clear fac0 faz0 fac1 faz1 fal fbc0 fbz0 fbc1 fbz1 fbl
    clear Ra Rb
    have fac0 : w2.cell? ⟨gA, 0, none⟩ = some (.int .u64 a) := (cell_of_row _ _ _ _ _ _ ra).trans rfl
    have faz0 := frozen_of_row _ _ 0 _ _ ra
    have fac1 : w2.cell? ⟨gA, 1, none⟩ = some (.int .u64 b) := (cell_of_row _ _ _ _ _ _ ra).trans rfl
    have faz1 := frozen_of_row _ _ 1 _ _ ra
    have fal := blk_lt ra
    have Ra := Lib.hid ra
    clear ra
    have fbc0 : w2.cell? ⟨gB, 0, none⟩ = some (.int .u64 c) := (cell_of_row _ _ _ _ _ _ rb).trans rfl
    have fbz0 := frozen_of_row _ _ 0 _ _ rb
    have fbc1 : w2.cell? ⟨gB, 1, none⟩ = some (.int .u64 d) := (cell_of_row _ _ _ _ _ _ rb).trans rfl
    have fbz1 := frozen_of_row _ _ 1 _ _ rb
    have fbl := blk_lt rb
    have Rb := Lib.hid rb
    clear rb
    clear h2
    go_upto_if 43 with fail
    go_cut [] (fun wx => Hid (wx.heap[gA]? = some (.cells #[.int .u64 a, .int .u64 b] 24 (0, 0))) ∧ Hid (wx.heap[gB]? = some (.cells #[.int .u64 c, .int .u64 d] 24 (0, 0))) ∧ Hid (Below w.heap.size w wx))
    case first =>
      as_aux_lemma =>
        cases t1 with
        | false =>
          go_wp2_with fail
          go_meet
          exact ⟨(by show _ = _; (repeat (first | exact Ra.out | exact Rb.out | exact Rp.out | exact blk_new rfl | exact blk_new (by simp; done) | refine set24_1 (set24_0 ?_) | refine blk_alloc ?_ _ | refine blk_drew ?_ | refine blk_below ?_ (by assumption)))), (by show _ = _; (repeat (first | exact Ra.out | exact Rb.out | exact Rp.out | exact blk_new rfl | exact blk_new (by simp; done) | refine set24_1 (set24_0 ?_) | refine blk_alloc ?_ _ | refine blk_drew ?_ | refine blk_below ?_ (by assumption)))), (by show Below _ _ _; first | exact (B2.out) | exact b_drew (B2.out) | exact (b_alloc (B2.out) _) | exact b_drew (b_alloc (B2.out) _) | exact (b_alloc (b_alloc (B2.out) _) _) | exact b_drew (b_alloc (b_alloc (B2.out) _) _) | exact (b_alloc (b_alloc (b_alloc (B2.out) _) _) _) | exact b_drew (b_alloc (b_alloc (b_alloc (B2.out) _) _) _) | exact (b_alloc (b_alloc (b_alloc (b_alloc (B2.out) _) _) _) _) | exact b_drew (b_alloc (b_alloc (b_alloc (b_alloc (B2.out) _) _) _) _))⟩
        | true =>
          have hs := HS1.out rfl
          have HO2 := Lib.hid (opt_of (X := wval x1 y1 - wval c d) (a := a) (b := b) (ok := wval c d ≤ wval x1 y1) HB.out (by have h1 := HA.out; have h2 := HB.out; unfold U at h1 h2; unfold wval at *; omega) (by omega))
          clear hs
          go_wp2_with fail
          refine (sub_any _ x1 y1 c d HX1.out HY1.out HC.out HD.out).mono ?_
          rintro e w3 ⟨rfl, h3⟩
          rw [HO2.out]
          have B3 := Lib.hid (b_then (by first | exact (B2.out) | exact b_drew (B2.out) | exact (b_alloc (B2.out) _) | exact b_drew (b_alloc (B2.out) _) | exact (b_alloc (b_alloc (B2.out) _) _) | exact b_drew (b_alloc (b_alloc (B2.out) _) _) | exact (b_alloc (b_alloc (b_alloc (B2.out) _) _) _) | exact b_drew (b_alloc (b_alloc (b_alloc (B2.out) _) _) _) | exact (b_alloc (b_alloc (b_alloc (b_alloc (B2.out) _) _) _) _) | exact b_drew (b_alloc (b_alloc (b_alloc (b_alloc (B2.out) _) _) _) _) | exact (b_alloc (b_alloc (b_alloc (b_alloc (b_alloc (B2.out) _) _) _) _) _) | exact b_drew (b_alloc (b_alloc (b_alloc (b_alloc (b_alloc (B2.out) _) _) _) _) _)) h3)
          have ra : w3.heap[gA]? = some (.cells #[.int .u64 a, .int .u64 b] 24 (0, 0)) := by first | exact blk_below (Ra.out) h3 | exact blk_below (blk_drew (Ra.out)) h3 | exact blk_below (blk_alloc (Ra.out) _) h3 | exact blk_below (blk_drew (blk_alloc (Ra.out) _)) h3 | exact blk_below (blk_alloc (blk_alloc (Ra.out) _) _) h3 | exact blk_below (blk_drew (blk_alloc (blk_alloc (Ra.out) _) _)) h3 | exact blk_below (blk_alloc (blk_alloc (blk_alloc (Ra.out) _) _) _) h3 | exact blk_below (blk_drew (blk_alloc (blk_alloc (blk_alloc (Ra.out) _) _) _)) h3 | exact blk_below (blk_alloc (blk_alloc (blk_alloc (blk_alloc (Ra.out) _) _) _) _) h3 | exact blk_below (blk_drew (blk_alloc (blk_alloc (blk_alloc (blk_alloc (Ra.out) _) _) _) _)) h3 | exact blk_below (blk_new rfl) h3 | exact blk_below (blk_drew (blk_new rfl)) h3 | exact blk_below (blk_alloc (blk_new rfl) _) h3 | exact blk_below (blk_drew (blk_alloc (blk_new rfl) _)) h3 | exact blk_below (blk_alloc (blk_alloc (blk_new rfl) _) _) h3 | exact blk_below (blk_drew (blk_alloc (blk_alloc (blk_new rfl) _) _)) h3 | exact blk_below (blk_alloc (blk_alloc (blk_alloc (blk_new rfl) _) _) _) h3 | exact blk_below (blk_drew (blk_alloc (blk_alloc (blk_alloc (blk_new rfl) _) _) _)) h3 | exact blk_below (blk_alloc (blk_alloc (blk_alloc (blk_alloc (blk_new rfl) _) _) _) _) h3 | exact blk_below (blk_drew (blk_alloc (blk_alloc (blk_alloc (blk_alloc (blk_new rfl) _) _) _) _)) h3 | exact blk_below (blk_new (by simp)) h3 | exact blk_below (blk_drew (blk_new (by simp))) h3 | exact blk_below (blk_alloc (blk_new (by simp)) _) h3 | exact blk_below (blk_drew (blk_alloc (blk_new (by simp)) _)) h3 | exact blk_below (blk_alloc (blk_alloc (blk_new (by simp)) _) _) h3 | exact blk_below (blk_drew (blk_alloc (blk_alloc (blk_new (by simp)) _) _)) h3 | exact blk_below (blk_alloc (blk_alloc (blk_alloc (blk_new (by simp)) _) _) _) h3 | exact blk_below (blk_drew (blk_alloc (blk_alloc (blk_alloc (blk_new (by simp)) _) _) _)) h3 | exact blk_below (blk_alloc (blk_alloc (blk_alloc (blk_alloc (blk_new (by simp)) _) _) _) _) h3 | exact blk_below (blk_drew (blk_alloc (blk_alloc (blk_alloc (blk_alloc (blk_new (by simp)) _) _) _) _)) h3
          have rb : w3.heap[gB]? = some (.cells #[.int .u64 c, .int .u64 d] 24 (0, 0)) := by first | exact blk_below (Rb.out) h3 | exact blk_below (blk_drew (Rb.out)) h3 | exact blk_below (blk_alloc (Rb.out) _) h3 | exact blk_below (blk_drew (blk_alloc (Rb.out) _)) h3 | exact blk_below (blk_alloc (blk_alloc (Rb.out) _) _) h3 | exact blk_below (blk_drew (blk_alloc (blk_alloc (Rb.out) _) _)) h3 | exact blk_below (blk_alloc (blk_alloc (blk_alloc (Rb.out) _) _) _) h3 | exact blk_below (blk_drew (blk_alloc (blk_alloc (blk_alloc (Rb.out) _) _) _)) h3 | exact blk_below (blk_alloc (blk_alloc (blk_alloc (blk_alloc (Rb.out) _) _) _) _) h3 | exact blk_below (blk_drew (blk_alloc (blk_alloc (blk_alloc (blk_alloc (Rb.out) _) _) _) _)) h3 | exact blk_below (blk_new rfl) h3 | exact blk_below (blk_drew (blk_new rfl)) h3 | exact blk_below (blk_alloc (blk_new rfl) _) h3 | exact blk_below (blk_drew (blk_alloc (blk_new rfl) _)) h3 | exact blk_below (blk_alloc (blk_alloc (blk_new rfl) _) _) h3 | exact blk_below (blk_drew (blk_alloc (blk_alloc (blk_new rfl) _) _)) h3 | exact blk_below (blk_alloc (blk_alloc (blk_alloc (blk_new rfl) _) _) _) h3 | exact blk_below (blk_drew (blk_alloc (blk_alloc (blk_alloc (blk_new rfl) _) _) _)) h3 | exact blk_below (blk_alloc (blk_alloc (blk_alloc (blk_alloc (blk_new rfl) _) _) _) _) h3 | exact blk_below (blk_drew (blk_alloc (blk_alloc (blk_alloc (blk_alloc (blk_new rfl) _) _) _) _)) h3 | exact blk_below (blk_new (by simp)) h3 | exact blk_below (blk_drew (blk_new (by simp))) h3 | exact blk_below (blk_alloc (blk_new (by simp)) _) h3 | exact blk_below (blk_drew (blk_alloc (blk_new (by simp)) _)) h3 | exact blk_below (blk_alloc (blk_alloc (blk_new (by simp)) _) _) h3 | exact blk_below (blk_drew (blk_alloc (blk_alloc (blk_new (by simp)) _) _)) h3 | exact blk_below (blk_alloc (blk_alloc (blk_alloc (blk_new (by simp)) _) _) _) h3 | exact blk_below (blk_drew (blk_alloc (blk_alloc (blk_alloc (blk_new (by simp)) _) _) _)) h3 | exact blk_below (blk_alloc (blk_alloc (blk_alloc (blk_alloc (blk_new (by simp)) _) _) _) _) h3 | exact blk_below (blk_drew (blk_alloc (blk_alloc (blk_alloc (blk_alloc (blk_new (by simp)) _) _) _) _)) h3
          have rs : w3.heap[w2.heap.size]? = some (.cells #[.int .u64 x1, .int .u64 y1] 24 (0, 0)) := by first | exact blk_below (blk_new rfl) h3 | exact blk_below (blk_drew (blk_new rfl)) h3 | exact blk_below (blk_alloc (blk_new rfl) _) h3 | exact blk_below (blk_drew (blk_alloc (blk_new rfl) _)) h3 | exact blk_below (blk_alloc (blk_alloc (blk_new rfl) _) _) h3 | exact blk_below (blk_drew (blk_alloc (blk_alloc (blk_new rfl) _) _)) h3 | exact blk_below (blk_alloc (blk_alloc (blk_alloc (blk_new rfl) _) _) _) h3 | exact blk_below (blk_drew (blk_alloc (blk_alloc (blk_alloc (blk_new rfl) _) _) _)) h3 | exact blk_below (blk_alloc (blk_alloc (blk_alloc (blk_alloc (blk_new rfl) _) _) _) _) h3 | exact blk_below (blk_drew (blk_alloc (blk_alloc (blk_alloc (blk_alloc (blk_new rfl) _) _) _) _)) h3 | exact blk_below (blk_new (by simp)) h3 | exact blk_below (blk_drew (blk_new (by simp))) h3 | exact blk_below (blk_alloc (blk_new (by simp)) _) h3 | exact blk_below (blk_drew (blk_alloc (blk_new (by simp)) _)) h3 | exact blk_below (blk_alloc (blk_alloc (blk_new (by simp)) _) _) h3 | exact blk_below (blk_drew (blk_alloc (blk_alloc (blk_new (by simp)) _) _)) h3 | exact blk_below (blk_alloc (blk_alloc (blk_alloc (blk_new (by simp)) _) _) _) h3 | exact blk_below (blk_drew (blk_alloc (blk_alloc (blk_alloc (blk_new (by simp)) _) _) _)) h3 | exact blk_below (blk_alloc (blk_alloc (blk_alloc (blk_alloc (blk_new (by simp)) _) _) _) _) h3 | exact blk_below (blk_drew (blk_alloc (blk_alloc (blk_alloc (blk_alloc (blk_new (by simp)) _) _) _) _)) h3
          clear fac0 faz0 fac1 faz1 fal fbc0 fbz0 fbc1 fbz1 fbl
          clear Ra Rb
          have fac0 : w3.cell? ⟨gA, 0, none⟩ = some (.int .u64 a) := (cell_of_row _ _ _ _ _ _ ra).trans rfl
          have faz0 := frozen_of_row _ _ 0 _ _ ra
          have fac1 : w3.cell? ⟨gA, 1, none⟩ = some (.int .u64 b) := (cell_of_row _ _ _ _ _ _ ra).trans rfl
          have faz1 := frozen_of_row _ _ 1 _ _ ra
          have fal := blk_lt ra
          have Ra := Lib.hid ra
          clear ra
          have fbc0 : w3.cell? ⟨gB, 0, none⟩ = some (.int .u64 c) := (cell_of_row _ _ _ _ _ _ rb).trans rfl
          have fbz0 := frozen_of_row _ _ 0 _ _ rb
          have fbc1 : w3.cell? ⟨gB, 1, none⟩ = some (.int .u64 d) := (cell_of_row _ _ _ _ _ _ rb).trans rfl
          have fbz1 := frozen_of_row _ _ 1 _ _ rb
          have fbl := blk_lt rb
          have Rb := Lib.hid rb
          clear rb
          have fsc0 : w3.cell? ⟨w2.heap.size, 0, none⟩ = some (.int .u64 x1) := (cell_of_row _ _ _ _ _ _ rs).trans rfl
          have fsz0 := frozen_of_row _ _ 0 _ _ rs
          have fsc1 : w3.cell? ⟨w2.heap.size, 1, none⟩ = some (.int .u64 y1) := (cell_of_row _ _ _ _ _ _ rs).trans rfl
          have fsz1 := frozen_of_row _ _ 1 _ _ rs
          have fsl := blk_lt rs
          have Rs := Lib.hid rs
          clear rs
          clear B2
          clear h3
          go_wp2_with fail
          go_meet
          exact ⟨(by show _ = _; (repeat (first | exact Ra.out | exact Rb.out | exact Rp.out | exact blk_new rfl | exact blk_new (by simp; done) | refine set24_1 (set24_0 ?_) | refine blk_alloc ?_ _ | refine blk_drew ?_ | refine blk_below ?_ (by assumption)))), (by show _ = _; (repeat (first | exact Ra.out | exact Rb.out | exact Rp.out | exact blk_new rfl | exact blk_new (by simp; done) | refine set24_1 (set24_0 ?_) | refine blk_alloc ?_ _ | refine blk_drew ?_ | refine blk_below ?_ (by assumption)))), (by show Below _ _ _; first | exact (B3.out) | exact b_drew (B3.out) | exact (b_alloc (B3.out) _) | exact b_drew (b_alloc (B3.out) _) | exact (b_alloc (b_alloc (B3.out) _) _) | exact b_drew (b_alloc (b_alloc (B3.out) _) _) | exact (b_alloc (b_alloc (b_alloc (B3.out) _) _) _) | exact b_drew (b_alloc (b_alloc (b_alloc (B3.out) _) _) _) | exact (b_alloc (b_alloc (b_alloc (b_alloc (B3.out) _) _) _) _) | exact b_drew (b_alloc (b_alloc (b_alloc (b_alloc (B3.out) _) _) _) _))⟩
    case rest =>
      obtain ⟨RA, RB, BB⟩ := hcut
      have fac0 : wc.cell? ⟨gA, 0, none⟩ = some (.int .u64 a) := (cell_of_row _ _ _ _ _ _ RA.out).trans rfl
      have faz0 := frozen_of_row _ _ 0 _ _ RA.out
      have fac1 : wc.cell? ⟨gA, 1, none⟩ = some (.int .u64 b) := (cell_of_row _ _ _ _ _ _ RA.out).trans rfl
      have faz1 := frozen_of_row _ _ 1 _ _ RA.out
      have fal := blk_lt RA.out
      have Ra := RA
      have fbc0 : wc.cell? ⟨gB, 0, none⟩ = some (.int .u64 c) := (cell_of_row _ _ _ _ _ _ RB.out).trans rfl
      have fbz0 := frozen_of_row _ _ 0 _ _ RB.out
      have fbc1 : wc.cell? ⟨gB, 1, none⟩ = some (.int .u64 d) := (cell_of_row _ _ _ _ _ _ RB.out).trans rfl
      have fbz1 := frozen_of_row _ _ 1 _ _ RB.out
      have fbl := blk_lt RB.out
      have Rb := RB
      obtain ⟨p1, p2, t2, ho2, hp1, hp2, hs2⟩ := opt_spec (X := wval a b * u) (Int.mul_nonneg (by have h1 := HA.out; have h2 := HB.out; unfold U at h1 h2; unfold wval; omega) (by have h3 := HU.out; unfold U at h3; omega))
      have HO2 := Lib.hid ho2
      have HP1 := Lib.hid hp1
      have HP2 := Lib.hid hp2
      have HS2 := Lib.hid hs2
      clear ho2 hp1 hp2 hs2
      go_wp2_with fail
      refine (times_word_any _ a b u HA.out HB.out HU.out).mono ?_
      rintro e w3 ⟨rfl, h3⟩
      rw [HO2.out]
      have B3 := Lib.hid (b_then (by first | exact (BB.out) | exact b_drew (BB.out) | exact (b_alloc (BB.out) _) | exact b_drew (b_alloc (BB.out) _) | exact (b_alloc (b_alloc (BB.out) _) _) | exact b_drew (b_alloc (b_alloc (BB.out) _) _) | exact (b_alloc (b_alloc (b_alloc (BB.out) _) _) _) | exact b_drew (b_alloc (b_alloc (b_alloc (BB.out) _) _) _) | exact (b_alloc (b_alloc (b_alloc (b_alloc (BB.out) _) _) _) _) | exact b_drew (b_alloc (b_alloc (b_alloc (b_alloc (BB.out) _) _) _) _) | exact (b_alloc (b_alloc (b_alloc (b_alloc (b_alloc (BB.out) _) _) _) _) _) | exact b_drew (b_alloc (b_alloc (b_alloc (b_alloc (b_alloc (BB.out) _) _) _) _) _)) h3)
      have ra : w3.heap[gA]? = some (.cells #[.int .u64 a, .int .u64 b] 24 (0, 0)) := by first | exact blk_below (Ra.out) h3 | exact blk_below (blk_drew (Ra.out)) h3 | exact blk_below (blk_alloc (Ra.out) _) h3 | exact blk_below (blk_drew (blk_alloc (Ra.out) _)) h3 | exact blk_below (blk_alloc (blk_alloc (Ra.out) _) _) h3 | exact blk_below (blk_drew (blk_alloc (blk_alloc (Ra.out) _) _)) h3 | exact blk_below (blk_alloc (blk_alloc (blk_alloc (Ra.out) _) _) _) h3 | exact blk_below (blk_drew (blk_alloc (blk_alloc (blk_alloc (Ra.out) _) _) _)) h3 | exact blk_below (blk_alloc (blk_alloc (blk_alloc (blk_alloc (Ra.out) _) _) _) _) h3 | exact blk_below (blk_drew (blk_alloc (blk_alloc (blk_alloc (blk_alloc (Ra.out) _) _) _) _)) h3 | exact blk_below (blk_new rfl) h3 | exact blk_below (blk_drew (blk_new rfl)) h3 | exact blk_below (blk_alloc (blk_new rfl) _) h3 | exact blk_below (blk_drew (blk_alloc (blk_new rfl) _)) h3 | exact blk_below (blk_alloc (blk_alloc (blk_new rfl) _) _) h3 | exact blk_below (blk_drew (blk_alloc (blk_alloc (blk_new rfl) _) _)) h3 | exact blk_below (blk_alloc (blk_alloc (blk_alloc (blk_new rfl) _) _) _) h3 | exact blk_below (blk_drew (blk_alloc (blk_alloc (blk_alloc (blk_new rfl) _) _) _)) h3 | exact blk_below (blk_alloc (blk_alloc (blk_alloc (blk_alloc (blk_new rfl) _) _) _) _) h3 | exact blk_below (blk_drew (blk_alloc (blk_alloc (blk_alloc (blk_alloc (blk_new rfl) _) _) _) _)) h3 | exact blk_below (blk_new (by simp)) h3 | exact blk_below (blk_drew (blk_new (by simp))) h3 | exact blk_below (blk_alloc (blk_new (by simp)) _) h3 | exact blk_below (blk_drew (blk_alloc (blk_new (by simp)) _)) h3 | exact blk_below (blk_alloc (blk_alloc (blk_new (by simp)) _) _) h3 | exact blk_below (blk_drew (blk_alloc (blk_alloc (blk_new (by simp)) _) _)) h3 | exact blk_below (blk_alloc (blk_alloc (blk_alloc (blk_new (by simp)) _) _) _) h3 | exact blk_below (blk_drew (blk_alloc (blk_alloc (blk_alloc (blk_new (by simp)) _) _) _)) h3 | exact blk_below (blk_alloc (blk_alloc (blk_alloc (blk_alloc (blk_new (by simp)) _) _) _) _) h3 | exact blk_below (blk_drew (blk_alloc (blk_alloc (blk_alloc (blk_alloc (blk_new (by simp)) _) _) _) _)) h3
      have rb : w3.heap[gB]? = some (.cells #[.int .u64 c, .int .u64 d] 24 (0, 0)) := by first | exact blk_below (Rb.out) h3 | exact blk_below (blk_drew (Rb.out)) h3 | exact blk_below (blk_alloc (Rb.out) _) h3 | exact blk_below (blk_drew (blk_alloc (Rb.out) _)) h3 | exact blk_below (blk_alloc (blk_alloc (Rb.out) _) _) h3 | exact blk_below (blk_drew (blk_alloc (blk_alloc (Rb.out) _) _)) h3 | exact blk_below (blk_alloc (blk_alloc (blk_alloc (Rb.out) _) _) _) h3 | exact blk_below (blk_drew (blk_alloc (blk_alloc (blk_alloc (Rb.out) _) _) _)) h3 | exact blk_below (blk_alloc (blk_alloc (blk_alloc (blk_alloc (Rb.out) _) _) _) _) h3 | exact blk_below (blk_drew (blk_alloc (blk_alloc (blk_alloc (blk_alloc (Rb.out) _) _) _) _)) h3 | exact blk_below (blk_new rfl) h3 | exact blk_below (blk_drew (blk_new rfl)) h3 | exact blk_below (blk_alloc (blk_new rfl) _) h3 | exact blk_below (blk_drew (blk_alloc (blk_new rfl) _)) h3 | exact blk_below (blk_alloc (blk_alloc (blk_new rfl) _) _) h3 | exact blk_below (blk_drew (blk_alloc (blk_alloc (blk_new rfl) _) _)) h3 | exact blk_below (blk_alloc (blk_alloc (blk_alloc (blk_new rfl) _) _) _) h3 | exact blk_below (blk_drew (blk_alloc (blk_alloc (blk_alloc (blk_new rfl) _) _) _)) h3 | exact blk_below (blk_alloc (blk_alloc (blk_alloc (blk_alloc (blk_new rfl) _) _) _) _) h3 | exact blk_below (blk_drew (blk_alloc (blk_alloc (blk_alloc (blk_alloc (blk_new rfl) _) _) _) _)) h3 | exact blk_below (blk_new (by simp)) h3 | exact blk_below (blk_drew (blk_new (by simp))) h3 | exact blk_below (blk_alloc (blk_new (by simp)) _) h3 | exact blk_below (blk_drew (blk_alloc (blk_new (by simp)) _)) h3 | exact blk_below (blk_alloc (blk_alloc (blk_new (by simp)) _) _) h3 | exact blk_below (blk_drew (blk_alloc (blk_alloc (blk_new (by simp)) _) _)) h3 | exact blk_below (blk_alloc (blk_alloc (blk_alloc (blk_new (by simp)) _) _) _) h3 | exact blk_below (blk_drew (blk_alloc (blk_alloc (blk_alloc (blk_new (by simp)) _) _) _)) h3 | exact blk_below (blk_alloc (blk_alloc (blk_alloc (blk_alloc (blk_new (by simp)) _) _) _) _) h3 | exact blk_below (blk_drew (blk_alloc (blk_alloc (blk_alloc (blk_alloc (blk_new (by simp)) _) _) _) _)) h3
      clear fac0 faz0 fac1 faz1 fal fbc0 fbz0 fbc1 fbz1 fbl
      clear Ra Rb
      have fac0 : w3.cell? ⟨gA, 0, none⟩ = some (.int .u64 a) := (cell_of_row _ _ _ _ _ _ ra).trans rfl
      have faz0 := frozen_of_row _ _ 0 _ _ ra
      have fac1 : w3.cell? ⟨gA, 1, none⟩ = some (.int .u64 b) := (cell_of_row _ _ _ _ _ _ ra).trans rfl
      have faz1 := frozen_of_row _ _ 1 _ _ ra
      have fal := blk_lt ra
      have Ra := Lib.hid ra
      clear ra
      have fbc0 : w3.cell? ⟨gB, 0, none⟩ = some (.int .u64 c) := (cell_of_row _ _ _ _ _ _ rb).trans rfl
      have fbz0 := frozen_of_row _ _ 0 _ _ rb
      have fbc1 : w3.cell? ⟨gB, 1, none⟩ = some (.int .u64 d) := (cell_of_row _ _ _ _ _ _ rb).trans rfl
      have fbz1 := frozen_of_row _ _ 1 _ _ rb
      have fbl := blk_lt rb
      have Rb := Lib.hid rb
      clear rb
      clear h3
      go_upto_region 10 with fail
      go_cut [67] (fun q wx => ∃ bq : Bool, q = .bool bq ∧ Hid (bq = true → t2 = true ∧ 0 < u) ∧ Hid (wx.heap[w3.heap.size]? = some (.cells #[.int .u64 p1, .int .u64 p2] 24 (0, 0))) ∧ Hid (wx.heap[gA]? = some (.cells #[.int .u64 a, .int .u64 b] 24 (0, 0))) ∧ Hid (wx.heap[gB]? = some (.cells #[.int .u64 c, .int .u64 d] 24 (0, 0))) ∧ Hid (Below w.heap.size w wx))
      case first =>
        as_aux_lemma =>
          by_cases hu0 : 0 < u
          · have hud : decide (0 < u) = true := by simp; omega
            cases t2 with
            | false =>
              go_wp2_with fail
              go_meet
              exact ⟨false, rfl, (fun e => absurd e (by decide)), (by show _ = _; (repeat (first | exact Ra.out | exact Rb.out | exact Rp.out | exact Rl.out | exact Rs.out | exact blk_new rfl | exact blk_new (by simp; done) | refine set24_1 (set24_0 ?_) | refine blk_alloc ?_ _ | refine blk_drew ?_ | refine blk_below ?_ (by assumption)))), (by show _ = _; (repeat (first | exact Ra.out | exact Rb.out | exact Rp.out | exact Rl.out | exact Rs.out | exact blk_new rfl | exact blk_new (by simp; done) | refine set24_1 (set24_0 ?_) | refine blk_alloc ?_ _ | refine blk_drew ?_ | refine blk_below ?_ (by assumption)))), (by show _ = _; (repeat (first | exact Ra.out | exact Rb.out | exact Rp.out | exact Rl.out | exact Rs.out | exact blk_new rfl | exact blk_new (by simp; done) | refine set24_1 (set24_0 ?_) | refine blk_alloc ?_ _ | refine blk_drew ?_ | refine blk_below ?_ (by assumption)))), (by show Below _ _ _; first | exact (B3.out) | exact b_drew (B3.out) | exact (b_alloc (B3.out) _) | exact b_drew (b_alloc (B3.out) _) | exact (b_alloc (b_alloc (B3.out) _) _) | exact b_drew (b_alloc (b_alloc (B3.out) _) _) | exact (b_alloc (b_alloc (b_alloc (B3.out) _) _) _) | exact b_drew (b_alloc (b_alloc (b_alloc (B3.out) _) _) _) | exact (b_alloc (b_alloc (b_alloc (b_alloc (B3.out) _) _) _) _) | exact b_drew (b_alloc (b_alloc (b_alloc (b_alloc (B3.out) _) _) _) _))⟩
            | true =>
              go_wp2_with fail
              go_meet
              exact ⟨true, rfl, (fun _ => ⟨by simp, hu0⟩), (by show _ = _; (repeat (first | exact Ra.out | exact Rb.out | exact Rp.out | exact Rl.out | exact Rs.out | exact blk_new rfl | exact blk_new (by simp; done) | refine set24_1 (set24_0 ?_) | refine blk_alloc ?_ _ | refine blk_drew ?_ | refine blk_below ?_ (by assumption)))), (by show _ = _; (repeat (first | exact Ra.out | exact Rb.out | exact Rp.out | exact Rl.out | exact Rs.out | exact blk_new rfl | exact blk_new (by simp; done) | refine set24_1 (set24_0 ?_) | refine blk_alloc ?_ _ | refine blk_drew ?_ | refine blk_below ?_ (by assumption)))), (by show _ = _; (repeat (first | exact Ra.out | exact Rb.out | exact Rp.out | exact Rl.out | exact Rs.out | exact blk_new rfl | exact blk_new (by simp; done) | refine set24_1 (set24_0 ?_) | refine blk_alloc ?_ _ | refine blk_drew ?_ | refine blk_below ?_ (by assumption)))), (by show Below _ _ _; first | exact (B3.out) | exact b_drew (B3.out) | exact (b_alloc (B3.out) _) | exact b_drew (b_alloc (B3.out) _) | exact (b_alloc (b_alloc (B3.out) _) _) | exact b_drew (b_alloc (b_alloc (B3.out) _) _) | exact (b_alloc (b_alloc (b_alloc (B3.out) _) _) _) | exact b_drew (b_alloc (b_alloc (b_alloc (B3.out) _) _) _) | exact (b_alloc (b_alloc (b_alloc (b_alloc (B3.out) _) _) _) _) | exact b_drew (b_alloc (b_alloc (b_alloc (b_alloc (B3.out) _) _) _) _))⟩
          · have hud : decide (0 < u) = false := by simp; omega
            cases t2 with
            | false =>
              go_wp2_with fail
              go_meet
              exact ⟨false, rfl, (fun e => absurd e (by decide)), (by show _ = _; (repeat (first | exact Ra.out | exact Rb.out | exact Rp.out | exact Rl.out | exact Rs.out | exact blk_new rfl | exact blk_new (by simp; done) | refine set24_1 (set24_0 ?_) | refine blk_alloc ?_ _ | refine blk_drew ?_ | refine blk_below ?_ (by assumption)))), (by show _ = _; (repeat (first | exact Ra.out | exact Rb.out | exact Rp.out | exact Rl.out | exact Rs.out | exact blk_new rfl | exact blk_new (by simp; done) | refine set24_1 (set24_0 ?_) | refine blk_alloc ?_ _ | refine blk_drew ?_ | refine blk_below ?_ (by assumption)))), (by show _ = _; (repeat (first | exact Ra.out | exact Rb.out | exact Rp.out | exact Rl.out | exact Rs.out | exact blk_new rfl | exact blk_new (by simp; done) | refine set24_1 (set24_0 ?_) | refine blk_alloc ?_ _ | refine blk_drew ?_ | refine blk_below ?_ (by assumption)))), (by show Below _ _ _; first | exact (B3.out) | exact b_drew (B3.out) | exact (b_alloc (B3.out) _) | exact b_drew (b_alloc (B3.out) _) | exact (b_alloc (b_alloc (B3.out) _) _) | exact b_drew (b_alloc (b_alloc (B3.out) _) _) | exact (b_alloc (b_alloc (b_alloc (B3.out) _) _) _) | exact b_drew (b_alloc (b_alloc (b_alloc (B3.out) _) _) _) | exact (b_alloc (b_alloc (b_alloc (b_alloc (B3.out) _) _) _) _) | exact b_drew (b_alloc (b_alloc (b_alloc (b_alloc (B3.out) _) _) _) _))⟩
            | true =>
              go_wp2_with fail
              go_meet
              exact ⟨false, rfl, (fun e => absurd e (by decide)), (by show _ = _; (repeat (first | exact Ra.out | exact Rb.out | exact Rp.out | exact Rl.out | exact Rs.out | exact blk_new rfl | exact blk_new (by simp; done) | refine set24_1 (set24_0 ?_) | refine blk_alloc ?_ _ | refine blk_drew ?_ | refine blk_below ?_ (by assumption)))), (by show _ = _; (repeat (first | exact Ra.out | exact Rb.out | exact Rp.out | exact Rl.out | exact Rs.out | exact blk_new rfl | exact blk_new (by simp; done) | refine set24_1 (set24_0 ?_) | refine blk_alloc ?_ _ | refine blk_drew ?_ | refine blk_below ?_ (by assumption)))), (by show _ = _; (repeat (first | exact Ra.out | exact Rb.out | exact Rp.out | exact Rl.out | exact Rs.out | exact blk_new rfl | exact blk_new (by simp; done) | refine set24_1 (set24_0 ?_) | refine blk_alloc ?_ _ | refine blk_drew ?_ | refine blk_below ?_ (by assumption)))), (by show Below _ _ _; first | exact (B3.out) | exact b_drew (B3.out) | exact (b_alloc (B3.out) _) | exact b_drew (b_alloc (B3.out) _) | exact (b_alloc (b_alloc (B3.out) _) _) | exact b_drew (b_alloc (b_alloc (B3.out) _) _) | exact (b_alloc (b_alloc (b_alloc (B3.out) _) _) _) | exact b_drew (b_alloc (b_alloc (b_alloc (B3.out) _) _) _) | exact (b_alloc (b_alloc (b_alloc (b_alloc (B3.out) _) _) _) _) | exact b_drew (b_alloc (b_alloc (b_alloc (b_alloc (B3.out) _) _) _) _))⟩
      case rest =>
        obtain ⟨bq, rfl, HQ, RP, RA, RB, BB⟩ := hcut
        have fac0 : wc.cell? ⟨gA, 0, none⟩ = some (.int .u64 a) := (cell_of_row _ _ _ _ _ _ RA.out).trans rfl
        have faz0 := frozen_of_row _ _ 0 _ _ RA.out
        have fac1 : wc.cell? ⟨gA, 1, none⟩ = some (.int .u64 b) := (cell_of_row _ _ _ _ _ _ RA.out).trans rfl
        have faz1 := frozen_of_row _ _ 1 _ _ RA.out
        have fal := blk_lt RA.out
        have Ra := RA
        have fbc0 : wc.cell? ⟨gB, 0, none⟩ = some (.int .u64 c) := (cell_of_row _ _ _ _ _ _ RB.out).trans rfl
        have fbz0 := frozen_of_row _ _ 0 _ _ RB.out
        have fbc1 : wc.cell? ⟨gB, 1, none⟩ = some (.int .u64 d) := (cell_of_row _ _ _ _ _ _ RB.out).trans rfl
        have fbz1 := frozen_of_row _ _ 1 _ _ RB.out
        have fbl := blk_lt RB.out
        have Rb := RB
        have fpc0 : wc.cell? ⟨w3.heap.size, 0, none⟩ = some (.int .u64 p1) := (cell_of_row _ _ _ _ _ _ RP.out).trans rfl
        have fpz0 := frozen_of_row _ _ 0 _ _ RP.out
        have fpc1 : wc.cell? ⟨w3.heap.size, 1, none⟩ = some (.int .u64 p2) := (cell_of_row _ _ _ _ _ _ RP.out).trans rfl
        have fpz1 := frozen_of_row _ _ 1 _ _ RP.out
        have fpl := blk_lt RP.out
        have Rp := RP
        go_upto_if 67 with fail
        go_cut [] (fun wx => Hid (wx.heap[gA]? = some (.cells #[.int .u64 a, .int .u64 b] 24 (0, 0))) ∧ Hid (wx.heap[gB]? = some (.cells #[.int .u64 c, .int .u64 d] 24 (0, 0))) ∧ Hid (Below w.heap.size w wx))
        case first =>
          as_aux_lemma =>
            cases bq with
            | false =>
              go_wp2_with fail
              go_meet
              exact ⟨(by show _ = _; (repeat (first | exact Ra.out | exact Rb.out | exact Rp.out | exact Rl.out | exact Rs.out | exact blk_new rfl | exact blk_new (by simp; done) | refine set24_1 (set24_0 ?_) | refine blk_alloc ?_ _ | refine blk_drew ?_ | refine blk_below ?_ (by assumption)))), (by show _ = _; (repeat (first | exact Ra.out | exact Rb.out | exact Rp.out | exact Rl.out | exact Rs.out | exact blk_new rfl | exact blk_new (by simp; done) | refine set24_1 (set24_0 ?_) | refine blk_alloc ?_ _ | refine blk_drew ?_ | refine blk_below ?_ (by assumption)))), (by show Below _ _ _; first | exact (BB.out) | exact b_drew (BB.out) | exact (b_alloc (BB.out) _) | exact b_drew (b_alloc (BB.out) _) | exact (b_alloc (b_alloc (BB.out) _) _) | exact b_drew (b_alloc (b_alloc (BB.out) _) _) | exact (b_alloc (b_alloc (b_alloc (BB.out) _) _) _) | exact b_drew (b_alloc (b_alloc (b_alloc (BB.out) _) _) _) | exact (b_alloc (b_alloc (b_alloc (b_alloc (BB.out) _) _) _) _) | exact b_drew (b_alloc (b_alloc (b_alloc (b_alloc (BB.out) _) _) _) _))⟩
            | true =>
              obtain ⟨ht, hu0⟩ := HQ.out rfl
              have hX := HS2.out ht
              have HO3 : Hid (wbyV (wval p1 p2) u = .tuple #[.agg #[.int .u64 a, .int .u64 b], .int .u64 0, .bool true]) := by
                show _ = _
                rw [hX]
                exact by_back HB.out hu0
              clear ht hX
              go_wp2_with fail
              refine (wby_any _ p1 p2 u HP1.out HP2.out HU.out).mono ?_
              rintro e w4 ⟨rfl, h4⟩
              rw [HO3.out]
              have B4 := Lib.hid (b_then (by first | exact (BB.out) | exact b_drew (BB.out) | exact (b_alloc (BB.out) _) | exact b_drew (b_alloc (BB.out) _) | exact (b_alloc (b_alloc (BB.out) _) _) | exact b_drew (b_alloc (b_alloc (BB.out) _) _) | exact (b_alloc (b_alloc (b_alloc (BB.out) _) _) _) | exact b_drew (b_alloc (b_alloc (b_alloc (BB.out) _) _) _) | exact (b_alloc (b_alloc (b_alloc (b_alloc (BB.out) _) _) _) _) | exact b_drew (b_alloc (b_alloc (b_alloc (b_alloc (BB.out) _) _) _) _) | exact (b_alloc (b_alloc (b_alloc (b_alloc (b_alloc (BB.out) _) _) _) _) _) | exact b_drew (b_alloc (b_alloc (b_alloc (b_alloc (b_alloc (BB.out) _) _) _) _) _)) h4)
              have ra : w4.heap[gA]? = some (.cells #[.int .u64 a, .int .u64 b] 24 (0, 0)) := by first | exact blk_below (Ra.out) h4 | exact blk_below (blk_drew (Ra.out)) h4 | exact blk_below (blk_alloc (Ra.out) _) h4 | exact blk_below (blk_drew (blk_alloc (Ra.out) _)) h4 | exact blk_below (blk_alloc (blk_alloc (Ra.out) _) _) h4 | exact blk_below (blk_drew (blk_alloc (blk_alloc (Ra.out) _) _)) h4 | exact blk_below (blk_alloc (blk_alloc (blk_alloc (Ra.out) _) _) _) h4 | exact blk_below (blk_drew (blk_alloc (blk_alloc (blk_alloc (Ra.out) _) _) _)) h4 | exact blk_below (blk_alloc (blk_alloc (blk_alloc (blk_alloc (Ra.out) _) _) _) _) h4 | exact blk_below (blk_drew (blk_alloc (blk_alloc (blk_alloc (blk_alloc (Ra.out) _) _) _) _)) h4 | exact blk_below (blk_new rfl) h4 | exact blk_below (blk_drew (blk_new rfl)) h4 | exact blk_below (blk_alloc (blk_new rfl) _) h4 | exact blk_below (blk_drew (blk_alloc (blk_new rfl) _)) h4 | exact blk_below (blk_alloc (blk_alloc (blk_new rfl) _) _) h4 | exact blk_below (blk_drew (blk_alloc (blk_alloc (blk_new rfl) _) _)) h4 | exact blk_below (blk_alloc (blk_alloc (blk_alloc (blk_new rfl) _) _) _) h4 | exact blk_below (blk_drew (blk_alloc (blk_alloc (blk_alloc (blk_new rfl) _) _) _)) h4 | exact blk_below (blk_alloc (blk_alloc (blk_alloc (blk_alloc (blk_new rfl) _) _) _) _) h4 | exact blk_below (blk_drew (blk_alloc (blk_alloc (blk_alloc (blk_alloc (blk_new rfl) _) _) _) _)) h4 | exact blk_below (blk_new (by simp)) h4 | exact blk_below (blk_drew (blk_new (by simp))) h4 | exact blk_below (blk_alloc (blk_new (by simp)) _) h4 | exact blk_below (blk_drew (blk_alloc (blk_new (by simp)) _)) h4 | exact blk_below (blk_alloc (blk_alloc (blk_new (by simp)) _) _) h4 | exact blk_below (blk_drew (blk_alloc (blk_alloc (blk_new (by simp)) _) _)) h4 | exact blk_below (blk_alloc (blk_alloc (blk_alloc (blk_new (by simp)) _) _) _) h4 | exact blk_below (blk_drew (blk_alloc (blk_alloc (blk_alloc (blk_new (by simp)) _) _) _)) h4 | exact blk_below (blk_alloc (blk_alloc (blk_alloc (blk_alloc (blk_new (by simp)) _) _) _) _) h4 | exact blk_below (blk_drew (blk_alloc (blk_alloc (blk_alloc (blk_alloc (blk_new (by simp)) _) _) _) _)) h4
              have rb : w4.heap[gB]? = some (.cells #[.int .u64 c, .int .u64 d] 24 (0, 0)) := by first | exact blk_below (Rb.out) h4 | exact blk_below (blk_drew (Rb.out)) h4 | exact blk_below (blk_alloc (Rb.out) _) h4 | exact blk_below (blk_drew (blk_alloc (Rb.out) _)) h4 | exact blk_below (blk_alloc (blk_alloc (Rb.out) _) _) h4 | exact blk_below (blk_drew (blk_alloc (blk_alloc (Rb.out) _) _)) h4 | exact blk_below (blk_alloc (blk_alloc (blk_alloc (Rb.out) _) _) _) h4 | exact blk_below (blk_drew (blk_alloc (blk_alloc (blk_alloc (Rb.out) _) _) _)) h4 | exact blk_below (blk_alloc (blk_alloc (blk_alloc (blk_alloc (Rb.out) _) _) _) _) h4 | exact blk_below (blk_drew (blk_alloc (blk_alloc (blk_alloc (blk_alloc (Rb.out) _) _) _) _)) h4 | exact blk_below (blk_new rfl) h4 | exact blk_below (blk_drew (blk_new rfl)) h4 | exact blk_below (blk_alloc (blk_new rfl) _) h4 | exact blk_below (blk_drew (blk_alloc (blk_new rfl) _)) h4 | exact blk_below (blk_alloc (blk_alloc (blk_new rfl) _) _) h4 | exact blk_below (blk_drew (blk_alloc (blk_alloc (blk_new rfl) _) _)) h4 | exact blk_below (blk_alloc (blk_alloc (blk_alloc (blk_new rfl) _) _) _) h4 | exact blk_below (blk_drew (blk_alloc (blk_alloc (blk_alloc (blk_new rfl) _) _) _)) h4 | exact blk_below (blk_alloc (blk_alloc (blk_alloc (blk_alloc (blk_new rfl) _) _) _) _) h4 | exact blk_below (blk_drew (blk_alloc (blk_alloc (blk_alloc (blk_alloc (blk_new rfl) _) _) _) _)) h4 | exact blk_below (blk_new (by simp)) h4 | exact blk_below (blk_drew (blk_new (by simp))) h4 | exact blk_below (blk_alloc (blk_new (by simp)) _) h4 | exact blk_below (blk_drew (blk_alloc (blk_new (by simp)) _)) h4 | exact blk_below (blk_alloc (blk_alloc (blk_new (by simp)) _) _) h4 | exact blk_below (blk_drew (blk_alloc (blk_alloc (blk_new (by simp)) _) _)) h4 | exact blk_below (blk_alloc (blk_alloc (blk_alloc (blk_new (by simp)) _) _) _) h4 | exact blk_below (blk_drew (blk_alloc (blk_alloc (blk_alloc (blk_new (by simp)) _) _) _)) h4 | exact blk_below (blk_alloc (blk_alloc (blk_alloc (blk_alloc (blk_new (by simp)) _) _) _) _) h4 | exact blk_below (blk_drew (blk_alloc (blk_alloc (blk_alloc (blk_alloc (blk_new (by simp)) _) _) _) _)) h4
              have rp : w4.heap[w3.heap.size]? = some (.cells #[.int .u64 p1, .int .u64 p2] 24 (0, 0)) := by first | exact blk_below (Rp.out) h4 | exact blk_below (blk_drew (Rp.out)) h4 | exact blk_below (blk_alloc (Rp.out) _) h4 | exact blk_below (blk_drew (blk_alloc (Rp.out) _)) h4 | exact blk_below (blk_alloc (blk_alloc (Rp.out) _) _) h4 | exact blk_below (blk_drew (blk_alloc (blk_alloc (Rp.out) _) _)) h4 | exact blk_below (blk_alloc (blk_alloc (blk_alloc (Rp.out) _) _) _) h4 | exact blk_below (blk_drew (blk_alloc (blk_alloc (blk_alloc (Rp.out) _) _) _)) h4 | exact blk_below (blk_alloc (blk_alloc (blk_alloc (blk_alloc (Rp.out) _) _) _) _) h4 | exact blk_below (blk_drew (blk_alloc (blk_alloc (blk_alloc (blk_alloc (Rp.out) _) _) _) _)) h4 | exact blk_below (blk_new rfl) h4 | exact blk_below (blk_drew (blk_new rfl)) h4 | exact blk_below (blk_alloc (blk_new rfl) _) h4 | exact blk_below (blk_drew (blk_alloc (blk_new rfl) _)) h4 | exact blk_below (blk_alloc (blk_alloc (blk_new rfl) _) _) h4 | exact blk_below (blk_drew (blk_alloc (blk_alloc (blk_new rfl) _) _)) h4 | exact blk_below (blk_alloc (blk_alloc (blk_alloc (blk_new rfl) _) _) _) h4 | exact blk_below (blk_drew (blk_alloc (blk_alloc (blk_alloc (blk_new rfl) _) _) _)) h4 | exact blk_below (blk_alloc (blk_alloc (blk_alloc (blk_alloc (blk_new rfl) _) _) _) _) h4 | exact blk_below (blk_drew (blk_alloc (blk_alloc (blk_alloc (blk_alloc (blk_new rfl) _) _) _) _)) h4 | exact blk_below (blk_new (by simp)) h4 | exact blk_below (blk_drew (blk_new (by simp))) h4 | exact blk_below (blk_alloc (blk_new (by simp)) _) h4 | exact blk_below (blk_drew (blk_alloc (blk_new (by simp)) _)) h4 | exact blk_below (blk_alloc (blk_alloc (blk_new (by simp)) _) _) h4 | exact blk_below (blk_drew (blk_alloc (blk_alloc (blk_new (by simp)) _) _)) h4 | exact blk_below (blk_alloc (blk_alloc (blk_alloc (blk_new (by simp)) _) _) _) h4 | exact blk_below (blk_drew (blk_alloc (blk_alloc (blk_alloc (blk_new (by simp)) _) _) _)) h4 | exact blk_below (blk_alloc (blk_alloc (blk_alloc (blk_alloc (blk_new (by simp)) _) _) _) _) h4 | exact blk_below (blk_drew (blk_alloc (blk_alloc (blk_alloc (blk_alloc (blk_new (by simp)) _) _) _) _)) h4
              clear fac0 faz0 fac1 faz1 fal fbc0 fbz0 fbc1 fbz1 fbl fpc0 fpz0 fpc1 fpz1 fpl
              clear Ra Rb Rp
              have fac0 : w4.cell? ⟨gA, 0, none⟩ = some (.int .u64 a) := (cell_of_row _ _ _ _ _ _ ra).trans rfl
              have faz0 := frozen_of_row _ _ 0 _ _ ra
              have fac1 : w4.cell? ⟨gA, 1, none⟩ = some (.int .u64 b) := (cell_of_row _ _ _ _ _ _ ra).trans rfl
              have faz1 := frozen_of_row _ _ 1 _ _ ra
              have fal := blk_lt ra
              have Ra := Lib.hid ra
              clear ra
              have fbc0 : w4.cell? ⟨gB, 0, none⟩ = some (.int .u64 c) := (cell_of_row _ _ _ _ _ _ rb).trans rfl
              have fbz0 := frozen_of_row _ _ 0 _ _ rb
              have fbc1 : w4.cell? ⟨gB, 1, none⟩ = some (.int .u64 d) := (cell_of_row _ _ _ _ _ _ rb).trans rfl
              have fbz1 := frozen_of_row _ _ 1 _ _ rb
              have fbl := blk_lt rb
              have Rb := Lib.hid rb
              clear rb
              have fpc0 : w4.cell? ⟨w3.heap.size, 0, none⟩ = some (.int .u64 p1) := (cell_of_row _ _ _ _ _ _ rp).trans rfl
              have fpz0 := frozen_of_row _ _ 0 _ _ rp
              have fpc1 : w4.cell? ⟨w3.heap.size, 1, none⟩ = some (.int .u64 p2) := (cell_of_row _ _ _ _ _ _ rp).trans rfl
              have fpz1 := frozen_of_row _ _ 1 _ _ rp
              have fpl := blk_lt rp
              have Rp := Lib.hid rp
              clear rp
              clear h4
              go_wp2_with fail
              go_meet
              exact ⟨(by show _ = _; (repeat (first | exact Ra.out | exact Rb.out | exact Rp.out | exact Rl.out | exact Rs.out | exact blk_new rfl | exact blk_new (by simp; done) | refine set24_1 (set24_0 ?_) | refine blk_alloc ?_ _ | refine blk_drew ?_ | refine blk_below ?_ (by assumption)))), (by show _ = _; (repeat (first | exact Ra.out | exact Rb.out | exact Rp.out | exact Rl.out | exact Rs.out | exact blk_new rfl | exact blk_new (by simp; done) | refine set24_1 (set24_0 ?_) | refine blk_alloc ?_ _ | refine blk_drew ?_ | refine blk_below ?_ (by assumption)))), (by show Below _ _ _; first | exact (B4.out) | exact b_drew (B4.out) | exact (b_alloc (B4.out) _) | exact b_drew (b_alloc (B4.out) _) | exact (b_alloc (b_alloc (B4.out) _) _) | exact b_drew (b_alloc (b_alloc (B4.out) _) _) | exact (b_alloc (b_alloc (b_alloc (B4.out) _) _) _) | exact b_drew (b_alloc (b_alloc (b_alloc (B4.out) _) _) _) | exact (b_alloc (b_alloc (b_alloc (b_alloc (B4.out) _) _) _) _) | exact b_drew (b_alloc (b_alloc (b_alloc (b_alloc (B4.out) _) _) _) _))⟩
        case rest =>
          obtain ⟨RA, RB, BB⟩ := hcut
          have fac0 : wc.cell? ⟨gA, 0, none⟩ = some (.int .u64 a) := (cell_of_row _ _ _ _ _ _ RA.out).trans rfl
          have faz0 := frozen_of_row _ _ 0 _ _ RA.out
          have fac1 : wc.cell? ⟨gA, 1, none⟩ = some (.int .u64 b) := (cell_of_row _ _ _ _ _ _ RA.out).trans rfl
          have faz1 := frozen_of_row _ _ 1 _ _ RA.out
          have fal := blk_lt RA.out
          have Ra := RA
          have fbc0 : wc.cell? ⟨gB, 0, none⟩ = some (.int .u64 c) := (cell_of_row _ _ _ _ _ _ RB.out).trans rfl
          have fbz0 := frozen_of_row _ _ 0 _ _ RB.out
          have fbc1 : wc.cell? ⟨gB, 1, none⟩ = some (.int .u64 d) := (cell_of_row _ _ _ _ _ _ RB.out).trans rfl
          have fbz1 := frozen_of_row _ _ 1 _ _ RB.out
          have fbl := blk_lt RB.out
          have Rb := RB
          obtain ⟨q1, q2, r, s1, s2, t3, ho4, hq1, hq2, hr0, hr1, hs4⟩ := by_any3 (X := wval a b) (u := u) (wval_rng HA.out HB.out).1 (wval_rng HA.out HB.out).2 (by have h3 := HU.out; unfold U at h3; omega)
          have HO4 := Lib.hid ho4
          have HQ1 := Lib.hid hq1
          have HQ2 := Lib.hid hq2
          have HS4 := Lib.hid hs4
          have HR : Hid (U r) := by have h3 := HU.out; show U r; unfold U at *; omega
          clear ho4 hq1 hq2 hs4
          go_wp2_with fail
          refine (wby_any _ a b u HA.out HB.out HU.out).mono ?_
          rintro e w4 ⟨rfl, h4⟩
          rw [HO4.out]
          have B4 := Lib.hid (b_then (by first | exact (BB.out) | exact b_drew (BB.out) | exact (b_alloc (BB.out) _) | exact b_drew (b_alloc (BB.out) _) | exact (b_alloc (b_alloc (BB.out) _) _) | exact b_drew (b_alloc (b_alloc (BB.out) _) _) | exact (b_alloc (b_alloc (b_alloc (BB.out) _) _) _) | exact b_drew (b_alloc (b_alloc (b_alloc (BB.out) _) _) _) | exact (b_alloc (b_alloc (b_alloc (b_alloc (BB.out) _) _) _) _) | exact b_drew (b_alloc (b_alloc (b_alloc (b_alloc (BB.out) _) _) _) _) | exact (b_alloc (b_alloc (b_alloc (b_alloc (b_alloc (BB.out) _) _) _) _) _) | exact b_drew (b_alloc (b_alloc (b_alloc (b_alloc (b_alloc (BB.out) _) _) _) _) _)) h4)
          have ra : w4.heap[gA]? = some (.cells #[.int .u64 a, .int .u64 b] 24 (0, 0)) := by first | exact blk_below (Ra.out) h4 | exact blk_below (blk_drew (Ra.out)) h4 | exact blk_below (blk_alloc (Ra.out) _) h4 | exact blk_below (blk_drew (blk_alloc (Ra.out) _)) h4 | exact blk_below (blk_alloc (blk_alloc (Ra.out) _) _) h4 | exact blk_below (blk_drew (blk_alloc (blk_alloc (Ra.out) _) _)) h4 | exact blk_below (blk_alloc (blk_alloc (blk_alloc (Ra.out) _) _) _) h4 | exact blk_below (blk_drew (blk_alloc (blk_alloc (blk_alloc (Ra.out) _) _) _)) h4 | exact blk_below (blk_alloc (blk_alloc (blk_alloc (blk_alloc (Ra.out) _) _) _) _) h4 | exact blk_below (blk_drew (blk_alloc (blk_alloc (blk_alloc (blk_alloc (Ra.out) _) _) _) _)) h4 | exact blk_below (blk_new rfl) h4 | exact blk_below (blk_drew (blk_new rfl)) h4 | exact blk_below (blk_alloc (blk_new rfl) _) h4 | exact blk_below (blk_drew (blk_alloc (blk_new rfl) _)) h4 | exact blk_below (blk_alloc (blk_alloc (blk_new rfl) _) _) h4 | exact blk_below (blk_drew (blk_alloc (blk_alloc (blk_new rfl) _) _)) h4 | exact blk_below (blk_alloc (blk_alloc (blk_alloc (blk_new rfl) _) _) _) h4 | exact blk_below (blk_drew (blk_alloc (blk_alloc (blk_alloc (blk_new rfl) _) _) _)) h4 | exact blk_below (blk_alloc (blk_alloc (blk_alloc (blk_alloc (blk_new rfl) _) _) _) _) h4 | exact blk_below (blk_drew (blk_alloc (blk_alloc (blk_alloc (blk_alloc (blk_new rfl) _) _) _) _)) h4 | exact blk_below (blk_new (by simp)) h4 | exact blk_below (blk_drew (blk_new (by simp))) h4 | exact blk_below (blk_alloc (blk_new (by simp)) _) h4 | exact blk_below (blk_drew (blk_alloc (blk_new (by simp)) _)) h4 | exact blk_below (blk_alloc (blk_alloc (blk_new (by simp)) _) _) h4 | exact blk_below (blk_drew (blk_alloc (blk_alloc (blk_new (by simp)) _) _)) h4 | exact blk_below (blk_alloc (blk_alloc (blk_alloc (blk_new (by simp)) _) _) _) h4 | exact blk_below (blk_drew (blk_alloc (blk_alloc (blk_alloc (blk_new (by simp)) _) _) _)) h4 | exact blk_below (blk_alloc (blk_alloc (blk_alloc (blk_alloc (blk_new (by simp)) _) _) _) _) h4 | exact blk_below (blk_drew (blk_alloc (blk_alloc (blk_alloc (blk_alloc (blk_new (by simp)) _) _) _) _)) h4
          have rb : w4.heap[gB]? = some (.cells #[.int .u64 c, .int .u64 d] 24 (0, 0)) := by first | exact blk_below (Rb.out) h4 | exact blk_below (blk_drew (Rb.out)) h4 | exact blk_below (blk_alloc (Rb.out) _) h4 | exact blk_below (blk_drew (blk_alloc (Rb.out) _)) h4 | exact blk_below (blk_alloc (blk_alloc (Rb.out) _) _) h4 | exact blk_below (blk_drew (blk_alloc (blk_alloc (Rb.out) _) _)) h4 | exact blk_below (blk_alloc (blk_alloc (blk_alloc (Rb.out) _) _) _) h4 | exact blk_below (blk_drew (blk_alloc (blk_alloc (blk_alloc (Rb.out) _) _) _)) h4 | exact blk_below (blk_alloc (blk_alloc (blk_alloc (blk_alloc (Rb.out) _) _) _) _) h4 | exact blk_below (blk_drew (blk_alloc (blk_alloc (blk_alloc (blk_alloc (Rb.out) _) _) _) _)) h4 | exact blk_below (blk_new rfl) h4 | exact blk_below (blk_drew (blk_new rfl)) h4 | exact blk_below (blk_alloc (blk_new rfl) _) h4 | exact blk_below (blk_drew (blk_alloc (blk_new rfl) _)) h4 | exact blk_below (blk_alloc (blk_alloc (blk_new rfl) _) _) h4 | exact blk_below (blk_drew (blk_alloc (blk_alloc (blk_new rfl) _) _)) h4 | exact blk_below (blk_alloc (blk_alloc (blk_alloc (blk_new rfl) _) _) _) h4 | exact blk_below (blk_drew (blk_alloc (blk_alloc (blk_alloc (blk_new rfl) _) _) _)) h4 | exact blk_below (blk_alloc (blk_alloc (blk_alloc (blk_alloc (blk_new rfl) _) _) _) _) h4 | exact blk_below (blk_drew (blk_alloc (blk_alloc (blk_alloc (blk_alloc (blk_new rfl) _) _) _) _)) h4 | exact blk_below (blk_new (by simp)) h4 | exact blk_below (blk_drew (blk_new (by simp))) h4 | exact blk_below (blk_alloc (blk_new (by simp)) _) h4 | exact blk_below (blk_drew (blk_alloc (blk_new (by simp)) _)) h4 | exact blk_below (blk_alloc (blk_alloc (blk_new (by simp)) _) _) h4 | exact blk_below (blk_drew (blk_alloc (blk_alloc (blk_new (by simp)) _) _)) h4 | exact blk_below (blk_alloc (blk_alloc (blk_alloc (blk_new (by simp)) _) _) _) h4 | exact blk_below (blk_drew (blk_alloc (blk_alloc (blk_alloc (blk_new (by simp)) _) _) _)) h4 | exact blk_below (blk_alloc (blk_alloc (blk_alloc (blk_alloc (blk_new (by simp)) _) _) _) _) h4 | exact blk_below (blk_drew (blk_alloc (blk_alloc (blk_alloc (blk_alloc (blk_new (by simp)) _) _) _) _)) h4
          clear fac0 faz0 fac1 faz1 fal fbc0 fbz0 fbc1 fbz1 fbl
          clear Ra Rb
          have fac0 : w4.cell? ⟨gA, 0, none⟩ = some (.int .u64 a) := (cell_of_row _ _ _ _ _ _ ra).trans rfl
          have faz0 := frozen_of_row _ _ 0 _ _ ra
          have fac1 : w4.cell? ⟨gA, 1, none⟩ = some (.int .u64 b) := (cell_of_row _ _ _ _ _ _ ra).trans rfl
          have faz1 := frozen_of_row _ _ 1 _ _ ra
          have fal := blk_lt ra
          have Ra := Lib.hid ra
          clear ra
          have fbc0 : w4.cell? ⟨gB, 0, none⟩ = some (.int .u64 c) := (cell_of_row _ _ _ _ _ _ rb).trans rfl
          have fbz0 := frozen_of_row _ _ 0 _ _ rb
          have fbc1 : w4.cell? ⟨gB, 1, none⟩ = some (.int .u64 d) := (cell_of_row _ _ _ _ _ _ rb).trans rfl
          have fbz1 := frozen_of_row _ _ 1 _ _ rb
          have fbl := blk_lt rb
          have Rb := Lib.hid rb
          clear rb
          clear h4
          go_upto_if 93 with fail
          go_cut [] (fun wx => Hid (wx.heap[gA]? = some (.cells #[.int .u64 a, .int .u64 b] 24 (0, 0))) ∧ Hid (wx.heap[gB]? = some (.cells #[.int .u64 c, .int .u64 d] 24 (0, 0))) ∧ Hid (Below w.heap.size w wx))
          case first =>
            as_aux_lemma =>
              cases t3 with
              | false =>
                go_wp2_with fail
                go_meet
                exact ⟨(by show _ = _; (repeat (first | exact Ra.out | exact Rb.out | exact Rp.out | exact Rl.out | exact Rs.out | exact blk_new rfl | exact blk_new (by simp; done) | refine set24_1 (set24_0 ?_) | refine blk_alloc ?_ _ | refine blk_drew ?_ | refine blk_below ?_ (by assumption)))), (by show _ = _; (repeat (first | exact Ra.out | exact Rb.out | exact Rp.out | exact Rl.out | exact Rs.out | exact blk_new rfl | exact blk_new (by simp; done) | refine set24_1 (set24_0 ?_) | refine blk_alloc ?_ _ | refine blk_drew ?_ | refine blk_below ?_ (by assumption)))), (by show Below _ _ _; first | exact (B4.out) | exact b_drew (B4.out) | exact (b_alloc (B4.out) _) | exact b_drew (b_alloc (B4.out) _) | exact (b_alloc (b_alloc (B4.out) _) _) | exact b_drew (b_alloc (b_alloc (B4.out) _) _) | exact (b_alloc (b_alloc (b_alloc (B4.out) _) _) _) | exact b_drew (b_alloc (b_alloc (b_alloc (B4.out) _) _) _) | exact (b_alloc (b_alloc (b_alloc (b_alloc (B4.out) _) _) _) _) | exact b_drew (b_alloc (b_alloc (b_alloc (b_alloc (B4.out) _) _) _) _))⟩
              | true =>
                obtain ⟨hr2, ho5, hs1, hs2, hsum⟩ := HS4.out rfl
                have HO5 := Lib.hid ho5
                have HS1b := Lib.hid hs1
                have HS2b := Lib.hid hs2
                have HO6 : Hid (optV (wval s1 s2 + wval 0 r) (wval s1 s2 + wval 0 r < 340282366920938463463374607431768211456) = .tuple #[.agg #[.int .u64 a, .int .u64 b], .bool true]) := by
                  have e : wval s1 s2 + wval 0 r = wval a b := by rw [← hsum]; unfold wval; omega
                  show _ = _
                  rw [e]
                  exact opt_of HB.out (wval_rng HA.out HB.out).2 rfl
                have HU0 : Hid (U 0) := by show U 0; unfold U; decide
                clear ho5 hs1 hs2 hsum
                go_wp2_with fail
                refine (times_word_any _ q1 q2 u HQ1.out HQ2.out HU.out).mono ?_
                rintro e w5 ⟨rfl, h5⟩
                rw [HO5.out]
                have B5 := Lib.hid (b_then (by first | exact (B4.out) | exact b_drew (B4.out) | exact (b_alloc (B4.out) _) | exact b_drew (b_alloc (B4.out) _) | exact (b_alloc (b_alloc (B4.out) _) _) | exact b_drew (b_alloc (b_alloc (B4.out) _) _) | exact (b_alloc (b_alloc (b_alloc (B4.out) _) _) _) | exact b_drew (b_alloc (b_alloc (b_alloc (B4.out) _) _) _) | exact (b_alloc (b_alloc (b_alloc (b_alloc (B4.out) _) _) _) _) | exact b_drew (b_alloc (b_alloc (b_alloc (b_alloc (B4.out) _) _) _) _) | exact (b_alloc (b_alloc (b_alloc (b_alloc (b_alloc (B4.out) _) _) _) _) _) | exact b_drew (b_alloc (b_alloc (b_alloc (b_alloc (b_alloc (B4.out) _) _) _) _) _)) h5)
                have ra : w5.heap[gA]? = some (.cells #[.int .u64 a, .int .u64 b] 24 (0, 0)) := by first | exact blk_below (Ra.out) h5 | exact blk_below (blk_drew (Ra.out)) h5 | exact blk_below (blk_alloc (Ra.out) _) h5 | exact blk_below (blk_drew (blk_alloc (Ra.out) _)) h5 | exact blk_below (blk_alloc (blk_alloc (Ra.out) _) _) h5 | exact blk_below (blk_drew (blk_alloc (blk_alloc (Ra.out) _) _)) h5 | exact blk_below (blk_alloc (blk_alloc (blk_alloc (Ra.out) _) _) _) h5 | exact blk_below (blk_drew (blk_alloc (blk_alloc (blk_alloc (Ra.out) _) _) _)) h5 | exact blk_below (blk_alloc (blk_alloc (blk_alloc (blk_alloc (Ra.out) _) _) _) _) h5 | exact blk_below (blk_drew (blk_alloc (blk_alloc (blk_alloc (blk_alloc (Ra.out) _) _) _) _)) h5 | exact blk_below (blk_new rfl) h5 | exact blk_below (blk_drew (blk_new rfl)) h5 | exact blk_below (blk_alloc (blk_new rfl) _) h5 | exact blk_below (blk_drew (blk_alloc (blk_new rfl) _)) h5 | exact blk_below (blk_alloc (blk_alloc (blk_new rfl) _) _) h5 | exact blk_below (blk_drew (blk_alloc (blk_alloc (blk_new rfl) _) _)) h5 | exact blk_below (blk_alloc (blk_alloc (blk_alloc (blk_new rfl) _) _) _) h5 | exact blk_below (blk_drew (blk_alloc (blk_alloc (blk_alloc (blk_new rfl) _) _) _)) h5 | exact blk_below (blk_alloc (blk_alloc (blk_alloc (blk_alloc (blk_new rfl) _) _) _) _) h5 | exact blk_below (blk_drew (blk_alloc (blk_alloc (blk_alloc (blk_alloc (blk_new rfl) _) _) _) _)) h5 | exact blk_below (blk_new (by simp)) h5 | exact blk_below (blk_drew (blk_new (by simp))) h5 | exact blk_below (blk_alloc (blk_new (by simp)) _) h5 | exact blk_below (blk_drew (blk_alloc (blk_new (by simp)) _)) h5 | exact blk_below (blk_alloc (blk_alloc (blk_new (by simp)) _) _) h5 | exact blk_below (blk_drew (blk_alloc (blk_alloc (blk_new (by simp)) _) _)) h5 | exact blk_below (blk_alloc (blk_alloc (blk_alloc (blk_new (by simp)) _) _) _) h5 | exact blk_below (blk_drew (blk_alloc (blk_alloc (blk_alloc (blk_new (by simp)) _) _) _)) h5 | exact blk_below (blk_alloc (blk_alloc (blk_alloc (blk_alloc (blk_new (by simp)) _) _) _) _) h5 | exact blk_below (blk_drew (blk_alloc (blk_alloc (blk_alloc (blk_alloc (blk_new (by simp)) _) _) _) _)) h5
                have rb : w5.heap[gB]? = some (.cells #[.int .u64 c, .int .u64 d] 24 (0, 0)) := by first | exact blk_below (Rb.out) h5 | exact blk_below (blk_drew (Rb.out)) h5 | exact blk_below (blk_alloc (Rb.out) _) h5 | exact blk_below (blk_drew (blk_alloc (Rb.out) _)) h5 | exact blk_below (blk_alloc (blk_alloc (Rb.out) _) _) h5 | exact blk_below (blk_drew (blk_alloc (blk_alloc (Rb.out) _) _)) h5 | exact blk_below (blk_alloc (blk_alloc (blk_alloc (Rb.out) _) _) _) h5 | exact blk_below (blk_drew (blk_alloc (blk_alloc (blk_alloc (Rb.out) _) _) _)) h5 | exact blk_below (blk_alloc (blk_alloc (blk_alloc (blk_alloc (Rb.out) _) _) _) _) h5 | exact blk_below (blk_drew (blk_alloc (blk_alloc (blk_alloc (blk_alloc (Rb.out) _) _) _) _)) h5 | exact blk_below (blk_new rfl) h5 | exact blk_below (blk_drew (blk_new rfl)) h5 | exact blk_below (blk_alloc (blk_new rfl) _) h5 | exact blk_below (blk_drew (blk_alloc (blk_new rfl) _)) h5 | exact blk_below (blk_alloc (blk_alloc (blk_new rfl) _) _) h5 | exact blk_below (blk_drew (blk_alloc (blk_alloc (blk_new rfl) _) _)) h5 | exact blk_below (blk_alloc (blk_alloc (blk_alloc (blk_new rfl) _) _) _) h5 | exact blk_below (blk_drew (blk_alloc (blk_alloc (blk_alloc (blk_new rfl) _) _) _)) h5 | exact blk_below (blk_alloc (blk_alloc (blk_alloc (blk_alloc (blk_new rfl) _) _) _) _) h5 | exact blk_below (blk_drew (blk_alloc (blk_alloc (blk_alloc (blk_alloc (blk_new rfl) _) _) _) _)) h5 | exact blk_below (blk_new (by simp)) h5 | exact blk_below (blk_drew (blk_new (by simp))) h5 | exact blk_below (blk_alloc (blk_new (by simp)) _) h5 | exact blk_below (blk_drew (blk_alloc (blk_new (by simp)) _)) h5 | exact blk_below (blk_alloc (blk_alloc (blk_new (by simp)) _) _) h5 | exact blk_below (blk_drew (blk_alloc (blk_alloc (blk_new (by simp)) _) _)) h5 | exact blk_below (blk_alloc (blk_alloc (blk_alloc (blk_new (by simp)) _) _) _) h5 | exact blk_below (blk_drew (blk_alloc (blk_alloc (blk_alloc (blk_new (by simp)) _) _) _)) h5 | exact blk_below (blk_alloc (blk_alloc (blk_alloc (blk_alloc (blk_new (by simp)) _) _) _) _) h5 | exact blk_below (blk_drew (blk_alloc (blk_alloc (blk_alloc (blk_alloc (blk_new (by simp)) _) _) _) _)) h5
                have rq : w5.heap[w4.heap.size]? = some (.cells #[.int .u64 q1, .int .u64 q2] 24 (0, 0)) := by first | exact blk_below (blk_new rfl) h5 | exact blk_below (blk_drew (blk_new rfl)) h5 | exact blk_below (blk_alloc (blk_new rfl) _) h5 | exact blk_below (blk_drew (blk_alloc (blk_new rfl) _)) h5 | exact blk_below (blk_alloc (blk_alloc (blk_new rfl) _) _) h5 | exact blk_below (blk_drew (blk_alloc (blk_alloc (blk_new rfl) _) _)) h5 | exact blk_below (blk_alloc (blk_alloc (blk_alloc (blk_new rfl) _) _) _) h5 | exact blk_below (blk_drew (blk_alloc (blk_alloc (blk_alloc (blk_new rfl) _) _) _)) h5 | exact blk_below (blk_alloc (blk_alloc (blk_alloc (blk_alloc (blk_new rfl) _) _) _) _) h5 | exact blk_below (blk_drew (blk_alloc (blk_alloc (blk_alloc (blk_alloc (blk_new rfl) _) _) _) _)) h5 | exact blk_below (blk_new (by simp)) h5 | exact blk_below (blk_drew (blk_new (by simp))) h5 | exact blk_below (blk_alloc (blk_new (by simp)) _) h5 | exact blk_below (blk_drew (blk_alloc (blk_new (by simp)) _)) h5 | exact blk_below (blk_alloc (blk_alloc (blk_new (by simp)) _) _) h5 | exact blk_below (blk_drew (blk_alloc (blk_alloc (blk_new (by simp)) _) _)) h5 | exact blk_below (blk_alloc (blk_alloc (blk_alloc (blk_new (by simp)) _) _) _) h5 | exact blk_below (blk_drew (blk_alloc (blk_alloc (blk_alloc (blk_new (by simp)) _) _) _)) h5 | exact blk_below (blk_alloc (blk_alloc (blk_alloc (blk_alloc (blk_new (by simp)) _) _) _) _) h5 | exact blk_below (blk_drew (blk_alloc (blk_alloc (blk_alloc (blk_alloc (blk_new (by simp)) _) _) _) _)) h5
                clear fac0 faz0 fac1 faz1 fal fbc0 fbz0 fbc1 fbz1 fbl
                clear Ra Rb
                have fac0 : w5.cell? ⟨gA, 0, none⟩ = some (.int .u64 a) := (cell_of_row _ _ _ _ _ _ ra).trans rfl
                have faz0 := frozen_of_row _ _ 0 _ _ ra
                have fac1 : w5.cell? ⟨gA, 1, none⟩ = some (.int .u64 b) := (cell_of_row _ _ _ _ _ _ ra).trans rfl
                have faz1 := frozen_of_row _ _ 1 _ _ ra
                have fal := blk_lt ra
                have Ra := Lib.hid ra
                clear ra
                have fbc0 : w5.cell? ⟨gB, 0, none⟩ = some (.int .u64 c) := (cell_of_row _ _ _ _ _ _ rb).trans rfl
                have fbz0 := frozen_of_row _ _ 0 _ _ rb
                have fbc1 : w5.cell? ⟨gB, 1, none⟩ = some (.int .u64 d) := (cell_of_row _ _ _ _ _ _ rb).trans rfl
                have fbz1 := frozen_of_row _ _ 1 _ _ rb
                have fbl := blk_lt rb
                have Rb := Lib.hid rb
                clear rb
                have fqc0 : w5.cell? ⟨w4.heap.size, 0, none⟩ = some (.int .u64 q1) := (cell_of_row _ _ _ _ _ _ rq).trans rfl
                have fqz0 := frozen_of_row _ _ 0 _ _ rq
                have fqc1 : w5.cell? ⟨w4.heap.size, 1, none⟩ = some (.int .u64 q2) := (cell_of_row _ _ _ _ _ _ rq).trans rfl
                have fqz1 := frozen_of_row _ _ 1 _ _ rq
                have fql := blk_lt rq
                have Rq := Lib.hid rq
                clear rq
                clear B4
                clear h5
                go_upto_region 17 with fail
                have HL : Hid (∀ w' : World, Keeps [(gA, Obj.cells #[.int .u64 a, .int .u64 b] 24 (0, 0)), (gB, Obj.cells #[.int .u64 c, .int .u64 d] 24 (0, 0)), (w5.heap.size, Obj.cells #[.int .u64 s1, .int .u64 s2] 24 (0, 0))] w (w5.heap.size + 1) w' → (w'.cell? ⟨w5.heap.size, 0, none⟩ = some (.int .u64 s1) ∧ w'.cell? ⟨w5.heap.size, 1, none⟩ = some (.int .u64 s2))) := fun w' hK => cells2 (k3 hK)
                have HK0 : Hid (Keeps [(gA, Obj.cells #[.int .u64 a, .int .u64 b] 24 (0, 0)), (gB, Obj.cells #[.int .u64 c, .int .u64 d] 24 (0, 0)), (w5.heap.size, Obj.cells #[.int .u64 s1, .int .u64 s2] 24 (0, 0))] w (w5.heap.size + 1) (w5.alloc (.cells #[.int .u64 s1, .int .u64 s2] 24))) :=
                  keeps3 (blk_alloc Ra.out _) (Nat.lt_succ_of_lt fal) (blk_alloc Rb.out _) (Nat.lt_succ_of_lt fbl) (blk_new rfl) (Nat.lt_succ_self _) (by omega) (Nat.le_of_eq (size_alloc _ _).symm) (b_alloc B5.out _)
                go_cut [21, 22] (fun p q wx => ∃ gS : Nat, p = .pointer (some ⟨gS, 0, none⟩) ∧ q = .bool true ∧ Hid (wx.heap[gS]? = some (.cells #[.int .u64 a, .int .u64 b] 24 (0, 0))) ∧ Hid (wx.heap[gA]? = some (.cells #[.int .u64 a, .int .u64 b] 24 (0, 0))) ∧ Hid (wx.heap[gB]? = some (.cells #[.int .u64 c, .int .u64 d] 24 (0, 0))) ∧ Hid (Below w.heap.size w wx))
                case first =>
                  as_aux_lemma =>
                    first
                      | (go_region_held3 (fun w' => (w'.cell? ⟨w5.heap.size, 0, none⟩ = some (.int .u64 s1) ∧ w'.cell? ⟨w5.heap.size, 1, none⟩ = some (.int .u64 s2)) ∧ (w5.heap.size + 1) ≤ w'.heap.size ∧ Hid (Keeps [(gA, Obj.cells #[.int .u64 a, .int .u64 b] 24 (0, 0)), (gB, Obj.cells #[.int .u64 c, .int .u64 d] 24 (0, 0)), (w5.heap.size, Obj.cells #[.int .u64 s1, .int .u64 s2] 24 (0, 0))] w (w5.heap.size + 1) w')) (first | (refine sStart HL.out ?_; repeat (first | exact HK0.out | refine keeps_drew ?_ | refine keeps_alloc ?_ _ | refine keeps_set ?_ (by first | omega | (dsimp only; refine keepsH ?_; repeat (first | exact HK0.out | refine keeps_drew ?_ | refine keeps_alloc ?_ _ | refine keeps_below (by assumption) ?_)) | (simp; omega)) _ | refine keeps_below (by assumption) ?_)))
                          (first
                            | (go_at_call 23; refine (of1_exact _ r).mono ?_; rintro e w' ⟨rfl, x1, x2, rfl⟩)
                            | (go_at_call 26; refine (add_exact _ s1 s2 0 r HS1b.out HS2b.out HU0.out HR.out).mono ?_; rintro e w' ⟨rfl, x3, x4, x5, rfl⟩; rw [HO6.out])))
                    all_goals
                      go_wp2_with fail
                      go_meet
                      refine ⟨_, rfl, rfl, ?_, ?_, ?_, ?_⟩
                      · show _ = _
                        (repeat (first | exact blk_new rfl | exact blk_new (by simp; done) | refine set24_1 (set24_0 ?_) | refine blk_far ?_ (by first | omega | (simp; done)) _ | refine blk_alloc ?_ _ | refine blk_drew ?_ | assumption))
                      · show _ = _
                        refine k1 (w0 := w) (H := (w5.heap.size + 1)) (r := [(gA, Obj.cells #[.int .u64 a, .int .u64 b] 24 (0, 0)), (gB, Obj.cells #[.int .u64 c, .int .u64 d] 24 (0, 0)), (w5.heap.size, Obj.cells #[.int .u64 s1, .int .u64 s2] 24 (0, 0))].tail) ?_
                        repeat (first | exact HK0.out | refine keeps_drew ?_ | refine keeps_alloc ?_ _ | refine keeps_set ?_ (by first | omega | (dsimp only; refine keepsH ?_; repeat (first | exact HK0.out | refine keeps_drew ?_ | refine keeps_alloc ?_ _ | refine keeps_below (by assumption) ?_)) | (simp; omega)) _ | refine keeps_below (by assumption) ?_)
                      · show _ = _
                        refine k2 (w0 := w) (H := (w5.heap.size + 1)) (p := [(gA, Obj.cells #[.int .u64 a, .int .u64 b] 24 (0, 0)), (gB, Obj.cells #[.int .u64 c, .int .u64 d] 24 (0, 0)), (w5.heap.size, Obj.cells #[.int .u64 s1, .int .u64 s2] 24 (0, 0))].head (by simp)) (r := [(gA, Obj.cells #[.int .u64 a, .int .u64 b] 24 (0, 0)), (gB, Obj.cells #[.int .u64 c, .int .u64 d] 24 (0, 0)), (w5.heap.size, Obj.cells #[.int .u64 s1, .int .u64 s2] 24 (0, 0))].tail.tail) ?_
                        repeat (first | exact HK0.out | refine keeps_drew ?_ | refine keeps_alloc ?_ _ | refine keeps_set ?_ (by first | omega | (dsimp only; refine keepsH ?_; repeat (first | exact HK0.out | refine keeps_drew ?_ | refine keeps_alloc ?_ _ | refine keeps_below (by assumption) ?_)) | (simp; omega)) _ | refine keeps_below (by assumption) ?_)
                      · show Below _ _ _
                        exact (show Keeps [(gA, Obj.cells #[.int .u64 a, .int .u64 b] 24 (0, 0)), (gB, Obj.cells #[.int .u64 c, .int .u64 d] 24 (0, 0)), (w5.heap.size, Obj.cells #[.int .u64 s1, .int .u64 s2] 24 (0, 0))] w (w5.heap.size + 1) _ from by repeat (first | exact HK0.out | refine keeps_drew ?_ | refine keeps_alloc ?_ _ | refine keeps_set ?_ (by first | omega | (dsimp only; refine keepsH ?_; repeat (first | exact HK0.out | refine keeps_drew ?_ | refine keeps_alloc ?_ _ | refine keeps_below (by assumption) ?_)) | (simp; omega)) _ | refine keeps_below (by assumption) ?_)).2.2.2
                case rest =>
                  obtain ⟨gS, rfl, rfl, RS, RA, RB, BB⟩ := hcut
                  have fac0 : wc.cell? ⟨gA, 0, none⟩ = some (.int .u64 a) := (cell_of_row _ _ _ _ _ _ RA.out).trans rfl
                  have faz0 := frozen_of_row _ _ 0 _ _ RA.out
                  have fac1 : wc.cell? ⟨gA, 1, none⟩ = some (.int .u64 b) := (cell_of_row _ _ _ _ _ _ RA.out).trans rfl
                  have faz1 := frozen_of_row _ _ 1 _ _ RA.out
                  have fal := blk_lt RA.out
                  have Ra := RA
                  have fbc0 : wc.cell? ⟨gB, 0, none⟩ = some (.int .u64 c) := (cell_of_row _ _ _ _ _ _ RB.out).trans rfl
                  have fbz0 := frozen_of_row _ _ 0 _ _ RB.out
                  have fbc1 : wc.cell? ⟨gB, 1, none⟩ = some (.int .u64 d) := (cell_of_row _ _ _ _ _ _ RB.out).trans rfl
                  have fbz1 := frozen_of_row _ _ 1 _ _ RB.out
                  have fbl := blk_lt RB.out
                  have Rb := RB
                  have fsc0 : wc.cell? ⟨gS, 0, none⟩ = some (.int .u64 a) := (cell_of_row _ _ _ _ _ _ RS.out).trans rfl
                  have fsz0 := frozen_of_row _ _ 0 _ _ RS.out
                  have fsc1 : wc.cell? ⟨gS, 1, none⟩ = some (.int .u64 b) := (cell_of_row _ _ _ _ _ _ RS.out).trans rfl
                  have fsz1 := frozen_of_row _ _ 1 _ _ RS.out
                  have fsl := blk_lt RS.out
                  have Rs := RS
                  have hrd : ¬ u ≤ r := by omega
                  go_wp2_with fail
                  go_meet
                  exact ⟨(by show _ = _; (repeat (first | exact Ra.out | exact Rb.out | exact Rp.out | exact Rl.out | exact Rs.out | exact blk_new rfl | exact blk_new (by simp; done) | refine set24_1 (set24_0 ?_) | refine blk_alloc ?_ _ | refine blk_drew ?_ | refine blk_below ?_ (by assumption)))), (by show _ = _; (repeat (first | exact Ra.out | exact Rb.out | exact Rp.out | exact Rl.out | exact Rs.out | exact blk_new rfl | exact blk_new (by simp; done) | refine set24_1 (set24_0 ?_) | refine blk_alloc ?_ _ | refine blk_drew ?_ | refine blk_below ?_ (by assumption)))), (by show Below _ _ _; first | exact (BB.out) | exact b_drew (BB.out) | exact (b_alloc (BB.out) _) | exact b_drew (b_alloc (BB.out) _) | exact (b_alloc (b_alloc (BB.out) _) _) | exact b_drew (b_alloc (b_alloc (BB.out) _) _) | exact (b_alloc (b_alloc (b_alloc (BB.out) _) _) _) | exact b_drew (b_alloc (b_alloc (b_alloc (BB.out) _) _) _) | exact (b_alloc (b_alloc (b_alloc (b_alloc (BB.out) _) _) _) _) | exact b_drew (b_alloc (b_alloc (b_alloc (b_alloc (BB.out) _) _) _) _))⟩
          case rest =>
            obtain ⟨RA, RB, BB⟩ := hcut
            have fac0 : wc.cell? ⟨gA, 0, none⟩ = some (.int .u64 a) := (cell_of_row _ _ _ _ _ _ RA.out).trans rfl
            have faz0 := frozen_of_row _ _ 0 _ _ RA.out
            have fac1 : wc.cell? ⟨gA, 1, none⟩ = some (.int .u64 b) := (cell_of_row _ _ _ _ _ _ RA.out).trans rfl
            have faz1 := frozen_of_row _ _ 1 _ _ RA.out
            have fal := blk_lt RA.out
            have Ra := RA
            have fbc0 : wc.cell? ⟨gB, 0, none⟩ = some (.int .u64 c) := (cell_of_row _ _ _ _ _ _ RB.out).trans rfl
            have fbz0 := frozen_of_row _ _ 0 _ _ RB.out
            have fbc1 : wc.cell? ⟨gB, 1, none⟩ = some (.int .u64 d) := (cell_of_row _ _ _ _ _ _ RB.out).trans rfl
            have fbz1 := frozen_of_row _ _ 1 _ _ RB.out
            have fbl := blk_lt RB.out
            have Rb := RB
            obtain ⟨l1, l2, t4, ho7, hl1, hl2, hs7⟩ := left_back (a := a) (b := b) (n := n) HA.out HB.out
            have HO7 := Lib.hid ho7
            have HL1 := Lib.hid hl1
            have HL2 := Lib.hid hl2
            have HS7 := Lib.hid hs7
            clear ho7 hl1 hl2 hs7
            go_wp2_with fail
            refine (left_any _ a b n HA.out HB.out HN.out HN2.out).mono ?_
            rintro e w5 ⟨rfl, h5⟩
            rw [HO7.out]
            have B5 := Lib.hid (b_then (by first | exact (BB.out) | exact b_drew (BB.out) | exact (b_alloc (BB.out) _) | exact b_drew (b_alloc (BB.out) _) | exact (b_alloc (b_alloc (BB.out) _) _) | exact b_drew (b_alloc (b_alloc (BB.out) _) _) | exact (b_alloc (b_alloc (b_alloc (BB.out) _) _) _) | exact b_drew (b_alloc (b_alloc (b_alloc (BB.out) _) _) _) | exact (b_alloc (b_alloc (b_alloc (b_alloc (BB.out) _) _) _) _) | exact b_drew (b_alloc (b_alloc (b_alloc (b_alloc (BB.out) _) _) _) _) | exact (b_alloc (b_alloc (b_alloc (b_alloc (b_alloc (BB.out) _) _) _) _) _) | exact b_drew (b_alloc (b_alloc (b_alloc (b_alloc (b_alloc (BB.out) _) _) _) _) _)) h5)
            have ra : w5.heap[gA]? = some (.cells #[.int .u64 a, .int .u64 b] 24 (0, 0)) := by first | exact blk_below (Ra.out) h5 | exact blk_below (blk_drew (Ra.out)) h5 | exact blk_below (blk_alloc (Ra.out) _) h5 | exact blk_below (blk_drew (blk_alloc (Ra.out) _)) h5 | exact blk_below (blk_alloc (blk_alloc (Ra.out) _) _) h5 | exact blk_below (blk_drew (blk_alloc (blk_alloc (Ra.out) _) _)) h5 | exact blk_below (blk_alloc (blk_alloc (blk_alloc (Ra.out) _) _) _) h5 | exact blk_below (blk_drew (blk_alloc (blk_alloc (blk_alloc (Ra.out) _) _) _)) h5 | exact blk_below (blk_alloc (blk_alloc (blk_alloc (blk_alloc (Ra.out) _) _) _) _) h5 | exact blk_below (blk_drew (blk_alloc (blk_alloc (blk_alloc (blk_alloc (Ra.out) _) _) _) _)) h5 | exact blk_below (blk_new rfl) h5 | exact blk_below (blk_drew (blk_new rfl)) h5 | exact blk_below (blk_alloc (blk_new rfl) _) h5 | exact blk_below (blk_drew (blk_alloc (blk_new rfl) _)) h5 | exact blk_below (blk_alloc (blk_alloc (blk_new rfl) _) _) h5 | exact blk_below (blk_drew (blk_alloc (blk_alloc (blk_new rfl) _) _)) h5 | exact blk_below (blk_alloc (blk_alloc (blk_alloc (blk_new rfl) _) _) _) h5 | exact blk_below (blk_drew (blk_alloc (blk_alloc (blk_alloc (blk_new rfl) _) _) _)) h5 | exact blk_below (blk_alloc (blk_alloc (blk_alloc (blk_alloc (blk_new rfl) _) _) _) _) h5 | exact blk_below (blk_drew (blk_alloc (blk_alloc (blk_alloc (blk_alloc (blk_new rfl) _) _) _) _)) h5 | exact blk_below (blk_new (by simp)) h5 | exact blk_below (blk_drew (blk_new (by simp))) h5 | exact blk_below (blk_alloc (blk_new (by simp)) _) h5 | exact blk_below (blk_drew (blk_alloc (blk_new (by simp)) _)) h5 | exact blk_below (blk_alloc (blk_alloc (blk_new (by simp)) _) _) h5 | exact blk_below (blk_drew (blk_alloc (blk_alloc (blk_new (by simp)) _) _)) h5 | exact blk_below (blk_alloc (blk_alloc (blk_alloc (blk_new (by simp)) _) _) _) h5 | exact blk_below (blk_drew (blk_alloc (blk_alloc (blk_alloc (blk_new (by simp)) _) _) _)) h5 | exact blk_below (blk_alloc (blk_alloc (blk_alloc (blk_alloc (blk_new (by simp)) _) _) _) _) h5 | exact blk_below (blk_drew (blk_alloc (blk_alloc (blk_alloc (blk_alloc (blk_new (by simp)) _) _) _) _)) h5
            have rb : w5.heap[gB]? = some (.cells #[.int .u64 c, .int .u64 d] 24 (0, 0)) := by first | exact blk_below (Rb.out) h5 | exact blk_below (blk_drew (Rb.out)) h5 | exact blk_below (blk_alloc (Rb.out) _) h5 | exact blk_below (blk_drew (blk_alloc (Rb.out) _)) h5 | exact blk_below (blk_alloc (blk_alloc (Rb.out) _) _) h5 | exact blk_below (blk_drew (blk_alloc (blk_alloc (Rb.out) _) _)) h5 | exact blk_below (blk_alloc (blk_alloc (blk_alloc (Rb.out) _) _) _) h5 | exact blk_below (blk_drew (blk_alloc (blk_alloc (blk_alloc (Rb.out) _) _) _)) h5 | exact blk_below (blk_alloc (blk_alloc (blk_alloc (blk_alloc (Rb.out) _) _) _) _) h5 | exact blk_below (blk_drew (blk_alloc (blk_alloc (blk_alloc (blk_alloc (Rb.out) _) _) _) _)) h5 | exact blk_below (blk_new rfl) h5 | exact blk_below (blk_drew (blk_new rfl)) h5 | exact blk_below (blk_alloc (blk_new rfl) _) h5 | exact blk_below (blk_drew (blk_alloc (blk_new rfl) _)) h5 | exact blk_below (blk_alloc (blk_alloc (blk_new rfl) _) _) h5 | exact blk_below (blk_drew (blk_alloc (blk_alloc (blk_new rfl) _) _)) h5 | exact blk_below (blk_alloc (blk_alloc (blk_alloc (blk_new rfl) _) _) _) h5 | exact blk_below (blk_drew (blk_alloc (blk_alloc (blk_alloc (blk_new rfl) _) _) _)) h5 | exact blk_below (blk_alloc (blk_alloc (blk_alloc (blk_alloc (blk_new rfl) _) _) _) _) h5 | exact blk_below (blk_drew (blk_alloc (blk_alloc (blk_alloc (blk_alloc (blk_new rfl) _) _) _) _)) h5 | exact blk_below (blk_new (by simp)) h5 | exact blk_below (blk_drew (blk_new (by simp))) h5 | exact blk_below (blk_alloc (blk_new (by simp)) _) h5 | exact blk_below (blk_drew (blk_alloc (blk_new (by simp)) _)) h5 | exact blk_below (blk_alloc (blk_alloc (blk_new (by simp)) _) _) h5 | exact blk_below (blk_drew (blk_alloc (blk_alloc (blk_new (by simp)) _) _)) h5 | exact blk_below (blk_alloc (blk_alloc (blk_alloc (blk_new (by simp)) _) _) _) h5 | exact blk_below (blk_drew (blk_alloc (blk_alloc (blk_alloc (blk_new (by simp)) _) _) _)) h5 | exact blk_below (blk_alloc (blk_alloc (blk_alloc (blk_alloc (blk_new (by simp)) _) _) _) _) h5 | exact blk_below (blk_drew (blk_alloc (blk_alloc (blk_alloc (blk_alloc (blk_new (by simp)) _) _) _) _)) h5
            clear fac0 faz0 fac1 faz1 fal fbc0 fbz0 fbc1 fbz1 fbl
            clear Ra Rb
            have fac0 : w5.cell? ⟨gA, 0, none⟩ = some (.int .u64 a) := (cell_of_row _ _ _ _ _ _ ra).trans rfl
            have faz0 := frozen_of_row _ _ 0 _ _ ra
            have fac1 : w5.cell? ⟨gA, 1, none⟩ = some (.int .u64 b) := (cell_of_row _ _ _ _ _ _ ra).trans rfl
            have faz1 := frozen_of_row _ _ 1 _ _ ra
            have fal := blk_lt ra
            have Ra := Lib.hid ra
            clear ra
            have fbc0 : w5.cell? ⟨gB, 0, none⟩ = some (.int .u64 c) := (cell_of_row _ _ _ _ _ _ rb).trans rfl
            have fbz0 := frozen_of_row _ _ 0 _ _ rb
            have fbc1 : w5.cell? ⟨gB, 1, none⟩ = some (.int .u64 d) := (cell_of_row _ _ _ _ _ _ rb).trans rfl
            have fbz1 := frozen_of_row _ _ 1 _ _ rb
            have fbl := blk_lt rb
            have Rb := Lib.hid rb
            clear rb
            clear h5
            go_upto_region 21 with fail
            go_cut [136] (fun q wx => q = .bool false ∧ Hid (wx.heap[gA]? = some (.cells #[.int .u64 a, .int .u64 b] 24 (0, 0))) ∧ Hid (wx.heap[gB]? = some (.cells #[.int .u64 c, .int .u64 d] 24 (0, 0))) ∧ Hid (Below w.heap.size w wx))
            case first =>
              as_aux_lemma =>
                cases t4 with
                | false =>
                  have HK0 : Hid (Keeps [(gA, Obj.cells #[.int .u64 a, .int .u64 b] 24 (0, 0)), (gB, Obj.cells #[.int .u64 c, .int .u64 d] 24 (0, 0)), (w5.heap.size, Obj.cells #[.int .u64 l1, .int .u64 l2] 24 (0, 0))] w (w5.heap.size + 1) _) := keeps3 (blk_alloc Ra.out _) (Nat.lt_succ_of_lt fal) (blk_alloc Rb.out _) (Nat.lt_succ_of_lt fbl) (blk_new (o := .cells #[.int .u64 l1, .int .u64 l2] 24) rfl) (Nat.lt_succ_self _) (by omega) (Nat.le_of_eq (size_alloc _ _).symm) (b_alloc B5.out _)
                  refine region_quiet (C := Keeps [(gA, Obj.cells #[.int .u64 a, .int .u64 b] 24 (0, 0)), (gB, Obj.cells #[.int .u64 c, .int .u64 d] 24 (0, 0)), (w5.heap.size, Obj.cells #[.int .u64 l1, .int .u64 l2] 24 (0, 0))] w (w5.heap.size + 1)) (by kernel_rfl) (by kernel_rfl) (keeps_drew HK0.out) ?_
                  repeat
                    first
                      | (refine q_skip rfl ?_
                         simp only [Act.put, List.setIfInBounds_toArray, List.set_cons_zero, List.set_cons_succ])
                      | (refine q_step rfl ?_ (fun w' hC => ?_) ?_
                         rotate_left
                         · have hC' := Lib.hid hC
                           obtain ⟨c1, c2⟩ := cells2 (k1 hC)
                           obtain ⟨c3, c4⟩ := cells2 (k3 hC)
                           clear hC
                           go_simp
                           first
                           | done
                           | rfl
                           
                         simp only [Act.put, List.setIfInBounds_toArray, List.set_cons_zero, List.set_cons_succ])
                  refine wpQuiet_nil ?_
                  intro w9 hC9
                  have HK9 := Lib.hid hC9
                  clear hC9
                  go_wp2_with fail
                  go_meet
                  exact ⟨rfl, k1 HK9.out, k2 HK9.out, HK9.out.2.2.2⟩
                | true =>
                  have HO8 := Lib.hid (HS7.out rfl)
                  have HK0 : Hid (Keeps [(gA, Obj.cells #[.int .u64 a, .int .u64 b] 24 (0, 0)), (gB, Obj.cells #[.int .u64 c, .int .u64 d] 24 (0, 0)), (w5.heap.size, Obj.cells #[.int .u64 l1, .int .u64 l2] 24 (0, 0))] w (w5.heap.size + 1) _) := keeps3 (blk_alloc Ra.out _) (Nat.lt_succ_of_lt fal) (blk_alloc Rb.out _) (Nat.lt_succ_of_lt fbl) (blk_new (o := .cells #[.int .u64 l1, .int .u64 l2] 24) rfl) (Nat.lt_succ_self _) (by omega) (Nat.le_of_eq (size_alloc _ _).symm) (b_alloc B5.out _)
                  refine region_quiet (C := Keeps [(gA, Obj.cells #[.int .u64 a, .int .u64 b] 24 (0, 0)), (gB, Obj.cells #[.int .u64 c, .int .u64 d] 24 (0, 0)), (w5.heap.size, Obj.cells #[.int .u64 l1, .int .u64 l2] 24 (0, 0))] w (w5.heap.size + 1)) (by kernel_rfl) (by kernel_rfl) (keeps_drew HK0.out) ?_
                  repeat
                    first
                      | (refine q_skip rfl ?_
                         simp only [Act.put, List.setIfInBounds_toArray, List.set_cons_zero, List.set_cons_succ])
                      | (refine q_step rfl ?_ (fun w' hC => ?_) ?_
                         rotate_left
                         · have hC' := Lib.hid hC
                           obtain ⟨c1, c2⟩ := cells2 (k1 hC)
                           obtain ⟨c3, c4⟩ := cells2 (k3 hC)
                           clear hC
                           go_simp
                           first
                           | done
                           | rfl
                           | (go_at_call 16; refine (right_any _ l1 l2 n HL1.out HL2.out HN.out HN2.out).mono ?_; rintro e w2 ⟨rfl, hb⟩; rw [HO8.out]; refine ⟨?_, keeps_below hb hC'.out⟩; rfl)
                         simp only [Act.put, List.setIfInBounds_toArray, List.set_cons_zero, List.set_cons_succ])
                  refine wpQuiet_nil ?_
                  intro w9 hC9
                  have HK9 := Lib.hid hC9
                  clear hC9
                  go_wp2_with fail
                  go_meet
                  exact ⟨rfl, k1 HK9.out, k2 HK9.out, HK9.out.2.2.2⟩
            case rest =>
              obtain ⟨rfl, RA, RB, BB⟩ := hcut
              have fac0 : wc.cell? ⟨gA, 0, none⟩ = some (.int .u64 a) := (cell_of_row _ _ _ _ _ _ RA.out).trans rfl
              have faz0 := frozen_of_row _ _ 0 _ _ RA.out
              have fac1 : wc.cell? ⟨gA, 1, none⟩ = some (.int .u64 b) := (cell_of_row _ _ _ _ _ _ RA.out).trans rfl
              have faz1 := frozen_of_row _ _ 1 _ _ RA.out
              have fal := blk_lt RA.out
              have Ra := RA
              have fbc0 : wc.cell? ⟨gB, 0, none⟩ = some (.int .u64 c) := (cell_of_row _ _ _ _ _ _ RB.out).trans rfl
              have fbz0 := frozen_of_row _ _ 0 _ _ RB.out
              have fbc1 : wc.cell? ⟨gB, 1, none⟩ = some (.int .u64 d) := (cell_of_row _ _ _ _ _ _ RB.out).trans rfl
              have fbz1 := frozen_of_row _ _ 1 _ _ RB.out
              have fbl := blk_lt RB.out
              have Rb := RB
              obtain ⟨X, hX⟩ : ∃ X : Nat, wval a b = X := Int.eq_ofNat_of_zero_le (wval_rng HA.out HB.out).1
              have hX2 : X < 340282366920938463463374607431768211456 := by have := (wval_rng HA.out HB.out).2; omega
              have HX := Lib.hid hX
              have HPT : Hid (parseV ⟨(Lib.decDigits X).toArray⟩ = .tuple #[.agg #[.int .u64 a, .int .u64 b], .bool true]) := by
                show _ = _
                rw [parse_text, wide_of hX HA.out HB.out]
              have HSZ := Lib.hid (text_len hX2)
              obtain ⟨S, hS⟩ : ∃ S : ByteArray, (⟨(Lib.decDigits X).toArray⟩ : ByteArray) = S := ⟨_, rfl⟩
              rw [hS] at HPT HSZ
              have HSS := Lib.hid hS
              obtain ⟨K, hK⟩ : ∃ K : Int, (bitLen (wval a b).toNat : Int) = K := ⟨_, rfl⟩
              have hz := right_all (wval_rng HA.out HB.out).1
              rw [hK] at hz
              have hK1 : 0 ≤ K ∧ K ≤ 128 := by
                have := bitLen_lt (wval a b).toNat 128 (by omega)
                omega
              have HK := Lib.hid hK
              have HZ := Lib.hid hz
              clear hX hX2 hS hK hz
              go_wp2_with fail
              refine (text_any _ a b X HX.out HA.out HB.out).mono ?_
              rintro e w6 ⟨rfl, h6⟩
              rw [HSS.out]
              have B6 := Lib.hid (b_then (by first | exact (BB.out) | exact b_drew (BB.out) | exact (b_alloc (BB.out) _) | exact b_drew (b_alloc (BB.out) _) | exact (b_alloc (b_alloc (BB.out) _) _) | exact b_drew (b_alloc (b_alloc (BB.out) _) _) | exact (b_alloc (b_alloc (b_alloc (BB.out) _) _) _) | exact b_drew (b_alloc (b_alloc (b_alloc (BB.out) _) _) _) | exact (b_alloc (b_alloc (b_alloc (b_alloc (BB.out) _) _) _) _) | exact b_drew (b_alloc (b_alloc (b_alloc (b_alloc (BB.out) _) _) _) _) | exact (b_alloc (b_alloc (b_alloc (b_alloc (b_alloc (BB.out) _) _) _) _) _) | exact b_drew (b_alloc (b_alloc (b_alloc (b_alloc (b_alloc (BB.out) _) _) _) _) _)) h6)
              have ra : w6.heap[gA]? = some (.cells #[.int .u64 a, .int .u64 b] 24 (0, 0)) := by first | exact blk_below (Ra.out) h6 | exact blk_below (blk_drew (Ra.out)) h6 | exact blk_below (blk_alloc (Ra.out) _) h6 | exact blk_below (blk_drew (blk_alloc (Ra.out) _)) h6 | exact blk_below (blk_alloc (blk_alloc (Ra.out) _) _) h6 | exact blk_below (blk_drew (blk_alloc (blk_alloc (Ra.out) _) _)) h6 | exact blk_below (blk_alloc (blk_alloc (blk_alloc (Ra.out) _) _) _) h6 | exact blk_below (blk_drew (blk_alloc (blk_alloc (blk_alloc (Ra.out) _) _) _)) h6 | exact blk_below (blk_alloc (blk_alloc (blk_alloc (blk_alloc (Ra.out) _) _) _) _) h6 | exact blk_below (blk_drew (blk_alloc (blk_alloc (blk_alloc (blk_alloc (Ra.out) _) _) _) _)) h6 | exact blk_below (blk_new rfl) h6 | exact blk_below (blk_drew (blk_new rfl)) h6 | exact blk_below (blk_alloc (blk_new rfl) _) h6 | exact blk_below (blk_drew (blk_alloc (blk_new rfl) _)) h6 | exact blk_below (blk_alloc (blk_alloc (blk_new rfl) _) _) h6 | exact blk_below (blk_drew (blk_alloc (blk_alloc (blk_new rfl) _) _)) h6 | exact blk_below (blk_alloc (blk_alloc (blk_alloc (blk_new rfl) _) _) _) h6 | exact blk_below (blk_drew (blk_alloc (blk_alloc (blk_alloc (blk_new rfl) _) _) _)) h6 | exact blk_below (blk_alloc (blk_alloc (blk_alloc (blk_alloc (blk_new rfl) _) _) _) _) h6 | exact blk_below (blk_drew (blk_alloc (blk_alloc (blk_alloc (blk_alloc (blk_new rfl) _) _) _) _)) h6 | exact blk_below (blk_new (by simp)) h6 | exact blk_below (blk_drew (blk_new (by simp))) h6 | exact blk_below (blk_alloc (blk_new (by simp)) _) h6 | exact blk_below (blk_drew (blk_alloc (blk_new (by simp)) _)) h6 | exact blk_below (blk_alloc (blk_alloc (blk_new (by simp)) _) _) h6 | exact blk_below (blk_drew (blk_alloc (blk_alloc (blk_new (by simp)) _) _)) h6 | exact blk_below (blk_alloc (blk_alloc (blk_alloc (blk_new (by simp)) _) _) _) h6 | exact blk_below (blk_drew (blk_alloc (blk_alloc (blk_alloc (blk_new (by simp)) _) _) _)) h6 | exact blk_below (blk_alloc (blk_alloc (blk_alloc (blk_alloc (blk_new (by simp)) _) _) _) _) h6 | exact blk_below (blk_drew (blk_alloc (blk_alloc (blk_alloc (blk_alloc (blk_new (by simp)) _) _) _) _)) h6
              have rb : w6.heap[gB]? = some (.cells #[.int .u64 c, .int .u64 d] 24 (0, 0)) := by first | exact blk_below (Rb.out) h6 | exact blk_below (blk_drew (Rb.out)) h6 | exact blk_below (blk_alloc (Rb.out) _) h6 | exact blk_below (blk_drew (blk_alloc (Rb.out) _)) h6 | exact blk_below (blk_alloc (blk_alloc (Rb.out) _) _) h6 | exact blk_below (blk_drew (blk_alloc (blk_alloc (Rb.out) _) _)) h6 | exact blk_below (blk_alloc (blk_alloc (blk_alloc (Rb.out) _) _) _) h6 | exact blk_below (blk_drew (blk_alloc (blk_alloc (blk_alloc (Rb.out) _) _) _)) h6 | exact blk_below (blk_alloc (blk_alloc (blk_alloc (blk_alloc (Rb.out) _) _) _) _) h6 | exact blk_below (blk_drew (blk_alloc (blk_alloc (blk_alloc (blk_alloc (Rb.out) _) _) _) _)) h6 | exact blk_below (blk_new rfl) h6 | exact blk_below (blk_drew (blk_new rfl)) h6 | exact blk_below (blk_alloc (blk_new rfl) _) h6 | exact blk_below (blk_drew (blk_alloc (blk_new rfl) _)) h6 | exact blk_below (blk_alloc (blk_alloc (blk_new rfl) _) _) h6 | exact blk_below (blk_drew (blk_alloc (blk_alloc (blk_new rfl) _) _)) h6 | exact blk_below (blk_alloc (blk_alloc (blk_alloc (blk_new rfl) _) _) _) h6 | exact blk_below (blk_drew (blk_alloc (blk_alloc (blk_alloc (blk_new rfl) _) _) _)) h6 | exact blk_below (blk_alloc (blk_alloc (blk_alloc (blk_alloc (blk_new rfl) _) _) _) _) h6 | exact blk_below (blk_drew (blk_alloc (blk_alloc (blk_alloc (blk_alloc (blk_new rfl) _) _) _) _)) h6 | exact blk_below (blk_new (by simp)) h6 | exact blk_below (blk_drew (blk_new (by simp))) h6 | exact blk_below (blk_alloc (blk_new (by simp)) _) h6 | exact blk_below (blk_drew (blk_alloc (blk_new (by simp)) _)) h6 | exact blk_below (blk_alloc (blk_alloc (blk_new (by simp)) _) _) h6 | exact blk_below (blk_drew (blk_alloc (blk_alloc (blk_new (by simp)) _) _)) h6 | exact blk_below (blk_alloc (blk_alloc (blk_alloc (blk_new (by simp)) _) _) _) h6 | exact blk_below (blk_drew (blk_alloc (blk_alloc (blk_alloc (blk_new (by simp)) _) _) _)) h6 | exact blk_below (blk_alloc (blk_alloc (blk_alloc (blk_alloc (blk_new (by simp)) _) _) _) _) h6 | exact blk_below (blk_drew (blk_alloc (blk_alloc (blk_alloc (blk_alloc (blk_new (by simp)) _) _) _) _)) h6
              clear fac0 faz0 fac1 faz1 fal fbc0 fbz0 fbc1 fbz1 fbl
              clear Ra Rb
              have fac0 : w6.cell? ⟨gA, 0, none⟩ = some (.int .u64 a) := (cell_of_row _ _ _ _ _ _ ra).trans rfl
              have faz0 := frozen_of_row _ _ 0 _ _ ra
              have fac1 : w6.cell? ⟨gA, 1, none⟩ = some (.int .u64 b) := (cell_of_row _ _ _ _ _ _ ra).trans rfl
              have faz1 := frozen_of_row _ _ 1 _ _ ra
              have fal := blk_lt ra
              have Ra := Lib.hid ra
              clear ra
              have fbc0 : w6.cell? ⟨gB, 0, none⟩ = some (.int .u64 c) := (cell_of_row _ _ _ _ _ _ rb).trans rfl
              have fbz0 := frozen_of_row _ _ 0 _ _ rb
              have fbc1 : w6.cell? ⟨gB, 1, none⟩ = some (.int .u64 d) := (cell_of_row _ _ _ _ _ _ rb).trans rfl
              have fbz1 := frozen_of_row _ _ 1 _ _ rb
              have fbl := blk_lt rb
              have Rb := Lib.hid rb
              clear rb
              clear h6
              go_wp2_with fail
              refine (parse_any _ S HSZ.out).mono ?_
              rintro e w7 ⟨rfl, h7⟩
              rw [HPT.out]
              have B7 := Lib.hid (b_then (by first | exact (B6.out) | exact b_drew (B6.out) | exact (b_alloc (B6.out) _) | exact b_drew (b_alloc (B6.out) _) | exact (b_alloc (b_alloc (B6.out) _) _) | exact b_drew (b_alloc (b_alloc (B6.out) _) _) | exact (b_alloc (b_alloc (b_alloc (B6.out) _) _) _) | exact b_drew (b_alloc (b_alloc (b_alloc (B6.out) _) _) _) | exact (b_alloc (b_alloc (b_alloc (b_alloc (B6.out) _) _) _) _) | exact b_drew (b_alloc (b_alloc (b_alloc (b_alloc (B6.out) _) _) _) _) | exact (b_alloc (b_alloc (b_alloc (b_alloc (b_alloc (B6.out) _) _) _) _) _) | exact b_drew (b_alloc (b_alloc (b_alloc (b_alloc (b_alloc (B6.out) _) _) _) _) _)) h7)
              have ra : w7.heap[gA]? = some (.cells #[.int .u64 a, .int .u64 b] 24 (0, 0)) := by first | exact blk_below (Ra.out) h7 | exact blk_below (blk_drew (Ra.out)) h7 | exact blk_below (blk_alloc (Ra.out) _) h7 | exact blk_below (blk_drew (blk_alloc (Ra.out) _)) h7 | exact blk_below (blk_alloc (blk_alloc (Ra.out) _) _) h7 | exact blk_below (blk_drew (blk_alloc (blk_alloc (Ra.out) _) _)) h7 | exact blk_below (blk_alloc (blk_alloc (blk_alloc (Ra.out) _) _) _) h7 | exact blk_below (blk_drew (blk_alloc (blk_alloc (blk_alloc (Ra.out) _) _) _)) h7 | exact blk_below (blk_alloc (blk_alloc (blk_alloc (blk_alloc (Ra.out) _) _) _) _) h7 | exact blk_below (blk_drew (blk_alloc (blk_alloc (blk_alloc (blk_alloc (Ra.out) _) _) _) _)) h7 | exact blk_below (blk_new rfl) h7 | exact blk_below (blk_drew (blk_new rfl)) h7 | exact blk_below (blk_alloc (blk_new rfl) _) h7 | exact blk_below (blk_drew (blk_alloc (blk_new rfl) _)) h7 | exact blk_below (blk_alloc (blk_alloc (blk_new rfl) _) _) h7 | exact blk_below (blk_drew (blk_alloc (blk_alloc (blk_new rfl) _) _)) h7 | exact blk_below (blk_alloc (blk_alloc (blk_alloc (blk_new rfl) _) _) _) h7 | exact blk_below (blk_drew (blk_alloc (blk_alloc (blk_alloc (blk_new rfl) _) _) _)) h7 | exact blk_below (blk_alloc (blk_alloc (blk_alloc (blk_alloc (blk_new rfl) _) _) _) _) h7 | exact blk_below (blk_drew (blk_alloc (blk_alloc (blk_alloc (blk_alloc (blk_new rfl) _) _) _) _)) h7 | exact blk_below (blk_new (by simp)) h7 | exact blk_below (blk_drew (blk_new (by simp))) h7 | exact blk_below (blk_alloc (blk_new (by simp)) _) h7 | exact blk_below (blk_drew (blk_alloc (blk_new (by simp)) _)) h7 | exact blk_below (blk_alloc (blk_alloc (blk_new (by simp)) _) _) h7 | exact blk_below (blk_drew (blk_alloc (blk_alloc (blk_new (by simp)) _) _)) h7 | exact blk_below (blk_alloc (blk_alloc (blk_alloc (blk_new (by simp)) _) _) _) h7 | exact blk_below (blk_drew (blk_alloc (blk_alloc (blk_alloc (blk_new (by simp)) _) _) _)) h7 | exact blk_below (blk_alloc (blk_alloc (blk_alloc (blk_alloc (blk_new (by simp)) _) _) _) _) h7 | exact blk_below (blk_drew (blk_alloc (blk_alloc (blk_alloc (blk_alloc (blk_new (by simp)) _) _) _) _)) h7
              have rb : w7.heap[gB]? = some (.cells #[.int .u64 c, .int .u64 d] 24 (0, 0)) := by first | exact blk_below (Rb.out) h7 | exact blk_below (blk_drew (Rb.out)) h7 | exact blk_below (blk_alloc (Rb.out) _) h7 | exact blk_below (blk_drew (blk_alloc (Rb.out) _)) h7 | exact blk_below (blk_alloc (blk_alloc (Rb.out) _) _) h7 | exact blk_below (blk_drew (blk_alloc (blk_alloc (Rb.out) _) _)) h7 | exact blk_below (blk_alloc (blk_alloc (blk_alloc (Rb.out) _) _) _) h7 | exact blk_below (blk_drew (blk_alloc (blk_alloc (blk_alloc (Rb.out) _) _) _)) h7 | exact blk_below (blk_alloc (blk_alloc (blk_alloc (blk_alloc (Rb.out) _) _) _) _) h7 | exact blk_below (blk_drew (blk_alloc (blk_alloc (blk_alloc (blk_alloc (Rb.out) _) _) _) _)) h7 | exact blk_below (blk_new rfl) h7 | exact blk_below (blk_drew (blk_new rfl)) h7 | exact blk_below (blk_alloc (blk_new rfl) _) h7 | exact blk_below (blk_drew (blk_alloc (blk_new rfl) _)) h7 | exact blk_below (blk_alloc (blk_alloc (blk_new rfl) _) _) h7 | exact blk_below (blk_drew (blk_alloc (blk_alloc (blk_new rfl) _) _)) h7 | exact blk_below (blk_alloc (blk_alloc (blk_alloc (blk_new rfl) _) _) _) h7 | exact blk_below (blk_drew (blk_alloc (blk_alloc (blk_alloc (blk_new rfl) _) _) _)) h7 | exact blk_below (blk_alloc (blk_alloc (blk_alloc (blk_alloc (blk_new rfl) _) _) _) _) h7 | exact blk_below (blk_drew (blk_alloc (blk_alloc (blk_alloc (blk_alloc (blk_new rfl) _) _) _) _)) h7 | exact blk_below (blk_new (by simp)) h7 | exact blk_below (blk_drew (blk_new (by simp))) h7 | exact blk_below (blk_alloc (blk_new (by simp)) _) h7 | exact blk_below (blk_drew (blk_alloc (blk_new (by simp)) _)) h7 | exact blk_below (blk_alloc (blk_alloc (blk_new (by simp)) _) _) h7 | exact blk_below (blk_drew (blk_alloc (blk_alloc (blk_new (by simp)) _) _)) h7 | exact blk_below (blk_alloc (blk_alloc (blk_alloc (blk_new (by simp)) _) _) _) h7 | exact blk_below (blk_drew (blk_alloc (blk_alloc (blk_alloc (blk_new (by simp)) _) _) _)) h7 | exact blk_below (blk_alloc (blk_alloc (blk_alloc (blk_alloc (blk_new (by simp)) _) _) _) _) h7 | exact blk_below (blk_drew (blk_alloc (blk_alloc (blk_alloc (blk_alloc (blk_new (by simp)) _) _) _) _)) h7
              clear fac0 faz0 fac1 faz1 fal fbc0 fbz0 fbc1 fbz1 fbl
              clear Ra Rb
              have fac0 : w7.cell? ⟨gA, 0, none⟩ = some (.int .u64 a) := (cell_of_row _ _ _ _ _ _ ra).trans rfl
              have faz0 := frozen_of_row _ _ 0 _ _ ra
              have fac1 : w7.cell? ⟨gA, 1, none⟩ = some (.int .u64 b) := (cell_of_row _ _ _ _ _ _ ra).trans rfl
              have faz1 := frozen_of_row _ _ 1 _ _ ra
              have fal := blk_lt ra
              have Ra := Lib.hid ra
              clear ra
              have fbc0 : w7.cell? ⟨gB, 0, none⟩ = some (.int .u64 c) := (cell_of_row _ _ _ _ _ _ rb).trans rfl
              have fbz0 := frozen_of_row _ _ 0 _ _ rb
              have fbc1 : w7.cell? ⟨gB, 1, none⟩ = some (.int .u64 d) := (cell_of_row _ _ _ _ _ _ rb).trans rfl
              have fbz1 := frozen_of_row _ _ 1 _ _ rb
              have fbl := blk_lt rb
              have Rb := Lib.hid rb
              clear rb
              clear B6
              clear h7
              go_wp2_with fail
              have HK0 : Hid (Keeps [(gA, Obj.cells #[.int .u64 a, .int .u64 b] 24 (0, 0)), (gB, Obj.cells #[.int .u64 c, .int .u64 d] 24 (0, 0)), (w7.heap.size, Obj.cells #[.int .u64 a, .int .u64 b] 24 (0, 0))] w (w7.heap.size + 1) _) := keeps3 (blk_alloc Ra.out _) (Nat.lt_succ_of_lt fal) (blk_alloc Rb.out _) (Nat.lt_succ_of_lt fbl) (blk_new (o := .cells #[.int .u64 a, .int .u64 b] 24) rfl) (Nat.lt_succ_self _) (by omega) (Nat.le_of_eq (size_alloc _ _).symm) (b_alloc B7.out _)
              refine region_quiet (C := Keeps [(gA, Obj.cells #[.int .u64 a, .int .u64 b] 24 (0, 0)), (gB, Obj.cells #[.int .u64 c, .int .u64 d] 24 (0, 0)), (w7.heap.size, Obj.cells #[.int .u64 a, .int .u64 b] 24 (0, 0))] w (w7.heap.size + 1)) (by kernel_rfl) (by kernel_rfl) (keeps_drew HK0.out) ?_
              repeat
                first
                  | (refine q_skip rfl ?_
                     simp only [Act.put, List.setIfInBounds_toArray, List.set_cons_zero, List.set_cons_succ])
                  | (refine q_step rfl ?_ (fun w' hC => ?_) ?_
                     rotate_left
                     · have hC' := Lib.hid hC
                       obtain ⟨c1, c2⟩ := cells2 (k1 hC)
                       obtain ⟨c3, c4⟩ := cells2 (k3 hC)
                       clear hC
                       go_simp
                       first
                       | done
                       | rfl
                       | (go_at_call 22; refine (bits_any _ a b HA.out HB.out).mono ?_; rintro e w2 ⟨rfl, hb⟩; rw [HK.out]; refine ⟨?_, keeps_below hb hC'.out⟩; rfl)
                       | (go_at_call 16; refine (right_any _ a b K HA.out HB.out (by omega) (by omega)).mono ?_; rintro e w2 ⟨rfl, hb⟩; rw [HZ.out]; refine ⟨?_, keeps_below hb hC'.out⟩; rfl)
                     simp only [Act.put, List.setIfInBounds_toArray, List.set_cons_zero, List.set_cons_succ])
              refine wpQuiet_nil ?_
              intro w9 hC9
              have HK9 := Lib.hid hC9
              clear hC9
              go_wp2_with fail
              refine bodyPost_ret (v := .bool true) (by simp [results, Try.results6, go_sem]) rfl ⟨rfl, HK9.out.2.2.2⟩
end Go.Proofs.Ytfckignchmpeaaa.Wi
