/- What must be answered ahead of everything else: a walk. -/
import Derived.Test.YtfckignchmpeaaaDo
import Derived.Test.YtfckignchmpeaaaDq
namespace Go.Proofs.Ytfckignchmpeaaa.Wi
open Go.RowKit K

attribute [local go_sem ↓] eqn24
theorem c_left : leftV (wval 0 1) 64 = .tuple #[.agg #[.int .u64 1, .int .u64 0], .bool true] := by kernel_rfl
theorem c_times : optV (wval 1 0 * 9223372036854775808) (wval 1 0 * 9223372036854775808 < 340282366920938463463374607431768211456) = .tuple #[.agg #[.int .u64 9223372036854775808, .int .u64 0], .bool true] := by kernel_rfl
theorem c_by : wbyV (wval 1 0) 10 = .tuple #[.agg #[.int .u64 0, .int .u64 1844674407370955161], .int .u64 6, .bool true] := by kernel_rfl
theorem c_add : optV (wval 9223372036854775808 0 + wval 9223372036854775808 0) (wval 9223372036854775808 0 + wval 9223372036854775808 0 < 340282366920938463463374607431768211456) = .tuple #[.agg #[.int .u64 0, .int .u64 0], .bool false] := by kernel_rfl
theorem c_parse : parseV ⟨#[49, 56, 52, 52, 54, 55, 52, 52, 48, 55, 51, 55, 48, 57, 53, 53, 49, 54, 49, 54]⟩ = .tuple #[.agg #[.int .u64 1, .int .u64 0], .bool true] := by kernel_rfl
theorem c_text : (⟨(Lib.decDigits 1844674407370955161).toArray⟩ : ByteArray) = ⟨#[49, 56, 52, 52, 54, 55, 52, 52, 48, 55, 51, 55, 48, 57, 53, 53, 49, 54, 49]⟩ := by
  rw [Lib.decDigits_eq, Lib.nDigits_unique 18 _ (by decide) (by decide)]
  rfl
theorem c_bits : (bitLen (wval 9223372036854775808 0).toNat : Int) = 128 := by decide +kernel
theorem c_cmp : cmpI (wval 1 0) (wval 9223372036854775808 0) = -1 := by decide +kernel
theorem u0 : U 0 := by unfold U; decide
theorem u1 : U 1 := by unfold U; decide
theorem u10 : U 10 := by unfold U; decide
theorem uq : U 1844674407370955161 := by unfold U; decide
theorem u63 : U 9223372036854775808 := by unfold U; decide
set_option maxHeartbeats 4000000 in
set_option maxRecDepth 100000 in
theorem first_any (w : World) : Calls Try.prog 8 #[] w (Ret w (.bool true)) := by
  go_enter Try.func8, Try.ntmps8
  go_wp2_with fail
  refine (of1_any _ 1).mono ?_
  rintro e w1 ⟨rfl, h1⟩
  have B1 := Lib.hid (b_then (by first | exact Below.refl _ _ | exact b_alloc (Below.refl _ _) _ | exact b_alloc (b_alloc (Below.refl _ _) _) _ | exact b_alloc (b_alloc (b_alloc (Below.refl _ _) _) _) _ | exact b_drew (Below.refl _ _) | exact b_alloc (b_drew (Below.refl _ _)) _) h1)
  clear h1
  unfold wv
  go_wp2_with fail
  refine (left_any _ 0 1 64 u0 u1 (by decide) (by decide)).mono ?_
  rintro e w2 ⟨rfl, h2⟩
  rw [c_left]
  have B2 := Lib.hid (b_then (by first | exact B1.out | exact b_alloc (B1.out) _ | exact b_alloc (b_alloc (B1.out) _) _ | exact b_alloc (b_alloc (b_alloc (B1.out) _) _) _ | exact b_drew (B1.out) | exact b_alloc (b_drew (B1.out)) _) h2)
  clear B1
  clear h2
  go_wp2_with fail
  refine (times_word_any _ 1 0 9223372036854775808 u1 u0 u63).mono ?_
  rintro e w3 ⟨rfl, h3⟩
  rw [c_times]
  have B3 := Lib.hid (b_then (by first | exact B2.out | exact b_alloc (B2.out) _ | exact b_alloc (b_alloc (B2.out) _) _ | exact b_alloc (b_alloc (b_alloc (B2.out) _) _) _ | exact b_drew (B2.out) | exact b_alloc (b_drew (B2.out)) _) h3)
  have ra : w3.heap[w2.heap.size]? = some (.cells #[.int .u64 1, .int .u64 0] 24 (0, 0)) := by first | exact blk_below (Ra.out) h3 | exact blk_below (blk_alloc (Ra.out) _) h3 | exact blk_below (blk_alloc (blk_alloc (Ra.out) _) _) h3 | exact blk_below (blk_drew (Ra.out)) h3 | exact blk_below (blk_new rfl) h3 | exact blk_below (blk_alloc (blk_new rfl) _) h3 | exact blk_below (blk_new (by simp)) h3 | exact blk_below (blk_alloc (blk_new (by simp)) _) h3 | exact blk_below (blk_alloc (blk_alloc (blk_new (by simp)) _) _) h3
  have fa0 : w3.cell? ⟨w2.heap.size, 0, none⟩ = some (.int .u64 1) := (cell_of_row _ _ _ _ _ _ ra).trans rfl
  have fa1 : w3.cell? ⟨w2.heap.size, 1, none⟩ = some (.int .u64 0) := (cell_of_row _ _ _ _ _ _ ra).trans rfl
  have fa2 := frozen_of_row _ _ 0 _ _ ra
  have fa3 := frozen_of_row _ _ 1 _ _ ra
  have fa4 := blk_lt ra
  have Ra := Lib.hid ra
  clear ra
  clear B2
  clear h3
  go_wp2_with fail
  refine (wby_any _ 1 0 10 u1 u0 u10).mono ?_
  rintro e w4 ⟨rfl, h4⟩
  rw [c_by]
  have B4 := Lib.hid (b_then (by first | exact B3.out | exact b_alloc (B3.out) _ | exact b_alloc (b_alloc (B3.out) _) _ | exact b_alloc (b_alloc (b_alloc (B3.out) _) _) _ | exact b_drew (B3.out) | exact b_alloc (b_drew (B3.out)) _) h4)
  have ra : w4.heap[w2.heap.size]? = some (.cells #[.int .u64 1, .int .u64 0] 24 (0, 0)) := by first | exact blk_below (Ra.out) h4 | exact blk_below (blk_alloc (Ra.out) _) h4 | exact blk_below (blk_alloc (blk_alloc (Ra.out) _) _) h4 | exact blk_below (blk_drew (Ra.out)) h4 | exact blk_below (blk_new rfl) h4 | exact blk_below (blk_alloc (blk_new rfl) _) h4 | exact blk_below (blk_new (by simp)) h4 | exact blk_below (blk_alloc (blk_new (by simp)) _) h4 | exact blk_below (blk_alloc (blk_alloc (blk_new (by simp)) _) _) h4
  have rb : w4.heap[w3.heap.size]? = some (.cells #[.int .u64 9223372036854775808, .int .u64 0] 24 (0, 0)) := by first | exact blk_below (Rb.out) h4 | exact blk_below (blk_alloc (Rb.out) _) h4 | exact blk_below (blk_alloc (blk_alloc (Rb.out) _) _) h4 | exact blk_below (blk_drew (Rb.out)) h4 | exact blk_below (blk_new rfl) h4 | exact blk_below (blk_alloc (blk_new rfl) _) h4 | exact blk_below (blk_new (by simp)) h4 | exact blk_below (blk_alloc (blk_new (by simp)) _) h4 | exact blk_below (blk_alloc (blk_alloc (blk_new (by simp)) _) _) h4
  clear fa0 fa1 fa2 fa3 fa4
  clear Ra
  have fa0 : w4.cell? ⟨w2.heap.size, 0, none⟩ = some (.int .u64 1) := (cell_of_row _ _ _ _ _ _ ra).trans rfl
  have fa1 : w4.cell? ⟨w2.heap.size, 1, none⟩ = some (.int .u64 0) := (cell_of_row _ _ _ _ _ _ ra).trans rfl
  have fa2 := frozen_of_row _ _ 0 _ _ ra
  have fa3 := frozen_of_row _ _ 1 _ _ ra
  have fa4 := blk_lt ra
  have Ra := Lib.hid ra
  clear ra
  have fb0 : w4.cell? ⟨w3.heap.size, 0, none⟩ = some (.int .u64 9223372036854775808) := (cell_of_row _ _ _ _ _ _ rb).trans rfl
  have fb1 : w4.cell? ⟨w3.heap.size, 1, none⟩ = some (.int .u64 0) := (cell_of_row _ _ _ _ _ _ rb).trans rfl
  have fb2 := frozen_of_row _ _ 0 _ _ rb
  have fb3 := frozen_of_row _ _ 1 _ _ rb
  have fb4 := blk_lt rb
  have Rb := Lib.hid rb
  clear rb
  clear B3
  clear h4
  go_wp2_with fail
  refine (add_any _ 9223372036854775808 0 9223372036854775808 0 u63 u0 u63 u0).mono ?_
  rintro e w5 ⟨rfl, h5⟩
  rw [c_add]
  have B5 := Lib.hid (b_then (by first | exact B4.out | exact b_alloc (B4.out) _ | exact b_alloc (b_alloc (B4.out) _) _ | exact b_alloc (b_alloc (b_alloc (B4.out) _) _) _ | exact b_drew (B4.out) | exact b_alloc (b_drew (B4.out)) _) h5)
  have ra : w5.heap[w2.heap.size]? = some (.cells #[.int .u64 1, .int .u64 0] 24 (0, 0)) := by first | exact blk_below (Ra.out) h5 | exact blk_below (blk_alloc (Ra.out) _) h5 | exact blk_below (blk_alloc (blk_alloc (Ra.out) _) _) h5 | exact blk_below (blk_drew (Ra.out)) h5 | exact blk_below (blk_new rfl) h5 | exact blk_below (blk_alloc (blk_new rfl) _) h5 | exact blk_below (blk_new (by simp)) h5 | exact blk_below (blk_alloc (blk_new (by simp)) _) h5 | exact blk_below (blk_alloc (blk_alloc (blk_new (by simp)) _) _) h5
  have rb : w5.heap[w3.heap.size]? = some (.cells #[.int .u64 9223372036854775808, .int .u64 0] 24 (0, 0)) := by first | exact blk_below (Rb.out) h5 | exact blk_below (blk_alloc (Rb.out) _) h5 | exact blk_below (blk_alloc (blk_alloc (Rb.out) _) _) h5 | exact blk_below (blk_drew (Rb.out)) h5 | exact blk_below (blk_new rfl) h5 | exact blk_below (blk_alloc (blk_new rfl) _) h5 | exact blk_below (blk_new (by simp)) h5 | exact blk_below (blk_alloc (blk_new (by simp)) _) h5 | exact blk_below (blk_alloc (blk_alloc (blk_new (by simp)) _) _) h5
  have rq : w5.heap[w4.heap.size]? = some (.cells #[.int .u64 0, .int .u64 1844674407370955161] 24 (0, 0)) := by first | exact blk_below (Rq.out) h5 | exact blk_below (blk_alloc (Rq.out) _) h5 | exact blk_below (blk_alloc (blk_alloc (Rq.out) _) _) h5 | exact blk_below (blk_drew (Rq.out)) h5 | exact blk_below (blk_new rfl) h5 | exact blk_below (blk_alloc (blk_new rfl) _) h5 | exact blk_below (blk_new (by simp)) h5 | exact blk_below (blk_alloc (blk_new (by simp)) _) h5 | exact blk_below (blk_alloc (blk_alloc (blk_new (by simp)) _) _) h5
  clear fa0 fa1 fa2 fa3 fa4 fb0 fb1 fb2 fb3 fb4
  clear Ra Rb
  have fa0 : w5.cell? ⟨w2.heap.size, 0, none⟩ = some (.int .u64 1) := (cell_of_row _ _ _ _ _ _ ra).trans rfl
  have fa1 : w5.cell? ⟨w2.heap.size, 1, none⟩ = some (.int .u64 0) := (cell_of_row _ _ _ _ _ _ ra).trans rfl
  have fa2 := frozen_of_row _ _ 0 _ _ ra
  have fa3 := frozen_of_row _ _ 1 _ _ ra
  have fa4 := blk_lt ra
  have Ra := Lib.hid ra
  clear ra
  have fb0 : w5.cell? ⟨w3.heap.size, 0, none⟩ = some (.int .u64 9223372036854775808) := (cell_of_row _ _ _ _ _ _ rb).trans rfl
  have fb1 : w5.cell? ⟨w3.heap.size, 1, none⟩ = some (.int .u64 0) := (cell_of_row _ _ _ _ _ _ rb).trans rfl
  have fb2 := frozen_of_row _ _ 0 _ _ rb
  have fb3 := frozen_of_row _ _ 1 _ _ rb
  have fb4 := blk_lt rb
  have Rb := Lib.hid rb
  clear rb
  have fq0 : w5.cell? ⟨w4.heap.size, 0, none⟩ = some (.int .u64 0) := (cell_of_row _ _ _ _ _ _ rq).trans rfl
  have fq1 : w5.cell? ⟨w4.heap.size, 1, none⟩ = some (.int .u64 1844674407370955161) := (cell_of_row _ _ _ _ _ _ rq).trans rfl
  have fq2 := frozen_of_row _ _ 0 _ _ rq
  have fq3 := frozen_of_row _ _ 1 _ _ rq
  have fq4 := blk_lt rq
  have Rq := Lib.hid rq
  clear rq
  clear B4
  clear h5
  go_wp2_with fail
  refine (parse_any _ _ (by decide)).mono ?_
  rintro e w6 ⟨rfl, h6⟩
  rw [c_parse]
  have B6 := Lib.hid (b_then (by first | exact B5.out | exact b_alloc (B5.out) _ | exact b_alloc (b_alloc (B5.out) _) _ | exact b_alloc (b_alloc (b_alloc (B5.out) _) _) _ | exact b_drew (B5.out) | exact b_alloc (b_drew (B5.out)) _) h6)
  have ra : w6.heap[w2.heap.size]? = some (.cells #[.int .u64 1, .int .u64 0] 24 (0, 0)) := by first | exact blk_below (Ra.out) h6 | exact blk_below (blk_alloc (Ra.out) _) h6 | exact blk_below (blk_alloc (blk_alloc (Ra.out) _) _) h6 | exact blk_below (blk_drew (Ra.out)) h6 | exact blk_below (blk_new rfl) h6 | exact blk_below (blk_alloc (blk_new rfl) _) h6 | exact blk_below (blk_new (by simp)) h6 | exact blk_below (blk_alloc (blk_new (by simp)) _) h6 | exact blk_below (blk_alloc (blk_alloc (blk_new (by simp)) _) _) h6
  have rb : w6.heap[w3.heap.size]? = some (.cells #[.int .u64 9223372036854775808, .int .u64 0] 24 (0, 0)) := by first | exact blk_below (Rb.out) h6 | exact blk_below (blk_alloc (Rb.out) _) h6 | exact blk_below (blk_alloc (blk_alloc (Rb.out) _) _) h6 | exact blk_below (blk_drew (Rb.out)) h6 | exact blk_below (blk_new rfl) h6 | exact blk_below (blk_alloc (blk_new rfl) _) h6 | exact blk_below (blk_new (by simp)) h6 | exact blk_below (blk_alloc (blk_new (by simp)) _) h6 | exact blk_below (blk_alloc (blk_alloc (blk_new (by simp)) _) _) h6
  have rq : w6.heap[w4.heap.size]? = some (.cells #[.int .u64 0, .int .u64 1844674407370955161] 24 (0, 0)) := by first | exact blk_below (Rq.out) h6 | exact blk_below (blk_alloc (Rq.out) _) h6 | exact blk_below (blk_alloc (blk_alloc (Rq.out) _) _) h6 | exact blk_below (blk_drew (Rq.out)) h6 | exact blk_below (blk_new rfl) h6 | exact blk_below (blk_alloc (blk_new rfl) _) h6 | exact blk_below (blk_new (by simp)) h6 | exact blk_below (blk_alloc (blk_new (by simp)) _) h6 | exact blk_below (blk_alloc (blk_alloc (blk_new (by simp)) _) _) h6
  have rc : w6.heap[w5.heap.size]? = some (.cells #[.int .u64 0, .int .u64 0] 24 (0, 0)) := by first | exact blk_below (Rc.out) h6 | exact blk_below (blk_alloc (Rc.out) _) h6 | exact blk_below (blk_alloc (blk_alloc (Rc.out) _) _) h6 | exact blk_below (blk_drew (Rc.out)) h6 | exact blk_below (blk_new rfl) h6 | exact blk_below (blk_alloc (blk_new rfl) _) h6 | exact blk_below (blk_new (by simp)) h6 | exact blk_below (blk_alloc (blk_new (by simp)) _) h6 | exact blk_below (blk_alloc (blk_alloc (blk_new (by simp)) _) _) h6
  clear fa0 fa1 fa2 fa3 fa4 fb0 fb1 fb2 fb3 fb4 fq0 fq1 fq2 fq3 fq4
  clear Ra Rb Rq
  have fa0 : w6.cell? ⟨w2.heap.size, 0, none⟩ = some (.int .u64 1) := (cell_of_row _ _ _ _ _ _ ra).trans rfl
  have fa1 : w6.cell? ⟨w2.heap.size, 1, none⟩ = some (.int .u64 0) := (cell_of_row _ _ _ _ _ _ ra).trans rfl
  have fa2 := frozen_of_row _ _ 0 _ _ ra
  have fa3 := frozen_of_row _ _ 1 _ _ ra
  have fa4 := blk_lt ra
  have Ra := Lib.hid ra
  clear ra
  have fb0 : w6.cell? ⟨w3.heap.size, 0, none⟩ = some (.int .u64 9223372036854775808) := (cell_of_row _ _ _ _ _ _ rb).trans rfl
  have fb1 : w6.cell? ⟨w3.heap.size, 1, none⟩ = some (.int .u64 0) := (cell_of_row _ _ _ _ _ _ rb).trans rfl
  have fb2 := frozen_of_row _ _ 0 _ _ rb
  have fb3 := frozen_of_row _ _ 1 _ _ rb
  have fb4 := blk_lt rb
  have Rb := Lib.hid rb
  clear rb
  have fq0 : w6.cell? ⟨w4.heap.size, 0, none⟩ = some (.int .u64 0) := (cell_of_row _ _ _ _ _ _ rq).trans rfl
  have fq1 : w6.cell? ⟨w4.heap.size, 1, none⟩ = some (.int .u64 1844674407370955161) := (cell_of_row _ _ _ _ _ _ rq).trans rfl
  have fq2 := frozen_of_row _ _ 0 _ _ rq
  have fq3 := frozen_of_row _ _ 1 _ _ rq
  have fq4 := blk_lt rq
  have Rq := Lib.hid rq
  clear rq
  have fc0 : w6.cell? ⟨w5.heap.size, 0, none⟩ = some (.int .u64 0) := (cell_of_row _ _ _ _ _ _ rc).trans rfl
  have fc1 : w6.cell? ⟨w5.heap.size, 1, none⟩ = some (.int .u64 0) := (cell_of_row _ _ _ _ _ _ rc).trans rfl
  have fc2 := frozen_of_row _ _ 0 _ _ rc
  have fc3 := frozen_of_row _ _ 1 _ _ rc
  have fc4 := blk_lt rc
  have Rc := Lib.hid rc
  clear rc
  clear B5
  clear h6
  go_wp2_with fail
  refine (text_any _ 0 1844674407370955161 1844674407370955161 (by decide) u0 uq).mono ?_
  rintro e w7 ⟨rfl, h7⟩
  rw [c_text]
  have B7 := Lib.hid (b_then (by first | exact B6.out | exact b_alloc (B6.out) _ | exact b_alloc (b_alloc (B6.out) _) _ | exact b_alloc (b_alloc (b_alloc (B6.out) _) _) _ | exact b_drew (B6.out) | exact b_alloc (b_drew (B6.out)) _) h7)
  have ra : w7.heap[w2.heap.size]? = some (.cells #[.int .u64 1, .int .u64 0] 24 (0, 0)) := by first | exact blk_below (Ra.out) h7 | exact blk_below (blk_alloc (Ra.out) _) h7 | exact blk_below (blk_alloc (blk_alloc (Ra.out) _) _) h7 | exact blk_below (blk_drew (Ra.out)) h7 | exact blk_below (blk_new rfl) h7 | exact blk_below (blk_alloc (blk_new rfl) _) h7 | exact blk_below (blk_new (by simp)) h7 | exact blk_below (blk_alloc (blk_new (by simp)) _) h7 | exact blk_below (blk_alloc (blk_alloc (blk_new (by simp)) _) _) h7
  have rb : w7.heap[w3.heap.size]? = some (.cells #[.int .u64 9223372036854775808, .int .u64 0] 24 (0, 0)) := by first | exact blk_below (Rb.out) h7 | exact blk_below (blk_alloc (Rb.out) _) h7 | exact blk_below (blk_alloc (blk_alloc (Rb.out) _) _) h7 | exact blk_below (blk_drew (Rb.out)) h7 | exact blk_below (blk_new rfl) h7 | exact blk_below (blk_alloc (blk_new rfl) _) h7 | exact blk_below (blk_new (by simp)) h7 | exact blk_below (blk_alloc (blk_new (by simp)) _) h7 | exact blk_below (blk_alloc (blk_alloc (blk_new (by simp)) _) _) h7
  have rq : w7.heap[w4.heap.size]? = some (.cells #[.int .u64 0, .int .u64 1844674407370955161] 24 (0, 0)) := by first | exact blk_below (Rq.out) h7 | exact blk_below (blk_alloc (Rq.out) _) h7 | exact blk_below (blk_alloc (blk_alloc (Rq.out) _) _) h7 | exact blk_below (blk_drew (Rq.out)) h7 | exact blk_below (blk_new rfl) h7 | exact blk_below (blk_alloc (blk_new rfl) _) h7 | exact blk_below (blk_new (by simp)) h7 | exact blk_below (blk_alloc (blk_new (by simp)) _) h7 | exact blk_below (blk_alloc (blk_alloc (blk_new (by simp)) _) _) h7
  have rc : w7.heap[w5.heap.size]? = some (.cells #[.int .u64 0, .int .u64 0] 24 (0, 0)) := by first | exact blk_below (Rc.out) h7 | exact blk_below (blk_alloc (Rc.out) _) h7 | exact blk_below (blk_alloc (blk_alloc (Rc.out) _) _) h7 | exact blk_below (blk_drew (Rc.out)) h7 | exact blk_below (blk_new rfl) h7 | exact blk_below (blk_alloc (blk_new rfl) _) h7 | exact blk_below (blk_new (by simp)) h7 | exact blk_below (blk_alloc (blk_new (by simp)) _) h7 | exact blk_below (blk_alloc (blk_alloc (blk_new (by simp)) _) _) h7
  have rp : w7.heap[w6.heap.size]? = some (.cells #[.int .u64 1, .int .u64 0] 24 (0, 0)) := by first | exact blk_below (Rp.out) h7 | exact blk_below (blk_alloc (Rp.out) _) h7 | exact blk_below (blk_alloc (blk_alloc (Rp.out) _) _) h7 | exact blk_below (blk_drew (Rp.out)) h7 | exact blk_below (blk_new rfl) h7 | exact blk_below (blk_alloc (blk_new rfl) _) h7 | exact blk_below (blk_new (by simp)) h7 | exact blk_below (blk_alloc (blk_new (by simp)) _) h7 | exact blk_below (blk_alloc (blk_alloc (blk_new (by simp)) _) _) h7
  clear fa0 fa1 fa2 fa3 fa4 fb0 fb1 fb2 fb3 fb4 fq0 fq1 fq2 fq3 fq4 fc0 fc1 fc2 fc3 fc4
  clear Ra Rb Rq Rc
  have fa0 : w7.cell? ⟨w2.heap.size, 0, none⟩ = some (.int .u64 1) := (cell_of_row _ _ _ _ _ _ ra).trans rfl
  have fa1 : w7.cell? ⟨w2.heap.size, 1, none⟩ = some (.int .u64 0) := (cell_of_row _ _ _ _ _ _ ra).trans rfl
  have fa2 := frozen_of_row _ _ 0 _ _ ra
  have fa3 := frozen_of_row _ _ 1 _ _ ra
  have fa4 := blk_lt ra
  have Ra := Lib.hid ra
  clear ra
  have fb0 : w7.cell? ⟨w3.heap.size, 0, none⟩ = some (.int .u64 9223372036854775808) := (cell_of_row _ _ _ _ _ _ rb).trans rfl
  have fb1 : w7.cell? ⟨w3.heap.size, 1, none⟩ = some (.int .u64 0) := (cell_of_row _ _ _ _ _ _ rb).trans rfl
  have fb2 := frozen_of_row _ _ 0 _ _ rb
  have fb3 := frozen_of_row _ _ 1 _ _ rb
  have fb4 := blk_lt rb
  have Rb := Lib.hid rb
  clear rb
  have fq0 : w7.cell? ⟨w4.heap.size, 0, none⟩ = some (.int .u64 0) := (cell_of_row _ _ _ _ _ _ rq).trans rfl
  have fq1 : w7.cell? ⟨w4.heap.size, 1, none⟩ = some (.int .u64 1844674407370955161) := (cell_of_row _ _ _ _ _ _ rq).trans rfl
  have fq2 := frozen_of_row _ _ 0 _ _ rq
  have fq3 := frozen_of_row _ _ 1 _ _ rq
  have fq4 := blk_lt rq
  have Rq := Lib.hid rq
  clear rq
  have fc0 : w7.cell? ⟨w5.heap.size, 0, none⟩ = some (.int .u64 0) := (cell_of_row _ _ _ _ _ _ rc).trans rfl
  have fc1 : w7.cell? ⟨w5.heap.size, 1, none⟩ = some (.int .u64 0) := (cell_of_row _ _ _ _ _ _ rc).trans rfl
  have fc2 := frozen_of_row _ _ 0 _ _ rc
  have fc3 := frozen_of_row _ _ 1 _ _ rc
  have fc4 := blk_lt rc
  have Rc := Lib.hid rc
  clear rc
  have fp0 : w7.cell? ⟨w6.heap.size, 0, none⟩ = some (.int .u64 1) := (cell_of_row _ _ _ _ _ _ rp).trans rfl
  have fp1 : w7.cell? ⟨w6.heap.size, 1, none⟩ = some (.int .u64 0) := (cell_of_row _ _ _ _ _ _ rp).trans rfl
  have fp2 := frozen_of_row _ _ 0 _ _ rp
  have fp3 := frozen_of_row _ _ 1 _ _ rp
  have fp4 := blk_lt rp
  have Rp := Lib.hid rp
  clear rp
  clear B6
  clear h7
  go_wp2_with fail
  refine (bits_any _ 9223372036854775808 0 u63 u0).mono ?_
  rintro e w8 ⟨rfl, h8⟩
  rw [c_bits]
  have B8 := Lib.hid (b_then (by first | exact B7.out | exact b_alloc (B7.out) _ | exact b_alloc (b_alloc (B7.out) _) _ | exact b_alloc (b_alloc (b_alloc (B7.out) _) _) _ | exact b_drew (B7.out) | exact b_alloc (b_drew (B7.out)) _) h8)
  have ra : w8.heap[w2.heap.size]? = some (.cells #[.int .u64 1, .int .u64 0] 24 (0, 0)) := by first | exact blk_below (Ra.out) h8 | exact blk_below (blk_alloc (Ra.out) _) h8 | exact blk_below (blk_alloc (blk_alloc (Ra.out) _) _) h8 | exact blk_below (blk_drew (Ra.out)) h8 | exact blk_below (blk_new rfl) h8 | exact blk_below (blk_alloc (blk_new rfl) _) h8 | exact blk_below (blk_new (by simp)) h8 | exact blk_below (blk_alloc (blk_new (by simp)) _) h8 | exact blk_below (blk_alloc (blk_alloc (blk_new (by simp)) _) _) h8
  have rb : w8.heap[w3.heap.size]? = some (.cells #[.int .u64 9223372036854775808, .int .u64 0] 24 (0, 0)) := by first | exact blk_below (Rb.out) h8 | exact blk_below (blk_alloc (Rb.out) _) h8 | exact blk_below (blk_alloc (blk_alloc (Rb.out) _) _) h8 | exact blk_below (blk_drew (Rb.out)) h8 | exact blk_below (blk_new rfl) h8 | exact blk_below (blk_alloc (blk_new rfl) _) h8 | exact blk_below (blk_new (by simp)) h8 | exact blk_below (blk_alloc (blk_new (by simp)) _) h8 | exact blk_below (blk_alloc (blk_alloc (blk_new (by simp)) _) _) h8
  have rq : w8.heap[w4.heap.size]? = some (.cells #[.int .u64 0, .int .u64 1844674407370955161] 24 (0, 0)) := by first | exact blk_below (Rq.out) h8 | exact blk_below (blk_alloc (Rq.out) _) h8 | exact blk_below (blk_alloc (blk_alloc (Rq.out) _) _) h8 | exact blk_below (blk_drew (Rq.out)) h8 | exact blk_below (blk_new rfl) h8 | exact blk_below (blk_alloc (blk_new rfl) _) h8 | exact blk_below (blk_new (by simp)) h8 | exact blk_below (blk_alloc (blk_new (by simp)) _) h8 | exact blk_below (blk_alloc (blk_alloc (blk_new (by simp)) _) _) h8
  have rc : w8.heap[w5.heap.size]? = some (.cells #[.int .u64 0, .int .u64 0] 24 (0, 0)) := by first | exact blk_below (Rc.out) h8 | exact blk_below (blk_alloc (Rc.out) _) h8 | exact blk_below (blk_alloc (blk_alloc (Rc.out) _) _) h8 | exact blk_below (blk_drew (Rc.out)) h8 | exact blk_below (blk_new rfl) h8 | exact blk_below (blk_alloc (blk_new rfl) _) h8 | exact blk_below (blk_new (by simp)) h8 | exact blk_below (blk_alloc (blk_new (by simp)) _) h8 | exact blk_below (blk_alloc (blk_alloc (blk_new (by simp)) _) _) h8
  have rp : w8.heap[w6.heap.size]? = some (.cells #[.int .u64 1, .int .u64 0] 24 (0, 0)) := by first | exact blk_below (Rp.out) h8 | exact blk_below (blk_alloc (Rp.out) _) h8 | exact blk_below (blk_alloc (blk_alloc (Rp.out) _) _) h8 | exact blk_below (blk_drew (Rp.out)) h8 | exact blk_below (blk_new rfl) h8 | exact blk_below (blk_alloc (blk_new rfl) _) h8 | exact blk_below (blk_new (by simp)) h8 | exact blk_below (blk_alloc (blk_new (by simp)) _) h8 | exact blk_below (blk_alloc (blk_alloc (blk_new (by simp)) _) _) h8
  clear fa0 fa1 fa2 fa3 fa4 fb0 fb1 fb2 fb3 fb4 fq0 fq1 fq2 fq3 fq4 fc0 fc1 fc2 fc3 fc4 fp0 fp1 fp2 fp3 fp4
  clear Ra Rb Rq Rc Rp
  have fa0 : w8.cell? ⟨w2.heap.size, 0, none⟩ = some (.int .u64 1) := (cell_of_row _ _ _ _ _ _ ra).trans rfl
  have fa1 : w8.cell? ⟨w2.heap.size, 1, none⟩ = some (.int .u64 0) := (cell_of_row _ _ _ _ _ _ ra).trans rfl
  have fa2 := frozen_of_row _ _ 0 _ _ ra
  have fa3 := frozen_of_row _ _ 1 _ _ ra
  have fa4 := blk_lt ra
  have Ra := Lib.hid ra
  clear ra
  have fb0 : w8.cell? ⟨w3.heap.size, 0, none⟩ = some (.int .u64 9223372036854775808) := (cell_of_row _ _ _ _ _ _ rb).trans rfl
  have fb1 : w8.cell? ⟨w3.heap.size, 1, none⟩ = some (.int .u64 0) := (cell_of_row _ _ _ _ _ _ rb).trans rfl
  have fb2 := frozen_of_row _ _ 0 _ _ rb
  have fb3 := frozen_of_row _ _ 1 _ _ rb
  have fb4 := blk_lt rb
  have Rb := Lib.hid rb
  clear rb
  have fq0 : w8.cell? ⟨w4.heap.size, 0, none⟩ = some (.int .u64 0) := (cell_of_row _ _ _ _ _ _ rq).trans rfl
  have fq1 : w8.cell? ⟨w4.heap.size, 1, none⟩ = some (.int .u64 1844674407370955161) := (cell_of_row _ _ _ _ _ _ rq).trans rfl
  have fq2 := frozen_of_row _ _ 0 _ _ rq
  have fq3 := frozen_of_row _ _ 1 _ _ rq
  have fq4 := blk_lt rq
  have Rq := Lib.hid rq
  clear rq
  have fc0 : w8.cell? ⟨w5.heap.size, 0, none⟩ = some (.int .u64 0) := (cell_of_row _ _ _ _ _ _ rc).trans rfl
  have fc1 : w8.cell? ⟨w5.heap.size, 1, none⟩ = some (.int .u64 0) := (cell_of_row _ _ _ _ _ _ rc).trans rfl
  have fc2 := frozen_of_row _ _ 0 _ _ rc
  have fc3 := frozen_of_row _ _ 1 _ _ rc
  have fc4 := blk_lt rc
  have Rc := Lib.hid rc
  clear rc
  have fp0 : w8.cell? ⟨w6.heap.size, 0, none⟩ = some (.int .u64 1) := (cell_of_row _ _ _ _ _ _ rp).trans rfl
  have fp1 : w8.cell? ⟨w6.heap.size, 1, none⟩ = some (.int .u64 0) := (cell_of_row _ _ _ _ _ _ rp).trans rfl
  have fp2 := frozen_of_row _ _ 0 _ _ rp
  have fp3 := frozen_of_row _ _ 1 _ _ rp
  have fp4 := blk_lt rp
  have Rp := Lib.hid rp
  clear rp
  clear B7
  clear h8
  go_wp2_with fail
  refine (compare_any _ 1 0 9223372036854775808 0 u1 u0 u63 u0).mono ?_
  rintro e w9 ⟨rfl, h9⟩
  rw [c_cmp]
  have B9 := Lib.hid (b_then (by first | exact B8.out | exact b_alloc (B8.out) _ | exact b_alloc (b_alloc (B8.out) _) _ | exact b_alloc (b_alloc (b_alloc (B8.out) _) _) _ | exact b_drew (B8.out) | exact b_alloc (b_drew (B8.out)) _) h9)
  have ra : w9.heap[w2.heap.size]? = some (.cells #[.int .u64 1, .int .u64 0] 24 (0, 0)) := by first | exact blk_below (Ra.out) h9 | exact blk_below (blk_alloc (Ra.out) _) h9 | exact blk_below (blk_alloc (blk_alloc (Ra.out) _) _) h9 | exact blk_below (blk_drew (Ra.out)) h9 | exact blk_below (blk_new rfl) h9 | exact blk_below (blk_alloc (blk_new rfl) _) h9 | exact blk_below (blk_new (by simp)) h9 | exact blk_below (blk_alloc (blk_new (by simp)) _) h9 | exact blk_below (blk_alloc (blk_alloc (blk_new (by simp)) _) _) h9
  have rb : w9.heap[w3.heap.size]? = some (.cells #[.int .u64 9223372036854775808, .int .u64 0] 24 (0, 0)) := by first | exact blk_below (Rb.out) h9 | exact blk_below (blk_alloc (Rb.out) _) h9 | exact blk_below (blk_alloc (blk_alloc (Rb.out) _) _) h9 | exact blk_below (blk_drew (Rb.out)) h9 | exact blk_below (blk_new rfl) h9 | exact blk_below (blk_alloc (blk_new rfl) _) h9 | exact blk_below (blk_new (by simp)) h9 | exact blk_below (blk_alloc (blk_new (by simp)) _) h9 | exact blk_below (blk_alloc (blk_alloc (blk_new (by simp)) _) _) h9
  have rq : w9.heap[w4.heap.size]? = some (.cells #[.int .u64 0, .int .u64 1844674407370955161] 24 (0, 0)) := by first | exact blk_below (Rq.out) h9 | exact blk_below (blk_alloc (Rq.out) _) h9 | exact blk_below (blk_alloc (blk_alloc (Rq.out) _) _) h9 | exact blk_below (blk_drew (Rq.out)) h9 | exact blk_below (blk_new rfl) h9 | exact blk_below (blk_alloc (blk_new rfl) _) h9 | exact blk_below (blk_new (by simp)) h9 | exact blk_below (blk_alloc (blk_new (by simp)) _) h9 | exact blk_below (blk_alloc (blk_alloc (blk_new (by simp)) _) _) h9
  have rc : w9.heap[w5.heap.size]? = some (.cells #[.int .u64 0, .int .u64 0] 24 (0, 0)) := by first | exact blk_below (Rc.out) h9 | exact blk_below (blk_alloc (Rc.out) _) h9 | exact blk_below (blk_alloc (blk_alloc (Rc.out) _) _) h9 | exact blk_below (blk_drew (Rc.out)) h9 | exact blk_below (blk_new rfl) h9 | exact blk_below (blk_alloc (blk_new rfl) _) h9 | exact blk_below (blk_new (by simp)) h9 | exact blk_below (blk_alloc (blk_new (by simp)) _) h9 | exact blk_below (blk_alloc (blk_alloc (blk_new (by simp)) _) _) h9
  have rp : w9.heap[w6.heap.size]? = some (.cells #[.int .u64 1, .int .u64 0] 24 (0, 0)) := by first | exact blk_below (Rp.out) h9 | exact blk_below (blk_alloc (Rp.out) _) h9 | exact blk_below (blk_alloc (blk_alloc (Rp.out) _) _) h9 | exact blk_below (blk_drew (Rp.out)) h9 | exact blk_below (blk_new rfl) h9 | exact blk_below (blk_alloc (blk_new rfl) _) h9 | exact blk_below (blk_new (by simp)) h9 | exact blk_below (blk_alloc (blk_new (by simp)) _) h9 | exact blk_below (blk_alloc (blk_alloc (blk_new (by simp)) _) _) h9
  clear fa0 fa1 fa2 fa3 fa4 fb0 fb1 fb2 fb3 fb4 fq0 fq1 fq2 fq3 fq4 fc0 fc1 fc2 fc3 fc4 fp0 fp1 fp2 fp3 fp4
  clear Ra Rb Rq Rc Rp
  have fa0 : w9.cell? ⟨w2.heap.size, 0, none⟩ = some (.int .u64 1) := (cell_of_row _ _ _ _ _ _ ra).trans rfl
  have fa1 : w9.cell? ⟨w2.heap.size, 1, none⟩ = some (.int .u64 0) := (cell_of_row _ _ _ _ _ _ ra).trans rfl
  have fa2 := frozen_of_row _ _ 0 _ _ ra
  have fa3 := frozen_of_row _ _ 1 _ _ ra
  have fa4 := blk_lt ra
  have Ra := Lib.hid ra
  clear ra
  have fb0 : w9.cell? ⟨w3.heap.size, 0, none⟩ = some (.int .u64 9223372036854775808) := (cell_of_row _ _ _ _ _ _ rb).trans rfl
  have fb1 : w9.cell? ⟨w3.heap.size, 1, none⟩ = some (.int .u64 0) := (cell_of_row _ _ _ _ _ _ rb).trans rfl
  have fb2 := frozen_of_row _ _ 0 _ _ rb
  have fb3 := frozen_of_row _ _ 1 _ _ rb
  have fb4 := blk_lt rb
  have Rb := Lib.hid rb
  clear rb
  have fq0 : w9.cell? ⟨w4.heap.size, 0, none⟩ = some (.int .u64 0) := (cell_of_row _ _ _ _ _ _ rq).trans rfl
  have fq1 : w9.cell? ⟨w4.heap.size, 1, none⟩ = some (.int .u64 1844674407370955161) := (cell_of_row _ _ _ _ _ _ rq).trans rfl
  have fq2 := frozen_of_row _ _ 0 _ _ rq
  have fq3 := frozen_of_row _ _ 1 _ _ rq
  have fq4 := blk_lt rq
  have Rq := Lib.hid rq
  clear rq
  have fc0 : w9.cell? ⟨w5.heap.size, 0, none⟩ = some (.int .u64 0) := (cell_of_row _ _ _ _ _ _ rc).trans rfl
  have fc1 : w9.cell? ⟨w5.heap.size, 1, none⟩ = some (.int .u64 0) := (cell_of_row _ _ _ _ _ _ rc).trans rfl
  have fc2 := frozen_of_row _ _ 0 _ _ rc
  have fc3 := frozen_of_row _ _ 1 _ _ rc
  have fc4 := blk_lt rc
  have Rc := Lib.hid rc
  clear rc
  have fp0 : w9.cell? ⟨w6.heap.size, 0, none⟩ = some (.int .u64 1) := (cell_of_row _ _ _ _ _ _ rp).trans rfl
  have fp1 : w9.cell? ⟨w6.heap.size, 1, none⟩ = some (.int .u64 0) := (cell_of_row _ _ _ _ _ _ rp).trans rfl
  have fp2 := frozen_of_row _ _ 0 _ _ rp
  have fp3 := frozen_of_row _ _ 1 _ _ rp
  have fp4 := blk_lt rp
  have Rp := Lib.hid rp
  clear rp
  clear B8
  clear h9
  go_wp2_with fail
  refine bodyPost_ret (v := .bool true) (by simp [results, Try.results8, go_sem]) rfl ⟨rfl, B9.out⟩
end Go.Proofs.Ytfckignchmpeaaa.Wi
