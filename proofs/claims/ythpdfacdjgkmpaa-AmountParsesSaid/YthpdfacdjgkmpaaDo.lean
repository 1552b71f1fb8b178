/- Wide numbers' texts: a walk. -/
import Derived.Test.YthpdfacdjgkmpaaDn
import Derived.Lib.ItoaNum
import Derived.Laws.BytesString
namespace Go.Proofs.Ythpdfacdjgkmpaa.Wi
open Go.RowKit K

/-- Forty bytes. -/
def fb (f : Nat → Nat) : Array Value := ((List.range 40).map fun i => Value.int .u8 (f i)).toArray
def BlkB (w : World) (g : Nat) (f : Nat → Nat) : Prop := w.heap[g]? = some (.cells (fb f) 91 (0, 0))
theorem fb_size (f : Nat → Nat) : (fb f).size = 40 := by simp [fb]
theorem fb_get (f : Nat → Nat) {i : Nat} (h : i < 40) : (fb f)[i]? = some (.int .u8 (f i)) := by simp [fb, h]
theorem fb_set (f : Nat → Nat) {i : Nat} (x : Nat) (h : i < 40) : (fb f).setIfInBounds i (.int .u8 (x : Int)) = fb (fun j => if j = i then x else f j) := by
  apply Array.ext_getElem?
  intro j
  rw [Array.getElem?_setIfInBounds]
  by_cases hj : j < 40
  · rw [fb_get f hj, fb_get (fun j => if j = i then x else f j) hj, fb_size]
    by_cases e : j = i
    · subst e; simp [h]
    · rw [if_neg (Ne.symm e), if_neg e]
  · have h1 : (fb f)[j]? = none := Array.getElem?_eq_none (by rw [fb_size]; omega)
    have h2 : (fb (fun j => if j = i then x else f j))[j]? = none := Array.getElem?_eq_none (by rw [fb_size]; omega)
    rw [h1, h2, if_neg (by omega)]
theorem zeros40 : fb (fun _ => 0) = #[.int .u8 0, .int .u8 0, .int .u8 0, .int .u8 0, .int .u8 0, .int .u8 0, .int .u8 0, .int .u8 0, .int .u8 0, .int .u8 0, .int .u8 0, .int .u8 0, .int .u8 0, .int .u8 0, .int .u8 0, .int .u8 0, .int .u8 0, .int .u8 0, .int .u8 0, .int .u8 0, .int .u8 0, .int .u8 0, .int .u8 0, .int .u8 0, .int .u8 0, .int .u8 0, .int .u8 0, .int .u8 0, .int .u8 0, .int .u8 0, .int .u8 0, .int .u8 0, .int .u8 0, .int .u8 0, .int .u8 0, .int .u8 0, .int .u8 0, .int .u8 0, .int .u8 0, .int .u8 0] := by rfl
theorem startB (w : World) (o : Obj) : BlkB ((w.alloc o).alloc (.cells #[.int .u8 0, .int .u8 0, .int .u8 0, .int .u8 0, .int .u8 0, .int .u8 0, .int .u8 0, .int .u8 0, .int .u8 0, .int .u8 0, .int .u8 0, .int .u8 0, .int .u8 0, .int .u8 0, .int .u8 0, .int .u8 0, .int .u8 0, .int .u8 0, .int .u8 0, .int .u8 0, .int .u8 0, .int .u8 0, .int .u8 0, .int .u8 0, .int .u8 0, .int .u8 0, .int .u8 0, .int .u8 0, .int .u8 0, .int .u8 0, .int .u8 0, .int .u8 0, .int .u8 0, .int .u8 0, .int .u8 0, .int .u8 0, .int .u8 0, .int .u8 0, .int .u8 0, .int .u8 0] 91)) (w.heap.size + 1) (fun _ => 0) := by
  unfold BlkB
  rw [zeros40]
  exact blk_new (by simp)
theorem BlkB.cell {w : World} {g : Nat} {f : Nat → Nat} (h : BlkB w g f) {i : Nat} (hi : i < 40) : w.cell? ⟨g, i, none⟩ = some (.int .u8 (f i)) := (cell_of_row _ _ _ _ _ _ h).trans (fb_get f hi)
theorem BlkB.free {w : World} {g : Nat} {f : Nat → Nat} (h : BlkB w g f) (i : Nat) : w.frozen? ⟨g, i, none⟩ = false := frozen_of_row _ _ _ _ _ h
theorem BlkB.set {w : World} {g : Nat} {f : Nat → Nat} (h : BlkB w g f) {i : Nat} (x : Nat) (hi : i < 40) : BlkB (w.setCell ⟨g, i, none⟩ (.int .u8 x)) g (fun j => if j = i then x else f j) := by
  unfold BlkB
  rw [heap_setCell_same _ _ _ _ _ _ h, fb_set f x hi]
theorem eqn24 (h l h' l' : Int) (w : World) : (Op.equalIn 10000 25 (.agg #[.int .u64 h, .int .u64 l]) (.agg #[.int .u64 h', .int .u64 l'])).run Try.prog w = .ok (decide (h = h') && decide (l = l')) w := by
  rw [show (10000 : Nat) = 9999 + 1 from rfl, run_equalIn_struct w 9999 25 _ _ rfl (by kernel_rfl)]
  by_cases h1 : h = h' <;> by_cases h2 : l = l' <;> simp [h1, h2, go_sem, Try.underlying25, Try.underlying23]
attribute [local go_sem ↓] eqn24
def TextAt (X : Nat) (k : Nat) (f : Nat → Nat) : Prop := (0 < k → 10 ^ (k - 1) ≤ X) ∧ ∀ j, j < k → f (39 - j) = 48 + X / 10 ^ j % 10
theorem text_step {X k m : Nat} {f : Nat → Nat} (hm : m + k = 39) (h : TextAt X k f) (h0 : X / 10 ^ k ≠ 0) : TextAt X (k + 1) (fun j => if j = m then 48 + X / 10 ^ k % 10 else f j) := by
  refine ⟨fun _ => ?_, ?_⟩
  · rw [Nat.add_sub_cancel]
    by_cases hx : 10 ^ k ≤ X
    · exact hx
    · exact absurd (Nat.div_eq_of_lt (by omega)) h0
  · intro j hj
    by_cases e : j = k
    · subst e
      show (if 39 - j = m then _ else _) = _
      rw [if_pos (by omega)]
    · show (if 39 - j = m then _ else _) = _
      rw [if_neg (by omega)]
      exact h.2 j (by omega)
open Lib in
theorem text_end {X k : Nat} {f : Nat → Nat} (hX : 0 < X) (hk : k ≤ 39) (h : TextAt X k f) (h0 : X / 10 ^ k = 0) : 0 < k ∧ decDigits X = ((List.range k).map fun j => UInt8.ofNat (f (40 - k + j))) := by
  have hlt : X < 10 ^ k := by
    have := Nat.div_add_mod X (10 ^ k)
    rw [h0, Nat.mul_zero, Nat.zero_add] at this
    rw [← this]
    exact Nat.mod_lt _ (Nat.pow_pos (by omega))
  have hk0 : 0 < k := by
    by_cases hz : k = 0
    · subst hz; simp at hlt; omega
    · omega
  obtain ⟨d, rfl⟩ : ∃ d, k = d + 1 := ⟨k - 1, by omega⟩
  have hn : nDigits X = d + 1 := nDigits_unique d X (h.1 hk0) hlt
  refine ⟨hk0, ?_⟩
  rw [decDigits_eq, hn]
  refine List.map_congr_left fun j hj => ?_
  have hj' := List.mem_range.1 hj
  have := h.2 (d + 1 - 1 - j) (by omega)
  rw [show 40 - (d + 1) + j = 39 - (d + 1 - 1 - j) by omega, this]
  rfl
theorem slice59 (w : World) (g k : Nat) (h0 : 0 < k) (hk : k ≤ 40) : (Instr.sliceAt 91 (.pointer (some ⟨g, 0, none⟩)) (some (.int .i64 (40 - (k : Int)))) (some (.int .i64 40)) (some (.int .i64 40))).run Try.prog w = .ok (.slice (some ⟨g, 40 - k, none⟩) k k) w := by
  rw [run_sliceAt_array_lhm w 91 _ rfl .i64 .i64 .i64 _ _ _ (by omega) (by omega) (by omega) (by decide)]
  have e1 : ((40 : Int) - (k : Int)).toNat = 40 - k := by omega
  have e2 : ((40 : Int)).toNat = 40 := rfl
  have e3 : 40 - (40 - k) = k := by omega
  have e4 : ¬ 40 = 40 - k := by omega
  have e5 : (sizeOf (Try.prog.elem 91)).run Try.prog w = .ok 1 w := rfl
  rw [e5, e1, e2]
  simp [slicedAt, e3, e4, Addr.add, Result.andThen]
  omega
theorem foldl_push : ∀ (ns : List Int) (r : ByteArray), ns.foldl (fun r n => r.push (UInt8.ofNat n.toNat)) r = ⟨r.data ++ (ns.map fun n => UInt8.ofNat n.toNat).toArray⟩
  | [], r => by simp
  | n :: ns, r => by
    rw [List.foldl_cons, foldl_push ns]
    congr 1
    simp [ByteArray.push]
open Lib in
theorem conv60 {w : World} {g k : Nat} {f : Nat → Nat} (h : BlkB w g f) (hk : k ≤ 40) : (convert 89 9 (.slice (some ⟨g, 40 - k, none⟩) k k)).run Try.prog w = .ok (.string ⟨((List.range k).map fun j => UInt8.ofNat (f (40 - k + j))).toArray⟩) w := by
  rw [run_convert_bytes_string w 89 9 5 _ _ _ rfl rfl rfl]
  have hl := run_loadCells (P := Try.prog) (w := w) ⟨g, 40 - k, none⟩ k (fun j => .int .u8 (f (40 - k + j))) (fun j hj => by
    have := h.cell (show 40 - k + j < 40 by omega)
    by_cases e : j = 0
    · subst e; simpa [Addr.add] using this
    · simpa [Addr.add, e] using this)
  have hm : ((List.range k).map fun j => Value.int .u8 (f (40 - k + j) : Nat)) = (((List.range k).map fun j => ((f (40 - k + j) : Nat) : Int))).map (Value.int .u8) := by rw [List.map_map]; rfl
  rw [hm] at hl
  rw [run_bytesToString w _ k k _ hl, foldl_push]
  congr 2
  rw [List.map_map]
  show (ByteArray.mk ((#[] : Array UInt8) ++ _)) = ByteArray.mk _
  rw [Array.empty_append]
  rfl
theorem text_more {X k : Nat} {Y : Int} (hY : Y = ((X / 10 ^ k : Nat) : Int)) (h0 : Y ≠ 0) (hX : X < 340282366920938463463374607431768211456) (hk : k ≤ 39) : k < 39 := by
  by_cases h : k = 39
  · exfalso
    subst h
    apply h0
    rw [hY, Nat.div_eq_of_lt (Nat.lt_of_lt_of_le hX (by decide))]
    rfl
  · omega
theorem dec_zero : (⟨(Lib.decDigits 0).toArray⟩ : ByteArray) = ⟨#[48]⟩ := by rw [Lib.decDigits]; rfl
attribute [local irreducible] fb
set_option maxHeartbeats 4000000 in
set_option maxRecDepth 100000 in
theorem text_any (w : World) (a b : Int) (X : Nat) (hX : wval a b = X) (ha : U a) (hb : U b) : Calls Try.prog 47 #[wv a b] w (Ret w (.string ⟨(Lib.decDigits X).toArray⟩)) := by
  have HA := Lib.hid ha
  have HB := Lib.hid hb
  have HX := Lib.hid hX
  clear hX
  unfold wv
  by_cases h0 : a = 0 ∧ b = 0
  · obtain ⟨rfl, rfl⟩ := h0
    have hX0 : X = 0 := by have := HX.out; unfold wval at this; omega
    subst hX0
    have hT : (Value.string ⟨(Lib.decDigits 0).toArray⟩) = .string ⟨#[48]⟩ := by rw [dec_zero]
    rw [hT]
    clear hT HX
    go_enter Try.func47, Try.ntmps47
    go_wp2_with fail
    refine bodyPost_ret (v := .string ⟨#[48]⟩) (by simp [results, Try.results47, go_sem]) rfl ⟨rfl, ?_⟩
    (repeat (first | exact Below.refl _ _ | refine b_alloc ?_ _ | refine b_set ?_ (by first | exact Nat.le_refl _ | (simp; omega) | omega | simp) _ | refine b_drew ?_))
  · have hab : (decide (a = 0) && decide (b = 0)) = false := by simp; omega
    go_enter Try.func47, Try.ntmps47
    go_wp2_with fail
    go_loopw [4, 5, 6, 7] (fun p q r o wr => ∃ (k : Nat) (h l : Int) (f : Nat → Nat), p = .int .i64 (40 - (k : Int)) ∧ k ≤ 39 ∧ Hid (wval h l = ((X / 10 ^ k : Nat) : Int)) ∧ Hid (U h ∧ U l) ∧ Hid (TextAt X k f) ∧ Hid (wr.heap[w.heap.size]? = some (.cells #[.int .u64 h, .int .u64 l] 25 (0, 0))) ∧ Hid (BlkB wr (w.heap.size + 1) f) ∧ Hid (Below w.heap.size w wr)) (fun p _ _ _ _ => (intOf p).toNat)
    case atStart => exact ⟨0, a, b, fun _ => 0, rfl, by omega, by rw [Nat.pow_zero, Nat.div_one]; exact HX.out, ⟨HA.out, HB.out⟩, ⟨fun h => absurd h (by omega), fun j hj => absurd hj (by omega)⟩, blk_alloc (blk_new rfl) _, startB w _, b_alloc (b_alloc (Below.refl _ _) _) _⟩
    case round =>
      obtain ⟨k, h, l, f, rfl, hk, hY, hhl, hT, g0, g1, gb⟩ := hrel
      obtain ⟨wo, rfl⟩ : ∃ wo : World, wo = wr := ⟨_, rfl⟩
      have c0 : wo.cell? ⟨w.heap.size, 0, none⟩ = some (.int .u64 h) := (cell_of_row _ _ _ _ _ _ g0.out).trans rfl
      have c1 : wo.cell? ⟨w.heap.size, 1, none⟩ = some (.int .u64 l) := (cell_of_row _ _ _ _ _ _ g0.out).trans rfl
      have c2 := frozen_of_row _ _ 0 _ _ g0.out
      have c3 := frozen_of_row _ _ 1 _ _ g0.out
      have c4 := blk_lt g0.out
      by_cases hz : h = 0 ∧ l = 0
      · obtain ⟨rfl, rfl⟩ := hz
        have hY0 : X / 10 ^ k = 0 := by have := hY.out; unfold wval at this; omega
        obtain ⟨hk0, hE⟩ := text_end (by have h1 := HX.out; have h2 := HA.out; have h3 := HB.out; unfold U at h2 h3; unfold wval at h1; omega) hk hT.out hY0
        have hE2 := Lib.hid hE
        have n1 : (0 : Int) ≤ 40 - (k : Int) := by omega
        have n2 : (40 : Int) - (k : Int) ≤ 40 := by omega
        clear hE
        have sl := slice59 wo (w.heap.size + 1) k hk0 (by omega)
        have cv := conv60 g1.out (show k ≤ 40 by omega)
        rw [← hE2.out] at cv
        obtain ⟨S, hS⟩ : ∃ S : ByteArray, (⟨(Lib.decDigits X).toArray⟩ : ByteArray) = S := ⟨_, rfl⟩
        rw [hS] at cv
        have HS := Lib.hid hS
        clear hS
        go_wp2_with fail
        refine bodyPost_ret (v := .string S) (by simp [results, Try.results47, go_sem]) rfl ⟨by rw [HS.out], ?_⟩
        exact gb.out
      · have hne : (decide (h = 0) && decide (l = 0)) = false := by simp; omega
        have hk39 : k < 39 := text_more hY.out (by have := hhl.out; unfold U at this; unfold wval; omega) (by have := HX.out; have := HA.out; have := HB.out; unfold U at *; unfold wval at *; omega) hk
        have hYn : X / 10 ^ k ≠ 0 := fun hz0 => by
          have h1 := hY.out
          have h2 := hhl.out
          rw [hz0] at h1
          unfold U at h2
          unfold wval at h1
          omega
        obtain ⟨m, hm⟩ : ∃ m : Nat, m + k = 39 := ⟨39 - k, by omega⟩
        have e40 : (40 : Int) - (k : Int) = (m : Int) + 1 := by omega
        rw [e40]
        clear e40
        have em : IntKind.i64.wrap (m : Int) = m := by simp [IntKind.wrap, IntKind.signed, IntKind.bits]; omega
        have hm1 : (0 : Int) ≤ (m : Int) := by omega
        have hm2 : (m : Int) < 40 := by omega
        have hm3 : m < 40 := by omega
        go_wp2_with fail
        refine (wby_any _ h l 10 hhl.out.1 hhl.out.2 (by unfold U; decide)).mono ?_
        rintro e w5 ⟨rfl, hb5⟩
        have p0 : w5.heap[w.heap.size]? = some (.cells #[.int .u64 h, .int .u64 l] 25 (0, 0)) := blk_below g0.out hb5
        have p1 : BlkB w5 (w.heap.size + 1) f := blk_below g1.out hb5
        have pb := Lib.hid (b_then gb.out hb5)
        have P0 := Lib.hid p0
        have P1 := Lib.hid p1
        have i0 : w5.cell? ⟨w.heap.size, 0, none⟩ = some (.int .u64 h) := (cell_of_row _ _ _ _ _ _ p0).trans rfl
        have i1 : w5.cell? ⟨w.heap.size, 1, none⟩ = some (.int .u64 l) := (cell_of_row _ _ _ _ _ _ p0).trans rfl
        have i2 := frozen_of_row _ _ 0 _ _ p0
        have i3 := frozen_of_row _ _ 1 _ _ p0
        have i4 := blk_lt p0
        have i5 := p1.cell hm3
        have i6 := p1.free m
        have i7 : w.heap.size + 1 < w5.heap.size := blk_lt p1
        clear c0 c1 c2 c3 c4 p0 p1 g0 g1 gb hb5
        obtain ⟨h2, l2, r, hh2, hl2, hr, hr0, hr1, hU2, hv2⟩ : ∃ h2 l2 r : Int, wval h l / 10 / 18446744073709551616 = h2 ∧ wval h l / 10 % 18446744073709551616 = l2 ∧ wval h l % 10 = r ∧ 0 ≤ r ∧ r < 10 ∧ (U h2 ∧ U l2) ∧ wval h2 l2 = wval h l / 10 := by
          have := hhl.out
          unfold U at this
          refine ⟨_, _, _, rfl, rfl, rfl, by omega, by omega, ?_, ?_⟩
          · unfold U wval; omega
          · unfold wval; omega
        have HU2 := Lib.hid hU2
        have HV2 := Lib.hid hv2
        have HR := Lib.hid hr
        have ew1 : IntKind.u8.wrap r = r := by simp [IntKind.wrap, IntKind.signed, IntKind.bits]; omega
        have ew2 : IntKind.u8.wrap (48 + r) = 48 + r := by simp [IntKind.wrap, IntKind.signed, IntKind.bits]; omega
        rw [wbyV, if_neg (by decide), wn, hh2, hl2, hr]
        clear hh2 hl2 hr hU2 hv2
        unfold wv
        go_wp2_with fail
        have hrn : (48 + r) = ((48 + X / 10 ^ k % 10 : Nat) : Int) := by
          have h1 := HR.out
          have h2 := hY.out
          rw [h2] at h1
          omega
        rw [hrn]
        go_roundw
        case rel => exact ⟨k + 1, h2, l2, fun j => if j = m then 48 + X / 10 ^ k % 10 else f j, (by show Value.int .i64 _ = _; congr 1; omega), by omega, (by show _ = _; rw [HV2.out, hY.out, Nat.pow_succ, ← Nat.div_div_eq_div_mul]; omega), HU2, text_step hm hT.out hYn, blk_alloc (set24_1 (set24_0 (blk_far P0.out (show w.heap.size ≠ w.heap.size + 1 by omega) _))) _, (by show BlkB _ _ _; exact blk_alloc (blk_far (blk_far (P1.out.set _ hm3) (show w.heap.size + 1 ≠ w.heap.size by omega) _) (show w.heap.size + 1 ≠ w.heap.size by omega) _) _), b_alloc (b_set (b_set (b_set pb.out (show w.heap.size ≤ w.heap.size + 1 by omega) _) (Nat.le_refl _) _) (Nat.le_refl _) _) _⟩
        case measure => simp [intOf]
end Go.Proofs.Ythpdfacdjgkmpaa.Wi
