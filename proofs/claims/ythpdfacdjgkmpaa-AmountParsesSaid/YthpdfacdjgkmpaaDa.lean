/- Arrays of twenty digits as values and as blocks. -/
import Derived.Test.YthpdfacdjgkmpaaProg
import Derived.Test.YthpdfacdjgkmpaaKit
import Derived.Test.YthpdfacdjgkmpaaRow
import Derived.Deep.QuietTactic
import Derived.BigQuiet
import Derived.RegionTactic
import Derived.Outline
import Derived.Laws.IdiomArrays
import Derived.Test.YthpdfacdjgkmpaaDm
namespace Go.Proofs.Ythpdfacdjgkmpaa.Wi
open Go.RowKit K

/-- Twenty cells. -/
def fc (f : Nat → Nat) : Array Value := ((List.range 20).map fun i => Value.int .u64 (f i)).toArray
def dg (N : Nat) : Value := .agg (fc (dig N))
theorem fc_size (f : Nat → Nat) : (fc f).size = 20 := by simp [fc]
theorem fc_get (f : Nat → Nat) {i : Nat} (h : i < 20) : (fc f)[i]? = some (.int .u64 (f i)) := by simp [fc, h]
theorem fc_set (f : Nat → Nat) {i : Nat} (x : Nat) (h : i < 20) : (fc f).setIfInBounds i (.int .u64 (x : Int)) = fc (fun j => if j = i then x else f j) := by
  apply Array.ext_getElem?
  intro j
  rw [Array.getElem?_setIfInBounds, fc_size]
  by_cases hj : j < 20
  · by_cases e : i = j
    · subst e
      rw [fc_get _ h, fc_get _ h]
      simp [h]
    · rw [fc_get _ hj, if_neg e, fc_get _ hj, if_neg (fun h => e h.symm)]
  · have h1 : (fc fun j => if j = i then x else f j)[j]? = none := Array.getElem?_eq_none (by rw [fc_size]; omega)
    have h2 : (fc f)[j]? = none := Array.getElem?_eq_none (by rw [fc_size]; omega)
    rw [h1, h2, if_neg (by omega)]
theorem fc_congr {f g : Nat → Nat} (h : ∀ i, i < 20 → f i = g i) : fc f = fc g := by
  unfold fc
  congr 1
  exact List.map_congr_left fun i hi => by rw [h i (List.mem_range.1 hi)]

/-- A block that holds twenty digits. -/
def Blk (w : World) (g : Nat) (f : Nat → Nat) : Prop := w.heap[g]? = some (.cells (fc f) 41 (0, 0))
section
variable {w : World} {g : Nat} {f : Nat → Nat}
theorem Blk.cell (h : Blk w g f) {i : Nat} (hi : i < 20) : w.cell? ⟨g, i, none⟩ = some (.int .u64 (f i)) := (cell_of_row _ _ _ _ _ _ h).trans (fc_get f hi)
theorem Blk.free (h : Blk w g f) (i : Nat) : w.frozen? ⟨g, i, none⟩ = false := frozen_of_row _ _ _ _ _ h
theorem Blk.lt (h : Blk w g f) : g < w.heap.size := blk_lt h
theorem Blk.set (h : Blk w g f) {i : Nat} (x : Nat) (hi : i < 20) : Blk (w.setCell ⟨g, i, none⟩ (.int .u64 x)) g (fun j => if j = i then x else f j) := by
  unfold Blk
  rw [heap_setCell_same _ _ _ _ _ _ h, fc_set f x hi]
theorem Blk.congr (h : Blk w g f) {f' : Nat → Nat} (e : ∀ i, i < 20 → f i = f' i) : Blk w g f' := by unfold Blk; rw [← fc_congr e]; exact h
theorem Blk.alloc (h : Blk w g f) (o : Obj) : Blk (w.alloc o) g f := blk_alloc h o
theorem Blk.drew (h : Blk w g f) : Blk w.drew g f := h
theorem Blk.drewN (h : Blk w g f) (n : Nat) : Blk (w.drewN n) g f := h
theorem Blk.far (h : Blk w g f) {p : Addr} (hp : g ≠ p.block) (v : Value) : Blk (w.setCell p v) g f := blk_far h hp v
theorem Blk.below (h : Blk w g f) {w' : World} (hb : Below w.heap.size w w') : Blk w' g f := blk_below h hb
theorem Blk.grown (h : Blk w g f) {w' : World} {row : Option Nat} (hb : w.grownBy w' row) (hne : some g ≠ row) : Blk w' g f := blk_grown h hb hne
theorem Blk.new (w : World) (f : Nat → Nat) : Blk (w.alloc (.cells (fc f) 41)) w.heap.size f := heap_alloc_new w _
end
theorem fc_one (f : Nat → Nat) : (fc f).all (·.oneCell') = true := by
  rw [Array.all_eq_true_iff_forall_mem]
  intro v hv
  simp [fc] at hv
  obtain ⟨i, _, rfl⟩ := hv
  rfl
theorem info27 (f : Nat → Nat) : (Try.prog.info? 41).map (·.size) = some (fc f).size := by
  rw [fc_size]
  kernel_rfl
def Ret (w : World) (v : Value) (e : Ending) (w' : World) : Prop := e = .returned v ∧ Below w.heap.size w w'
theorem wu64 (x : Int) : IntKind.u64.wrap x = x % 18446744073709551616 := by simp [IntKind.wrap, IntKind.signed, IntKind.bits]
theorem wu_small {x : Int} (h0 : 0 ≤ x) (h : x < 18446744073709551616) : IntKind.u64.wrap x = x := by rw [wu64]; omega
theorem b_grown1 {w w1 w2 : World} {g : Nat} (h : Below w.heap.size w w1) (hg : w1.grownBy w2 (some g)) (hr : w.heap.size ≤ g) : Below w.heap.size w w2 := b_row h hg hr
theorem zeros20 : (#[.int .u64 0, .int .u64 0, .int .u64 0, .int .u64 0, .int .u64 0, .int .u64 0, .int .u64 0, .int .u64 0, .int .u64 0, .int .u64 0, .int .u64 0, .int .u64 0, .int .u64 0, .int .u64 0, .int .u64 0, .int .u64 0, .int .u64 0, .int .u64 0, .int .u64 0, .int .u64 0] : Array Value) = fc (fun _ => 0) := rfl
theorem start0 (w : World) (f g : Nat → Nat) {o : Obj} : Blk (((w.alloc (.cells (fc f) 41)).alloc (.cells (fc g) 41)).alloc o) w.heap.size (fun j => f j) := ((Blk.new w f).alloc _).alloc _
theorem start1 (w : World) (f g : Nat → Nat) {o : Obj} : Blk (((w.alloc (.cells (fc f) 41)).alloc (.cells (fc g) 41)).alloc o) (w.heap.size + 1) g := by
  have := Blk.new (w.alloc (.cells (fc f) 41)) g
  simp at this
  exact this.alloc _
theorem start1b (w : World) (f g : Nat → Nat) : Blk ((w.alloc (.cells (fc f) 41)).alloc (.cells (fc g) 41)) (w.heap.size + 1) g := by
  have := Blk.new (w.alloc (.cells (fc f) 41)) g
  simp at this
  exact this
theorem start2 (w : World) (f g : Nat → Nat) : Blk (((w.alloc (.cells (fc f) 41)).alloc (.cells (fc g) 41)).alloc (.cells #[.int .u64 0, .int .u64 0, .int .u64 0, .int .u64 0, .int .u64 0, .int .u64 0, .int .u64 0, .int .u64 0, .int .u64 0, .int .u64 0, .int .u64 0, .int .u64 0, .int .u64 0, .int .u64 0, .int .u64 0, .int .u64 0, .int .u64 0, .int .u64 0, .int .u64 0, .int .u64 0] 41)) (w.heap.size + 1 + 1) (fun _ => 0) := by
  rw [zeros20]
  have := Blk.new ((w.alloc (.cells (fc f) 41)).alloc (.cells (fc g) 41)) (fun _ => 0)
  simp at this
  exact this
/-- What a round has stored, as the next round has it. -/
theorem upd_step (f g : Nat → Nat) (k : Nat) : ∀ i, i < 20 → (if i = k then f k else if i < k then f i else g i) = if i < k + 1 then f i else g i := by
  intro i _
  by_cases h : i = k
  · subst h
    rw [if_pos rfl, if_pos (by omega)]
  · rw [if_neg h]
    by_cases h2 : i < k
    · rw [if_pos h2, if_pos (by omega)]
    · rw [if_neg h2, if_neg (by omega)]
theorem start3 (w : World) (f g : Nat → Nat) {o : Obj} {N M : Nat} (h : row N M 0 = 0) : Blk ((((w.alloc (.cells (fc f) 41)).alloc (.cells (fc g) 41)).alloc o).alloc (.cells #[.int .u64 0, .int .u64 0, .int .u64 0, .int .u64 0, .int .u64 0, .int .u64 0, .int .u64 0, .int .u64 0, .int .u64 0, .int .u64 0, .int .u64 0, .int .u64 0, .int .u64 0, .int .u64 0, .int .u64 0, .int .u64 0, .int .u64 0, .int .u64 0, .int .u64 0, .int .u64 0] 41)) (w.heap.size + 1 + 1 + 1) (dig (row N M 0)) := by
  rw [zeros20, h]
  have := Blk.new (((w.alloc (.cells (fc f) 41)).alloc (.cells (fc g) 41)).alloc o) (fun _ => 0)
  simp at this
  exact this.congr (fun i _ => (dig_zero i).symm)
theorem row_start (N M q : Nat) : ∀ i, i < 20 → dig (row N M q) i = if i < q + 0 then dig (row N M (q + 1)) i else dig (row N M q) i := by
  intro i _
  by_cases h : i < q + 0
  · rw [if_pos h]
    exact (row_low N M q i (by omega)).symm
  · rw [if_neg h]
theorem row_end {M : Nat} (hM : M < 65536 ^ 8) {N : Nat} (q : Nat) : ∀ i, i < 20 → (if i < q + 12 then dig (row N M (q + 1)) i else dig (row N M q) i) = dig (row N M (q + 1)) i := by
  intro i _
  by_cases h : i < q + 12
  · rw [if_pos h]
  · rw [if_neg h, dig_above hM q i (by omega), dig_above hM (q + 1) i (by omega)]
theorem startZ1 (w : World) {o o' : Obj} : Blk (((w.alloc o).alloc (.cells #[.int .u64 0, .int .u64 0, .int .u64 0, .int .u64 0, .int .u64 0, .int .u64 0, .int .u64 0, .int .u64 0, .int .u64 0, .int .u64 0, .int .u64 0, .int .u64 0, .int .u64 0, .int .u64 0, .int .u64 0, .int .u64 0, .int .u64 0, .int .u64 0, .int .u64 0, .int .u64 0] 41)).alloc o') (w.heap.size + 1) (fun _ => 0) := by
  rw [zeros20]
  have := Blk.new (w.alloc o) (fun _ => 0)
  simp at this
  exact this.alloc _
theorem startZ2 (w : World) {o o' : Obj} {f : Nat → Nat} (hf : ∀ i, i < 20 → f i = 0) : Blk (((w.alloc o).alloc o').alloc (.cells #[.int .u64 0, .int .u64 0, .int .u64 0, .int .u64 0, .int .u64 0, .int .u64 0, .int .u64 0, .int .u64 0, .int .u64 0, .int .u64 0, .int .u64 0, .int .u64 0, .int .u64 0, .int .u64 0, .int .u64 0, .int .u64 0, .int .u64 0, .int .u64 0, .int .u64 0, .int .u64 0] 41)) (w.heap.size + 1 + 1) f := by
  rw [zeros20]
  have := Blk.new ((w.alloc o).alloc o') (fun _ => 0)
  simp at this
  exact this.congr (fun i hi => (hf i hi).symm)
/-- The wide number's block behind a round. -/
theorem ofA {w : World} {g d i j : Nat} {a b x y u v : Value} (h : w.heap[g]? = some (.cells #[a, b] 25 (0, 0))) (hd : g ≠ d := by omega) :
    ((((w.setCell ⟨d, i, none⟩ u).setCell ⟨d, j, none⟩ v).setCell ⟨g, 1, none⟩ y).setCell ⟨g, 0, none⟩ x).heap[g]? = some (.cells #[x, y] 25 (0, 0)) := by
  rw [heap_setCell_same _ _ _ _ _ _ (heap_setCell_same _ _ _ _ _ _ (blk_far (blk_far h hd _) hd _))]
  rfl
theorem ofB {w : World} {g d e i j k m : Nat} {f : Nat → Nat} {x y u v : Value} (h : Blk w e f) (hd : e ≠ d := by omega) (hg : e ≠ g := by omega) :
    Blk ((((w.setCell ⟨d, i, none⟩ u).setCell ⟨d, j, none⟩ v).setCell ⟨g, k, none⟩ y).setCell ⟨g, m, none⟩ x) e f := (((h.far hd _).far hd _).far hg _).far hg _
end Go.Proofs.Ythpdfacdjgkmpaa.Wi
