/- For regions that draw their order: what is kept of the blocks that lie there. -/
import Derived.Test.YtfckignchmpeaaaDr
import Derived.Deep.RegionHeld3
import Derived.Deep.MidRow
namespace Go.Proofs.Ytfckignchmpeaaa.Wi
open Go.RowKit K

/-- Below H these blocks lie as told, and below the call's first block nothing has turned. -/
def Keeps (rs : List (Nat × Obj)) (w0 : World) (H : Nat) (w : World) : Prop := (∀ g o, (g, o) ∈ rs → w.heap[g]? = some o ∧ g < H) ∧ w0.heap.size ≤ H ∧ H ≤ w.heap.size ∧ Below w0.heap.size w0 w
section
variable {rs : List (Nat × Obj)} {w0 w w' : World} {H : Nat}
theorem keeps_below (hb : Below w.heap.size w w') (h : Keeps rs w0 H w) : Keeps rs w0 H w' := by
  obtain ⟨h1, h2, h3, h4⟩ := h
  refine ⟨fun g o hg => ⟨?_, (h1 g o hg).2⟩, h2, Nat.le_trans h3 hb.size, b_then h4 hb⟩
  have h5 := h1 g o hg
  rw [hb.block g (by omega)]
  exact h5.1
theorem keeps_drew (h : Keeps rs w0 H w) : Keeps rs w0 H w.drew := ⟨h.1, h.2.1, h.2.2.1, b_drew h.2.2.2⟩
theorem keeps_alloc (h : Keeps rs w0 H w) (o : Obj) : Keeps rs w0 H (w.alloc o) := by
  obtain ⟨h1, h2, h3, h4⟩ := h
  refine ⟨fun g p hg => ⟨?_, (h1 g p hg).2⟩, h2, ?_, b_alloc h4 o⟩
  · have h5 := h1 g p hg
    rw [heap_alloc_old w o (show g < w.heap.size by omega)]
    exact h5.1
  · show H ≤ (w.heap.push o).size
    simp
    omega
theorem keeps_set (h : Keeps rs w0 H w) {p : Addr} (hp : H ≤ p.block) (v : Value) : Keeps rs w0 H (w.setCell p v) := by
  obtain ⟨h1, h2, h3, h4⟩ := h
  refine ⟨fun g o hg => ⟨?_, (h1 g o hg).2⟩, h2, ?_, b_set h4 (Nat.le_trans h2 hp) v⟩
  · have h5 := h1 g o hg
    rw [((Below.refl (g + 1) w).setCell (show g + 1 ≤ p.block by omega) v).block g (by omega)]
    exact h5.1
  · have := ((Below.refl 0 w).setCell (p := p) (Nat.zero_le _) v).size
    omega
theorem keeps_row (h : Keeps rs w0 H w) {g : Nat} {o : Obj} (hm : (g, o) ∈ rs) : w.heap[g]? = some o := (h.1 g o hm).1
theorem keeps_lt (h : Keeps rs w0 H w) {g : Nat} {o : Obj} (hm : (g, o) ∈ rs) : g < H := (h.1 g o hm).2
theorem range_row {g : Nat} {cs : Array Value} {t : TypeId} (h : w.heap[g]? = some (.cells cs t (0, 0))) : w.rangeAt g 0 cs.toList := fun j v hv => by
  rw [Nat.zero_add]
  exact (cell_of_row _ _ _ _ _ _ h).trans (by simpa using hv)
variable {L : World → Prop}
theorem sStart (hL : ∀ w', Keeps rs w0 H w' → L w') (h : Keeps rs w0 H w') : L w' ∧ H ≤ w'.heap.size ∧ Hid (Keeps rs w0 H w') := ⟨hL _ h, h.2.2.1, h⟩
theorem sBelow (hL : ∀ w', Keeps rs w0 H w' → L w') (hb : Below w.heap.size w w') (h : L w ∧ H ≤ w.heap.size ∧ Hid (Keeps rs w0 H w)) : L w' ∧ H ≤ w'.heap.size ∧ Hid (Keeps rs w0 H w') := sStart hL (keeps_below hb h.2.2.out)
theorem sAlloc (hL : ∀ w', Keeps rs w0 H w' → L w') (h : L w ∧ H ≤ w.heap.size ∧ Hid (Keeps rs w0 H w)) (o : Obj) : L (w.alloc o) ∧ H ≤ (w.alloc o).heap.size ∧ Hid (Keeps rs w0 H (w.alloc o)) := sStart hL (keeps_alloc h.2.2.out o)
theorem sSet (hL : ∀ w', Keeps rs w0 H w' → L w') (h : L w ∧ H ≤ w.heap.size ∧ Hid (Keeps rs w0 H w)) {p : Addr} (hp : H ≤ p.block) (v : Value) : L (w.setCell p v) ∧ H ≤ (w.setCell p v).heap.size ∧ Hid (Keeps rs w0 H (w.setCell p v)) := sStart hL (keeps_set h.2.2.out hp v)
theorem keepsOf {P Q R : Prop} (h : P ∧ Q ∧ R) : R := h.2.2
end
end Go.Proofs.Ytfckignchmpeaaa.Wi
