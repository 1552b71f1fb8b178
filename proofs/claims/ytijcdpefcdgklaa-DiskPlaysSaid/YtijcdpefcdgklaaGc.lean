/- Disks: images, and what turns them. -/
import Derived.Test.YtijcdpefcdgklaaGb
namespace Go.Proofs.Ytijcdpefcdgklaa.Di
open Go.RowKit K

/-- Outside S nothing that was there has turned. -/
structure Fr (S : Nat → Prop) (w w' : World) : Prop where
  os : w'.os = w.os
  tape : w'.tape = w.tape
  output : w'.output = w.output
  size : w.heap.size ≤ w'.heap.size
  block : ∀ k, k < w.heap.size → ¬ S k → w'.heap[k]? = w.heap[k]?
theorem Fr.refl (S : Nat → Prop) (w : World) : Fr S w w := ⟨rfl, rfl, rfl, Nat.le_refl _, fun _ _ _ => rfl⟩
theorem Fr.trans {S : Nat → Prop} {a b c : World} (h : Fr S a b) (k : Fr S b c) : Fr S a c :=
  ⟨k.os.trans h.os, k.tape.trans h.tape, k.output.trans h.output, Nat.le_trans h.size k.size, fun i hi hs => (k.block i (Nat.lt_of_lt_of_le hi h.size) hs).trans (h.block i hi hs)⟩
theorem Fr.mono {S T : Nat → Prop} {a b : World} (h : Fr S a b) (hs : ∀ k, S k → T k) : Fr T a b := ⟨h.os, h.tape, h.output, h.size, fun k hk hn => h.block k hk (fun e => hn (hs k e))⟩
theorem Fr.of_below {S : Nat → Prop} {a b : World} (h : Below a.heap.size a b) : Fr S a b := ⟨h.os, h.tape, h.output, h.size, fun k hk _ => h.block k hk⟩
theorem Fr.of_grown {S : Nat → Prop} {a b : World} {g : Nat} (h : a.grownBy b (some g)) (hg : S g) : Fr S a b := ⟨h.os, h.tape, h.output, h.size, fun k hk hn => h.block k hk (fun e => hn ((Option.some.inj e) ▸ hg))⟩
theorem Fr.row {S : Nat → Prop} {a b : World} (h : Fr S a b) {k : Nat} {o : Obj} (hk : a.heap[k]? = some o) (hn : ¬ S k) : b.heap[k]? = some o := (h.block k (blk_lt hk) hn).trans hk
theorem Fr.belowOf {S : Nat → Prop} {w0 a b : World} (h : Fr S a b) (hb : Below w0.heap.size w0 a) (hs : ∀ k, S k → w0.heap.size ≤ k) : Below w0.heap.size w0 b :=
  ⟨h.os.trans hb.os, h.tape.trans hb.tape, h.output.trans hb.output, Nat.le_trans hb.size h.size, fun k hk => (h.block k (Nat.lt_of_lt_of_le hk hb.size) (fun e => absurd (hs k e) (by omega))).trans (hb.block k hk)⟩
theorem own_fr {S : Nat → Prop} {a b : World} (h : Fr S a b) {base : Nat} {e : TypeId} {size n : Nat} {v : Value} {xs : List Value} (ho : a.ownsRow base e size v n xs) (hn : ∀ k, v.ownBlock = some k → ¬ S k) : b.ownsRow base e size v n xs := by
  obtain ⟨h1, h2 | ⟨g, cap, cur, rfl, hb, hg, h3⟩⟩ := ho
  · exact ⟨h1, Or.inl h2⟩
  · exact ⟨h1, Or.inr ⟨g, cap, cur, rfl, hb, h.row hg (hn g rfl), h3⟩⟩
theorem reads_fr {S : Nat → Prop} {a b : World} (h : Fr S a b) {v : Value} {l : List UInt8} (hr : Reads a v l) (hn : l ≠ [] → ∀ k, v.ownBlock = some k → ¬ S k) : Reads b v l := by
  rcases hr with hr | ⟨ad, c, rfl, h2, h3, h4⟩
  · exact Or.inl hr
  · refine Or.inr ⟨ad, c, rfl, h2, h3, fun j u hj => ?_⟩
    have h5 := h4 j u hj
    have h6 := cell_lt h5
    have h7 := h.block _ h6 (by rw [add_block]; exact hn (fun e => by subst e; cases hj) _ rfl)
    unfold World.cell? at *
    rw [h7]
    exact h5
theorem reads_lt {w : World} {v : Value} {l : List UInt8} (hr : Reads w v l) (h0 : l ≠ []) {k : Nat} (hk : v.ownBlock = some k) : k < w.heap.size := by
  rcases hr with hr | ⟨ad, c, rfl, _, _, h4⟩
  · exact absurd hr.2 h0
  · cases hk
    have h5 := cell_lt (h4 0 _ (bys_get (List.length_pos_iff.2 h0)))
    rw [add_block] at h5
    exact h5
theorem own_block {w : World} {base : Nat} {e : TypeId} {size n : Nat} {v : Value} {xs : List Value} (ho : w.ownsRow base e size v n xs) {k : Nat} (hk : v.ownBlock = some k) : ∃ cur, w.heap[k]? = some (.cells cur e (0, 0)) ∧ base ≤ k := by
  obtain ⟨_, h2 | ⟨g, cap, cur, rfl, hb, hg, _⟩⟩ := ho
  · rw [h2.1] at hk; cases hk
  · cases hk; exact ⟨cur, hg, hb⟩
theorem At.wv_ne {w : World} {base : Nat} {d : Dk} (h : At w base d) {k : Nat} (hk : d.wv.ownBlock = some k) : k ≠ d.g ∧ k ≠ d.s0 ∧ k ≠ d.s1 := by
  obtain ⟨cur, hc, _⟩ := own_block h.own hk
  exact ⟨blk_ne hc h.row (by decide), blk_ne hc h.r0 (by decide), blk_ne hc h.r1 (by decide)⟩
theorem At.g_ne {w : World} {base : Nat} {d : Dk} (h : At w base d) : d.g ≠ d.s0 ∧ d.g ≠ d.s1 := ⟨blk_ne h.row h.r0 (by decide), blk_ne h.row h.r1 (by decide)⟩
/-- A turn of the struct's cells alone. -/
theorem At.turn {w w' : World} {base : Nat} {d : Dk} (h : At w base d) (left : Int) (down : Bool) (wr : Int) (hg : w.grownBy w' (some d.g)) (hr : w'.heap[d.g]? = some { d with left := left, down := down, wr := wr }.row) : At w' base { d with left := left, down := down, wr := wr } :=
  ⟨hr, blk_grown h.r0 hg (fun e => h.g_ne.1 (Option.some.inj e).symm), blk_grown h.r1 hg (fun e => h.g_ne.2 (Option.some.inj e).symm), h.la, h.lb, own_fr (Fr.of_grown (S := fun k => k = d.g) hg rfl) h.own (fun _ hk => (h.wv_ne hk).1), h.bg, h.b0, h.b1, h.ne, h.ln, h.h0, h.h1⟩
def Dk.img (d : Dk) (slot : Int) : List UInt8 := if slot = 0 then d.a else if slot = 1 then d.b else []
theorem reads0 {w : World} {base : Nat} {d : Dk} (h : At w base d) : Reads w (.slice (some ⟨d.s0, 0, none⟩) d.n d.k0) d.a := by
  refine Or.inr ⟨_, d.k0, by rw [h.la], by rw [h.la]; exact h.h0.1, h.h0.2, fun j u hj => ?_⟩
  have e1 : (⟨d.s0, 0, none⟩ : Addr).add j = ⟨d.s0, j, none⟩ := by unfold Addr.add; split <;> simp_all
  rw [e1, cell_of_row _ _ _ _ _ _ h.r0]
  simp only [List.getElem?_toArray]
  rw [List.getElem?_append_left (List.getElem?_eq_some_iff.1 hj).1]
  exact hj
theorem reads1 {w : World} {base : Nat} {d : Dk} (h : At w base d) : Reads w (.slice (some ⟨d.s1, 0, none⟩) d.n d.k1) d.b := by
  refine Or.inr ⟨_, d.k1, by rw [h.lb], by rw [h.lb]; exact h.h1.1, h.h1.2, fun j u hj => ?_⟩
  have e1 : (⟨d.s1, 0, none⟩ : Addr).add j = ⟨d.s1, j, none⟩ := by unfold Addr.add; split <;> simp_all
  rw [e1, cell_of_row _ _ _ _ _ _ h.r1]
  simp only [List.getElem?_toArray]
  rw [List.getElem?_append_left (List.getElem?_eq_some_iff.1 hj).1]
  exact hj
section
attribute [local go_sem ↓] eq22 eq22n eq37 eq37n eq25 ne25
variable {w : World} {base : Nat} {d : Dk}
set_option maxHeartbeats 1000000
theorem image_any (slot : Int) (h : At w base d) : Calls Try.prog 8 #[.pointer (some ⟨d.g, 0, none⟩), .int .i64 slot] w (CloneTo w (d.img slot)) := by
  have HN := Lib.hid (show d.a.length ≤ 1000000 ∧ d.b.length ≤ 1000000 by have := h.ln; have := h.la; have := h.lb; omega)
  have R0 := Lib.hid (reads0 h)
  have R1 := Lib.hid (reads1 h)
  obtain ⟨c0, c1, c2, c3, c4, c5⟩ := h.cells
  obtain ⟨g, s0, s1, n, a, b, left, down, wr, wv, vs, k0, k1, ta, tb⟩ := d
  dsimp only at *
  clear h
  by_cases h0 : slot = 0
  · subst h0
    go_enter Try.func8, Try.ntmps8
    go_wp2_with fail
    refine (clone_any _ _ _ R0.out HN.out.1).mono ?_
    rintro e w1 ⟨v, rfl, h1, h2⟩
    have H1 := Lib.hid h1
    have H2 := Lib.hid h2
    clear h1 h2
    go_wp2_with fail
    go_ret
    exact ⟨v, rfl, H1.out, H2.out⟩
  · by_cases h1 : slot = 1
    · subst h1
      go_enter Try.func8, Try.ntmps8
      go_wp2_with fail
      refine (clone_any _ _ _ R1.out HN.out.2).mono ?_
      rintro e w1 ⟨v, rfl, h1, h2⟩
      have H1 := Lib.hid h1
      have H2 := Lib.hid h2
      clear h1 h2
      go_wp2_with fail
      go_ret
      exact ⟨v, rfl, H1.out, H2.out⟩
    · have e : Dk.img ⟨g, s0, s1, n, a, b, left, down, wr, wv, vs, k0, k1, ta, tb⟩ slot = [] := by rw [Dk.img, if_neg h0, if_neg h1]
      rw [e]
      clear e
      by_cases h2 : slot < 0
      · clear h0 h1
        go_enter Try.func8, Try.ntmps8
        go_wp2_with fail
        go_ret
        exact ⟨_, rfl, own_nil _ _ _ _, Below.refl _ _⟩
      · have h3 : 2 ≤ slot := by omega
        clear h0 h1
        go_enter Try.func8, Try.ntmps8
        go_wp2_with fail
        go_ret
        exact ⟨_, rfl, own_nil _ _ _ _, Below.refl _ _⟩
/-- The disk stands otherwise, and no other block has turned. -/
def Turned (w : World) (base : Nat) (d d' : Dk) (v : Value) (e : Ending) (w' : World) : Prop := e = .returned v ∧ At w' base d' ∧ Fr (fun k => k = d.g) w w'
theorem set_row {w : World} {base : Nat} {d : Dk} (h : At w base d) (left : Int) (down : Bool) (wr : Int) :
    (w.setCell ⟨d.g, 2, none⟩ (.int .i64 left)).heap[d.g]? = some { d with left := left }.row ∧ (w.setCell ⟨d.g, 3, none⟩ (.bool down)).heap[d.g]? = some { d with down := down }.row ∧ (w.setCell ⟨d.g, 4, none⟩ (.int .i64 wr)).heap[d.g]? = some { d with wr := wr }.row :=
  ⟨heap_setCell_same w d.g 2 _ _ _ h.row, heap_setCell_same w d.g 3 _ _ _ h.row, heap_setCell_same w d.g 4 _ _ _ h.row⟩
theorem At.setLeft (h : At w base d) (left : Int) : At (w.setCell ⟨d.g, 2, none⟩ (.int .i64 left)) base { d with left := left } := h.turn left d.down d.wr (gb_set (gb_refl _ _) _ _) (set_row h left true 0).1
theorem At.setDown (h : At w base d) (down : Bool) : At (w.setCell ⟨d.g, 3, none⟩ (.bool down)) base { d with down := down } := h.turn d.left down d.wr (gb_set (gb_refl _ _) _ _) (set_row h 0 down 0).2.1
theorem At.setWr (h : At w base d) (wr : Int) : At (w.setCell ⟨d.g, 4, none⟩ (.int .i64 wr)) base { d with wr := wr } := h.turn d.left d.down wr (gb_set (gb_refl _ _) _ _) (set_row h 0 true wr).2.2
theorem arm_any (n : Int) (h : At w base d) : Calls Try.prog 9 #[.pointer (some ⟨d.g, 0, none⟩), .int .i64 n] w (Turned w base d { d with left := if n < -1 then -1 else n } (.tuple #[])) := by
  have H := Lib.hid h
  obtain ⟨c0, c1, c2, c3, c4, c5⟩ := h.cells
  have f2 := h.free 2
  obtain ⟨L, hL⟩ : ∃ L, (if n < -1 then -1 else n) = L := ⟨_, rfl⟩
  have HL := Lib.hid hL
  rw [hL]
  clear h hL
  by_cases hn : n < -1
  · obtain rfl : -1 = L := by have := HL.out; rw [if_pos hn] at this; exact this
    go_enter Try.func9, Try.ntmps9
    go_wp2_with fail
    exact bodyPost_end (v := .tuple #[]) (by simp [results, Try.results9, go_sem]) rfl ⟨rfl, H.out.setLeft _, Fr.of_grown (gb_set (gb_refl _ _) _ _) rfl⟩
  · obtain rfl : n = L := by have := HL.out; rw [if_neg hn] at this; exact this
    go_enter Try.func9, Try.ntmps9
    go_wp2_with fail
    exact bodyPost_end (v := .tuple #[]) (by simp [results, Try.results9, go_sem]) rfl ⟨rfl, H.out.setLeft _, Fr.of_grown (gb_set (gb_refl _ _) _ _) rfl⟩
theorem up_any (h : At w base d) : Calls Try.prog 11 #[.pointer (some ⟨d.g, 0, none⟩)] w (Turned w base d { d with left := -1, down := false } (.tuple #[])) := by
  have H := Lib.hid h
  obtain ⟨c0, c1, c2, c3, c4, c5⟩ := h.cells
  have f2 := h.free 2
  have f3 := h.free 3
  clear h
  go_enter Try.func11, Try.ntmps11
  go_wp2_with fail
  exact bodyPost_end (v := .tuple #[]) (by simp [results, Try.results11, go_sem]) rfl ⟨rfl, (H.out.setDown false).setLeft (-1), Fr.of_grown (gb_set (gb_set (gb_refl _ _) _ _) _ _) rfl⟩
end
end Go.Proofs.Ytijcdpefcdgklaa.Di
