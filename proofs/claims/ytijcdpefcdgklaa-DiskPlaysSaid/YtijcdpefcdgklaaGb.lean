/- Disks: how they lie, and what only looks at them. -/
import Derived.Test.YtijcdpefcdgklaaDa
namespace Go.Proofs.Ytijcdpefcdgklaa.Di
open Go.RowKit K

structure Dk where
  g : Nat
  s0 : Nat
  s1 : Nat
  n : Nat
  a : List UInt8
  b : List UInt8
  left : Int
  down : Bool
  wr : Int
  wv : Value
  vs : List Value
  k0 : Nat
  k1 : Nat
  ta : List Value
  tb : List Value
def Dk.row (d : Dk) : Obj := .cells #[.slice (some ⟨d.s0, 0, none⟩) d.n d.k0, .slice (some ⟨d.s1, 0, none⟩) d.n d.k1, .int .i64 d.left, .bool d.down, .int .i64 d.wr, d.wv] 56 (0, 0)
/-- A disk lies so. -/
structure At (w : World) (base : Nat) (d : Dk) : Prop where
  row : w.heap[d.g]? = some d.row
  r0 : w.heap[d.s0]? = some (.cells (bys d.a ++ d.ta).toArray 5 (0, 0))
  r1 : w.heap[d.s1]? = some (.cells (bys d.b ++ d.tb).toArray 5 (0, 0))
  la : d.a.length = d.n
  lb : d.b.length = d.n
  own : w.ownsRow base 22 1 d.wv d.vs.length d.vs
  bg : base ≤ d.g
  b0 : base ≤ d.s0
  b1 : base ≤ d.s1
  ne : d.s0 ≠ d.s1
  ln : d.n ≤ 262144
  h0 : d.n ≤ d.k0 ∧ d.k0 ≤ maxLen
  h1 : d.n ≤ d.k1 ∧ d.k1 ≤ maxLen
theorem At.cells {w : World} {base : Nat} {d : Dk} (h : At w base d) : w.cell? ⟨d.g, 0, none⟩ = some (.slice (some ⟨d.s0, 0, none⟩) d.n d.k0) ∧ w.cell? ⟨d.g, 1, none⟩ = some (.slice (some ⟨d.s1, 0, none⟩) d.n d.k1) ∧ w.cell? ⟨d.g, 2, none⟩ = some (.int .i64 d.left) ∧ w.cell? ⟨d.g, 3, none⟩ = some (.bool d.down) ∧ w.cell? ⟨d.g, 4, none⟩ = some (.int .i64 d.wr) ∧ w.cell? ⟨d.g, 5, none⟩ = some d.wv :=
  ⟨(cell_of_row _ _ _ _ _ _ h.row).trans rfl, (cell_of_row _ _ _ _ _ _ h.row).trans rfl, (cell_of_row _ _ _ _ _ _ h.row).trans rfl, (cell_of_row _ _ _ _ _ _ h.row).trans rfl, (cell_of_row _ _ _ _ _ _ h.row).trans rfl, (cell_of_row _ _ _ _ _ _ h.row).trans rfl⟩
theorem At.free {w : World} {base : Nat} {d : Dk} (h : At w base d) (i : Nat) : w.frozen? ⟨d.g, i, none⟩ = false := frozen_of_row _ _ _ _ _ h.row
theorem At.below {w w' : World} {base : Nat} {d : Dk} (h : At w base d) (hb : Below w.heap.size w w') : At w' base d :=
  ⟨blk_below h.row hb, blk_below h.r0 hb, blk_below h.r1 hb, h.la, h.lb, own_below h.own hb, h.bg, h.b0, h.b1, h.ne, h.ln, h.h0, h.h1⟩
theorem At.drew {w : World} {base : Nat} {d : Dk} (h : At w base d) : At w.drew base d := ⟨h.row, h.r0, h.r1, h.la, h.lb, h.own, h.bg, h.b0, h.b1, h.ne, h.ln, h.h0, h.h1⟩
/-- Returns a value, and the world is as it was. -/
def Same (w : World) (v : Value) (e : Ending) (w' : World) : Prop := e = .returned v ∧ w = w'
def ableI (down : Bool) (slot : Int) : Int := if down then 26 else if slot < 0 ∨ 2 ≤ slot then 2 else 0
section
attribute [local go_sem ↓] eq22 eq22n eq37 eq37n eq25 ne25
variable {w : World} {base : Nat} {d : Dk}
set_option maxHeartbeats 1000000
theorem able_any (slot : Int) (h : At w base d) : Calls Try.prog 21 #[.pointer (some ⟨d.g, 0, none⟩), .int .i64 slot] w (Same w (.int .i64 (ableI d.down slot))) := by
  obtain ⟨c0, c1, c2, c3, c4, c5⟩ := h.cells
  obtain ⟨g, s0, s1, n, a, b, left, down, wr, wv, vs, k0, k1, ta, tb⟩ := d
  obtain ⟨V, hV⟩ : ∃ V, ableI down slot = V := ⟨_, rfl⟩
  have HV := Lib.hid hV
  dsimp only at *
  rw [hV]
  clear h hV
  cases down with
  | true =>
    go_enter Try.func21, Try.ntmps21
    go_wp2_with fail
    go_ret
    exact ⟨by rw [← HV.out]; rfl, rfl⟩
  | false =>
    by_cases h1 : slot < 0
    · go_enter Try.func21, Try.ntmps21
      go_wp2_with fail
      go_ret
      exact ⟨by rw [← HV.out, ableI, if_neg (by simp), if_pos (Or.inl h1)]; rfl, rfl⟩
    · by_cases h2 : 2 ≤ slot
      · go_enter Try.func21, Try.ntmps21
        go_wp2_with fail
        go_ret
        exact ⟨by rw [← HV.out, ableI, if_neg (by simp), if_pos (Or.inr h2)]; rfl, rfl⟩
      · go_enter Try.func21, Try.ntmps21
        go_wp2_with fail
        go_ret
        exact ⟨by rw [← HV.out, ableI, if_neg (by simp), if_neg (by omega)]; rfl, rfl⟩
theorem size_any (h : At w base d) : Calls Try.prog 13 #[.pointer (some ⟨d.g, 0, none⟩)] w (Same w (.int .i64 d.n)) := by
  obtain ⟨c0, c1, c2, c3, c4, c5⟩ := h.cells
  obtain ⟨g, s0, s1, n, a, b, left, down, wr, wv, vs, k0, k1, ta, tb⟩ := d
  dsimp only at *
  clear h
  go_enter Try.func13, Try.ntmps13
  go_wp2_with fail
  go_ret
  exact ⟨rfl, rfl⟩
theorem down_any (h : At w base d) : Calls Try.prog 10 #[.pointer (some ⟨d.g, 0, none⟩)] w (Same w (.bool d.down)) := by
  obtain ⟨c0, c1, c2, c3, c4, c5⟩ := h.cells
  obtain ⟨g, s0, s1, n, a, b, left, down, wr, wv, vs, k0, k1, ta, tb⟩ := d
  dsimp only at *
  clear h
  go_enter Try.func10, Try.ntmps10
  go_wp2_with fail
  go_ret
  exact ⟨rfl, rfl⟩
theorem written_any (h : At w base d) : Calls Try.prog 14 #[.pointer (some ⟨d.g, 0, none⟩)] w (Same w (.int .i64 d.wr)) := by
  obtain ⟨c0, c1, c2, c3, c4, c5⟩ := h.cells
  obtain ⟨g, s0, s1, n, a, b, left, down, wr, wv, vs, k0, k1, ta, tb⟩ := d
  dsimp only at *
  clear h
  go_enter Try.func14, Try.ntmps14
  go_wp2_with fail
  go_ret
  exact ⟨rfl, rfl⟩
end
end Go.Proofs.Ytijcdpefcdgklaa.Di
