/- The state of FaultPlays' loop, and what a round does to it: no walk. -/
import Derived.Test.YtbfkcfmkbdlngaaFd
import Derived.Test.YtbfkcfmkbdlngaaApp
namespace Go.Proofs.Ytbfkcfmkbdlngaa.Fa
open Go.RowKit K

structure P4 where
  a : Int
  f : Int
  t : Int
  d : Bool
def P4.cells (p : P4) : List Value := [.int .i64 p.a, .int .i64 p.f, .int .i64 p.t, .bool p.d]
def ptr (g : Nat) : Value := .pointer (some ⟨g, 0, none⟩)
def ptrs (gs : List Nat) : List Value := gs.map ptr
def rows (ps : List P4) : List Value := ps.flatMap P4.cells
theorem rows_length (ps : List P4) : (rows ps).length = ps.length * 4 := by
  induction ps with
  | nil => rfl
  | cons p ps ih =>
    have e : rows (p :: ps) = p.cells ++ rows ps := rfl
    rw [e, List.length_append, ih, List.length_cons]
    show 4 + _ = _
    omega
theorem rows_at (ps : List P4) (i : Nat) (p : P4) (h : ps[i]? = some p) : (rows ps)[i * 4]? = some (.int .i64 p.a) ∧ (rows ps)[i * 4 + 1]? = some (.int .i64 p.f) ∧ (rows ps)[i * 4 + 2]? = some (.int .i64 p.t) ∧ (rows ps)[i * 4 + 3]? = some (.bool p.d) := by
  induction ps generalizing i with
  | nil => simp at h
  | cons q ps ih =>
    have e : rows (q :: ps) = q.cells ++ rows ps := rfl
    cases i with
    | zero =>
      obtain rfl : q = p := by simpa using h
      exact ⟨rfl, rfl, rfl, rfl⟩
    | succ i =>
      have h' := ih i (by simpa using h)
      have hl : q.cells.length = 4 := rfl
      rw [e]
      refine ⟨?_, ?_, ?_, ?_⟩
      · rw [List.getElem?_append_right (by omega), hl, show (i + 1) * 4 - 4 = i * 4 by omega]; exact h'.1
      · rw [List.getElem?_append_right (by omega), hl, show (i + 1) * 4 + 1 - 4 = i * 4 + 1 by omega]; exact h'.2.1
      · rw [List.getElem?_append_right (by omega), hl, show (i + 1) * 4 + 2 - 4 = i * 4 + 2 by omega]; exact h'.2.2.1
      · rw [List.getElem?_append_right (by omega), hl, show (i + 1) * 4 + 3 - 4 = i * 4 + 3 by omega]; exact h'.2.2.2
theorem rows_set (ps : List P4) (i : Nat) (p : P4) (h : i < ps.length) :
    ((((rows ps).set (i * 4) (.int .i64 p.a)).set (i * 4 + 1) (.int .i64 p.f)).set (i * 4 + 2) (.int .i64 p.t)).set (i * 4 + 3) (.bool p.d) = rows (ps.set i p) := by
  induction ps generalizing i with
  | nil => simp at h
  | cons q ps ih =>
    have e : rows (q :: ps) = .int .i64 q.a :: .int .i64 q.f :: .int .i64 q.t :: .bool q.d :: rows ps := rfl
    cases i with
    | zero => rw [e]; rfl
    | succ i =>
      rw [e, show (i + 1) * 4 = i * 4 + 1 + 1 + 1 + 1 by omega]
      simp only [List.set_cons_succ]
      rw [ih i (by simpa using h)]
      rfl

/-- The plans of both sides, as they stand at the head of a round. -/
structure Both (B : Nat) (w : World) (v3 v4 : Value) (gs : List Nat) (ps : List P4) : Prop where
  len : gs.length = ps.length
  pos : 0 < gs.length
  most : gs.length ≤ 4
  all : w.ownsRow B 23 1 v3 gs.length (ptrs gs)
  want : w.ownsRow B 33 4 v4 gs.length (rows ps)
  nodup : gs.Nodup
  own : ∀ g ∈ gs, B ≤ g
  plan : ∀ (j : Nat) (g : Nat) (p : P4), gs[j]? = some g → ps[j]? = some p → Plan w g p.a p.f p.t p.d
  fits : ∀ p ∈ ps, Fits p.a p.f

/-- One of them, laid open. -/
structure Open (B : Nat) (w : World) (v3 v4 : Value) (gs : List Nat) (ps : List P4) (i g ga ca gw cw : Nat) (cura curw : Array Value) (p : P4) : Prop where
  e3 : v3 = .slice (some ⟨ga, 0, none⟩) gs.length ca
  e4 : v4 = .slice (some ⟨gw, 0, none⟩) gs.length cw
  hg : gs[i]? = some g
  hp : ps[i]? = some p
  hga : w.heap[ga]? = some (.cells cura 23 (0, 0))
  hgw : w.heap[gw]? = some (.cells curw 33 (0, 0))
  Ba : B ≤ ga
  Bw : B ≤ gw
  Bg : B ≤ g
  pl : Plan w g p.a p.f p.t p.d
  at_ : cura[i]? = some (ptr g)
  c0 : curw[i * 4]? = some (.int .i64 p.a)
  c1 : curw[i * 4 + 1]? = some (.int .i64 p.f)
  c2 : curw[i * 4 + 2]? = some (.int .i64 p.t)
  c3 : curw[i * 4 + 3]? = some (.bool p.d)
  fit : Fits p.a p.f
  nag : ga ≠ g
  nwg : gw ≠ g
  naw : ga ≠ gw
theorem take_get {α : Type} {l xs : List α} {n i : Nat} {x : α} (h : l.take n = xs) (hx : xs[i]? = some x) : l[i]? = some x := by
  subst h
  rw [List.getElem?_take] at hx
  split at hx
  · exact hx
  · cases hx
theorem Both.open_ {B : Nat} {w : World} {v3 v4 : Value} {gs : List Nat} {ps : List P4} (h : Both B w v3 v4 gs ps) (i : Nat) (hi : i < gs.length) :
    ∃ g ga ca gw cw cura curw p, Open B w v3 v4 gs ps i g ga ca gw cw cura curw p := by
  have hpos := h.pos
  rcases h.all.2 with ⟨_, h0⟩ | ⟨ga, ca, cura, e3, Ba, hga, _, _, _, ta⟩
  · omega
  rcases h.want.2 with ⟨_, h0⟩ | ⟨gw, cw, curw, e4, Bw, hgw, _, _, _, tw⟩
  · omega
  have hp : ps[i]? = some (ps[i]'(by have := h.len; omega)) := List.getElem?_eq_getElem _
  have hg : gs[i]? = some gs[i] := List.getElem?_eq_getElem hi
  have pl := h.plan i _ _ hg hp
  have hr := rows_at ps i _ hp
  refine ⟨gs[i], ga, ca, gw, cw, cura, curw, _, e3, e4, hg, hp, hga, hgw, Ba, Bw, h.own _ (List.getElem_mem hi), pl, ?_, ?_, ?_, ?_, ?_, h.fits _ (List.getElem_mem _), blk_ne hga pl (by decide), blk_ne hgw pl (by decide), blk_ne hga hgw (by decide)⟩
  · have : (ptrs gs)[i]? = some (ptr gs[i]) := by simp [ptrs, hg]
    simpa using take_get ta this
  · simpa using take_get tw hr.1
  · simpa using take_get tw hr.2.1
  · simpa using take_get tw hr.2.2.1
  · simpa using take_get tw hr.2.2.2

/-- Cells of one of the reference's plans, in any world in which its block stands. -/
theorem want_at {W : World} {gw i : Nat} {curw : Array Value} {p : P4} (h : W.heap[gw]? = some (.cells curw 33 (0, 0))) (c0 : curw[i * 4]? = some (.int .i64 p.a)) (c1 : curw[i * 4 + 1]? = some (.int .i64 p.f)) (c2 : curw[i * 4 + 2]? = some (.int .i64 p.t)) (c3 : curw[i * 4 + 3]? = some (.bool p.d)) :
    W.cell? ⟨gw, i * 4, none⟩ = some (.int .i64 p.a) ∧ W.cell? ⟨gw, i * 4 + 1, none⟩ = some (.int .i64 p.f) ∧ W.cell? ⟨gw, i * 4 + 2, none⟩ = some (.int .i64 p.t) ∧ W.cell? ⟨gw, i * 4 + 3, none⟩ = some (.bool p.d) ∧
    W.frozen? ⟨gw, i * 4, none⟩ = false ∧ W.frozen? ⟨gw, i * 4 + 1, none⟩ = false ∧ W.frozen? ⟨gw, i * 4 + 2, none⟩ = false ∧ W.frozen? ⟨gw, i * 4 + 3, none⟩ = false :=
  ⟨(cell_of_row _ _ _ _ _ _ h).trans c0, (cell_of_row _ _ _ _ _ _ h).trans c1, (cell_of_row _ _ _ _ _ _ h).trans c2, (cell_of_row _ _ _ _ _ _ h).trans c3,
   frozen_of_row _ _ _ _ _ h, frozen_of_row _ _ _ _ _ h, frozen_of_row _ _ _ _ _ h, frozen_of_row _ _ _ _ _ h⟩

/-- A world that went on from w: nothing below its heap has turned, but for the block of the plan and that of the reference's plans. -/
structure Step (w w' : World) (g gw : Nat) : Prop where
  size : w.heap.size ≤ w'.heap.size
  block : ∀ k, k < w.heap.size → k ≠ g → k ≠ gw → w'.heap[k]? = w.heap[k]?
theorem Step.refl (w : World) (g gw : Nat) : Step w w g gw := ⟨Nat.le_refl _, fun _ _ _ _ => rfl⟩
theorem Step.alloc {w w' : World} {g gw : Nat} (h : Step w w' g gw) (o : Obj) : Step w (w'.alloc o) g gw :=
  ⟨by simp; have := h.size; omega, fun k hk h1 h2 => (Below.heap_alloc _ _ _ (by have := h.size; omega)).trans (h.block k hk h1 h2)⟩
theorem Step.drew {w w' : World} {g gw : Nat} (h : Step w w' g gw) : Step w w'.drew g gw := ⟨h.size, h.block⟩
theorem Step.grown {w w1 w2 : World} {g gw : Nat} (h : Step w w1 g gw) (hg : w1.grownBy w2 (some g)) : Step w w2 g gw :=
  ⟨Nat.le_trans h.size hg.size, fun k hk h1 h2 => (hg.block k (by have := h.size; omega) (by simpa using h1)).trans (h.block k hk h1 h2)⟩
theorem Step.below {w w1 w2 : World} {g gw : Nat} (h : Step w w1 g gw) (hg : Below w1.heap.size w1 w2) : Step w w2 g gw :=
  ⟨Nat.le_trans h.size hg.size, fun k hk h1 h2 => (hg.block k (by have := h.size; omega)).trans (h.block k hk h1 h2)⟩
theorem Step.set {w w' : World} {g gw : Nat} (h : Step w w' g gw) (i : Nat) (v : Value) : Step w (w'.setCell ⟨gw, i, none⟩ v) g gw :=
  ⟨by simp [World.setCell]; exact h.size, fun k hk h1 h2 => (Below.heap_setCell _ _ _ _ h2).trans (h.block k hk h1 h2)⟩

section
variable {B : Nat} {w w' : World} {v3 v4 : Value} {gs : List Nat} {ps : List P4} {i g ga ca gw cw : Nat} {cura curw : Array Value} {p p' : P4}
/-- One plan on either side has turned. -/
theorem Both.turn (h : Both B w v3 v4 gs ps) (o : Open B w v3 v4 gs ps i g ga ca gw cw cura curw p) (hs : Step w w' g gw) (hp : Plan w' g p'.a p'.f p'.t p'.d) (hf : Fits p'.a p'.f)
    (hw : w'.heap[gw]? = some (.cells ((((curw.setIfInBounds (i * 4) (.int .i64 p'.a)).setIfInBounds (i * 4 + 1) (.int .i64 p'.f)).setIfInBounds (i * 4 + 2) (.int .i64 p'.t)).setIfInBounds (i * 4 + 3) (.bool p'.d)) 33 (0, 0))) :
    Both B w' v3 v4 gs (ps.set i p') := by
  have hlen := h.len
  have hi : i < ps.length := (List.getElem?_eq_some_iff.1 o.hp).1
  refine ⟨by simpa using h.len, h.pos, h.most, ?_, ?_, h.nodup, h.own, ?_, ?_⟩
  · refine ⟨h.all.1, ?_⟩
    rcases h.all.2 with hn | ⟨ga', ca', cura', e3, Ba, hga, r⟩
    · exact .inl hn
    · refine .inr ⟨ga', ca', cura', e3, Ba, ?_, r⟩
      have e := o.e3
      rw [e3] at e
      injection e with e1 e2 e3
      injection e1 with e1
      injection e1 with e1
      subst e1
      rw [hs.block ga' (blk_lt hga) o.nag o.naw]
      exact hga
  · refine ⟨by rw [rows_length, List.length_set]; omega, ?_⟩
    rcases h.want.2 with hn | ⟨gw', cw', curw', e4, Bw, hgw, r1, r2, r3, r4⟩
    · have := h.pos; omega
    · have e := o.e4
      rw [e4] at e
      injection e with e1 e2 e3
      injection e1 with e1
      injection e1 with e1
      subst e1
      have hcur : curw' = curw := by
        have := hgw.symm.trans o.hgw
        injection this with this
        injection this
      subst hcur
      refine .inr ⟨gw', cw', _, e4, Bw, hw, r1, r2, by simpa using r3, ?_⟩
      rw [Array.toList_setIfInBounds, Array.toList_setIfInBounds, Array.toList_setIfInBounds, Array.toList_setIfInBounds, List.take_set, List.take_set, List.take_set, List.take_set, r4]
      exact rows_set ps i p' hi
  · intro j g' q hg' hq
    rw [List.getElem?_set] at hq
    by_cases hij : i = j
    · subst hij
      rw [if_pos rfl, if_pos hi] at hq
      injection hq with hq
      subst hq
      rw [o.hg] at hg'
      injection hg' with hg'
      subst hg'
      exact hp
    · rw [if_neg hij] at hq
      have pl := h.plan j g' q hg' hq
      have hne : g' ≠ g := fun e => hij (by
        subst e
        have h1 := List.getElem?_eq_some_iff.1 hg'
        have h2 := List.getElem?_eq_some_iff.1 o.hg
        obtain ⟨l1, x1⟩ := h1
        obtain ⟨l2, x2⟩ := h2
        exact (List.getElem_inj h.nodup).1 (x2.trans x1.symm))
      have hnw : g' ≠ gw := fun e => by
        have hk : gw ≠ g' := blk_ne o.hgw pl (by decide)
        exact hk e.symm
      show w'.heap[g']? = _
      rw [hs.block g' pl.lt hne hnw]
      exact pl
  · intro q hq
    rcases List.mem_or_eq_of_mem_set hq with hq | rfl
    · exact h.fits q hq
    · exact hf
/-- The block of the reference's plans behind the store of one of them. -/
theorem set4 (h : w.heap[gw]? = some (.cells curw 33 (0, 0))) (v0 v1 v2 v3 : Value) :
    ((((w.setCell ⟨gw, i * 4, none⟩ v0).setCell ⟨gw, i * 4 + 1, none⟩ v1).setCell ⟨gw, i * 4 + 2, none⟩ v2).setCell ⟨gw, i * 4 + 3, none⟩ v3).heap[gw]? =
      some (.cells ((((curw.setIfInBounds (i * 4) v0).setIfInBounds (i * 4 + 1) v1).setIfInBounds (i * 4 + 2) v2).setIfInBounds (i * 4 + 3) v3) 33 (0, 0)) :=
  heap_setCell_same _ _ _ _ _ _ (heap_setCell_same _ _ _ _ _ _ (heap_setCell_same _ _ _ _ _ _ (heap_setCell_same _ _ _ _ _ _ h)))
/-- A round: the program's plan has turned, and its reference is stored. -/
theorem Both.turn4 (h : Both B w v3 v4 gs ps) (o : Open B w v3 v4 gs ps i g ga ca gw cw cura curw p) (hs : Step w w' g gw) (p' : P4) (hp : Plan w' g p'.a p'.f p'.t p'.d) (hf : Fits p'.a p'.f)
    (hw : w'.heap[gw]? = some (.cells curw 33 (0, 0))) :
    Both B ((((w'.setCell ⟨gw, i * 4, none⟩ (.int .i64 p'.a)).setCell ⟨gw, i * 4 + 1, none⟩ (.int .i64 p'.f)).setCell ⟨gw, i * 4 + 2, none⟩ (.int .i64 p'.t)).setCell ⟨gw, i * 4 + 3, none⟩ (.bool p'.d)) v3 v4 gs (ps.set i p') :=
  h.turn o ((((hs.set _ _).set _ _).set _ _).set _ _) (blk_far (blk_far (blk_far (blk_far hp o.nwg.symm _) o.nwg.symm _) o.nwg.symm _) o.nwg.symm _) hf (set4 hw _ _ _ _)
/-- A round that stores a bool alone. -/
theorem Both.turn1 (h : Both B w v3 v4 gs ps) (o : Open B w v3 v4 gs ps i g ga ca gw cw cura curw p) (hs : Step w w' g gw) {d : Bool} (hp : Plan w' g p.a p.f p.t d)
    (hw : w'.heap[gw]? = some (.cells curw 33 (0, 0))) : Both B (w'.setCell ⟨gw, i * 4 + 3, none⟩ (.bool d)) v3 v4 gs (ps.set i ⟨p.a, p.f, p.t, d⟩) := by
  refine h.turn o (p' := ⟨p.a, p.f, p.t, d⟩) (hs.set _ _) (blk_far hp o.nwg.symm _) o.fit ?_
  rw [heap_setCell_same _ _ _ _ _ _ hw]
  refine congrArg (fun x => some (Obj.cells x 33 (0, 0))) ?_
  have e0 : curw.setIfInBounds (i * 4) (.int .i64 p.a) = curw := by
    apply Array.ext_getElem?; intro j; rw [Array.getElem?_setIfInBounds]; split
    · subst_vars; split
      · exact o.c0.symm
      · rename_i hh; have := (Array.getElem?_eq_some_iff.1 o.c0).1; omega
    · rfl
  have e1 : curw.setIfInBounds (i * 4 + 1) (.int .i64 p.f) = curw := by
    apply Array.ext_getElem?; intro j; rw [Array.getElem?_setIfInBounds]; split
    · subst_vars; split
      · exact o.c1.symm
      · rename_i hh; have := (Array.getElem?_eq_some_iff.1 o.c1).1; omega
    · rfl
  have e2 : curw.setIfInBounds (i * 4 + 2) (.int .i64 p.t) = curw := by
    apply Array.ext_getElem?; intro j; rw [Array.getElem?_setIfInBounds]; split
    · subst_vars; split
      · exact o.c2.symm
      · rename_i hh; have := (Array.getElem?_eq_some_iff.1 o.c2).1; omega
    · rfl
  show _ = ((((curw.setIfInBounds (i * 4) (.int .i64 p.a)).setIfInBounds (i * 4 + 1) (.int .i64 p.f)).setIfInBounds (i * 4 + 2) (.int .i64 p.t)).setIfInBounds (i * 4 + 3) (.bool d))
  rw [e0, e1, e2]
theorem b_set4 {w0 W : World} (h : Below w0.heap.size w0 W) (hg : w0.heap.size ≤ gw) (j0 j1 j2 j3 : Nat) (u0 u1 u2 u3 : Value) :
    Below w0.heap.size w0 ((((W.setCell ⟨gw, j0, none⟩ u0).setCell ⟨gw, j1, none⟩ u1).setCell ⟨gw, j2, none⟩ u2).setCell ⟨gw, j3, none⟩ u3) :=
  b_set (b_set (b_set (b_set h hg _) hg _) hg _) hg _
/-- The same plans, in a world that went on. -/
theorem Both.stay (h : Both B w v3 v4 gs ps) (hb : Below w.heap.size w w') : Both B w' v3 v4 gs ps :=
  ⟨h.len, h.pos, h.most, h.all.kept (row := none) ⟨hb.os, hb.tape, hb.output, hb.size, fun k hk _ => hb.block k hk⟩ (by cases Value.ownBlock v3 <;> simp), h.want.kept (row := none) ⟨hb.os, hb.tape, hb.output, hb.size, fun k hk _ => hb.block k hk⟩ (by cases Value.ownBlock v4 <;> simp), h.nodup, h.own,
   fun j g p hg hp => Plan.below (h.plan j g p hg hp) hb, h.fits⟩
end
theorem rows_append (ps qs : List P4) : rows (ps ++ qs) = rows ps ++ rows qs := by simp [rows, List.flatMap_append]
/-- A round that clones a plan on either side. -/
theorem Both.clone {B : Nat} {wr wa wb wc wd we wf : World} {v3 v4 v3' v4' : Value} {gs : List Nat} {ps : List P4} {i g ga ca gw cw gN : Nat} {cura curw : Array Value} {p : P4}
    (h : Both B wr v3 v4 gs ps) (o : Open B wr v3 v4 gs ps i g ga ca gw cw cura curw p) (h4 : gs.length < 4) (hB : B ≤ wr.heap.size) (h1 : Below wr.heap.size wr wa) (hN : wa.heap.size ≤ gN) (hpl : Plan wb gN p.a p.f p.t p.d) (h2 : Below wa.heap.size wa wb) (h3 : Below wb.heap.size wb wc)
    (hA : App wc wd B 23 1 v3 v3' gs.length 1 (ptrs gs) [ptr gN]) (h5 : Below wd.heap.size wd we) (hW : App we wf B 33 4 v4 v4' gs.length 1 (rows ps) p.cells) :
    Both B wf v3' v4' (gs ++ [gN]) (ps ++ [p]) := by
  obtain ⟨g3, c3, e3, at3, lt3⟩ := hA.lies
  obtain ⟨g4, c4, e4, at4, lt4⟩ := hW.lies
  have b1 : v3.ownBlock = some ga := by rw [o.e3]; rfl
  have b2 : v4.ownBlock = some gw := by rw [o.e4]; rfl
  have s1 := h1.size
  have s2 := h2.size
  have s3 := h3.size
  have s4 := hA.grow.size
  have s5 := h5.size
  have lgw := blk_lt o.hgw
  have lga := blk_lt o.hga
  have lgN := hpl.lt
  -- the program's plans that were there
  have old : ∀ k, k < wr.heap.size → k ≠ ga → k ≠ gw → wf.heap[k]? = wr.heap[k]? := fun k hk n1 n2 =>
    (hW.grow.block k (by omega) (by rw [b2]; simpa using n2)).trans ((h5.block k (by omega)).trans ((hA.grow.block k (by omega) (by rw [b1]; simpa using n1)).trans ((h3.block k (by omega)).trans ((h2.block k (by omega)).trans (h1.block k hk)))))
  have newN : Plan wf gN p.a p.f p.t p.d := by
    have q1 : Plan wc gN p.a p.f p.t p.d := hpl.below h3
    have q2 : Plan wd gN p.a p.f p.t p.d := q1.kept hA.grow (by rw [b1]; simp; omega)
    have q3 : Plan we gN p.a p.f p.t p.d := q2.below h5
    exact q3.kept hW.grow (by rw [b2]; simp; omega)
  have hge : ∀ x ∈ gs, x < wr.heap.size := fun x hx => by
    obtain ⟨j, hj, rfl⟩ := List.mem_iff_getElem.1 hx
    exact (h.plan j _ (ps[j]'(by have := h.len; omega)) (List.getElem?_eq_getElem hj) (List.getElem?_eq_getElem _)).lt
  refine ⟨by simp [h.len], by simp, by simp; omega, ?_, ?_, ?_, ?_, ?_, ?_⟩
  · have q : we.ownsRow B 23 1 v3' (gs.length + 1) (ptrs gs ++ [ptr gN]) := own_below hA.own h5
    have q2 := q.kept hW.grow (by
      right
      rw [b2, e3]
      show some g3 ≠ some gw
      rcases at3 with e | e
      · rw [b1] at e
        injection e with e
        have := o.naw
        simp
        omega
      · simp
        omega)
    simpa [ptrs] using q2
  · have q := hW.own
    rw [rows_append]
    simpa [rows] using q
  · rw [List.nodup_append]
    refine ⟨h.nodup, by simp, fun a ha b hb => ?_⟩
    have := hge a ha
    simp at hb
    omega
  · intro x hx
    rw [List.mem_append] at hx
    rcases hx with hx | hx
    · exact h.own x hx
    · simp at hx
      omega
  · intro j g' q hg hq
    have hlen := h.len
    by_cases hj : j < gs.length
    · rw [List.getElem?_append_left hj] at hg
      rw [List.getElem?_append_left (by omega)] at hq
      have pl := h.plan j g' q hg hq
      exact (old g' pl.lt (fun e => by subst e; exact blk_ne o.hga pl (by decide) rfl) (fun e => by subst e; exact blk_ne o.hgw pl (by decide) rfl)).trans pl
    · rw [List.getElem?_append_right (by omega)] at hg
      rw [List.getElem?_append_right (by omega), ← hlen] at hq
      have h0 : j - gs.length = 0 := by
        rcases Nat.eq_zero_or_pos (j - gs.length) with e | e
        · exact e
        · rw [List.getElem?_eq_none (by simp; omega)] at hg
          cases hg
      rw [h0] at hg hq
      obtain rfl : gN = g' := by simpa using hg
      obtain rfl : p = q := by simpa using hq
      exact newN
  · intro q hq
    rw [List.mem_append] at hq
    rcases hq with hq | hq
    · exact h.fits q hq
    · obtain rfl : q = p := by simpa using hq
      exact o.fit
theorem clone_below {w0 wr wa wb wc wd we wf : World} {v3 v4 v3' v4' : Value} {n m n' m' s s' : Nat} {e e' : TypeId} {xs xs' news news' : List Value} (h0 : Below w0.heap.size w0 wr) (h1 : Below wr.heap.size wr wa) (h2 : Below wa.heap.size wa wb) (h3 : Below wb.heap.size wb wc)
    (hA : App wc wd w0.heap.size e s v3 v3' n m xs news) (h5 : Below wd.heap.size wd we) (hW : App we wf w0.heap.size e' s' v4 v4' n' m' xs' news') : Below w0.heap.size w0 wf :=
  hW.below (b_then (hA.below (b_then (b_then (b_then h0 h1) h2) h3) (Nat.le_refl _)) h5) (Nat.le_refl _)
/-- The cells that a clone reads. -/
abbrev CellsAt (ga gw i g : Nat) (p : P4) (W : World) : Prop :=
  W.cell? ⟨ga, i, none⟩ = some (.pointer (some ⟨g, 0, none⟩)) ∧ W.cell? ⟨gw, i * 4, none⟩ = some (.int .i64 p.a) ∧ W.cell? ⟨gw, i * 4 + 1, none⟩ = some (.int .i64 p.f) ∧ W.cell? ⟨gw, i * 4 + 2, none⟩ = some (.int .i64 p.t) ∧ W.cell? ⟨gw, i * 4 + 3, none⟩ = some (.bool p.d)
theorem cells_appA {B : Nat} {wr W W' : World} {v3 v4 v3' : Value} {gs : List Nat} {ps : List P4} {i g ga ca gw cw n : Nat} {cura curw : Array Value} {p : P4} {news : List Value}
    (o : Open B wr v3 v4 gs ps i g ga ca gw cw cura curw p) (hA : App W W' B 23 1 (.slice (some ⟨ga, 0, none⟩) gs.length ca) v3' n 1 (ptrs gs) news) (h : CellsAt ga gw i g p W) : CellsAt ga gw i g p W' := by
  have hi := (List.getElem?_eq_some_iff.1 o.hg).1
  have hne : ∀ j, Value.ownBlock (.slice (some ⟨ga, 0, none⟩) gs.length ca) = some gw → j < (ptrs gs).length := fun j e => absurd e (by show ¬ (some ga = some gw); simpa using o.naw)
  exact ⟨hA.cell h.1 (fun _ => by simpa [ptrs] using hi), hA.cell h.2.1 (hne _), hA.cell h.2.2.1 (hne _), hA.cell h.2.2.2.1 (hne _), hA.cell h.2.2.2.2 (hne _)⟩
theorem cells_appW {B : Nat} {wr W W' : World} {v3 v4 v4' : Value} {gs : List Nat} {ps : List P4} {i g ga ca gw cw n : Nat} {cura curw : Array Value} {p : P4} {news : List Value}
    (o : Open B wr v3 v4 gs ps i g ga ca gw cw cura curw p) (hA : App W W' B 33 4 (.slice (some ⟨gw, 0, none⟩) gs.length cw) v4' n 1 (rows ps) news) (h : CellsAt ga gw i g p W) : CellsAt ga gw i g p W' := by
  have hi := (List.getElem?_eq_some_iff.1 o.hp).1
  have hl := rows_length ps
  have hne : Value.ownBlock (.slice (some ⟨gw, 0, none⟩) gs.length cw) = some ga → i < (rows ps).length := fun e => absurd e (by show ¬ (some gw = some ga); simpa using fun e => o.naw e.symm)
  exact ⟨hA.cell h.1 hne, hA.cell h.2.1 (fun _ => by omega), hA.cell h.2.2.1 (fun _ => by omega), hA.cell h.2.2.2.1 (fun _ => by omega), hA.cell h.2.2.2.2 (fun _ => by omega)⟩
theorem cells_below {ga gw i g : Nat} {p : P4} {W W' : World} (hb : Below W.heap.size W W') (h : CellsAt ga gw i g p W) : CellsAt ga gw i g p W' := by
  have k : ∀ {a : Addr} {v : Value}, W.cell? a = some v → W'.cell? a = some v := fun hc => (hb.cell (World.block_lt_of_cell? W _ hc)).trans hc
  exact ⟨k h.1, k h.2.1, k h.2.2.1, k h.2.2.2.1, k h.2.2.2.2⟩
theorem fits_arm {a f n : Int} (h : Fits a f) (hn : n ≤ 9223372036854775807) : Fits (armA n) f := by
  unfold Fits armA at *
  split <;> omega
theorem fits_fail {a f n : Int} (h : Fits a f) : Fits a (failF n) := by
  unfold Fits failF at *
  split
  · omega
  · split <;> omega
theorem fits_up : Fits (-1) 0 := by
  unfold Fits
  omega
theorem fits_try {a f : Int} (h : Fits a f) : Fits (upA a) (upF f) := by
  unfold Fits upA upF at *
  split <;> split <;> omega
theorem fits_tryR {a f t : Int} {d : Bool} {r a' f' t' : Int} {d' : Bool} (h : Fits a f) (hr : tryR a f t d = (r, a', f', t', d')) : Fits a' f' := by
  unfold tryR at hr
  split at hr
  · simp only [Prod.mk.injEq] at hr
    obtain ⟨rfl, rfl, rfl, rfl, rfl⟩ := hr
    exact h
  · simp only [Prod.mk.injEq] at hr
    obtain ⟨rfl, rfl, rfl, rfl, rfl⟩ := hr
    exact fits_try h
theorem Plan.far4 {w : World} {g gw : Nat} {a f t : Int} {d : Bool} (h : Plan w g a f t d) (hne : gw ≠ g) (j0 j1 j2 j3 : Nat) (u0 u1 u2 u3 : Value) :
    Plan ((((w.setCell ⟨gw, j0, none⟩ u0).setCell ⟨gw, j1, none⟩ u1).setCell ⟨gw, j2, none⟩ u2).setCell ⟨gw, j3, none⟩ u3) g a f t d :=
  blk_far (blk_far (blk_far (blk_far h hne.symm _) hne.symm _) hne.symm _) hne.symm _
theorem Step.set4 {w w' : World} {g gw : Nat} (h : Step w w' g gw) (j0 j1 j2 j3 : Nat) (u0 u1 u2 u3 : Value) :
    Step w ((((w'.setCell ⟨gw, j0, none⟩ u0).setCell ⟨gw, j1, none⟩ u1).setCell ⟨gw, j2, none⟩ u2).setCell ⟨gw, j3, none⟩ u3) g gw := (((h.set _ _).set _ _).set _ _).set _ _
/-- The block of the reference's plans behind the store of one, and a call that wrote the program's plan. -/
theorem set4_grown {w w' : World} {gw i g : Nat} {curw : Array Value} {v0 v1 v2 v3 : Value} (h : w.heap[gw]? = some (.cells curw 33 (0, 0))) (hne : gw ≠ g)
    {o : Obj} (hg : (((((w.setCell ⟨gw, i * 4, none⟩ v0).setCell ⟨gw, i * 4 + 1, none⟩ v1).setCell ⟨gw, i * 4 + 2, none⟩ v2).setCell ⟨gw, i * 4 + 3, none⟩ v3).alloc o).grownBy w' (some g)) :
    w'.heap[gw]? = some (.cells ((((curw.setIfInBounds (i * 4) v0).setIfInBounds (i * 4 + 1) v1).setIfInBounds (i * 4 + 2) v2).setIfInBounds (i * 4 + 3) v3) 33 (0, 0)) :=
  blk_grown (blk_alloc (set4 h v0 v1 v2 v3) o) hg (by simpa using hne)
theorem own_one {w : World} {base e size : Nat} {cs : Array Value} (hb : base ≤ w.heap.size) (hs : cs.size = size) : (w.alloc (.cells cs e)).ownsRow base e size (.slice (some ⟨w.heap.size, 0, none⟩) 1 1) 1 cs.toList :=
  ⟨by simpa using hs, .inr ⟨w.heap.size, 1, cs, rfl, hb, heap_alloc_new w _, Nat.le_refl _, by unfold maxLen; omega, by omega, by rw [List.take_of_length_le (by simp; omega)]⟩⟩
theorem Both.start {B : Nat} {w2 w3 : World} {g : Nat} (hg : B ≤ g) (hB : B ≤ w2.heap.size) (hp : Plan w2 g (-1) 0 0 false) (hb : Below (w2.alloc (.cells #[.pointer (some ⟨g, 0, none⟩)] 23)).heap.size (w2.alloc (.cells #[.pointer (some ⟨g, 0, none⟩)] 23)) w3) :
    Both B (w3.alloc (.cells #[.int .i64 (-1), .int .i64 0, .int .i64 0, .bool false] 33)) (.slice (some ⟨w2.heap.size, 0, none⟩) 1 1) (.slice (some ⟨w3.heap.size, 0, none⟩) 1 1) [g] [⟨-1, 0, 0, false⟩] := by
  have hs := hb.size
  simp at hs
  refine ⟨rfl, by simp, by simp, ?_, own_one (by omega) rfl, by simp, by simpa using hg, ?_, ?_⟩
  · exact (own_below (own_one hB rfl) hb).alloc _
  · intro j g' p hg' hp'
    cases j with
    | succ j => simp at hg'
    | zero =>
      obtain rfl : g = g' := by simpa using hg'
      obtain rfl : (⟨-1, 0, 0, false⟩ : P4) = p := by simpa using hp'
      exact ((hp.alloc _).below hb).alloc _
  · intro p hp
    obtain rfl : p = ⟨-1, 0, 0, false⟩ := by simpa using hp
    exact fits_up
theorem Both.shape {B : Nat} {w : World} {v3 v4 : Value} {gs : List Nat} {ps : List P4} (h : Both B w v3 v4 gs ps) :
    ∃ ga ca gw cw, v3 = .slice (some ⟨ga, 0, none⟩) gs.length ca ∧ v4 = .slice (some ⟨gw, 0, none⟩) gs.length cw := by
  obtain ⟨g, ga, ca, gw, cw, _, _, _, o⟩ := h.open_ 0 h.pos
  exact ⟨ga, ca, gw, cw, o.e3, o.e4⟩
/-- One of them, laid open, where the slices' shape is known. -/
theorem Both.open2 {B : Nat} {w : World} {ga ca gw cw : Nat} {gs : List Nat} {ps : List P4} (h : Both B w (.slice (some ⟨ga, 0, none⟩) gs.length ca) (.slice (some ⟨gw, 0, none⟩) gs.length cw) gs ps) (i : Nat) (hi : i < gs.length) :
    ∃ g cura curw p, Open B w (.slice (some ⟨ga, 0, none⟩) gs.length ca) (.slice (some ⟨gw, 0, none⟩) gs.length cw) gs ps i g ga ca gw cw cura curw p := by
  obtain ⟨g, ga', ca', gw', cw', cura, curw, p, o⟩ := h.open_ i hi
  have e3 := o.e3
  have e4 := o.e4
  injection e3 with e3 _ e3c
  injection e3 with e3
  injection e3 with e3
  injection e4 with e4 _ e4c
  injection e4 with e4
  injection e4 with e4
  subst e3 e3c e4 e4c
  exact ⟨g, cura, curw, p, o⟩
end Go.Proofs.Ytbfkcfmkbdlngaa.Fa
