/- Disks: what is written, by a walk. -/
import Derived.Test.YtijcdpefcdgklaaGc
import Derived.Deep.RegionLaw
import Derived.Laws.CopyOwn
import Derived.Deep.RegionHeld3
namespace Go.Proofs.Ytijcdpefcdgklaa.Di
open Go.RowKit K

theorem info22 : (Try.prog.info? 22).map (fun i => (i.zero, i.size, i.bytes)) = some (some (.slice none 0 0), 1, 24) := by kernel_rfl
theorem size5 : (Try.prog.info? 5).map (·.size) = some 1 := by kernel_rfl
def Dk.cut (d : Dk) (len : Nat) : Nat := if 0 ≤ d.left ∧ d.left ≤ len then d.left.toNat else len
def Dk.goes (d : Dk) (len : Nat) : Bool := decide (0 ≤ d.left ∧ d.left ≤ len)
def over (img l : List UInt8) (c : Nat) : List UInt8 := l.take c ++ img.drop c
def Dk.wrote (d : Dk) (slot : Int) (l : List UInt8) (wv v : Value) : Dk :=
  { d with a := if slot = 0 then over d.a l (d.cut l.length) else d.a, b := if slot = 0 then d.b else over d.b l (d.cut l.length), left := if 0 < d.left then d.left - d.cut l.length else d.left, down := d.goes l.length, wr := d.wr + d.cut l.length, wv := wv, vs := d.vs ++ [v] }
/-- It has been written. -/
structure Wrote (w : World) (base : Nat) (d : Dk) (slot : Int) (l : List UInt8) (e : Ending) (w' : World) (wv v : Value) : Prop where
  ret : e = .returned (.int .i64 (if d.goes l.length then 26 else 0))
  at_ : At w' base (d.wrote slot l wv v)
  new : w'.ownsRow w.heap.size 5 1 v l.length (bys l)
  fr : Fr (fun k => k = d.g ∨ (k = if slot = 0 then d.s0 else d.s1) ∨ d.wv.ownBlock = some k) w w'
  wb : ∀ k, wv.ownBlock = some k → d.wv.ownBlock = some k ∨ w.heap.size ≤ k
def WroteTo (w : World) (base : Nat) (d : Dk) (slot : Int) (l : List UInt8) (e : Ending) (w' : World) : Prop := ∃ wv v, Wrote w base d slot l e w' wv v
section
attribute [local go_sem ↓] eq22 eq22n eq37 eq37n eq25 ne25
variable {w : World} {base : Nat} {d : Dk}
theorem if_wp {P : Program} {ops : Array Oper} {o : Oper} {a : Act} {w : World} {K : Act → World → Prop} {Q : Exit → Act → World → Prop} {E : Prop} (hg : o.guard = none) (h : o.wp P a w K Q) : if Region.wanted o (yielded ops a.tmps) = true then Oper.wp P o a w K Q else E := by
  rw [if_pos (by simp [Region.wanted, hg])]
  exact h
theorem own_one {w : World} {base : Nat} {e : TypeId} {size n : Nat} {v : Value} {xs : List Value} (h : w.ownsRow base e size v n xs) : ∀ u ∈ [v], u.oneCell' = true := by
  intro u hu
  obtain rfl := List.mem_singleton.1 hu
  obtain ⟨_, h1 | ⟨g, cap, cur, rfl, _⟩⟩ := h
  · rw [h1.1]; rfl
  · rfl
/-- Behind the list of what was to be written. -/
def Step6 (w : World) (base : Nat) (d : Dk) (l : List UInt8) (wx : World) : Prop := ∃ wv v, At wx base { d with wv := wv, vs := d.vs ++ [v] } ∧ wx.ownsRow w.heap.size 5 1 v l.length (bys l) ∧
  Fr (fun k => k = d.g ∨ d.wv.ownBlock = some k) w wx ∧ (∀ k, wv.ownBlock = some k → d.wv.ownBlock = some k ∨ w.heap.size ≤ k)
theorem step6 {l : List UInt8} {w1 w3 : World} {v1 : Value} {g3 cap3 : Nat} (h : At w base d) (hb1 : Below w.drew.heap.size w.drew w1) (hv : w1.ownsRow w.drew.heap.size 5 1 v1 l.length (bys l))
    (ha : App (w1.alloc (.cells #[v1] 22)) w3 base 22 1 d.wv (.slice (some ⟨g3, 0, none⟩) (d.vs.length + 1) cap3) d.vs.length 1 d.vs [v1]) : Step6 w base d l (w3.setCell ⟨d.g, 5, none⟩ (.slice (some ⟨g3, 0, none⟩) (d.vs.length + 1) cap3)) := by
  have hb2 : Below w.heap.size w w1 := (b_drew (Below.refl _ _)).trans hb1
  have hb3 : Below w.heap.size w (w1.alloc (.cells #[v1] 22)) := b_alloc hb2 _
  have f1 : Fr (fun k => k = d.g ∨ d.wv.ownBlock = some k) w w3 := (Fr.of_below hb3).trans ⟨ha.grow.os, ha.grow.tape, ha.grow.output, ha.grow.size, fun k hk hn => ha.grow.block k hk (fun e => hn (Or.inr e.symm))⟩
  have f2 : Fr (fun k => k = d.g ∨ d.wv.ownBlock = some k) w (w3.setCell ⟨d.g, 5, none⟩ (.slice (some ⟨g3, 0, none⟩) (d.vs.length + 1) cap3)) := f1.trans (Fr.of_grown (gb_set (gb_refl _ _) _ _) (Or.inl rfl))
  have hg3 : g3 ≠ d.g := by
    rcases ha.lies with ⟨g, cap, e, h1, _⟩
    injection e with e _ _
    injection e with e
    injection e with e _ _
    subst e
    rcases h1 with h1 | h1
    · exact (h.wv_ne h1).1
    · have h2 : g3 = _ := h1
      have := blk_lt (blk_below h.row hb3)
      omega
  have row3 : w3.heap[d.g]? = some d.row := blk_grown (blk_below h.row hb3) ha.grow (fun e => (h.wv_ne e.symm).1 rfl)
  have n0 : ∀ k, k = d.g ∨ d.wv.ownBlock = some k → k ≠ d.s0 ∧ k ≠ d.s1 := by
    rintro k (rfl | hk)
    · exact h.g_ne
    · exact (h.wv_ne hk).2
  refine ⟨_, v1, ⟨heap_setCell_same w3 d.g 5 _ _ _ row3, f2.row h.r0 (fun e => (n0 _ e).1 rfl), f2.row h.r1 (fun e => (n0 _ e).2 rfl), h.la, h.lb, ?_, h.bg, h.b0, h.b1, h.ne, h.ln, h.h0, h.h1⟩, ?_, f2, ?_⟩
  · have := ha.own
    have e : (d.vs ++ [v1]).length = d.vs.length + 1 := by simp
    show (w3.setCell _ _).ownsRow base 22 1 _ (d.vs ++ [v1]).length (d.vs ++ [v1])
    rw [e]
    exact own_fr (S := fun k => k = d.g) (Fr.of_grown (gb_set (gb_refl _ _) _ _) rfl) this (fun k hk => by cases hk; exact hg3)
  · have f3 : Fr (fun k => k = d.g ∨ d.wv.ownBlock = some k) w1 (w3.setCell ⟨d.g, 5, none⟩ (.slice (some ⟨g3, 0, none⟩) (d.vs.length + 1) cap3)) :=
      ((Fr.of_below (b_alloc (Below.refl w1.heap.size w1) _)).trans ⟨ha.grow.os, ha.grow.tape, ha.grow.output, ha.grow.size, fun k hk hn => ha.grow.block k hk (fun e => hn (Or.inr e.symm))⟩).trans (Fr.of_grown (gb_set (gb_refl _ _) _ _) (Or.inl rfl))
    refine own_fr f3 hv (fun k hk => ?_)
    obtain ⟨_, _, hk2⟩ := own_block hv hk
    have hk3 : w.heap.size ≤ k := hk2
    rintro (rfl | hw)
    · have := blk_lt h.row
      omega
    · obtain ⟨_, hw2, _⟩ := own_block h.own hw
      have := blk_lt hw2
      omega
  · intro k hk
    cases hk
    rcases ha.lies with ⟨g, cap, e, h1, _⟩
    injection e with e _ _
    injection e with e
    injection e with e _ _
    subst e
    rcases h1 with h1 | h1
    · exact Or.inl h1
    · have h2 : g3 = _ := h1
      have := hb3.size
      exact Or.inr (by show w.heap.size ≤ g3; omega)
theorem At.img0 {w w' : World} {base : Nat} {d : Dk} (h : At w base d) {img : List UInt8} (h8 : w'.heap[d.s0]? = some (.cells (bys img ++ d.ta).toArray 5 (0, 0))) (g8 : w.grownBy w' (some d.s0)) (hl : img.length = d.n) : At w' base { d with a := img } :=
  ⟨blk_grown h.row g8 (fun e => h.g_ne.1 (Option.some.inj e)), h8, blk_grown h.r1 g8 (fun e => h.ne (Option.some.inj e).symm), hl, h.lb, own_fr (Fr.of_grown (S := fun k => k = d.s0) g8 rfl) h.own (fun _ hk => (h.wv_ne hk).2.1), h.bg, h.b0, h.b1, h.ne, h.ln, h.h0, h.h1⟩
theorem At.img1 {w w' : World} {base : Nat} {d : Dk} (h : At w base d) {img : List UInt8} (h8 : w'.heap[d.s1]? = some (.cells (bys img ++ d.tb).toArray 5 (0, 0))) (g8 : w.grownBy w' (some d.s1)) (hl : img.length = d.n) : At w' base { d with b := img } :=
  ⟨blk_grown h.row g8 (fun e => h.g_ne.2 (Option.some.inj e)), blk_grown h.r0 g8 (fun e => h.ne (Option.some.inj e)), h8, h.la, hl, own_fr (Fr.of_grown (S := fun k => k = d.s1) g8 rfl) h.own (fun _ hk => (h.wv_ne hk).2.2), h.bg, h.b0, h.b1, h.ne, h.ln, h.h0, h.h1⟩
theorem wrote_eq (d : Dk) (slot : Int) (l : List UInt8) (wv v : Value) {k : Nat} {t : Bool} {L W : Int} (hk : d.cut l.length = k) (ht : d.goes l.length = t) (hL : d.left = L) (hW : d.wr = W) :
    d.wrote slot l wv v = { d with a := if slot = 0 then over d.a l k else d.a, b := if slot = 0 then d.b else over d.b l k, left := if 0 < L then L - k else L, down := t, wr := W + k, wv := wv, vs := d.vs ++ [v] } := by
  subst hk ht hL hW
  rfl
theorem wrote_done {w wc w8 : World} {base : Nat} {d : Dk} {slot : Int} {l : List UInt8} {wv v : Value} {k : Nat} {t : Bool} {L W : Int} (hs : slot = 0 ∨ slot = 1) (h : At w base d) (hv : wc.ownsRow w.heap.size 5 1 v l.length (bys l)) (hf : Fr (fun k => k = d.g ∨ d.wv.ownBlock = some k) w wc)
    (hw : ∀ k, wv.ownBlock = some k → d.wv.ownBlock = some k ∨ w.heap.size ≤ k) (hk : d.cut l.length = k) (ht : d.goes l.length = t) (h8 : Fr (fun k => k = d.g ∨ k = if slot = 0 then d.s0 else d.s1) wc w8) (hL : d.left = L) (hW : d.wr = W) {a1 b1 : List UInt8} {L1 : Int} (ea : (if slot = 0 then over d.a l k else d.a) = a1) (eb : (if slot = 0 then d.b else over d.b l k) = b1) (el : (if 0 < L then L - k else L) = L1)
    (ha : At w8 base { d with a := a1, b := b1, left := L1, down := t, wr := W + k, wv := wv, vs := d.vs ++ [v] }) : Wrote w base d slot l (.returned (.int .i64 (if t then 26 else 0))) w8 wv v := by
  refine ⟨by rw [ht], by rw [wrote_eq d slot l wv v hk ht hL hW, ea, eb, el]; exact ha, ?_, (hf.mono (fun k hk => hk.elim Or.inl (fun e => Or.inr (Or.inr e)))).trans (h8.mono (fun k hk => hk.elim Or.inl (fun e => Or.inr (Or.inl e)))), hw⟩
  refine own_fr h8 hv (fun j hj => ?_)
  obtain ⟨_, _, hj2⟩ := own_block hv hj
  have n1 := blk_lt h.row
  have n2 := blk_lt h.r0
  have n3 := blk_lt h.r1
  rcases hs with rfl | rfl
  · rintro (e | e)
    · omega
    · have e2 : j = d.s0 := e
      omega
  · rintro (e | e)
    · omega
    · have e2 : j = d.s1 := e
      omega
theorem over_len {img l : List UInt8} {c : Nat} (h1 : c ≤ l.length) (h2 : c ≤ img.length) : (over img l c).length = img.length := by
  unfold over
  rw [List.length_append, List.length_take, List.length_drop]
  omega
theorem bys_over {img l : List UInt8} {c : Nat} : bys (over img l c) = bys (l.take c) ++ (bys img).drop c := by
  unfold bys over
  rw [List.map_append, List.map_drop]
/-- A copy over the head of a slot. -/
theorem step_copy1 {ops : Array Oper} {o : Oper} {a : Act} {w : World} {K : Act → World → Prop} {Q : Exit → Act → World → Prop} {E : Prop} (hgd : o.guard = none) (x y : Operand) (ho : o.op = .call { callee := .builtin .copy, args := #[x, y], argTypes := #[22, 22] })
    (g len cap : Nat) (p : Option Addr) (c c' : Nat) (img l : List UInt8) (tl : List Value) (cut : Nat) (hx : a.eval x = .slice (some ⟨g, 0, none⟩) len cap) (hy : a.eval y = .slice p cut c) (hg : w.heap[g]? = some (.cells (bys img ++ tl).toArray 5 (0, 0)))
    (hr : Reads w (.slice p l.length c') l) (hcl : cut ≤ l.length) (hli : img.length = len) (hci : cut ≤ len)
    (h : ∀ w', w'.heap[g]? = some (.cells (bys (over img l cut) ++ tl).toArray 5 (0, 0)) → w.grownBy w' (some g) → K (a.put o.dst (goInt cut)) w') : if Region.wanted o (yielded ops a.tmps) = true then Oper.wp Try.prog o a w K Q else E := by
  rw [if_pos (by simp [Region.wanted, hgd])]
  have run : ∀ w', (Builtin.copy_ #[22, 22] o.type #[.slice (some ⟨g, 0, none⟩) len cap, .slice p cut c]).run Try.prog w = .ok (goInt cut) w' → K (a.put o.dst (goInt cut)) w' → Oper.wp Try.prog o a w K Q := fun w' hrun hK => by
    unfold Oper.wp execOp
    simp only [ho, resolve, invoke, builtin, Sem.run_bind, Sem.run_pure, Result.andThen_ok, List.map_toArray, List.map_cons, List.map_nil, hx, hy, hrun]
    exact hK
  by_cases h0 : cut = 0
  · subst h0
    refine run w (run_copy_none w 22 22 o.type 5 _ p len cap 0 c Try.underlying22 size5 (Nat.zero_min _)) (h w ?_ (gb_refl _ _))
    rw [hg]
    simp [over]
  · rcases hr with ⟨e, rfl⟩ | ⟨ad, c2, e, _, _, hcell⟩
    · simp at hcl
      omega
    · injection e with e _ _
      subst e
      have hl1 : (bys (l.take cut)).length = cut := by rw [bys_len, List.length_take]; omega
      have hrun := run_copy_row (P := Try.prog) w 22 22 o.type 5 g 0 len cap ad cut c (bys img ++ tl).toArray 5 (bys (l.take cut)) Try.underlying22 size5 hg (by rw [hl1]; exact (Nat.min_eq_left hci).symm) (fun j u hj => by
        refine hcell j u ?_
        have hjl : j < cut := by
          have := (List.getElem?_eq_some_iff.1 hj).1
          omega
        unfold bys at hj ⊢
        rw [List.map_take, List.getElem?_take, if_pos hjl] at hj
        exact hj) (by simp [bys_len]; omega) bys_one
      rw [hl1] at hrun
      refine run _ hrun (h _ ?_ ⟨rfl, rfl, rfl, by simp [World.setRow], fun k _ hk => setRow_other w g k _ (fun e => hk (congrArg some e))⟩)
      rw [setRow_heap w g _ _ 5 _ hg, bys_over]
      have hdl : ((bys img ++ tl).drop cut) = (bys img).drop cut ++ tl := List.drop_append_of_le_length (by rw [bys_len]; omega)
      simp [hdl]
theorem read_shape {v : Value} {l : List UInt8} (h : Reads w v l) : ∃ p c, v = .slice p l.length c ∧ (l.length : Nat) ≤ c := by
  rcases h with ⟨rfl, rfl⟩ | ⟨a, c, rfl, h, _⟩
  · exact ⟨none, 0, rfl, Nat.le_refl _⟩
  · exact ⟨some a, c, rfl, h⟩
set_option maxHeartbeats 2000000
set_option maxRecDepth 100000
theorem write_able (slot : Int) (v : Value) (h : At w base d) (hs : ableI d.down slot ≠ 0) : Calls Try.prog 7 #[.pointer (some ⟨d.g, 0, none⟩), .int .i64 slot, v] w (Same w (.int .i64 (ableI d.down slot))) := by
  have H := Lib.hid h
  obtain ⟨A, hA⟩ : ∃ A, ableI d.down slot = A := ⟨_, rfl⟩
  have HA := Lib.hid hA
  rw [hA] at hs ⊢
  have h0 : (A == 0) = false := by simpa using hs
  clear h hA
  go_enter Try.func7, Try.ntmps7
  go_wp2_with fail
  refine (able_any slot H.out).mono ?_
  rintro e w1 ⟨rfl, rfl⟩
  rw [HA.out]
  go_wp2_with fail
  go_ret
  exact ⟨rfl, rfl⟩
theorem write_long (slot : Int) (v : Value) (l : List UInt8) (h : At w base d) (hs : ableI d.down slot = 0) (hr : Reads w v l) (hl : d.n < l.length) : Calls Try.prog 7 #[.pointer (some ⟨d.g, 0, none⟩), .int .i64 slot, v] w (Same w (.int .i64 2)) := by
  have H := Lib.hid h
  have HS := Lib.hid hs
  obtain ⟨p, c, rfl, _⟩ := read_shape hr
  have hi : ((d.n : Nat) : Int) < (l.length : Int) := by omega
  clear h hs hr
  go_enter Try.func7, Try.ntmps7
  go_wp2_with fail
  refine (able_any slot H.out).mono ?_
  rintro e w1 ⟨rfl, rfl⟩
  rw [HS.out]
  go_wp2_with fail
  refine (size_any H.out).mono ?_
  rintro e w1 ⟨rfl, rfl⟩
  go_wp2_with fail
  go_ret
  exact ⟨rfl, rfl⟩
theorem write_ok (slot : Int) (v : Value) (l : List UInt8) (h : At w base d) (hd : d.down = false) (hs : slot = 0 ∨ slot = 1) (hr : Reads w v l) (hl : l.length ≤ d.n) (hl2 : l.length ≤ 1000) (hv : l ≠ [] → ∀ k, v.ownBlock = some k → k ≠ d.g ∧ k ≠ d.s0 ∧ k ≠ d.s1 ∧ d.wv.ownBlock ≠ some k) (hm : d.vs.length ≤ 1000) (hb : base ≤ w.heap.size)
    (hwr : 0 ≤ d.wr ∧ d.wr < 4611686018427387904) (hle : -1 ≤ d.left ∧ d.left ≤ 9223372036854775807) : Calls Try.prog 7 #[.pointer (some ⟨d.g, 0, none⟩), .int .i64 slot, v] w (WroteTo w base d slot l) := by
  have H := Lib.hid h
  have HR := Lib.hid hr
  have HV := Lib.hid hv
  have HM := Lib.hid hm
  have HB := Lib.hid hb
  have HS := Lib.hid hs
  have HAB : Hid (ableI d.down slot = 0) := Lib.hid (by rw [hd]; rcases hs with rfl | rfl <;> rfl)
  have HL := Lib.hid hl
  have HL2 := Lib.hid hl2
  have HD := Lib.hid hd
  have HW := Lib.hid hwr
  have HLE := Lib.hid hle
  obtain ⟨p, c, rfl, hc⟩ := read_shape hr
  have hi : ¬ ((d.n : Nat) : Int) < (l.length : Int) := by omega
  have c5 := h.cells.2.2.2.2.2
  have f5 := h.free 5
  clear h hr hv hm hb hs hl hl2 hd hwr hle
  go_enter Try.func7, Try.ntmps7
  go_wp2_with fail
  refine (able_any slot H.out).mono ?_
  rintro e w1 ⟨rfl, rfl⟩
  rw [HAB.out]
  go_wp2_with fail
  refine (size_any H.out).mono ?_
  rintro e w1 ⟨rfl, rfl⟩
  go_wp2_with fail
  clear hi
  go_cut [] (fun wx => Hid (Step6 w base d l wx))
  case first =>
   go_region_law (first
     | (refine step_app _ (by rfl) _ _ _ (by rfl) base 22 (.slice none 0 0) 1 24 Try.underlying37 info22 (by rfl) (by omega) d.wv d.vs.length d.vs (by rfl) _ _ _ [.slice p1 l.length k1] (by rfl) (by rfl) ONE.out (by omega) (by have := HM.out; unfold maxLen; omega) (by have := HM.out; omega) ?_ ?_ ?_ ?_
        · exact World.ownsRow.alloc (own_below (own_drew H.out.own) hb1) _
        · exact news_one (t := 22) (fr := (0, 0)) (blk_new rfl)
        · (have q1 := hb1.size; have q2 := HB.out; simp at q1 ⊢; omega)
        intro g3 cap3 w3 happ
        have r3 := blk_grown (blk_alloc (blk_below (blk_drew H.out.row) hb1) _) happ.grow (fun e => (H.out.wv_ne e.symm).1 rfl)
        have c7 : w3.cell? ⟨d.g, 5, none⟩ = some d.wv := (cell_of_row _ _ _ _ _ _ r3).trans rfl
        have f7 := frozen_of_row _ _ 5 _ _ r3
        have R3 := Lib.hid r3
        clear r3)
     | (refine if_wp rfl ?_
        go_simp
        refine (clone_any _ _ l (reads_below HR.out (b_drew (Below.refl _ _))) (by have := HL2.out; omega)).mono ?_
        rintro e w1 ⟨v1, rfl, hv1, hb1⟩
        obtain ⟨p1, k1, rfl, _⟩ := read_shape (reads_own hv1)
        have ONE := Lib.hid (own_one hv1)
        have c6 : w1.cell? ⟨d.g, 5, none⟩ = some d.wv := (hb1.cell (cell_lt c5)).trans c5
        have c8 : (w1.alloc (.cells #[.slice p1 l.length k1] 22)).cell? ⟨d.g, 5, none⟩ = some d.wv := (World.cell?_alloc_lt _ _ _ (cell_lt c6)).trans c6))
   all_goals go_wp2_with fail
   all_goals go_meet
   all_goals exact step6 H.out hb1 hv1 happ
  case rest =>
    obtain ⟨wv, v1, h6, hv6, hf6, hw6⟩ := hcut
    have nv : l ≠ [] → ∀ k, (Value.slice p l.length c).ownBlock = some k → ¬ (k = d.g ∨ d.wv.ownBlock = some k) := by
      rintro h0 k hk (e | e)
      · exact (HV.out h0 k hk).1 e
      · exact (HV.out h0 k hk).2.2.2 e
    have HR6 := Lib.hid (reads_fr hf6 HR.out nv)
    have H6 := Lib.hid h6
    have HV6 := Lib.hid hv6
    have HF6 := Lib.hid hf6
    have HW6 := Lib.hid hw6
    have b1 := HW.out.1
    have b2 := HW.out.2
    have b3 := HLE.out.1
    have b4 := HLE.out.2
    have b5 := HL.out
    have b6 := HL2.out
    have hlc : l.length ≤ c := hc
    clear h6 hv6 hf6 hw6 nv c5 f5 hc
    obtain ⟨W, hW⟩ : ∃ W, d.wr = W := ⟨_, rfl⟩
    obtain ⟨L, hL⟩ : ∃ L, d.left = L := ⟨_, rfl⟩
    rw [hW] at b1 b2
    rw [hL] at b3 b4
    have EW := Lib.hid hW
    have EL := Lib.hid hL
    have c0 : wc.cell? ⟨d.g, 0, none⟩ = some (.slice (some ⟨d.s0, 0, none⟩) d.n d.k0) := H6.out.cells.1
    have c1 : wc.cell? ⟨d.g, 1, none⟩ = some (.slice (some ⟨d.s1, 0, none⟩) d.n d.k1) := H6.out.cells.2.1
    have c2 : wc.cell? ⟨d.g, 2, none⟩ = some (.int .i64 L) := hL ▸ H6.out.cells.2.2.1
    have c3 : wc.cell? ⟨d.g, 3, none⟩ = some (.bool false) := HD.out ▸ H6.out.cells.2.2.2.1
    have f3 : wc.frozen? ⟨d.g, 3, none⟩ = false := H6.out.free 3
    clear hW hL
    obtain ⟨N, hN⟩ : ∃ N, l.length = N := ⟨_, rfl⟩
    rw [hN] at b5 b6 hlc
    have EN := Lib.hid hN
    rw [hN]
    rw [hN] at HR6
    clear hN
    by_cases hA : L < 0
    · skip
      rcases HS.out with rfl | rfl
      · have e0 : True := trivial
        have hA : ¬ 0 ≤ L := by omega
        have hA2 : L < 0 := by omega
        have hlc2 : (N : Int) ≤ (c : Int) := by omega
        go_upto_region 10 with fail
        have A7 : Hid (At wc base { d with wv := wv, vs := d.vs ++ [v1], down := false }) := Lib.hid (HD.out ▸ H6.out)
        have R7 : Hid (Reads wc (.slice p l.length c) l) := Lib.hid (EN.out.symm ▸ HR6.out)
        go_region_law (refine step_copy1 (by rfl) _ _ (by rfl) d.s0 d.n d.k0 p c c d.a l d.ta N (by rfl) (by rfl) A7.out.drew.r0 R7.out (by have := EN.out; omega) A7.out.la (by omega) ?_
                       intro w8 h8 g8)
        have A8 : Hid (At w8 base { d with a := over d.a l N, wv := wv, vs := d.vs ++ [v1], down := false }) := Lib.hid (A7.out.drew.img0 h8 g8 ((over_len (by have := EN.out; omega) (by have := A7.out.la; simp at this; omega)).trans A7.out.la))
        have G8 := Lib.hid g8
        clear h8 g8 c0 c1 c2 c3 f3 A7 R7
        have c2 : w8.cell? ⟨d.g, 2, none⟩ = some (.int .i64 d.left) := A8.out.cells.2.2.1
        rw [EL.out] at c2
        have c3 : w8.cell? ⟨d.g, 3, none⟩ = some (.bool false) := A8.out.cells.2.2.2.1
        have c4 : w8.cell? ⟨d.g, 4, none⟩ = some (.int .i64 d.wr) := A8.out.cells.2.2.2.2.1
        rw [EW.out] at c4
        have f2 : w8.frozen? ⟨d.g, 2, none⟩ = false := A8.out.free 2
        have f4 : w8.frozen? ⟨d.g, 4, none⟩ = false := A8.out.free 4
        have ew : IntKind.i64.wrap (W + (N : Int)) = W + (N : Int) := by simp [IntKind.wrap, IntKind.signed, IntKind.bits]; omega
        have ew2 : wrap64 (W + (N : Int)) = W + (N : Int) := by simp only [wrap64]; omega
        go_wp2_with fail
        go_ret
        have hk : d.cut l.length = N := by rw [Dk.cut, EL.out, if_neg (by omega), EN.out]
        have ht : d.goes l.length = false := by rw [Dk.goes, EL.out, EN.out]; simp <;> omega
        have f8 := (Fr.refl (fun k => k = d.g ∨ k = d.s0) wc).trans (Fr.of_below (S := fun k => k = d.g ∨ k = d.s0) (b_drew (Below.refl _ _)) |>.trans (Fr.of_grown (S := fun k => k = d.g ∨ k = d.s0) G8.out (Or.inr rfl)))
        refine ⟨wv, v1, ?_⟩
        exact wrote_done (L1 := d.left) (Or.inl rfl) H.out HV6.out HF6.out HW6.out hk ht (f8.trans (Fr.of_grown (gb_set (gb_refl _ _) _ _) (Or.inl rfl))) EL.out EW.out rfl rfl (by rw [if_neg (by omega), EL.out]) (A8.out.setWr (W + (N : Int)))
      · have e0 : True := trivial
        have hA : ¬ 0 ≤ L := by omega
        have hA2 : L < 0 := by omega
        have hlc2 : (N : Int) ≤ (c : Int) := by omega
        go_upto_region 10 with fail
        have A7 : Hid (At wc base { d with wv := wv, vs := d.vs ++ [v1], down := false }) := Lib.hid (HD.out ▸ H6.out)
        have R7 : Hid (Reads wc (.slice p l.length c) l) := Lib.hid (EN.out.symm ▸ HR6.out)
        go_region_law (refine step_copy1 (by rfl) _ _ (by rfl) d.s1 d.n d.k1 p c c d.b l d.tb N (by rfl) (by rfl) A7.out.drew.r1 R7.out (by have := EN.out; omega) A7.out.lb (by omega) ?_
                       intro w8 h8 g8)
        have A8 : Hid (At w8 base { d with b := over d.b l N, wv := wv, vs := d.vs ++ [v1], down := false }) := Lib.hid (A7.out.drew.img1 h8 g8 ((over_len (by have := EN.out; omega) (by have := A7.out.lb; simp at this; omega)).trans A7.out.lb))
        have G8 := Lib.hid g8
        clear h8 g8 c0 c1 c2 c3 f3 A7 R7
        have c2 : w8.cell? ⟨d.g, 2, none⟩ = some (.int .i64 d.left) := A8.out.cells.2.2.1
        rw [EL.out] at c2
        have c3 : w8.cell? ⟨d.g, 3, none⟩ = some (.bool false) := A8.out.cells.2.2.2.1
        have c4 : w8.cell? ⟨d.g, 4, none⟩ = some (.int .i64 d.wr) := A8.out.cells.2.2.2.2.1
        rw [EW.out] at c4
        have f2 : w8.frozen? ⟨d.g, 2, none⟩ = false := A8.out.free 2
        have f4 : w8.frozen? ⟨d.g, 4, none⟩ = false := A8.out.free 4
        have ew : IntKind.i64.wrap (W + (N : Int)) = W + (N : Int) := by simp [IntKind.wrap, IntKind.signed, IntKind.bits]; omega
        have ew2 : wrap64 (W + (N : Int)) = W + (N : Int) := by simp only [wrap64]; omega
        go_wp2_with fail
        go_ret
        have hk : d.cut l.length = N := by rw [Dk.cut, EL.out, if_neg (by omega), EN.out]
        have ht : d.goes l.length = false := by rw [Dk.goes, EL.out, EN.out]; simp <;> omega
        have f8 := (Fr.refl (fun k => k = d.g ∨ k = d.s1) wc).trans (Fr.of_below (S := fun k => k = d.g ∨ k = d.s1) (b_drew (Below.refl _ _)) |>.trans (Fr.of_grown (S := fun k => k = d.g ∨ k = d.s1) G8.out (Or.inr rfl)))
        refine ⟨wv, v1, ?_⟩
        exact wrote_done (L1 := d.left) (Or.inr rfl) H.out HV6.out HF6.out HW6.out hk ht (f8.trans (Fr.of_grown (gb_set (gb_refl _ _) _ _) (Or.inl rfl))) EL.out EW.out rfl rfl (by rw [if_neg (by omega), EL.out]) (A8.out.setWr (W + (N : Int)))
    · by_cases hB : L ≤ (N : Int)
      · by_cases hz : L = 0
        · skip
          rcases HS.out with rfl | rfl
          · have e0 : True := trivial
            obtain rfl : L = 0 := by omega
            have hb2 : (0 : Int) ≤ (N : Int) := by omega
            have hlc2 : (N : Int) ≤ (c : Int) := by omega
            go_upto_region 10 with fail
            have A7 : Hid (At (wc.setCell ⟨d.g, 3, none⟩ (.bool true)) base { d with wv := wv, vs := d.vs ++ [v1], down := true }) := Lib.hid (H6.out.setDown true)
            have R7 : Hid (Reads (wc.setCell ⟨d.g, 3, none⟩ (.bool true)) (.slice p l.length c) l) := Lib.hid (reads_fr (S := fun k => k = d.g) (Fr.of_grown (gb_set (gb_refl _ _) _ _) rfl) (EN.out.symm ▸ HR6.out) (fun h0 k hk => (HV.out h0 k hk).1))
            go_region_law (refine step_copy1 (by rfl) _ _ (by rfl) d.s0 d.n d.k0 p c c d.a l d.ta 0 (by rfl) (by rfl) A7.out.drew.r0 R7.out (by have := EN.out; omega) A7.out.la (by omega) ?_
                           intro w8 h8 g8)
            have A8 : Hid (At w8 base { d with a := over d.a l 0, wv := wv, vs := d.vs ++ [v1], down := true }) := Lib.hid (A7.out.drew.img0 h8 g8 ((over_len (by have := EN.out; omega) (by have := A7.out.la; simp at this; omega)).trans A7.out.la))
            have G8 := Lib.hid g8
            clear h8 g8 c0 c1 c2 c3 f3 A7 R7
            have c2 : w8.cell? ⟨d.g, 2, none⟩ = some (.int .i64 d.left) := A8.out.cells.2.2.1
            rw [EL.out] at c2
            have c3 : w8.cell? ⟨d.g, 3, none⟩ = some (.bool true) := A8.out.cells.2.2.2.1
            have c4 : w8.cell? ⟨d.g, 4, none⟩ = some (.int .i64 d.wr) := A8.out.cells.2.2.2.2.1
            rw [EW.out] at c4
            have f2 : w8.frozen? ⟨d.g, 2, none⟩ = false := A8.out.free 2
            have f4 : w8.frozen? ⟨d.g, 4, none⟩ = false := A8.out.free 4
            have ew : IntKind.i64.wrap (W + (0 : Int)) = W + (0 : Int) := by simp [IntKind.wrap, IntKind.signed, IntKind.bits]; omega
            have ew2 : wrap64 (W + (0 : Int)) = W + (0 : Int) := by simp only [wrap64]; omega
            go_wp2_with fail
            go_ret
            have hk : d.cut l.length = 0 := by rw [Dk.cut, EL.out, EN.out, if_pos (by omega)]; rfl
            have ht : d.goes l.length = true := by rw [Dk.goes, EL.out, EN.out]; simp <;> omega
            have f8 := ((Fr.of_grown (S := fun k => k = d.g ∨ k = d.s0) (gb_set (gb_refl _ _) _ _) (Or.inl rfl) : Fr _ wc _)).trans (Fr.of_below (S := fun k => k = d.g ∨ k = d.s0) (b_drew (Below.refl _ _)) |>.trans (Fr.of_grown (S := fun k => k = d.g ∨ k = d.s0) G8.out (Or.inr rfl)))
            refine ⟨wv, v1, ?_⟩
            exact wrote_done (L1 := d.left) (Or.inl rfl) H.out HV6.out HF6.out HW6.out hk ht (f8.trans (Fr.of_grown (gb_set (gb_refl _ _) _ _) (Or.inl rfl))) EL.out EW.out rfl rfl (by rw [if_neg (by omega), EL.out]) (by rw [show (W + ((0 : Nat) : Int)) = W from Int.add_zero W]; exact A8.out.setWr W)
          · have e0 : True := trivial
            obtain rfl : L = 0 := by omega
            have hb2 : (0 : Int) ≤ (N : Int) := by omega
            have hlc2 : (N : Int) ≤ (c : Int) := by omega
            go_upto_region 10 with fail
            have A7 : Hid (At (wc.setCell ⟨d.g, 3, none⟩ (.bool true)) base { d with wv := wv, vs := d.vs ++ [v1], down := true }) := Lib.hid (H6.out.setDown true)
            have R7 : Hid (Reads (wc.setCell ⟨d.g, 3, none⟩ (.bool true)) (.slice p l.length c) l) := Lib.hid (reads_fr (S := fun k => k = d.g) (Fr.of_grown (gb_set (gb_refl _ _) _ _) rfl) (EN.out.symm ▸ HR6.out) (fun h0 k hk => (HV.out h0 k hk).1))
            go_region_law (refine step_copy1 (by rfl) _ _ (by rfl) d.s1 d.n d.k1 p c c d.b l d.tb 0 (by rfl) (by rfl) A7.out.drew.r1 R7.out (by have := EN.out; omega) A7.out.lb (by omega) ?_
                           intro w8 h8 g8)
            have A8 : Hid (At w8 base { d with b := over d.b l 0, wv := wv, vs := d.vs ++ [v1], down := true }) := Lib.hid (A7.out.drew.img1 h8 g8 ((over_len (by have := EN.out; omega) (by have := A7.out.lb; simp at this; omega)).trans A7.out.lb))
            have G8 := Lib.hid g8
            clear h8 g8 c0 c1 c2 c3 f3 A7 R7
            have c2 : w8.cell? ⟨d.g, 2, none⟩ = some (.int .i64 d.left) := A8.out.cells.2.2.1
            rw [EL.out] at c2
            have c3 : w8.cell? ⟨d.g, 3, none⟩ = some (.bool true) := A8.out.cells.2.2.2.1
            have c4 : w8.cell? ⟨d.g, 4, none⟩ = some (.int .i64 d.wr) := A8.out.cells.2.2.2.2.1
            rw [EW.out] at c4
            have f2 : w8.frozen? ⟨d.g, 2, none⟩ = false := A8.out.free 2
            have f4 : w8.frozen? ⟨d.g, 4, none⟩ = false := A8.out.free 4
            have ew : IntKind.i64.wrap (W + (0 : Int)) = W + (0 : Int) := by simp [IntKind.wrap, IntKind.signed, IntKind.bits]; omega
            have ew2 : wrap64 (W + (0 : Int)) = W + (0 : Int) := by simp only [wrap64]; omega
            go_wp2_with fail
            go_ret
            have hk : d.cut l.length = 0 := by rw [Dk.cut, EL.out, EN.out, if_pos (by omega)]; rfl
            have ht : d.goes l.length = true := by rw [Dk.goes, EL.out, EN.out]; simp <;> omega
            have f8 := ((Fr.of_grown (S := fun k => k = d.g ∨ k = d.s1) (gb_set (gb_refl _ _) _ _) (Or.inl rfl) : Fr _ wc _)).trans (Fr.of_below (S := fun k => k = d.g ∨ k = d.s1) (b_drew (Below.refl _ _)) |>.trans (Fr.of_grown (S := fun k => k = d.g ∨ k = d.s1) G8.out (Or.inr rfl)))
            refine ⟨wv, v1, ?_⟩
            exact wrote_done (L1 := d.left) (Or.inr rfl) H.out HV6.out HF6.out HW6.out hk ht (f8.trans (Fr.of_grown (gb_set (gb_refl _ _) _ _) (Or.inl rfl))) EL.out EW.out rfl rfl (by rw [if_neg (by omega), EL.out]) (by rw [show (W + ((0 : Nat) : Int)) = W from Int.add_zero W]; exact A8.out.setWr W)
        · skip
          rcases HS.out with rfl | rfl
          · have e0 : True := trivial
            obtain ⟨m, rfl⟩ := Int.eq_ofNat_of_zero_le (show 0 ≤ L by omega)
            have hm0 : 0 < m := by omega
            have hmN : m ≤ N := by omega
            have hm1 : (0 : Int) ≤ (m : Int) := by omega
            have hm2 : (m : Int) ≤ (N : Int) := by omega
            have hm3 : (0 : Int) < (m : Int) := by omega
            have hm4 : m ≤ c := by omega
            have hm5 : (m : Int) ≤ (c : Int) := by omega
            have hlc2 : (N : Int) ≤ (c : Int) := by omega
            go_upto_region 10 with fail
            have A7 : Hid (At (wc.setCell ⟨d.g, 3, none⟩ (.bool true)) base { d with wv := wv, vs := d.vs ++ [v1], down := true }) := Lib.hid (H6.out.setDown true)
            have R7 : Hid (Reads (wc.setCell ⟨d.g, 3, none⟩ (.bool true)) (.slice p l.length c) l) := Lib.hid (reads_fr (S := fun k => k = d.g) (Fr.of_grown (gb_set (gb_refl _ _) _ _) rfl) (EN.out.symm ▸ HR6.out) (fun h0 k hk => (HV.out h0 k hk).1))
            go_region_law (refine step_copy1 (by rfl) _ _ (by rfl) d.s0 d.n d.k0 p c c d.a l d.ta m (by rfl) (by rfl) A7.out.drew.r0 R7.out (by have := EN.out; omega) A7.out.la (by omega) ?_
                           intro w8 h8 g8)
            have A8 : Hid (At w8 base { d with a := over d.a l m, wv := wv, vs := d.vs ++ [v1], down := true }) := Lib.hid (A7.out.drew.img0 h8 g8 ((over_len (by have := EN.out; omega) (by have := A7.out.la; simp at this; omega)).trans A7.out.la))
            have G8 := Lib.hid g8
            clear h8 g8 c0 c1 c2 c3 f3 A7 R7
            have c2 : w8.cell? ⟨d.g, 2, none⟩ = some (.int .i64 d.left) := A8.out.cells.2.2.1
            rw [EL.out] at c2
            have c3 : w8.cell? ⟨d.g, 3, none⟩ = some (.bool true) := A8.out.cells.2.2.2.1
            have c4 : w8.cell? ⟨d.g, 4, none⟩ = some (.int .i64 d.wr) := A8.out.cells.2.2.2.2.1
            rw [EW.out] at c4
            have f2 : w8.frozen? ⟨d.g, 2, none⟩ = false := A8.out.free 2
            have f4 : w8.frozen? ⟨d.g, 4, none⟩ = false := A8.out.free 4
            have ew : IntKind.i64.wrap (W + (m : Int)) = W + (m : Int) := by simp [IntKind.wrap, IntKind.signed, IntKind.bits]; omega
            have ew2 : wrap64 (W + (m : Int)) = W + (m : Int) := by simp only [wrap64]; omega
            go_wp2_with fail
            go_ret
            have hk : d.cut l.length = m := by rw [Dk.cut, EL.out, EN.out, if_pos (by omega)]; rfl
            have ht : d.goes l.length = true := by rw [Dk.goes, EL.out, EN.out]; simp <;> omega
            have f8 := ((Fr.of_grown (S := fun k => k = d.g ∨ k = d.s0) (gb_set (gb_refl _ _) _ _) (Or.inl rfl) : Fr _ wc _)).trans (Fr.of_below (S := fun k => k = d.g ∨ k = d.s0) (b_drew (Below.refl _ _)) |>.trans (Fr.of_grown (S := fun k => k = d.g ∨ k = d.s0) G8.out (Or.inr rfl)))
            refine ⟨wv, v1, ?_⟩
            exact wrote_done (L1 := 0) (Or.inl rfl) H.out HV6.out HF6.out HW6.out hk ht (f8.trans (Fr.of_grown (gb_set (gb_set (gb_refl _ _) _ _) _ _) (Or.inl rfl))) EL.out EW.out rfl rfl (by rw [if_pos hm3, Int.sub_self]) ((A8.out.setWr (W + (m : Int))).setLeft _)
          · have e0 : True := trivial
            obtain ⟨m, rfl⟩ := Int.eq_ofNat_of_zero_le (show 0 ≤ L by omega)
            have hm0 : 0 < m := by omega
            have hmN : m ≤ N := by omega
            have hm1 : (0 : Int) ≤ (m : Int) := by omega
            have hm2 : (m : Int) ≤ (N : Int) := by omega
            have hm3 : (0 : Int) < (m : Int) := by omega
            have hm4 : m ≤ c := by omega
            have hm5 : (m : Int) ≤ (c : Int) := by omega
            have hlc2 : (N : Int) ≤ (c : Int) := by omega
            go_upto_region 10 with fail
            have A7 : Hid (At (wc.setCell ⟨d.g, 3, none⟩ (.bool true)) base { d with wv := wv, vs := d.vs ++ [v1], down := true }) := Lib.hid (H6.out.setDown true)
            have R7 : Hid (Reads (wc.setCell ⟨d.g, 3, none⟩ (.bool true)) (.slice p l.length c) l) := Lib.hid (reads_fr (S := fun k => k = d.g) (Fr.of_grown (gb_set (gb_refl _ _) _ _) rfl) (EN.out.symm ▸ HR6.out) (fun h0 k hk => (HV.out h0 k hk).1))
            go_region_law (refine step_copy1 (by rfl) _ _ (by rfl) d.s1 d.n d.k1 p c c d.b l d.tb m (by rfl) (by rfl) A7.out.drew.r1 R7.out (by have := EN.out; omega) A7.out.lb (by omega) ?_
                           intro w8 h8 g8)
            have A8 : Hid (At w8 base { d with b := over d.b l m, wv := wv, vs := d.vs ++ [v1], down := true }) := Lib.hid (A7.out.drew.img1 h8 g8 ((over_len (by have := EN.out; omega) (by have := A7.out.lb; simp at this; omega)).trans A7.out.lb))
            have G8 := Lib.hid g8
            clear h8 g8 c0 c1 c2 c3 f3 A7 R7
            have c2 : w8.cell? ⟨d.g, 2, none⟩ = some (.int .i64 d.left) := A8.out.cells.2.2.1
            rw [EL.out] at c2
            have c3 : w8.cell? ⟨d.g, 3, none⟩ = some (.bool true) := A8.out.cells.2.2.2.1
            have c4 : w8.cell? ⟨d.g, 4, none⟩ = some (.int .i64 d.wr) := A8.out.cells.2.2.2.2.1
            rw [EW.out] at c4
            have f2 : w8.frozen? ⟨d.g, 2, none⟩ = false := A8.out.free 2
            have f4 : w8.frozen? ⟨d.g, 4, none⟩ = false := A8.out.free 4
            have ew : IntKind.i64.wrap (W + (m : Int)) = W + (m : Int) := by simp [IntKind.wrap, IntKind.signed, IntKind.bits]; omega
            have ew2 : wrap64 (W + (m : Int)) = W + (m : Int) := by simp only [wrap64]; omega
            go_wp2_with fail
            go_ret
            have hk : d.cut l.length = m := by rw [Dk.cut, EL.out, EN.out, if_pos (by omega)]; rfl
            have ht : d.goes l.length = true := by rw [Dk.goes, EL.out, EN.out]; simp <;> omega
            have f8 := ((Fr.of_grown (S := fun k => k = d.g ∨ k = d.s1) (gb_set (gb_refl _ _) _ _) (Or.inl rfl) : Fr _ wc _)).trans (Fr.of_below (S := fun k => k = d.g ∨ k = d.s1) (b_drew (Below.refl _ _)) |>.trans (Fr.of_grown (S := fun k => k = d.g ∨ k = d.s1) G8.out (Or.inr rfl)))
            refine ⟨wv, v1, ?_⟩
            exact wrote_done (L1 := 0) (Or.inr rfl) H.out HV6.out HF6.out HW6.out hk ht (f8.trans (Fr.of_grown (gb_set (gb_set (gb_refl _ _) _ _) _ _) (Or.inl rfl))) EL.out EW.out rfl rfl (by rw [if_pos hm3, Int.sub_self]) ((A8.out.setWr (W + (m : Int))).setLeft _)
      · skip
        rcases HS.out with rfl | rfl
        · have e0 : True := trivial
          have hC : 0 ≤ L := by omega
          have hC2 : ¬ L ≤ (N : Int) := by omega
          have hC3 : 0 < L := by omega
          have hlc2 : (N : Int) ≤ (c : Int) := by omega
          go_upto_region 10 with fail
          have A7 : Hid (At wc base { d with wv := wv, vs := d.vs ++ [v1], down := false }) := Lib.hid (HD.out ▸ H6.out)
          have R7 : Hid (Reads wc (.slice p l.length c) l) := Lib.hid (EN.out.symm ▸ HR6.out)
          go_region_law (refine step_copy1 (by rfl) _ _ (by rfl) d.s0 d.n d.k0 p c c d.a l d.ta N (by rfl) (by rfl) A7.out.drew.r0 R7.out (by have := EN.out; omega) A7.out.la (by omega) ?_
                         intro w8 h8 g8)
          have A8 : Hid (At w8 base { d with a := over d.a l N, wv := wv, vs := d.vs ++ [v1], down := false }) := Lib.hid (A7.out.drew.img0 h8 g8 ((over_len (by have := EN.out; omega) (by have := A7.out.la; simp at this; omega)).trans A7.out.la))
          have G8 := Lib.hid g8
          clear h8 g8 c0 c1 c2 c3 f3 A7 R7
          have c2 : w8.cell? ⟨d.g, 2, none⟩ = some (.int .i64 d.left) := A8.out.cells.2.2.1
          rw [EL.out] at c2
          have c3 : w8.cell? ⟨d.g, 3, none⟩ = some (.bool false) := A8.out.cells.2.2.2.1
          have c4 : w8.cell? ⟨d.g, 4, none⟩ = some (.int .i64 d.wr) := A8.out.cells.2.2.2.2.1
          rw [EW.out] at c4
          have f2 : w8.frozen? ⟨d.g, 2, none⟩ = false := A8.out.free 2
          have f4 : w8.frozen? ⟨d.g, 4, none⟩ = false := A8.out.free 4
          have ew : IntKind.i64.wrap (W + (N : Int)) = W + (N : Int) := by simp [IntKind.wrap, IntKind.signed, IntKind.bits]; omega
          have ew2 : wrap64 (W + (N : Int)) = W + (N : Int) := by simp only [wrap64]; omega
          go_wp2_with fail
          go_ret
          have hk : d.cut l.length = N := by rw [Dk.cut, EL.out, EN.out, if_neg (by omega)]
          have ht : d.goes l.length = false := by rw [Dk.goes, EL.out, EN.out]; simp <;> omega
          have f8 := (Fr.refl (fun k => k = d.g ∨ k = d.s0) wc).trans (Fr.of_below (S := fun k => k = d.g ∨ k = d.s0) (b_drew (Below.refl _ _)) |>.trans (Fr.of_grown (S := fun k => k = d.g ∨ k = d.s0) G8.out (Or.inr rfl)))
          refine ⟨wv, v1, ?_⟩
          exact wrote_done (Or.inl rfl) H.out HV6.out HF6.out HW6.out hk ht (f8.trans (Fr.of_grown (gb_set (gb_set (gb_refl _ _) _ _) _ _) (Or.inl rfl))) EL.out EW.out rfl rfl (by rw [if_pos hC3]) ((A8.out.setWr (W + (N : Int))).setLeft _)
        · have e0 : True := trivial
          have hC : 0 ≤ L := by omega
          have hC2 : ¬ L ≤ (N : Int) := by omega
          have hC3 : 0 < L := by omega
          have hlc2 : (N : Int) ≤ (c : Int) := by omega
          go_upto_region 10 with fail
          have A7 : Hid (At wc base { d with wv := wv, vs := d.vs ++ [v1], down := false }) := Lib.hid (HD.out ▸ H6.out)
          have R7 : Hid (Reads wc (.slice p l.length c) l) := Lib.hid (EN.out.symm ▸ HR6.out)
          go_region_law (refine step_copy1 (by rfl) _ _ (by rfl) d.s1 d.n d.k1 p c c d.b l d.tb N (by rfl) (by rfl) A7.out.drew.r1 R7.out (by have := EN.out; omega) A7.out.lb (by omega) ?_
                         intro w8 h8 g8)
          have A8 : Hid (At w8 base { d with b := over d.b l N, wv := wv, vs := d.vs ++ [v1], down := false }) := Lib.hid (A7.out.drew.img1 h8 g8 ((over_len (by have := EN.out; omega) (by have := A7.out.lb; simp at this; omega)).trans A7.out.lb))
          have G8 := Lib.hid g8
          clear h8 g8 c0 c1 c2 c3 f3 A7 R7
          have c2 : w8.cell? ⟨d.g, 2, none⟩ = some (.int .i64 d.left) := A8.out.cells.2.2.1
          rw [EL.out] at c2
          have c3 : w8.cell? ⟨d.g, 3, none⟩ = some (.bool false) := A8.out.cells.2.2.2.1
          have c4 : w8.cell? ⟨d.g, 4, none⟩ = some (.int .i64 d.wr) := A8.out.cells.2.2.2.2.1
          rw [EW.out] at c4
          have f2 : w8.frozen? ⟨d.g, 2, none⟩ = false := A8.out.free 2
          have f4 : w8.frozen? ⟨d.g, 4, none⟩ = false := A8.out.free 4
          have ew : IntKind.i64.wrap (W + (N : Int)) = W + (N : Int) := by simp [IntKind.wrap, IntKind.signed, IntKind.bits]; omega
          have ew2 : wrap64 (W + (N : Int)) = W + (N : Int) := by simp only [wrap64]; omega
          go_wp2_with fail
          go_ret
          have hk : d.cut l.length = N := by rw [Dk.cut, EL.out, EN.out, if_neg (by omega)]
          have ht : d.goes l.length = false := by rw [Dk.goes, EL.out, EN.out]; simp <;> omega
          have f8 := (Fr.refl (fun k => k = d.g ∨ k = d.s1) wc).trans (Fr.of_below (S := fun k => k = d.g ∨ k = d.s1) (b_drew (Below.refl _ _)) |>.trans (Fr.of_grown (S := fun k => k = d.g ∨ k = d.s1) G8.out (Or.inr rfl)))
          refine ⟨wv, v1, ?_⟩
          exact wrote_done (Or.inr rfl) H.out HV6.out HF6.out HW6.out hk ht (f8.trans (Fr.of_grown (gb_set (gb_set (gb_refl _ _) _ _) _ _) (Or.inl rfl))) EL.out EW.out rfl rfl (by rw [if_pos hC3]) ((A8.out.setWr (W + (N : Int))).setLeft _)
end
end Go.Proofs.Ytijcdpefcdgklaa.Di
