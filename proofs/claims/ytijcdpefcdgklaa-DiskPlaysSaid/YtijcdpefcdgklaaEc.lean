/- Disks: a clone, by a walk. -/
import Derived.Test.YtijcdpefcdgklaaEb
namespace Go.Proofs.Ytijcdpefcdgklaa.Di
open Go.RowKit K

/-- A disk like it, over blocks of its own, comes back. -/
def CloneD (w : World) (d : Dk) (e : Ending) (w' : World) : Prop := ∃ d' : Dk, e = .returned (.pointer (some ⟨d'.g, 0, none⟩)) ∧ At w' w.heap.size d' ∧ d'.n = d.n ∧ d'.a = d.a ∧ d'.b = d.b ∧ d'.left = d.left ∧ d'.down = d.down ∧ d'.wr = d.wr ∧ d'.vs = d.vs ∧ Below w.heap.size w w'
theorem own_shape {w : World} {base n : Nat} {e : TypeId} {v : Value} {xs : List Value} {size : Nat} (h : w.ownsRow base e size v n xs) : ∃ p c, v = .slice p n c := by
  obtain ⟨_, ⟨h1, h2⟩ | ⟨g, cap, cur, h1, _⟩⟩ := h
  · exact ⟨none, 0, by rw [h1, h2]⟩
  · exact ⟨_, cap, h1⟩
theorem idx54_0 (w : World) (x y : Value) : (Instr.index 54 (.agg #[x, y]) (.int .i64 0)).run Try.prog w = .ok x w := by
  have h := Try.underlying54
  obtain ⟨i, hi, hz⟩ := Option.map_eq_some_iff.1 info22
  simp only [Prod.mk.injEq] at hz
  obtain ⟨_, hs, _⟩ := hz
  simp [Instr.index, run_underlying h, asIntOf, part, go_sem, sizeOf, typeInfo, isAgg, hi, hs]
theorem idx54_1 (w : World) (x y : Value) : (Instr.index 54 (.agg #[x, y]) (.int .i64 1)).run Try.prog w = .ok y w := by
  have h := Try.underlying54
  obtain ⟨i, hi, hz⟩ := Option.map_eq_some_iff.1 info22
  simp only [Prod.mk.injEq] at hz
  obtain ⟨_, hs, _⟩ := hz
  simp [Instr.index, run_underlying h, asIntOf, part, go_sem, sizeOf, typeInfo, isAgg, hi, hs]
theorem info56 : (Try.prog.info? 56).map (·.size) = some 6 := by kernel_rfl
attribute [local go_sem ↓] eq22 eq22n eq37 eq37n eq25 ne25 idx54_0 idx54_1
set_option maxHeartbeats 4000000 in
set_option maxRecDepth 100000 in
theorem clone_disk {w : World} {base : Nat} {d : Dk} (h : At w base d) (h1 : ∀ u ∈ d.vs, u.oneCell' = true) (hl : d.vs.length ≤ 1000) (hn0 : 0 < d.n) : Calls Try.prog 16 #[.pointer (some ⟨d.g, 0, none⟩)] w (CloneD w d) := by
  have HAt := Lib.hid h
  have H1 := Lib.hid h1
  have HL := Lib.hid hl
  have hrow := h.row
  obtain ⟨c0, c1, c2, c3, c4, c5⟩ := h.cells
  have hgl := blk_lt h.row
  have HR := Lib.hid hrow
  clear h h1 hl hrow
  go_enter Try.func16, Try.ntmps16
  go_upto_region 3 with fail
  refine wp_region_lit ?_
  refine wpList_plain rfl (fun K hK => ?_)
  go_simp
  refine hK _ _ ?_
  clear hK K
  refine wpList_plain rfl (fun K hK => ?_)
  go_simp
  refine hK _ _ ?_
  clear hK K
  refine wpList_load_row rfl 56 _ rfl d.g rfl 56 _ (0, 0) _ HR.out Try.underlying56 rfl info56 ?_
  refine wpList_plain rfl (fun K hK => ?_)
  go_simp
  refine hK _ _ ?_
  clear hK K
  obtain ⟨pw, cw, hwv⟩ := own_shape HAt.out.own
  obtain ⟨G, hG⟩ : ∃ G, w.heap.size = G := ⟨_, rfl⟩
  have hgG : d.g ≠ G := by omega
  refine wpList_store_blk rfl 56 _ _ rfl G 56 _ _ (by rw [← hG]; rfl) rfl (blk_new hG.symm) rfl info56 (by rw [hwv]; simp [Value.oneCell']) ?_
  intro w2 hw2 gw2
  have HB2 : Hid (Below w.heap.size w w2) := Lib.hid (b_grown (b_alloc (Below.refl _ _) _) gw2 (fun k hk => by cases hk; omega))
  have HA2 : Hid (At w2 base d) := Lib.hid (HAt.out.below HB2.out)
  have HW2 := Lib.hid hw2
  have HWV := Lib.hid hwv
  clear hwv hw2 gw2 c0 c1 c2 c3 c4 c5
  obtain ⟨c0, c1, c2, c3, c4, c5⟩ := HA2.out.cells
  simp only [Act.put]
  rw [hG]
  go_upto_region 5 with fail
  refine (clone37_any w2 base d.wv d.vs HA2.out.own H1.out HL.out).mono ?_
  rintro e w4 ⟨v2, rfl, ho4, hb4⟩
  obtain ⟨p2, k2, rfl⟩ := own_shape ho4
  have HO4 := Lib.hid (own_under ho4 (show w.heap.size ≤ w2.heap.size from HB2.out.size))
  have HB4 : Hid (Below w.heap.size w w4) := Lib.hid (b_then HB2.out hb4)
  have HW4 := Lib.hid (blk_below HW2.out hb4)
  have hg5 : w4.cell? ⟨G, 5, none⟩ = some d.wv := (cell_of_row _ _ _ _ _ _ HW4.out).trans rfl
  have hf5 : w4.frozen? ⟨G, 5, none⟩ = false := frozen_of_row _ _ _ _ _ HW4.out
  have HA4 : Hid (At w4 base d) := Lib.hid (HAt.out.below HB4.out)
  clear c0 c1 c2 c3 c4 c5 ho4 hb4 HA2 HW2 HB2
  go_upto_region 5 with fail
  have hrow5 := heap_setCell_same w4 G 5 _ _ (.slice p2 d.vs.length k2) HW4.out
  have hgr5 : w4.grownBy (w4.setCell ⟨G, 5, none⟩ (.slice p2 d.vs.length k2)) (some G) := gb_set (gb_refl _ _) _ _
  generalize hw5 : w4.setCell ⟨G, 5, none⟩ (.slice p2 d.vs.length k2) = w5 at *
  have HB5 : Hid (Below w.heap.size w w5) := Lib.hid (b_row HB4.out hgr5 (by omega))
  have HA5 : Hid (At w5 base d) := Lib.hid (HAt.out.below HB5.out)
  have HO5 : Hid (w5.ownsRow w.heap.size 22 1 (.slice p2 d.vs.length k2) d.vs.length d.vs) := Lib.hid (own_fr (Fr.of_grown (S := fun q => q = G) hgr5 rfl) HO4.out (fun q hq => by
    obtain ⟨c1, r1, _⟩ := own_block HO4.out hq
    exact blk_ne r1 HW4.out (by decide)))
  have HG5 := Lib.hid hrow5
  obtain ⟨c0, c1, _, _, _, _⟩ := HA5.out.cells
  clear hw5 hg5 hf5 hrow5 hgr5 HA4 HB4 HO4 HW4
  go_wp2_with fail
  clear c0 c1
  go_loopw [21] (fun i wr => ∃ (k : Nat) (x y : Value), k ≤ 2 ∧ i = .int .i64 (k : Int) ∧ Hid (wr.heap[G]? = some (.cells #[x, y, .int .i64 d.left, .bool d.down, .int .i64 d.wr, .slice p2 d.vs.length k2] 56 (0, 0))) ∧ Hid (wr.ownsRow w.heap.size 22 1 (.slice p2 d.vs.length k2) d.vs.length d.vs) ∧ Hid (Below w.heap.size w wr) ∧ Hid (0 < k → wr.ownsRow w.heap.size 5 1 x d.n (bys d.a)) ∧ Hid (1 < k → wr.ownsRow w.heap.size 5 1 y d.n (bys d.b) ∧ ∀ q, x.ownBlock = some q → y.ownBlock ≠ some q)) (fun i _ => 2 - (intOf i).toNat)
  case atStart => exact ⟨0, _, _, Nat.zero_le _, rfl, HG5, HO5, HB5, Lib.hid (fun h => absurd h (by decide)), Lib.hid (fun h => absurd h (by decide))⟩
  case round =>
    obtain ⟨k, x, y, hk, rfl, HG, HO, HBl, HX0, HY0⟩ := hrel
    have HA : Hid (At wr base d) := Lib.hid (HAt.out.below HBl.out)
    clear HG5 HO5 HB5 HA5
    rcases (show k = 0 ∨ k = 1 ∨ k = 2 by omega) with rfl | rfl | rfl
    · have HRD : Hid (Reads wr (.slice (some ⟨d.s0, 0, none⟩) d.n d.k0) d.a) := Lib.hid (reads0 HA.out)
      go_upto_region 9 with fail
      refine (clone_any _ _ d.a HRD.out (by have := HA.out.la; have := HA.out.lb; have := HA.out.ln; omega)).mono ?_
      rintro e w6 ⟨v3, rfl, ho6, hb6⟩
      obtain ⟨p3, k3, rfl⟩ := own_shape ho6
      have HG6 := Lib.hid (blk_below HG.out hb6)
      have hg6 : w6.cell? ⟨G, 0, none⟩ = some x := (cell_of_row _ _ _ _ _ _ HG6.out).trans rfl
      have hf6 : w6.frozen? ⟨G, 0, none⟩ = false := frozen_of_row _ _ _ _ _ HG6.out
      go_wp2_with fail
      have hrow := heap_setCell_same w6 G 0 _ _ (.slice p3 d.a.length k3) HG6.out
      have HS : Fr (fun q => q = G) w6 (w6.setCell ⟨G, 0, none⟩ (.slice p3 d.a.length k3)) := Fr.of_grown (gb_set (gb_refl _ _) _ _) rfl
      have HX : Hid ((w6.setCell ⟨G, 0, none⟩ (.slice p3 d.a.length k3)).ownsRow w.heap.size 5 1 (.slice p3 d.a.length k3) d.a.length (bys d.a)) := Lib.hid (own_fr HS (own_under ho6 HBl.out.size) (fun q hq => by
        obtain ⟨c1, r1, _⟩ := own_block ho6 hq
        exact blk_ne r1 HG6.out (by decide)))
      have HV : Hid ((w6.setCell ⟨G, 0, none⟩ (.slice p3 d.a.length k3)).ownsRow w.heap.size 22 1 (.slice p2 d.vs.length k2) d.vs.length d.vs) := Lib.hid (own_fr HS (own_below HO.out hb6) (fun q hq => by
        obtain ⟨c1, r1, _⟩ := own_block (own_below HO.out hb6) hq
        exact blk_ne r1 HG6.out (by decide)))
      have HBn : Hid (Below w.heap.size w (w6.setCell ⟨G, 0, none⟩ (.slice p3 d.a.length k3))) := Lib.hid (b_set (b_then HBl.out hb6) (by show w.heap.size ≤ G; omega) _)
      go_roundw
      case rel => exact ⟨1, _, _, by decide, rfl, Lib.hid hrow, HV, HBn, Lib.hid (fun _ => by have h := HX.out; rw [HA.out.la] at h ⊢; exact h), Lib.hid (fun h => absurd h (by decide))⟩
      case measure => decide
    · have HRD : Hid (Reads wr (.slice (some ⟨d.s1, 0, none⟩) d.n d.k1) d.b) := Lib.hid (reads1 HA.out)
      go_upto_region 9 with fail
      refine (clone_any _ _ d.b HRD.out (by have := HA.out.la; have := HA.out.lb; have := HA.out.ln; omega)).mono ?_
      rintro e w6 ⟨v3, rfl, ho6, hb6⟩
      obtain ⟨p3, k3, rfl⟩ := own_shape ho6
      have HG6 := Lib.hid (blk_below HG.out hb6)
      have hg6 : w6.cell? ⟨G, 1, none⟩ = some y := (cell_of_row _ _ _ _ _ _ HG6.out).trans rfl
      have hf6 : w6.frozen? ⟨G, 1, none⟩ = false := frozen_of_row _ _ _ _ _ HG6.out
      go_wp2_with fail
      have hrow := heap_setCell_same w6 G 1 _ _ (.slice p3 d.b.length k3) HG6.out
      have HS : Fr (fun q => q = G) w6 (w6.setCell ⟨G, 1, none⟩ (.slice p3 d.b.length k3)) := Fr.of_grown (gb_set (gb_refl _ _) _ _) rfl
      have HX : Hid ((w6.setCell ⟨G, 1, none⟩ (.slice p3 d.b.length k3)).ownsRow w.heap.size 5 1 (.slice p3 d.b.length k3) d.b.length (bys d.b)) := Lib.hid (own_fr HS (own_under ho6 HBl.out.size) (fun q hq => by
        obtain ⟨c1, r1, _⟩ := own_block ho6 hq
        exact blk_ne r1 HG6.out (by decide)))
      have HX1 : Hid ((w6.setCell ⟨G, 1, none⟩ (.slice p3 d.b.length k3)).ownsRow w.heap.size 5 1 x d.n (bys d.a)) := Lib.hid (own_fr HS (own_below (HX0.out (by decide)) hb6) (fun q hq => by
        obtain ⟨c1, r1, _⟩ := own_block (own_below (HX0.out (by decide)) hb6) hq
        exact blk_ne r1 HG6.out (by decide)))
      have HXY : Hid (∀ q, x.ownBlock = some q → (Value.slice p3 d.b.length k3).ownBlock ≠ some q) := Lib.hid (fun q hq hq2 => by
        obtain ⟨c1, r1, _⟩ := own_block (HX0.out (by decide)) hq
        obtain ⟨c2, r2, hge⟩ := own_block ho6 hq2
        have := blk_lt r1
        omega)
      have HV : Hid ((w6.setCell ⟨G, 1, none⟩ (.slice p3 d.b.length k3)).ownsRow w.heap.size 22 1 (.slice p2 d.vs.length k2) d.vs.length d.vs) := Lib.hid (own_fr HS (own_below HO.out hb6) (fun q hq => by
        obtain ⟨c1, r1, _⟩ := own_block (own_below HO.out hb6) hq
        exact blk_ne r1 HG6.out (by decide)))
      have HBn : Hid (Below w.heap.size w (w6.setCell ⟨G, 1, none⟩ (.slice p3 d.b.length k3))) := Lib.hid (b_set (b_then HBl.out hb6) (by show w.heap.size ≤ G; omega) _)
      go_roundw
      case rel => exact ⟨2, _, _, by decide, rfl, Lib.hid hrow, HV, HBn, Lib.hid (fun _ => HX1.out), Lib.hid (fun _ => ⟨by have h := HX.out; rw [HA.out.lb] at h ⊢; exact h, by have h := HXY.out; rw [HA.out.lb] at h ⊢; exact h⟩)⟩
      case measure => decide
    · go_wp2_with fail
      have hX := HX0.out (by decide)
      obtain ⟨hY, hXY⟩ := HY0.out (by decide)
      obtain ⟨_, ⟨_, h0⟩ | ⟨g0, q0, cur0, rfl, b0, r0, n0, m0, z0, t0⟩⟩ := hX
      · omega
      obtain ⟨_, ⟨_, h0⟩ | ⟨g1, q1, cur1, rfl, b1, r1, n1, m1, z1, t1⟩⟩ := hY
      · omega
      have e0 : cur0 = (bys d.a ++ cur0.toList.drop d.n).toArray := by
        rw [Nat.mul_one] at t0
        rw [← t0, List.take_append_drop]
      have e1 : cur1 = (bys d.b ++ cur1.toList.drop d.n).toArray := by
        rw [Nat.mul_one] at t1
        rw [← t1, List.take_append_drop]
      refine bodyPost_ret (v := .pointer (some ⟨G, 0, none⟩)) (by simp [results, Try.results16, go_sem]) rfl ⟨⟨G, g0, g1, d.n, d.a, d.b, d.left, d.down, d.wr, .slice p2 d.vs.length k2, d.vs, q0, q1, cur0.toList.drop d.n, cur1.toList.drop d.n⟩, rfl, ⟨HG.out, by rw [← e0]; exact r0, by rw [← e1]; exact r1, HA.out.la, HA.out.lb, HO.out, by show w.heap.size ≤ G; omega, b0, b1, fun h => hXY g0 rfl (by show some g1 = some g0; rw [show g1 = g0 from h.symm]), HA.out.ln, ⟨n0, m0⟩, ⟨n1, m1⟩⟩, rfl, rfl, rfl, rfl, rfl, rfl, rfl, HBl.out⟩
end Go.Proofs.Ytijcdpefcdgklaa.Di
