/- DiskPlays: a walk. -/
import Derived.Test.YtijcdpefcdgklaaEi
namespace Go.Proofs.Ytijcdpefcdgklaa.Di
open Go.RowKit K

attribute [local go_sem ↓] eq22 eq22n eq37 eq37n eq25 ne25 st_size
attribute [local go_sem] lookTo stepTo Maker.step
set_option maxHeartbeats 400000000 in
set_option maxRecDepth 100000 in
theorem plays_main (w : World) (n : Nat) (h16 : 16 ≤ n) (h400 : n ≤ 400) (A : Option Addr) (lb lo len cap : Nat) (hlen : len ≤ 60) (KK TT NN : Nat → Int) (BV : Nat → Value) (BL : Nat → List UInt8) (hA : 0 < len → A = some ⟨lb, lo, none⟩)
    (hc0 : ∀ i, i < len → w.cell? ⟨lb, lo + i * 4, none⟩ = some (.int .i64 (KK i)))
    (hc1 : ∀ i, i < len → w.cell? ⟨lb, lo + i * 4 + 1, none⟩ = some (.int .i64 (TT i)))
    (hc2 : ∀ i, i < len → w.cell? ⟨lb, lo + i * 4 + 2, none⟩ = some (.int .i64 (NN i)))
    (hc3 : ∀ i, i < len → w.cell? ⟨lb, lo + i * 4 + 3, none⟩ = some (BV i))
    (hN : ∀ i, i < len → -9223372036854775808 ≤ NN i ∧ NN i ≤ 9223372036854775807)
    (hB : ∀ i, i < len → Reads w (BV i) (BL i)) :
    Calls Try.prog 4 #[.int .i64 n, .slice A len cap] w fun e w' => e = .returned (.bool true) ∧ Below w.heap.size w w' := by
  have HA := Lib.hid hA
  have C0 := Lib.hid hc0
  have C1 := Lib.hid hc1
  have C2 := Lib.hid hc2
  have C3 := Lib.hid hc3
  have RN := Lib.hid hN
  have RB := Lib.hid hB
  have HN := Lib.hid (And.intro h16 h400)
  have HLEN := Lib.hid hlen
  clear hA hc0 hc1 hc2 hc3 hN hB
  have hi1 : ¬ (400 : Int) < (n : Int) := by omega
  have hi2 : ¬ (60 : Int) < (len : Int) := by omega
  have hi3 : ¬ (n : Int) < 16 := by omega
  have hi4 : ¬ (262144 : Int) < (n : Int) := by omega
  have hi5 : ¬ 400 < n := by omega
  have hi6 : ¬ 60 < len := by omega
  have hi7 : ¬ n < 16 := by omega
  have hi8 : ¬ 262144 < n := by omega
  clear h16 h400 hlen
  go_enter Try.func4, Try.ntmps4
  go_wp2_with fail
  refine (first_any _).mono ?_
  rintro e w1 ⟨rfl, hb⟩
  have B1 := Lib.hid hb
  clear hb
  go_wp2_with fail
  refine (new_any w1 n HN.out.1 (by have := HN.out.2; omega)).mono ?_
  rintro e w2 ⟨g0, s0, s1, rfl, hA2, hb2⟩
  have A2 := Lib.hid hA2
  have B2 := Lib.hid (b_then B1.out hb2)
  have SZ := Lib.hid B1.out.size
  clear hA2 hb2 B1
  go_wp2_with fail
  refine (rnew_any _ n (by have := HN.out.2; omega)).mono ?_
  rintro e w3 ⟨rfl, hb3⟩
  have B3 := Lib.hid hb3
  clear hb3
  unfold rv rvc
  go_wp2_with fail
  go_loopw [107, 9, 10] (fun i x9 x10 wr => ∃ (k m : Nat) (xs : List Bk) (g9 c9 g10 c10 : Nat), k ≤ len ∧ i = .int .i64 (k : Int) ∧ x9 = .slice (some ⟨g9, 0, none⟩) m c9 ∧ x10 = .slice (some ⟨g10, 0, none⟩) m c10 ∧ Hid (Both wr w.heap.size n k m xs g9 c9 g10 c10) ∧ Hid (Below w.heap.size w wr)) (fun i _ _ _ => len - (intOf i).toNat)
  case atStart => exact ⟨0, 1, _, _, 1, _, 1, Nat.zero_le _, rfl, rfl, rfl, Lib.hid (both_start A2.out SZ.out B2.out B3.out), Lib.hid (b_alloc (b_then (b_alloc B2.out _) B3.out) _)⟩
  case round =>
    obtain ⟨k, m, xs, g9, c9, g10, c10, hk, rfl, rfl, rfl, hB, hbel⟩ := hrel
    clear A2 B2 B3 SZ
    by_cases h : k < len
    · obtain rfl := HA.out (by omega)
      have hlb : lb < w.heap.size := World.block_lt_of_cell? _ _ (C0.out k h)
      have c0 : wr.cell? ⟨lb, lo + k * 4, none⟩ = some (.int .i64 (KK k)) := (hbel.out.cell hlb).trans (C0.out k h)
      have c1 : wr.cell? ⟨lb, lo + k * 4 + 1, none⟩ = some (.int .i64 (TT k)) := (hbel.out.cell hlb).trans (C1.out k h)
      have c2 : wr.cell? ⟨lb, lo + k * 4 + 2, none⟩ = some (.int .i64 (NN k)) := (hbel.out.cell hlb).trans (C2.out k h)
      obtain ⟨pb, cb, hbv, _⟩ := read_shape (RB.out k h)
      have c3 : wr.cell? ⟨lb, lo + k * 4 + 3, none⟩ = some (.slice pb (BL k).length cb) := ((hbel.out.cell hlb).trans (C3.out k h)).trans (congrArg some hbv)
      have HBK : Hid (Reads w (.slice pb (BL k).length cb) (BL k)) := Lib.hid (by have h1 := RB.out k h; rw [hbv] at h1; exact h1)
      obtain ⟨bl, hbl⟩ : ∃ bl, BL k = bl := ⟨_, rfl⟩
      rw [hbl] at c3 HBK
      obtain ⟨B, hBn⟩ : ∃ B, bl.length = B := ⟨_, rfl⟩
      rw [hBn] at c3 HBK
      have HBn := Lib.hid hBn
      have HNK := Lib.hid (RN.out k h)
      have hmost := hB.out.most
      have hpos := hB.out.pos
      obtain ⟨at_, hat, hlt⟩ := at_ex (TT k) m hpos
      have hi0 : (0 : Int) ≤ (at_ : Int) := by omega
      have hia : (at_ : Int) < (m : Int) := by omega
      clear hbv hbl hBn
      obtain ⟨x, hx⟩ : ∃ x, xs[at_]? = some x := ⟨_, List.getElem?_eq_getElem (by rw [hB.out.len]; exact hlt)⟩
      have HX := Lib.hid hx
      go_upto_region 15 with fail
      have hO : (wr.alloc (Obj.cells #[Value.int IntKind.i64 (KK k), Value.int IntKind.i64 (TT k), Value.int IntKind.i64 (NN k), Value.slice pb B cb] 48)).heap[wr.heap.size]? = some (Obj.cells #[Value.int IntKind.i64 (KK k), Value.int IntKind.i64 (TT k), Value.int IntKind.i64 (NN k), Value.slice pb B cb] 48 (0, 0)) := blk_new rfl
      have HB := Lib.hid (hB.out.below (b_alloc (Below.refl _ _) (Obj.cells #[Value.int IntKind.i64 (KK k), Value.int IntKind.i64 (TT k), Value.int IntKind.i64 (NN k), Value.slice pb B cb] 48)))
      have HBE := Lib.hid (b_alloc hbel.out (Obj.cells #[Value.int IntKind.i64 (KK k), Value.int IntKind.i64 (TT k), Value.int IntKind.i64 (NN k), Value.slice pb B cb] 48))
      have hOb : w.heap.size ≤ wr.heap.size := hbel.out.size
      generalize wr.alloc (Obj.cells #[Value.int IntKind.i64 (KK k), Value.int IntKind.i64 (TT k), Value.int IntKind.i64 (NN k), Value.slice pb B cb] 48) = W at *
      generalize wr.heap.size = O at *
      have HO := Lib.hid hO
      have HOB := Lib.hid hOb
      have o0 : W.cell? ⟨O, 0, none⟩ = some (.int .i64 (KK k)) := (cell_of_row _ _ _ _ _ _ HO.out).trans rfl
      have o1 : W.cell? ⟨O, 1, none⟩ = some (.int .i64 (TT k)) := (cell_of_row _ _ _ _ _ _ HO.out).trans rfl
      have o2 : W.cell? ⟨O, 2, none⟩ = some (.int .i64 (NN k)) := (cell_of_row _ _ _ _ _ _ HO.out).trans rfl
      have o3 : W.cell? ⟨O, 3, none⟩ = some (.slice pb B cb) := (cell_of_row _ _ _ _ _ _ HO.out).trans rfl
      clear hB hbel c0 c1 c2 c3 hO hOb hlb hx
      by_cases h600 : 600 < B
      · have hq : (600 : Int) < (B : Int) := by omega
        go_wp2_with fail
        go_ret
        exact ⟨rfl, HBE.out⟩
      · have hq : ¬ (600 : Int) < (B : Int) := by omega
        by_cases k4 : (IntKind.u64.wrap (KK k)).tmod 8 = 4
        · as_aux_lemma =>
            have HAt := Lib.hid (HB.out.st.one at_ x HX.out).at_
            have d9 : W.cell? ⟨g9, at_, none⟩ = some (.pointer (some ⟨x.d.g, 0, none⟩)) := own_cell HB.out.own9 (ptrs_get HX.out)
            have N9 : Hid (∀ q, Foot x.d q → q ≠ g9 ∧ q ≠ g10 ∧ q ≠ O) := Lib.hid (fun q hq => by
              obtain ⟨_, h1, _⟩ := own_block HB.out.own9 rfl
              obtain ⟨_, h2, _⟩ := own_block HB.out.own10 rfl
              exact ⟨foot_ne HAt.out hq h1 (by decide) (by decide) (by decide), foot_ne HAt.out hq h2 (by decide) (by decide) (by decide), foot_ne HAt.out hq HO.out (by decide) (by decide) (by decide)⟩)
            have FB : Hid (∀ q, Foot x.d q → w.heap.size ≤ q) := Lib.hid (fun q hq => by obtain ⟨_, _, _, _, h1⟩ := foot_blk HAt.out hq; exact h1)
            go_upto_region 25 with fail
            have HS : Hid ((fun w' : World => w'.cell? ⟨g9, at_, none⟩ = some (.pointer (some ⟨x.d.g, 0, none⟩)) ∧ w'.cell? ⟨O, 2, none⟩ = some (.int .i64 (NN k))) W.drew) := Lib.hid (⟨d9, o2⟩)
            refine h_region (fun w' : World => w'.cell? ⟨g9, at_, none⟩ = some (.pointer (some ⟨x.d.g, 0, none⟩)) ∧ w'.cell? ⟨O, 2, none⟩ = some (.int .i64 (NN k))) 7 (by kernel_rfl) (by kernel_rfl) ?_
            refine h_look (i := 0) rfl (by kernel_rfl) ?_ rfl (fun w' hS => ?_) HS.out ?_
            rotate_left
            · obtain ⟨e9, e2⟩ := hS
              go_simp
              first | done | rfl
            simp only [Act.put, List.setIfInBounds_toArray, List.set_cons_zero, List.set_cons_succ]
            refine h_look (i := 1) rfl (by kernel_rfl) ?_ rfl (fun w' hS => ?_) HS.out ?_
            rotate_left
            · obtain ⟨e9, e2⟩ := hS
              go_simp
              first | done | rfl
            simp only [Act.put, List.setIfInBounds_toArray, List.set_cons_zero, List.set_cons_succ]
            refine h_look (i := 2) rfl (by kernel_rfl) ?_ rfl (fun w' hS => ?_) HS.out ?_
            rotate_left
            · obtain ⟨e9, e2⟩ := hS
              go_simp
              first | done | rfl
            simp only [Act.put, List.setIfInBounds_toArray, List.set_cons_zero, List.set_cons_succ]
            refine h_look (i := 3) rfl (by kernel_rfl) ?_ rfl (fun w' hS => ?_) HS.out ?_
            rotate_left
            · obtain ⟨e9, e2⟩ := hS
              go_simp
              first | done | rfl
            simp only [Act.put, List.setIfInBounds_toArray, List.set_cons_zero, List.set_cons_succ]
            refine h_look (i := 4) rfl (by kernel_rfl) ?_ rfl (fun w' hS => ?_) HS.out ?_
            rotate_left
            · obtain ⟨e9, e2⟩ := hS
              go_simp
              first | done | rfl
            simp only [Act.put, List.setIfInBounds_toArray, List.set_cons_zero, List.set_cons_succ]
            refine h_look (i := 5) rfl (by kernel_rfl) ?_ rfl (fun w' hS => ?_) HS.out ?_
            rotate_left
            · obtain ⟨e9, e2⟩ := hS
              go_simp
              first | done | rfl
            simp only [Act.put, List.setIfInBounds_toArray, List.set_cons_zero, List.set_cons_succ]
            refine h_one (i := 6) (by kernel_rfl) rfl rfl (fun K hK => ?_)
            go_simp
            refine (arm_any (NN k) HAt.out.drew).mono ?_
            rintro e W2 ⟨rfl, hA2, hf2⟩
            have FR : Hid (Fr (fun q => q = x.d.g) W W2) := Lib.hid (fr_drew hf2)
            have ST2 := Lib.hid (HB.out.st.armed (left := if NN k < 0 then -1 else NN k) (down := x.d.down) (e := .returned (.tuple #[])) HX.out ⟨rfl, by have h1 := hA2; rw [arm_same] at h1; exact h1, FR.out⟩ (arm_rng HNK.out))
            clear hA2 hf2
            refine hK _ _ ⟨cell_fr FR.out d9 (fun hs => (N9.out _ (Or.inl hs)).1 rfl), cell_fr FR.out o2 (fun hs => (N9.out _ (Or.inl hs)).2.2 rfl)⟩ ?_
            clear hK K HS
            refine h_end (by kernel_rfl) ?_
            have o10 := own_fr FR.out HB.out.own10 (fun q hq hs => by cases hq; exact (N9.out _ (Or.inl hs)).2.1 rfl)
            have R2 : Hid (W2.rangeAt g10 (at_ * 6) (rcells x)) := Lib.hid (range10 o10 HX.out)
            have T2 : Hid (W2.ownsRow w.heap.size 44 6 (.slice (some ⟨g10, 0, none⟩) m c10) m (rcs xs)) := Lib.hid o10
            have O2 : Hid (W2.cell? ⟨O, 2, none⟩ = some (.int .i64 (NN k))) := Lib.hid (cell_fr FR.out o2 (fun hs => (N9.out _ (Or.inl hs)).2.2 rfl))
            clear o10 o0 o1 o2 o3 d9
            go_upto_region 26 with fail
            have HS : Hid ((fun w' : World => w'.rangeAt g10 (at_ * 6) (rcells x) ∧ w'.cell? ⟨O, 2, none⟩ = some (.int .i64 (NN k))) W2.drew) := Lib.hid (⟨R2.out, O2.out⟩)
            refine h_region (fun w' : World => w'.rangeAt g10 (at_ * 6) (rcells x) ∧ w'.cell? ⟨O, 2, none⟩ = some (.int .i64 (NN k))) 11 (by kernel_rfl) (by kernel_rfl) ?_
            refine h_look (i := 0) rfl (by kernel_rfl) ?_ rfl (fun w' hS => ?_) HS.out ?_
            rotate_left
            · obtain ⟨e9, e2⟩ := hS
              go_simp
              first | done | rfl
            simp only [Act.put, List.setIfInBounds_toArray, List.set_cons_zero, List.set_cons_succ]
            refine h_look (i := 1) rfl (by kernel_rfl) ?_ rfl (fun w' hS => ?_) HS.out ?_
            rotate_left
            · obtain ⟨e9, e2⟩ := hS
              go_simp
              first | done | rfl
            simp only [Act.put, List.setIfInBounds_toArray, List.set_cons_zero, List.set_cons_succ]
            refine h_look (i := 2) rfl (by kernel_rfl) ?_ rfl (fun w' hS => ?_) HS.out ?_
            rotate_left
            · obtain ⟨e9, e2⟩ := hS
              go_simp
              first | done | rfl
            simp only [Act.put, List.setIfInBounds_toArray, List.set_cons_zero, List.set_cons_succ]
            refine h_look (i := 3) rfl (by kernel_rfl) ?_ rfl (fun w' hS => ?_) HS.out ?_
            rotate_left
            · obtain ⟨e9, e2⟩ := hS
              go_simp
              first | done | rfl
            simp only [Act.put, List.setIfInBounds_toArray, List.set_cons_zero, List.set_cons_succ]
            refine h_look (i := 4) rfl (by kernel_rfl) ?_ rfl (fun w' hS => ?_) HS.out ?_
            rotate_left
            · obtain ⟨e9, e2⟩ := hS
              go_simp
              first | done | rfl
            simp only [Act.put, List.setIfInBounds_toArray, List.set_cons_zero, List.set_cons_succ]
            refine h_look (i := 5) rfl (by kernel_rfl) (.agg (rcells x).toArray) rfl (fun w' hS => ?_) HS.out ?_
            · exact look_mid rfl rfl hS.1 rfl
            simp only [Act.put, List.setIfInBounds_toArray, List.set_cons_zero, List.set_cons_succ]
            refine h_look (i := 6) rfl (by kernel_rfl) ?_ rfl (fun w' hS => ?_) HS.out ?_
            rotate_left
            · obtain ⟨e9, e2⟩ := hS
              go_simp
              first | done | rfl
            simp only [Act.put, List.setIfInBounds_toArray, List.set_cons_zero, List.set_cons_succ]
            refine h_look (i := 7) rfl (by kernel_rfl) ?_ rfl (fun w' hS => ?_) HS.out ?_
            rotate_left
            · obtain ⟨e9, e2⟩ := hS
              go_simp
              first | done | rfl
            simp only [Act.put, List.setIfInBounds_toArray, List.set_cons_zero, List.set_cons_succ]
            refine h_one (i := 8) (by kernel_rfl) rfl rfl (fun K hK => ?_)
            go_simp
            refine (rarm_any W2.drew ⟨x.d.a.toArray⟩ ⟨x.d.b.toArray⟩ x.d.left x.d.down x.d.wr x.p x.ls.length x.c (NN k)).mono ?_
            rintro e W3 ⟨rfl, hb3⟩
            have HB3 : Hid (Below W2.heap.size W2 W3) := Lib.hid (below_undrew hb3)
            have HS3 : Hid ((fun w' : World => w'.rangeAt g10 (at_ * 6) (rcells x) ∧ w'.cell? ⟨O, 2, none⟩ = some (.int .i64 (NN k))) W3) := Lib.hid ⟨range_below HB3.out R2.out, cell_below HB3.out O2.out⟩
            clear hb3
            refine hK _ _ HS3.out ?_
            clear hK K HS
            refine h_look (i := 9) rfl (by kernel_rfl) ?_ rfl (fun w' hS => ?_) HS3.out ?_
            rotate_left
            · obtain ⟨e9, e2⟩ := hS
              go_simp
              first | done | rfl
            simp only [Act.put, List.setIfInBounds_toArray, List.set_cons_zero, List.set_cons_succ]
            obtain ⟨x', hx'⟩ : ∃ x' : Bk, x' = { x with d := { x.d with left := if NN k < 0 then -1 else NN k, down := x.d.down } } := ⟨_, rfl⟩
            refine h_last (i := 10) (by kernel_rfl) rfl (by kernel_rfl) rfl (fun K hK => ?_)
            refine wp_store_mid 44 _ _ rfl g10 (at_ * 6) (rcells x').toArray rfl (by rw [hx']; rfl) (there10 (own_below T2.out HB3.out) HX.out) info44 (rcells_one x') ?_
            refine hK _ _ ?_
            clear hK K
            rw [← hx'] at ST2
            obtain ⟨hBT, hgT, hgb⟩ := HB.out.turn HX.out ST2.out FR.out (fun q hq => Or.inl hq) HB3.out (by rw [hx'])
            have HBT := Lib.hid (show Both _ _ _ (k + 1) _ _ _ _ _ _ from ⟨hBT.st.more (Nat.le_succ k), hBT.len, hBT.pos, hBT.most, hBT.own9, hBT.own10⟩)
            have HBW := Lib.hid (turn_below HBE.out FR.out (fun q hq => FB.out q (Or.inl hq)) HB3.out hgT hgb)
            clear hBT hgT hgb hx'
            simp only [Act.put]
            refine h_end (by kernel_rfl) ?_
            go_wp2_with fail
            go_roundw
            case rel => exact ⟨k + 1, m, xs.set at_ x', g9, c9, g10, c10, h, by go_num, rfl, rfl, HBT, HBW⟩
            case measure => exact (rnd h).2
        by_cases k5 : (IntKind.u64.wrap (KK k)).tmod 8 = 5
        · as_aux_lemma =>
            have HAt := Lib.hid (HB.out.st.one at_ x HX.out).at_
            have d9 : W.cell? ⟨g9, at_, none⟩ = some (.pointer (some ⟨x.d.g, 0, none⟩)) := own_cell HB.out.own9 (ptrs_get HX.out)
            have N9 : Hid (∀ q, Foot x.d q → q ≠ g9 ∧ q ≠ g10 ∧ q ≠ O) := Lib.hid (fun q hq => by
              obtain ⟨_, h1, _⟩ := own_block HB.out.own9 rfl
              obtain ⟨_, h2, _⟩ := own_block HB.out.own10 rfl
              exact ⟨foot_ne HAt.out hq h1 (by decide) (by decide) (by decide), foot_ne HAt.out hq h2 (by decide) (by decide) (by decide), foot_ne HAt.out hq HO.out (by decide) (by decide) (by decide)⟩)
            have FB : Hid (∀ q, Foot x.d q → w.heap.size ≤ q) := Lib.hid (fun q hq => by obtain ⟨_, _, _, _, h1⟩ := foot_blk HAt.out hq; exact h1)
            go_upto_region 28 with fail
            go_wp2_with fail
            refine (up_any HAt.out).mono ?_
            rintro e W2 ⟨rfl, hA2, hf2⟩
            have FR : Hid (Fr (fun q => q = x.d.g) W W2) := Lib.hid hf2
            have ST2 := Lib.hid (HB.out.st.armed (left := -1) (down := false) (e := .returned (.tuple #[])) HX.out ⟨rfl, hA2, FR.out⟩ (by decide))
            clear hA2 hf2
            have o10 := own_fr FR.out HB.out.own10 (fun q hq hs => by cases hq; exact (N9.out _ (Or.inl hs)).2.1 rfl)
            have R2 : Hid (W2.rangeAt g10 (at_ * 6) (rcells x)) := Lib.hid (range10 o10 HX.out)
            have T2 : Hid (W2.ownsRow w.heap.size 44 6 (.slice (some ⟨g10, 0, none⟩) m c10) m (rcs xs)) := Lib.hid o10
            have O2 : Hid (W2.cell? ⟨O, 2, none⟩ = some (.int .i64 (NN k))) := Lib.hid (cell_fr FR.out o2 (fun hs => (N9.out _ (Or.inl hs)).2.2 rfl))
            clear o10 o0 o1 o2 o3 d9
            go_upto_region 29 with fail
            refine wp_region_lit ?_
            refine wpList_plain rfl (fun K hK => ?_)
            go_simp
            refine hK _ _ ?_
            clear hK K
            refine wpList_plain rfl (fun K hK => ?_)
            go_simp
            refine hK _ _ ?_
            clear hK K
            refine wpList_plain rfl (fun K hK => ?_)
            go_simp
            refine hK _ _ ?_
            clear hK K
            refine wpList_plain rfl (fun K hK => ?_)
            go_simp
            refine hK _ _ ?_
            clear hK K
            refine wpList_plain rfl (fun K hK => ?_)
            go_simp
            refine hK _ _ ?_
            clear hK K
            refine wpList_load_mid rfl 44 _ rfl g10 (at_ * 6) rfl (rcells x) _ R2.out Try.underlying44 rfl info44 ?_
            refine wpList_plain rfl (fun K hK => ?_)
            go_simp
            refine (rup_any W2 ⟨x.d.a.toArray⟩ ⟨x.d.b.toArray⟩ x.d.left x.d.down x.d.wr x.p x.ls.length x.c).mono ?_
            rintro e W3 ⟨rfl, hb3⟩
            have HB3 : Hid (Below W2.heap.size W2 W3) := Lib.hid hb3
            clear hb3
            refine hK _ _ ?_
            clear hK K
            refine wpList_plain rfl (fun K hK => ?_)
            go_simp
            refine hK _ _ ?_
            clear hK K
            obtain ⟨x', hx'⟩ : ∃ x' : Bk, x' = { x with d := { x.d with left := -1, down := false } } := ⟨_, rfl⟩
            refine wpList_store_mid rfl 44 _ _ rfl g10 (at_ * 6) (rcells x').toArray rfl (by rw [hx']; rfl) (there10 (own_below T2.out HB3.out) HX.out) info44 (rcells_one x') ?_
            rw [← hx'] at ST2
            obtain ⟨hBT, hgT, hgb⟩ := HB.out.turn HX.out ST2.out FR.out (fun q hq => Or.inl hq) HB3.out (by rw [hx'])
            have HBT := Lib.hid (show Both _ _ _ (k + 1) _ _ _ _ _ _ from ⟨hBT.st.more (Nat.le_succ k), hBT.len, hBT.pos, hBT.most, hBT.own9, hBT.own10⟩)
            have HBW := Lib.hid (turn_below HBE.out FR.out (fun q hq => FB.out q (Or.inl hq)) HB3.out hgT hgb)
            clear hBT hgT hgb hx'
            go_wp2_with fail
            go_roundw
            case rel => exact ⟨k + 1, m, xs.set at_ x', g9, c9, g10, c10, h, by go_num, rfl, rfl, HBT, HBW⟩
            case measure => exact (rnd h).2
        by_cases k6 : (IntKind.u64.wrap (KK k)).tmod 8 = 6
        · by_cases hm4 : m < 4
          · have HAt := Lib.hid (HB.out.st.one at_ x HX.out).at_
            have d9 : W.cell? ⟨g9, at_, none⟩ = some (.pointer (some ⟨x.d.g, 0, none⟩)) := own_cell HB.out.own9 (ptrs_get HX.out)
            have N9 : Hid (∀ q, Foot x.d q → q ≠ g9 ∧ q ≠ g10 ∧ q ≠ O) := Lib.hid (fun q hq => by
              obtain ⟨_, h1, _⟩ := own_block HB.out.own9 rfl
              obtain ⟨_, h2, _⟩ := own_block HB.out.own10 rfl
              exact ⟨foot_ne HAt.out hq h1 (by decide) (by decide) (by decide), foot_ne HAt.out hq h2 (by decide) (by decide) (by decide), foot_ne HAt.out hq HO.out (by decide) (by decide) (by decide)⟩)
            have FB : Hid (∀ q, Foot x.d q → w.heap.size ≤ q) := Lib.hid (fun q hq => by obtain ⟨_, _, _, _, h1⟩ := foot_blk HAt.out hq; exact h1)
            have hm4i : (m : Int) < 4 := by omega
            have NE9 : Hid (g9 ≠ g10) := Lib.hid (by
              obtain ⟨_, h1, _⟩ := own_block HB.out.own9 rfl
              obtain ⟨_, h2, _⟩ := own_block HB.out.own10 rfl
              exact blk_ne h1 h2 (by decide))
            have B9 : Hid (w.heap.size ≤ g9 ∧ w.heap.size ≤ g10) := Lib.hid (by
              obtain ⟨_, _, h1⟩ := own_block HB.out.own9 rfl
              obtain ⟨_, _, h2⟩ := own_block HB.out.own10 rfl
              exact ⟨h1, h2⟩)
            go_upto_region 32 with fail
            obtain ⟨V0, hV0⟩ : ∃ V : World, W.drew = V := ⟨_, rfl⟩
            have hb0 : Below W.heap.size W V0 := by rw [← hV0]; exact b_drew (Below.refl _ _)
            have F0 : Hid (Fr (fun q => q = g9 ∨ q = g10) W V0) := Lib.hid (Fr.of_below hb0)
            have P0 := Lib.hid (own_below HB.out.own9 hb0)
            have R0 := Lib.hid (own_below HB.out.own10 hb0)
            have T0 := Lib.hid (HB.out.st.below hb0)
            have L0 : Hid ((fun w' : World => w'.cell? ⟨g9, at_, none⟩ = some (.pointer (some ⟨x.d.g, 0, none⟩)) ∧ w'.rangeAt g10 (at_ * 6) (rcells x)) V0) := Lib.hid ⟨own_cell P0.out (ptrs_get HX.out), range10 R0.out HX.out⟩
            refine h_region (fun w' : World => w'.cell? ⟨g9, at_, none⟩ = some (.pointer (some ⟨x.d.g, 0, none⟩)) ∧ w'.rangeAt g10 (at_ * 6) (rcells x)) 17 (by kernel_rfl) (by kernel_rfl) ?_
            rw [hV0]
            clear hV0 hb0 o0 o1 o2 o3 d9
            refine h_look (i := 0) rfl (by kernel_rfl) ?_ rfl (fun w' hS => ?_) L0.out ?_
            rotate_left
            · obtain ⟨e9, e10⟩ := hS
              go_simp
              first | done | rfl
            simp only [Act.put, List.setIfInBounds_toArray, List.set_cons_zero, List.set_cons_succ]
            refine h_look (i := 1) rfl (by kernel_rfl) ?_ rfl (fun w' hS => ?_) L0.out ?_
            rotate_left
            · obtain ⟨e9, e10⟩ := hS
              go_simp
              first | done | rfl
            simp only [Act.put, List.setIfInBounds_toArray, List.set_cons_zero, List.set_cons_succ]
            refine h_look (i := 2) rfl (by kernel_rfl) ?_ rfl (fun w' hS => ?_) L0.out ?_
            rotate_left
            · obtain ⟨e9, e10⟩ := hS
              go_simp
              first | done | rfl
            simp only [Act.put, List.setIfInBounds_toArray, List.set_cons_zero, List.set_cons_succ]
            refine h_look (i := 3) rfl (by kernel_rfl) ?_ rfl (fun w' hS => ?_) L0.out ?_
            rotate_left
            · obtain ⟨e9, e10⟩ := hS
              go_simp
              first | done | rfl
            simp only [Act.put, List.setIfInBounds_toArray, List.set_cons_zero, List.set_cons_succ]
            refine h_look (i := 4) rfl (by kernel_rfl) ?_ rfl (fun w' hS => ?_) L0.out ?_
            rotate_left
            · obtain ⟨e9, e10⟩ := hS
              go_simp
              first | done | rfl
            simp only [Act.put, List.setIfInBounds_toArray, List.set_cons_zero, List.set_cons_succ]
            refine h_look (i := 8) rfl (by kernel_rfl) ?_ rfl (fun w' hS => ?_) L0.out ?_
            rotate_left
            · obtain ⟨e9, e10⟩ := hS
              go_simp
              first | done | rfl
            simp only [Act.put, List.setIfInBounds_toArray, List.set_cons_zero, List.set_cons_succ]
            refine h_look (i := 9) rfl (by kernel_rfl) ?_ rfl (fun w' hS => ?_) L0.out ?_
            rotate_left
            · obtain ⟨e9, e10⟩ := hS
              go_simp
              first | done | rfl
            simp only [Act.put, List.setIfInBounds_toArray, List.set_cons_zero, List.set_cons_succ]
            refine h_look (i := 10) rfl (by kernel_rfl) ?_ rfl (fun w' hS => ?_) L0.out ?_
            rotate_left
            · obtain ⟨e9, e10⟩ := hS
              go_simp
              first | done | rfl
            simp only [Act.put, List.setIfInBounds_toArray, List.set_cons_zero, List.set_cons_succ]
            refine h_look (i := 11) rfl (by kernel_rfl) ?_ rfl (fun w' hS => ?_) L0.out ?_
            rotate_left
            · obtain ⟨e9, e10⟩ := hS
              go_simp
              first | done | rfl
            simp only [Act.put, List.setIfInBounds_toArray, List.set_cons_zero, List.set_cons_succ]
            refine h_look (i := 12) rfl (by kernel_rfl) (.agg #[.string ⟨x.d.a.toArray⟩, .string ⟨x.d.b.toArray⟩, .int .i64 x.d.left, .bool x.d.down, .int .i64 x.d.wr, .slice x.p x.ls.length x.c]) rfl (fun w' hS => ?_) L0.out ?_
            · exact look_mid rfl rfl hS.2 rfl
            simp only [Act.put, List.setIfInBounds_toArray, List.set_cons_zero, List.set_cons_succ]
            refine h_two (i := 5) (j := 13) (by kernel_rfl) rfl rfl rfl rfl (fun K hK => ?_) (fun K hK => ?_)
            · go_simp
              have HX1 := (T0.out.one at_ x HX.out)
              refine (clone_disk HX1.at_ HX1.one (by have h1 := HX1.lists.1; have h2 := HX1.hj; have h3 := HLEN.out; omega) (by rw [HX1.hn]; have h3 := HN.out.1; omega)).mono ?_
              clear HX1
              rintro e V1 ⟨d', rfl, hA', e1, e2, e3, e4, e5, e6, e7, hb⟩
              have E1 := Lib.hid (rcells_clone (x := x) e2 e3 e4 e5 e6)
              have F1 : Hid (Fr (fun q => q = g9 ∨ q = g10) W V1) := Lib.hid (F0.out.trans (Fr.of_below hb))
              have P1 : Hid (V1.ownsRow w.heap.size 25 1 (.slice (some ⟨g9, 0, none⟩) m c9) m (ptrs xs)) := Lib.hid (own_below P0.out hb)
              have R1 : Hid (V1.ownsRow w.heap.size 44 6 (.slice (some ⟨g10, 0, none⟩) m c10) m (rcs xs)) := Lib.hid (own_below R0.out hb)
              have T1 : Hid (St V1 w.heap.size n k (xs ++ [⟨d', x.ls, x.p, x.c⟩])) := Lib.hid (T0.out.cloned HX.out (Nat.le_trans HBE.out.size F0.out.size) hA' e1 e4 e6 e7 hb)
              have L1 : Hid ((fun w' : World => w'.cell? ⟨g9, at_, none⟩ = some (.pointer (some ⟨x.d.g, 0, none⟩)) ∧ w'.rangeAt g10 (at_ * 6) (rcells x)) V1) := Lib.hid (⟨cell_below hb L0.out.1, range_below hb L0.out.2⟩)
              clear hA' e1 e2 e3 e4 e5 e6 e7 hb
              refine hK _ _ L1.out ?_
              clear hK K
              refine h_two (i := 6) (j := 13) (by kernel_rfl) rfl rfl rfl rfl (fun K hK => ?_) (fun K hK => ?_)
              · go_simp
                obtain ⟨V2, hV⟩ : ∃ V : World, V1.alloc (Obj.cells #[.pointer (some ⟨d'.g, 0, none⟩)] 25) = V := ⟨_, rfl⟩
                obtain ⟨G6, hG⟩ : ∃ g : Nat, V1.heap.size = g := ⟨_, rfl⟩
                rw [hV, hG]
                have hb : Below V1.heap.size V1 V2 := by rw [← hV]; exact b_alloc (Below.refl _ _) _
                have M6_2 : Hid (V2.heap[G6]? = some (Obj.cells #[.pointer (some ⟨d'.g, 0, none⟩)] 25 (0, 0))) := Lib.hid (by rw [← hV]; exact blk_new hG.symm)
                have F2 : Hid (Fr (fun q => q = g9 ∨ q = g10) W V2) := Lib.hid (F1.out.trans (Fr.of_below hb))
                have P2 : Hid (V2.ownsRow w.heap.size 25 1 (.slice (some ⟨g9, 0, none⟩) m c9) m (ptrs xs)) := Lib.hid (own_below P1.out hb)
                have R2 : Hid (V2.ownsRow w.heap.size 44 6 (.slice (some ⟨g10, 0, none⟩) m c10) m (rcs xs)) := Lib.hid (own_below R1.out hb)
                have T2 : Hid (St V2 w.heap.size n k (xs ++ [⟨d', x.ls, x.p, x.c⟩])) := Lib.hid (T1.out.below hb)
                have L2 : Hid ((fun w' : World => w'.cell? ⟨g9, at_, none⟩ = some (.pointer (some ⟨x.d.g, 0, none⟩)) ∧ w'.rangeAt g10 (at_ * 6) (rcells x)) V2) := Lib.hid (⟨cell_below hb L1.out.1, range_below hb L1.out.2⟩)
                clear hV hG hb
                refine hK _ _ L2.out ?_
                clear hK K
                refine h_two (i := 7) (j := 13) (by kernel_rfl) rfl rfl rfl rfl (fun K hK => ?_) (fun K hK => ?_)
                · refine wp_app rfl _ _ 40 rfl w.heap.size 25 (.pointer none) 1 8 Try.underlying40 info25 rfl (by decide) (.slice (some ⟨g9, 0, none⟩) m c9) m (ptrs xs) rfl ⟨G6, 0, none⟩ 1 1 [.pointer (some ⟨d'.g, 0, none⟩)] rfl rfl (by intro u hu; rw [List.mem_singleton.1 hu]; rfl) (by decide) (by unfold maxLen; omega) (by omega) P2.out (news_one M6_2.out) (Nat.le_trans HBE.out.size F2.out.size) ?_
                  intro G9 C9 V3 hA
                  obtain ⟨_, r9, _⟩ := own_block P2.out rfl
                  have F3 : Hid (Fr (fun q => q = g9 ∨ q = g10) W V3) := Lib.hid (F2.out.trans (Fr.of_grown hA.grow (Or.inl rfl)))
                  have P3 : Hid (V3.ownsRow w.heap.size 25 1 (.slice (some ⟨G9, 0, none⟩) (m + 1) C9) (m + 1) (ptrs xs ++ [.pointer (some ⟨d'.g, 0, none⟩)])) := Lib.hid (hA.own)
                  have R3 : Hid (V3.ownsRow w.heap.size 44 6 (.slice (some ⟨g10, 0, none⟩) m c10) m (rcs xs)) := Lib.hid (hA.other R2.out (.inr (fun e => NE9.out (Option.some.inj e).symm)))
                  have T3 : Hid (St V3 w.heap.size n k (xs ++ [⟨d', x.ls, x.p, x.c⟩])) := Lib.hid (st_grown T2.out r9 (by decide) (by decide) (by decide) (by decide) hA.grow)
                  have L3 : Hid ((fun w' : World => w'.cell? ⟨g9, at_, none⟩ = some (.pointer (some ⟨x.d.g, 0, none⟩)) ∧ w'.rangeAt g10 (at_ * 6) (rcells x)) V3) := Lib.hid (⟨hA.cell L2.out.1 (fun _ => by rw [ptrs_len, HB.out.len]; exact hlt), fun j v hj => hA.cell (L2.out.2 j v hj) (fun e => absurd (Option.some.inj e) NE9.out)⟩)
                  clear hA r9
                  refine hK _ _ L3.out ?_
                  clear hK K
                  simp only [Act.put, List.setIfInBounds_toArray, List.set_cons_zero, List.set_cons_succ]
                  refine h_one (i := 13) (by kernel_rfl) rfl rfl (fun K hK => ?_)
                  go_simp
                  obtain ⟨V4, hV⟩ : ∃ V : World, V3.alloc (Obj.cells #[.string ⟨x.d.a.toArray⟩, .string ⟨x.d.b.toArray⟩, .int .i64 x.d.left, .bool x.d.down, .int .i64 x.d.wr, .slice x.p x.ls.length x.c] 44) = V := ⟨_, rfl⟩
                  obtain ⟨G13, hG⟩ : ∃ g : Nat, V3.heap.size = g := ⟨_, rfl⟩
                  rw [hV, hG]
                  have hb : Below V3.heap.size V3 V4 := by rw [← hV]; exact b_alloc (Below.refl _ _) _
                  have M13_4 : Hid (V4.heap[G13]? = some (Obj.cells #[.string ⟨x.d.a.toArray⟩, .string ⟨x.d.b.toArray⟩, .int .i64 x.d.left, .bool x.d.down, .int .i64 x.d.wr, .slice x.p x.ls.length x.c] 44 (0, 0))) := Lib.hid (by rw [← hV]; exact blk_new hG.symm)
                  have F4 : Hid (Fr (fun q => q = g9 ∨ q = g10) W V4) := Lib.hid (F3.out.trans (Fr.of_below hb))
                  have P4 : Hid (V4.ownsRow w.heap.size 25 1 (.slice (some ⟨G9, 0, none⟩) (m + 1) C9) (m + 1) (ptrs xs ++ [.pointer (some ⟨d'.g, 0, none⟩)])) := Lib.hid (own_below P3.out hb)
                  have R4 : Hid (V4.ownsRow w.heap.size 44 6 (.slice (some ⟨g10, 0, none⟩) m c10) m (rcs xs)) := Lib.hid (own_below R3.out hb)
                  have T4 : Hid (St V4 w.heap.size n k (xs ++ [⟨d', x.ls, x.p, x.c⟩])) := Lib.hid (T3.out.below hb)
                  have L4 : Hid ((fun w' : World => w'.cell? ⟨g9, at_, none⟩ = some (.pointer (some ⟨x.d.g, 0, none⟩)) ∧ w'.rangeAt g10 (at_ * 6) (rcells x)) V4) := Lib.hid (⟨cell_below hb L3.out.1, range_below hb L3.out.2⟩)
                  clear hV hG hb
                  refine hK _ _ L4.out ?_
                  clear hK K
                  refine h_one (i := 14) (by kernel_rfl) rfl rfl (fun K hK => ?_)
                  refine wp_app rfl _ _ 46 rfl w.heap.size 44 (.agg #[.string ⟨#[]⟩, .string ⟨#[]⟩, .int .i64 0, .bool false, .int .i64 0, .slice none 0 0]) 6 80 Try.underlying46 info44z rfl (by decide) (.slice (some ⟨g10, 0, none⟩) m c10) m (rcs xs) rfl ⟨G13, 0, none⟩ 1 1 (rcells x) rfl rfl (fun u hu => by have h1 := rcells_one x; rw [Array.all_eq_true_iff_forall_mem] at h1; exact h1 u (by simpa using hu)) (by decide) (by unfold maxLen; omega) (by omega) R4.out (news_all M13_4.out) (Nat.le_trans HBE.out.size F4.out.size) ?_
                  intro G10 C10 V5 hA
                  obtain ⟨_, r10, _⟩ := own_block R4.out rfl
                  obtain ⟨_, r9, _⟩ := own_block P4.out rfl
                  have F5 : Hid (Fr (fun q => q = g9 ∨ q = g10) W V5) := Lib.hid (F4.out.trans (Fr.of_grown hA.grow (Or.inr rfl)))
                  have P5 : Hid (V5.ownsRow w.heap.size 25 1 (.slice (some ⟨G9, 0, none⟩) (m + 1) C9) (m + 1) (ptrs xs ++ [.pointer (some ⟨d'.g, 0, none⟩)])) := Lib.hid (hA.other P4.out (.inr (fun e => blk_ne r9 r10 (by decide) (Option.some.inj e))))
                  have R5 : Hid (V5.ownsRow w.heap.size 44 6 (.slice (some ⟨G10, 0, none⟩) (m + 1) C10) (m + 1) (rcs xs ++ rcells x)) := Lib.hid (hA.own)
                  have T5 : Hid (St V5 w.heap.size n k (xs ++ [⟨d', x.ls, x.p, x.c⟩])) := Lib.hid (st_grown T4.out r10 (by decide) (by decide) (by decide) (by decide) hA.grow)
                  have L5 : Hid ((fun w' : World => w'.cell? ⟨g9, at_, none⟩ = some (.pointer (some ⟨x.d.g, 0, none⟩)) ∧ w'.rangeAt g10 (at_ * 6) (rcells x)) V5) := Lib.hid (⟨hA.cell L4.out.1 (fun e => absurd (Option.some.inj e) NE9.out.symm), fun j v hj => hA.cell (L4.out.2 j v hj) (fun _ => by rw [rcs_len, HB.out.len]; have h6 : j < 6 := (List.getElem?_eq_some_iff.1 hj).1; omega)⟩)
                  clear hA r9 r10
                  refine hK _ _ L5.out ?_
                  clear hK K
                  simp only [Act.put, List.setIfInBounds_toArray, List.set_cons_zero, List.set_cons_succ]
                  refine h_look (i := 15) rfl (by kernel_rfl) ?_ rfl (fun w' hS => ?_) L5.out ?_
                  rotate_left
                  · go_simp
                    first | done | rfl
                  simp only [Act.put, List.setIfInBounds_toArray, List.set_cons_zero, List.set_cons_succ]
                  refine h_look (i := 16) rfl (by kernel_rfl) ?_ rfl (fun w' hS => ?_) L5.out ?_
                  rotate_left
                  · go_simp
                    first | done | rfl
                  simp only [Act.put, List.setIfInBounds_toArray, List.set_cons_zero, List.set_cons_succ]
                  refine h_end (by kernel_rfl) ?_
                  have HBT : Hid (Both V5 w.heap.size n (k + 1) (m + 1) (xs ++ [⟨d', x.ls, x.p, x.c⟩]) G9 C9 G10 C10) := Lib.hid ⟨T5.out.more (Nat.le_succ k), by rw [List.length_append, HB.out.len]; rfl, Nat.succ_pos m, by omega, by rw [ptrs_app]; exact P5.out, by rw [rcs_app, show rcs [⟨d', x.ls, x.p, x.c⟩] = rcells x by show rcells ⟨d', x.ls, x.p, x.c⟩ ++ [] = _; rw [E1.out, List.append_nil]]; exact R5.out⟩
                  have HBW : Hid (Below w.heap.size w V5) := Lib.hid (F5.out.belowOf HBE.out (fun q hq => by rcases hq with rfl | rfl; exact B9.out.1; exact B9.out.2))
                  go_wp2_with fail
                  go_roundw
                  case rel => exact ⟨k + 1, m + 1, xs ++ [⟨d', x.ls, x.p, x.c⟩], G9, C9, G10, C10, h, by go_num, rfl, rfl, HBT, HBW⟩
                  case measure => exact (rnd h).2
                · go_simp
                  obtain ⟨V3, hV⟩ : ∃ V : World, V2.alloc (Obj.cells #[.string ⟨x.d.a.toArray⟩, .string ⟨x.d.b.toArray⟩, .int .i64 x.d.left, .bool x.d.down, .int .i64 x.d.wr, .slice x.p x.ls.length x.c] 44) = V := ⟨_, rfl⟩
                  obtain ⟨G13, hG⟩ : ∃ g : Nat, V2.heap.size = g := ⟨_, rfl⟩
                  rw [hV, hG]
                  have hb : Below V2.heap.size V2 V3 := by rw [← hV]; exact b_alloc (Below.refl _ _) _
                  have M13_3 : Hid (V3.heap[G13]? = some (Obj.cells #[.string ⟨x.d.a.toArray⟩, .string ⟨x.d.b.toArray⟩, .int .i64 x.d.left, .bool x.d.down, .int .i64 x.d.wr, .slice x.p x.ls.length x.c] 44 (0, 0))) := Lib.hid (by rw [← hV]; exact blk_new hG.symm)
                  have F3 : Hid (Fr (fun q => q = g9 ∨ q = g10) W V3) := Lib.hid (F2.out.trans (Fr.of_below hb))
                  have P3 : Hid (V3.ownsRow w.heap.size 25 1 (.slice (some ⟨g9, 0, none⟩) m c9) m (ptrs xs)) := Lib.hid (own_below P2.out hb)
                  have R3 : Hid (V3.ownsRow w.heap.size 44 6 (.slice (some ⟨g10, 0, none⟩) m c10) m (rcs xs)) := Lib.hid (own_below R2.out hb)
                  have T3 : Hid (St V3 w.heap.size n k (xs ++ [⟨d', x.ls, x.p, x.c⟩])) := Lib.hid (T2.out.below hb)
                  have L3 : Hid ((fun w' : World => w'.cell? ⟨g9, at_, none⟩ = some (.pointer (some ⟨x.d.g, 0, none⟩)) ∧ w'.rangeAt g10 (at_ * 6) (rcells x)) V3) := Lib.hid (⟨cell_below hb L2.out.1, range_below hb L2.out.2⟩)
                  have M6_3 := Lib.hid (blk_below M6_2.out hb)
                  clear hV hG hb
                  refine hK _ _ L3.out ?_
                  clear hK K
                  refine h_one (i := 7) (by kernel_rfl) rfl rfl (fun K hK => ?_)
                  refine wp_app rfl _ _ 40 rfl w.heap.size 25 (.pointer none) 1 8 Try.underlying40 info25 rfl (by decide) (.slice (some ⟨g9, 0, none⟩) m c9) m (ptrs xs) rfl ⟨G6, 0, none⟩ 1 1 [.pointer (some ⟨d'.g, 0, none⟩)] rfl rfl (by intro u hu; rw [List.mem_singleton.1 hu]; rfl) (by decide) (by unfold maxLen; omega) (by omega) P3.out (news_one M6_3.out) (Nat.le_trans HBE.out.size F3.out.size) ?_
                  intro G9 C9 V4 hA
                  obtain ⟨_, r9, _⟩ := own_block P3.out rfl
                  have F4 : Hid (Fr (fun q => q = g9 ∨ q = g10) W V4) := Lib.hid (F3.out.trans (Fr.of_grown hA.grow (Or.inl rfl)))
                  have P4 : Hid (V4.ownsRow w.heap.size 25 1 (.slice (some ⟨G9, 0, none⟩) (m + 1) C9) (m + 1) (ptrs xs ++ [.pointer (some ⟨d'.g, 0, none⟩)])) := Lib.hid (hA.own)
                  have R4 : Hid (V4.ownsRow w.heap.size 44 6 (.slice (some ⟨g10, 0, none⟩) m c10) m (rcs xs)) := Lib.hid (hA.other R3.out (.inr (fun e => NE9.out (Option.some.inj e).symm)))
                  have T4 : Hid (St V4 w.heap.size n k (xs ++ [⟨d', x.ls, x.p, x.c⟩])) := Lib.hid (st_grown T3.out r9 (by decide) (by decide) (by decide) (by decide) hA.grow)
                  have L4 : Hid ((fun w' : World => w'.cell? ⟨g9, at_, none⟩ = some (.pointer (some ⟨x.d.g, 0, none⟩)) ∧ w'.rangeAt g10 (at_ * 6) (rcells x)) V4) := Lib.hid (⟨hA.cell L3.out.1 (fun _ => by rw [ptrs_len, HB.out.len]; exact hlt), fun j v hj => hA.cell (L3.out.2 j v hj) (fun e => absurd (Option.some.inj e) NE9.out)⟩)
                  have M13_4 := Lib.hid (blk_grown M13_3.out hA.grow (fun e => blk_ne M13_3.out r9 (by decide) (Option.some.inj e)))
                  clear hA r9
                  refine hK _ _ L4.out ?_
                  clear hK K
                  simp only [Act.put, List.setIfInBounds_toArray, List.set_cons_zero, List.set_cons_succ]
                  refine h_one (i := 14) (by kernel_rfl) rfl rfl (fun K hK => ?_)
                  refine wp_app rfl _ _ 46 rfl w.heap.size 44 (.agg #[.string ⟨#[]⟩, .string ⟨#[]⟩, .int .i64 0, .bool false, .int .i64 0, .slice none 0 0]) 6 80 Try.underlying46 info44z rfl (by decide) (.slice (some ⟨g10, 0, none⟩) m c10) m (rcs xs) rfl ⟨G13, 0, none⟩ 1 1 (rcells x) rfl rfl (fun u hu => by have h1 := rcells_one x; rw [Array.all_eq_true_iff_forall_mem] at h1; exact h1 u (by simpa using hu)) (by decide) (by unfold maxLen; omega) (by omega) R4.out (news_all M13_4.out) (Nat.le_trans HBE.out.size F4.out.size) ?_
                  intro G10 C10 V5 hA
                  obtain ⟨_, r10, _⟩ := own_block R4.out rfl
                  obtain ⟨_, r9, _⟩ := own_block P4.out rfl
                  have F5 : Hid (Fr (fun q => q = g9 ∨ q = g10) W V5) := Lib.hid (F4.out.trans (Fr.of_grown hA.grow (Or.inr rfl)))
                  have P5 : Hid (V5.ownsRow w.heap.size 25 1 (.slice (some ⟨G9, 0, none⟩) (m + 1) C9) (m + 1) (ptrs xs ++ [.pointer (some ⟨d'.g, 0, none⟩)])) := Lib.hid (hA.other P4.out (.inr (fun e => blk_ne r9 r10 (by decide) (Option.some.inj e))))
                  have R5 : Hid (V5.ownsRow w.heap.size 44 6 (.slice (some ⟨G10, 0, none⟩) (m + 1) C10) (m + 1) (rcs xs ++ rcells x)) := Lib.hid (hA.own)
                  have T5 : Hid (St V5 w.heap.size n k (xs ++ [⟨d', x.ls, x.p, x.c⟩])) := Lib.hid (st_grown T4.out r10 (by decide) (by decide) (by decide) (by decide) hA.grow)
                  have L5 : Hid ((fun w' : World => w'.cell? ⟨g9, at_, none⟩ = some (.pointer (some ⟨x.d.g, 0, none⟩)) ∧ w'.rangeAt g10 (at_ * 6) (rcells x)) V5) := Lib.hid (⟨hA.cell L4.out.1 (fun e => absurd (Option.some.inj e) NE9.out.symm), fun j v hj => hA.cell (L4.out.2 j v hj) (fun _ => by rw [rcs_len, HB.out.len]; have h6 : j < 6 := (List.getElem?_eq_some_iff.1 hj).1; omega)⟩)
                  clear hA r9 r10
                  refine hK _ _ L5.out ?_
                  clear hK K
                  simp only [Act.put, List.setIfInBounds_toArray, List.set_cons_zero, List.set_cons_succ]
                  refine h_look (i := 15) rfl (by kernel_rfl) ?_ rfl (fun w' hS => ?_) L5.out ?_
                  rotate_left
                  · go_simp
                    first | done | rfl
                  simp only [Act.put, List.setIfInBounds_toArray, List.set_cons_zero, List.set_cons_succ]
                  refine h_look (i := 16) rfl (by kernel_rfl) ?_ rfl (fun w' hS => ?_) L5.out ?_
                  rotate_left
                  · go_simp
                    first | done | rfl
                  simp only [Act.put, List.setIfInBounds_toArray, List.set_cons_zero, List.set_cons_succ]
                  refine h_end (by kernel_rfl) ?_
                  have HBT : Hid (Both V5 w.heap.size n (k + 1) (m + 1) (xs ++ [⟨d', x.ls, x.p, x.c⟩]) G9 C9 G10 C10) := Lib.hid ⟨T5.out.more (Nat.le_succ k), by rw [List.length_append, HB.out.len]; rfl, Nat.succ_pos m, by omega, by rw [ptrs_app]; exact P5.out, by rw [rcs_app, show rcs [⟨d', x.ls, x.p, x.c⟩] = rcells x by show rcells ⟨d', x.ls, x.p, x.c⟩ ++ [] = _; rw [E1.out, List.append_nil]]; exact R5.out⟩
                  have HBW : Hid (Below w.heap.size w V5) := Lib.hid (F5.out.belowOf HBE.out (fun q hq => by rcases hq with rfl | rfl; exact B9.out.1; exact B9.out.2))
                  go_wp2_with fail
                  go_roundw
                  case rel => exact ⟨k + 1, m + 1, xs ++ [⟨d', x.ls, x.p, x.c⟩], G9, C9, G10, C10, h, by go_num, rfl, rfl, HBT, HBW⟩
                  case measure => exact (rnd h).2
              · go_simp
                obtain ⟨V2, hV⟩ : ∃ V : World, V1.alloc (Obj.cells #[.string ⟨x.d.a.toArray⟩, .string ⟨x.d.b.toArray⟩, .int .i64 x.d.left, .bool x.d.down, .int .i64 x.d.wr, .slice x.p x.ls.length x.c] 44) = V := ⟨_, rfl⟩
                obtain ⟨G13, hG⟩ : ∃ g : Nat, V1.heap.size = g := ⟨_, rfl⟩
                rw [hV, hG]
                have hb : Below V1.heap.size V1 V2 := by rw [← hV]; exact b_alloc (Below.refl _ _) _
                have M13_2 : Hid (V2.heap[G13]? = some (Obj.cells #[.string ⟨x.d.a.toArray⟩, .string ⟨x.d.b.toArray⟩, .int .i64 x.d.left, .bool x.d.down, .int .i64 x.d.wr, .slice x.p x.ls.length x.c] 44 (0, 0))) := Lib.hid (by rw [← hV]; exact blk_new hG.symm)
                have F2 : Hid (Fr (fun q => q = g9 ∨ q = g10) W V2) := Lib.hid (F1.out.trans (Fr.of_below hb))
                have P2 : Hid (V2.ownsRow w.heap.size 25 1 (.slice (some ⟨g9, 0, none⟩) m c9) m (ptrs xs)) := Lib.hid (own_below P1.out hb)
                have R2 : Hid (V2.ownsRow w.heap.size 44 6 (.slice (some ⟨g10, 0, none⟩) m c10) m (rcs xs)) := Lib.hid (own_below R1.out hb)
                have T2 : Hid (St V2 w.heap.size n k (xs ++ [⟨d', x.ls, x.p, x.c⟩])) := Lib.hid (T1.out.below hb)
                have L2 : Hid ((fun w' : World => w'.cell? ⟨g9, at_, none⟩ = some (.pointer (some ⟨x.d.g, 0, none⟩)) ∧ w'.rangeAt g10 (at_ * 6) (rcells x)) V2) := Lib.hid (⟨cell_below hb L1.out.1, range_below hb L1.out.2⟩)
                clear hV hG hb
                refine hK _ _ L2.out ?_
                clear hK K
                refine h_one (i := 6) (by kernel_rfl) rfl rfl (fun K hK => ?_)
                go_simp
                obtain ⟨V3, hV⟩ : ∃ V : World, V2.alloc (Obj.cells #[.pointer (some ⟨d'.g, 0, none⟩)] 25) = V := ⟨_, rfl⟩
                obtain ⟨G6, hG⟩ : ∃ g : Nat, V2.heap.size = g := ⟨_, rfl⟩
                rw [hV, hG]
                have hb : Below V2.heap.size V2 V3 := by rw [← hV]; exact b_alloc (Below.refl _ _) _
                have M6_3 : Hid (V3.heap[G6]? = some (Obj.cells #[.pointer (some ⟨d'.g, 0, none⟩)] 25 (0, 0))) := Lib.hid (by rw [← hV]; exact blk_new hG.symm)
                have F3 : Hid (Fr (fun q => q = g9 ∨ q = g10) W V3) := Lib.hid (F2.out.trans (Fr.of_below hb))
                have P3 : Hid (V3.ownsRow w.heap.size 25 1 (.slice (some ⟨g9, 0, none⟩) m c9) m (ptrs xs)) := Lib.hid (own_below P2.out hb)
                have R3 : Hid (V3.ownsRow w.heap.size 44 6 (.slice (some ⟨g10, 0, none⟩) m c10) m (rcs xs)) := Lib.hid (own_below R2.out hb)
                have T3 : Hid (St V3 w.heap.size n k (xs ++ [⟨d', x.ls, x.p, x.c⟩])) := Lib.hid (T2.out.below hb)
                have L3 : Hid ((fun w' : World => w'.cell? ⟨g9, at_, none⟩ = some (.pointer (some ⟨x.d.g, 0, none⟩)) ∧ w'.rangeAt g10 (at_ * 6) (rcells x)) V3) := Lib.hid (⟨cell_below hb L2.out.1, range_below hb L2.out.2⟩)
                have M13_3 := Lib.hid (blk_below M13_2.out hb)
                clear hV hG hb
                refine hK _ _ L3.out ?_
                clear hK K
                refine h_one (i := 7) (by kernel_rfl) rfl rfl (fun K hK => ?_)
                refine wp_app rfl _ _ 40 rfl w.heap.size 25 (.pointer none) 1 8 Try.underlying40 info25 rfl (by decide) (.slice (some ⟨g9, 0, none⟩) m c9) m (ptrs xs) rfl ⟨G6, 0, none⟩ 1 1 [.pointer (some ⟨d'.g, 0, none⟩)] rfl rfl (by intro u hu; rw [List.mem_singleton.1 hu]; rfl) (by decide) (by unfold maxLen; omega) (by omega) P3.out (news_one M6_3.out) (Nat.le_trans HBE.out.size F3.out.size) ?_
                intro G9 C9 V4 hA
                obtain ⟨_, r9, _⟩ := own_block P3.out rfl
                have F4 : Hid (Fr (fun q => q = g9 ∨ q = g10) W V4) := Lib.hid (F3.out.trans (Fr.of_grown hA.grow (Or.inl rfl)))
                have P4 : Hid (V4.ownsRow w.heap.size 25 1 (.slice (some ⟨G9, 0, none⟩) (m + 1) C9) (m + 1) (ptrs xs ++ [.pointer (some ⟨d'.g, 0, none⟩)])) := Lib.hid (hA.own)
                have R4 : Hid (V4.ownsRow w.heap.size 44 6 (.slice (some ⟨g10, 0, none⟩) m c10) m (rcs xs)) := Lib.hid (hA.other R3.out (.inr (fun e => NE9.out (Option.some.inj e).symm)))
                have T4 : Hid (St V4 w.heap.size n k (xs ++ [⟨d', x.ls, x.p, x.c⟩])) := Lib.hid (st_grown T3.out r9 (by decide) (by decide) (by decide) (by decide) hA.grow)
                have L4 : Hid ((fun w' : World => w'.cell? ⟨g9, at_, none⟩ = some (.pointer (some ⟨x.d.g, 0, none⟩)) ∧ w'.rangeAt g10 (at_ * 6) (rcells x)) V4) := Lib.hid (⟨hA.cell L3.out.1 (fun _ => by rw [ptrs_len, HB.out.len]; exact hlt), fun j v hj => hA.cell (L3.out.2 j v hj) (fun e => absurd (Option.some.inj e) NE9.out)⟩)
                have M13_4 := Lib.hid (blk_grown M13_3.out hA.grow (fun e => blk_ne M13_3.out r9 (by decide) (Option.some.inj e)))
                clear hA r9
                refine hK _ _ L4.out ?_
                clear hK K
                simp only [Act.put, List.setIfInBounds_toArray, List.set_cons_zero, List.set_cons_succ]
                refine h_one (i := 14) (by kernel_rfl) rfl rfl (fun K hK => ?_)
                refine wp_app rfl _ _ 46 rfl w.heap.size 44 (.agg #[.string ⟨#[]⟩, .string ⟨#[]⟩, .int .i64 0, .bool false, .int .i64 0, .slice none 0 0]) 6 80 Try.underlying46 info44z rfl (by decide) (.slice (some ⟨g10, 0, none⟩) m c10) m (rcs xs) rfl ⟨G13, 0, none⟩ 1 1 (rcells x) rfl rfl (fun u hu => by have h1 := rcells_one x; rw [Array.all_eq_true_iff_forall_mem] at h1; exact h1 u (by simpa using hu)) (by decide) (by unfold maxLen; omega) (by omega) R4.out (news_all M13_4.out) (Nat.le_trans HBE.out.size F4.out.size) ?_
                intro G10 C10 V5 hA
                obtain ⟨_, r10, _⟩ := own_block R4.out rfl
                obtain ⟨_, r9, _⟩ := own_block P4.out rfl
                have F5 : Hid (Fr (fun q => q = g9 ∨ q = g10) W V5) := Lib.hid (F4.out.trans (Fr.of_grown hA.grow (Or.inr rfl)))
                have P5 : Hid (V5.ownsRow w.heap.size 25 1 (.slice (some ⟨G9, 0, none⟩) (m + 1) C9) (m + 1) (ptrs xs ++ [.pointer (some ⟨d'.g, 0, none⟩)])) := Lib.hid (hA.other P4.out (.inr (fun e => blk_ne r9 r10 (by decide) (Option.some.inj e))))
                have R5 : Hid (V5.ownsRow w.heap.size 44 6 (.slice (some ⟨G10, 0, none⟩) (m + 1) C10) (m + 1) (rcs xs ++ rcells x)) := Lib.hid (hA.own)
                have T5 : Hid (St V5 w.heap.size n k (xs ++ [⟨d', x.ls, x.p, x.c⟩])) := Lib.hid (st_grown T4.out r10 (by decide) (by decide) (by decide) (by decide) hA.grow)
                have L5 : Hid ((fun w' : World => w'.cell? ⟨g9, at_, none⟩ = some (.pointer (some ⟨x.d.g, 0, none⟩)) ∧ w'.rangeAt g10 (at_ * 6) (rcells x)) V5) := Lib.hid (⟨hA.cell L4.out.1 (fun e => absurd (Option.some.inj e) NE9.out.symm), fun j v hj => hA.cell (L4.out.2 j v hj) (fun _ => by rw [rcs_len, HB.out.len]; have h6 : j < 6 := (List.getElem?_eq_some_iff.1 hj).1; omega)⟩)
                clear hA r9 r10
                refine hK _ _ L5.out ?_
                clear hK K
                simp only [Act.put, List.setIfInBounds_toArray, List.set_cons_zero, List.set_cons_succ]
                refine h_look (i := 15) rfl (by kernel_rfl) ?_ rfl (fun w' hS => ?_) L5.out ?_
                rotate_left
                · go_simp
                  first | done | rfl
                simp only [Act.put, List.setIfInBounds_toArray, List.set_cons_zero, List.set_cons_succ]
                refine h_look (i := 16) rfl (by kernel_rfl) ?_ rfl (fun w' hS => ?_) L5.out ?_
                rotate_left
                · go_simp
                  first | done | rfl
                simp only [Act.put, List.setIfInBounds_toArray, List.set_cons_zero, List.set_cons_succ]
                refine h_end (by kernel_rfl) ?_
                have HBT : Hid (Both V5 w.heap.size n (k + 1) (m + 1) (xs ++ [⟨d', x.ls, x.p, x.c⟩]) G9 C9 G10 C10) := Lib.hid ⟨T5.out.more (Nat.le_succ k), by rw [List.length_append, HB.out.len]; rfl, Nat.succ_pos m, by omega, by rw [ptrs_app]; exact P5.out, by rw [rcs_app, show rcs [⟨d', x.ls, x.p, x.c⟩] = rcells x by show rcells ⟨d', x.ls, x.p, x.c⟩ ++ [] = _; rw [E1.out, List.append_nil]]; exact R5.out⟩
                have HBW : Hid (Below w.heap.size w V5) := Lib.hid (F5.out.belowOf HBE.out (fun q hq => by rcases hq with rfl | rfl; exact B9.out.1; exact B9.out.2))
                go_wp2_with fail
                go_roundw
                case rel => exact ⟨k + 1, m + 1, xs ++ [⟨d', x.ls, x.p, x.c⟩], G9, C9, G10, C10, h, by go_num, rfl, rfl, HBT, HBW⟩
                case measure => exact (rnd h).2
            · go_simp
              obtain ⟨V1, hV⟩ : ∃ V : World, V0.alloc (Obj.cells #[.string ⟨x.d.a.toArray⟩, .string ⟨x.d.b.toArray⟩, .int .i64 x.d.left, .bool x.d.down, .int .i64 x.d.wr, .slice x.p x.ls.length x.c] 44) = V := ⟨_, rfl⟩
              obtain ⟨G13, hG⟩ : ∃ g : Nat, V0.heap.size = g := ⟨_, rfl⟩
              rw [hV, hG]
              have hb : Below V0.heap.size V0 V1 := by rw [← hV]; exact b_alloc (Below.refl _ _) _
              have M13_1 : Hid (V1.heap[G13]? = some (Obj.cells #[.string ⟨x.d.a.toArray⟩, .string ⟨x.d.b.toArray⟩, .int .i64 x.d.left, .bool x.d.down, .int .i64 x.d.wr, .slice x.p x.ls.length x.c] 44 (0, 0))) := Lib.hid (by rw [← hV]; exact blk_new hG.symm)
              have F1 : Hid (Fr (fun q => q = g9 ∨ q = g10) W V1) := Lib.hid (F0.out.trans (Fr.of_below hb))
              have P1 : Hid (V1.ownsRow w.heap.size 25 1 (.slice (some ⟨g9, 0, none⟩) m c9) m (ptrs xs)) := Lib.hid (own_below P0.out hb)
              have R1 : Hid (V1.ownsRow w.heap.size 44 6 (.slice (some ⟨g10, 0, none⟩) m c10) m (rcs xs)) := Lib.hid (own_below R0.out hb)
              have T1 : Hid (St V1 w.heap.size n k xs) := Lib.hid (T0.out.below hb)
              have L1 : Hid ((fun w' : World => w'.cell? ⟨g9, at_, none⟩ = some (.pointer (some ⟨x.d.g, 0, none⟩)) ∧ w'.rangeAt g10 (at_ * 6) (rcells x)) V1) := Lib.hid (⟨cell_below hb L0.out.1, range_below hb L0.out.2⟩)
              clear hV hG hb
              refine hK _ _ L1.out ?_
              clear hK K
              refine h_one (i := 5) (by kernel_rfl) rfl rfl (fun K hK => ?_)
              go_simp
              have HX1 := (T1.out.one at_ x HX.out)
              refine (clone_disk HX1.at_ HX1.one (by have h1 := HX1.lists.1; have h2 := HX1.hj; have h3 := HLEN.out; omega) (by rw [HX1.hn]; have h3 := HN.out.1; omega)).mono ?_
              clear HX1
              rintro e V2 ⟨d', rfl, hA', e1, e2, e3, e4, e5, e6, e7, hb⟩
              have E1 := Lib.hid (rcells_clone (x := x) e2 e3 e4 e5 e6)
              have F2 : Hid (Fr (fun q => q = g9 ∨ q = g10) W V2) := Lib.hid (F1.out.trans (Fr.of_below hb))
              have P2 : Hid (V2.ownsRow w.heap.size 25 1 (.slice (some ⟨g9, 0, none⟩) m c9) m (ptrs xs)) := Lib.hid (own_below P1.out hb)
              have R2 : Hid (V2.ownsRow w.heap.size 44 6 (.slice (some ⟨g10, 0, none⟩) m c10) m (rcs xs)) := Lib.hid (own_below R1.out hb)
              have T2 : Hid (St V2 w.heap.size n k (xs ++ [⟨d', x.ls, x.p, x.c⟩])) := Lib.hid (T1.out.cloned HX.out (Nat.le_trans HBE.out.size F1.out.size) hA' e1 e4 e6 e7 hb)
              have L2 : Hid ((fun w' : World => w'.cell? ⟨g9, at_, none⟩ = some (.pointer (some ⟨x.d.g, 0, none⟩)) ∧ w'.rangeAt g10 (at_ * 6) (rcells x)) V2) := Lib.hid (⟨cell_below hb L1.out.1, range_below hb L1.out.2⟩)
              have M13_2 := Lib.hid (blk_below M13_1.out hb)
              clear hA' e1 e2 e3 e4 e5 e6 e7 hb
              refine hK _ _ L2.out ?_
              clear hK K
              refine h_one (i := 6) (by kernel_rfl) rfl rfl (fun K hK => ?_)
              go_simp
              obtain ⟨V3, hV⟩ : ∃ V : World, V2.alloc (Obj.cells #[.pointer (some ⟨d'.g, 0, none⟩)] 25) = V := ⟨_, rfl⟩
              obtain ⟨G6, hG⟩ : ∃ g : Nat, V2.heap.size = g := ⟨_, rfl⟩
              rw [hV, hG]
              have hb : Below V2.heap.size V2 V3 := by rw [← hV]; exact b_alloc (Below.refl _ _) _
              have M6_3 : Hid (V3.heap[G6]? = some (Obj.cells #[.pointer (some ⟨d'.g, 0, none⟩)] 25 (0, 0))) := Lib.hid (by rw [← hV]; exact blk_new hG.symm)
              have F3 : Hid (Fr (fun q => q = g9 ∨ q = g10) W V3) := Lib.hid (F2.out.trans (Fr.of_below hb))
              have P3 : Hid (V3.ownsRow w.heap.size 25 1 (.slice (some ⟨g9, 0, none⟩) m c9) m (ptrs xs)) := Lib.hid (own_below P2.out hb)
              have R3 : Hid (V3.ownsRow w.heap.size 44 6 (.slice (some ⟨g10, 0, none⟩) m c10) m (rcs xs)) := Lib.hid (own_below R2.out hb)
              have T3 : Hid (St V3 w.heap.size n k (xs ++ [⟨d', x.ls, x.p, x.c⟩])) := Lib.hid (T2.out.below hb)
              have L3 : Hid ((fun w' : World => w'.cell? ⟨g9, at_, none⟩ = some (.pointer (some ⟨x.d.g, 0, none⟩)) ∧ w'.rangeAt g10 (at_ * 6) (rcells x)) V3) := Lib.hid (⟨cell_below hb L2.out.1, range_below hb L2.out.2⟩)
              have M13_3 := Lib.hid (blk_below M13_2.out hb)
              clear hV hG hb
              refine hK _ _ L3.out ?_
              clear hK K
              refine h_one (i := 7) (by kernel_rfl) rfl rfl (fun K hK => ?_)
              refine wp_app rfl _ _ 40 rfl w.heap.size 25 (.pointer none) 1 8 Try.underlying40 info25 rfl (by decide) (.slice (some ⟨g9, 0, none⟩) m c9) m (ptrs xs) rfl ⟨G6, 0, none⟩ 1 1 [.pointer (some ⟨d'.g, 0, none⟩)] rfl rfl (by intro u hu; rw [List.mem_singleton.1 hu]; rfl) (by decide) (by unfold maxLen; omega) (by omega) P3.out (news_one M6_3.out) (Nat.le_trans HBE.out.size F3.out.size) ?_
              intro G9 C9 V4 hA
              obtain ⟨_, r9, _⟩ := own_block P3.out rfl
              have F4 : Hid (Fr (fun q => q = g9 ∨ q = g10) W V4) := Lib.hid (F3.out.trans (Fr.of_grown hA.grow (Or.inl rfl)))
              have P4 : Hid (V4.ownsRow w.heap.size 25 1 (.slice (some ⟨G9, 0, none⟩) (m + 1) C9) (m + 1) (ptrs xs ++ [.pointer (some ⟨d'.g, 0, none⟩)])) := Lib.hid (hA.own)
              have R4 : Hid (V4.ownsRow w.heap.size 44 6 (.slice (some ⟨g10, 0, none⟩) m c10) m (rcs xs)) := Lib.hid (hA.other R3.out (.inr (fun e => NE9.out (Option.some.inj e).symm)))
              have T4 : Hid (St V4 w.heap.size n k (xs ++ [⟨d', x.ls, x.p, x.c⟩])) := Lib.hid (st_grown T3.out r9 (by decide) (by decide) (by decide) (by decide) hA.grow)
              have L4 : Hid ((fun w' : World => w'.cell? ⟨g9, at_, none⟩ = some (.pointer (some ⟨x.d.g, 0, none⟩)) ∧ w'.rangeAt g10 (at_ * 6) (rcells x)) V4) := Lib.hid (⟨hA.cell L3.out.1 (fun _ => by rw [ptrs_len, HB.out.len]; exact hlt), fun j v hj => hA.cell (L3.out.2 j v hj) (fun e => absurd (Option.some.inj e) NE9.out)⟩)
              have M13_4 := Lib.hid (blk_grown M13_3.out hA.grow (fun e => blk_ne M13_3.out r9 (by decide) (Option.some.inj e)))
              clear hA r9
              refine hK _ _ L4.out ?_
              clear hK K
              simp only [Act.put, List.setIfInBounds_toArray, List.set_cons_zero, List.set_cons_succ]
              refine h_one (i := 14) (by kernel_rfl) rfl rfl (fun K hK => ?_)
              refine wp_app rfl _ _ 46 rfl w.heap.size 44 (.agg #[.string ⟨#[]⟩, .string ⟨#[]⟩, .int .i64 0, .bool false, .int .i64 0, .slice none 0 0]) 6 80 Try.underlying46 info44z rfl (by decide) (.slice (some ⟨g10, 0, none⟩) m c10) m (rcs xs) rfl ⟨G13, 0, none⟩ 1 1 (rcells x) rfl rfl (fun u hu => by have h1 := rcells_one x; rw [Array.all_eq_true_iff_forall_mem] at h1; exact h1 u (by simpa using hu)) (by decide) (by unfold maxLen; omega) (by omega) R4.out (news_all M13_4.out) (Nat.le_trans HBE.out.size F4.out.size) ?_
              intro G10 C10 V5 hA
              obtain ⟨_, r10, _⟩ := own_block R4.out rfl
              obtain ⟨_, r9, _⟩ := own_block P4.out rfl
              have F5 : Hid (Fr (fun q => q = g9 ∨ q = g10) W V5) := Lib.hid (F4.out.trans (Fr.of_grown hA.grow (Or.inr rfl)))
              have P5 : Hid (V5.ownsRow w.heap.size 25 1 (.slice (some ⟨G9, 0, none⟩) (m + 1) C9) (m + 1) (ptrs xs ++ [.pointer (some ⟨d'.g, 0, none⟩)])) := Lib.hid (hA.other P4.out (.inr (fun e => blk_ne r9 r10 (by decide) (Option.some.inj e))))
              have R5 : Hid (V5.ownsRow w.heap.size 44 6 (.slice (some ⟨G10, 0, none⟩) (m + 1) C10) (m + 1) (rcs xs ++ rcells x)) := Lib.hid (hA.own)
              have T5 : Hid (St V5 w.heap.size n k (xs ++ [⟨d', x.ls, x.p, x.c⟩])) := Lib.hid (st_grown T4.out r10 (by decide) (by decide) (by decide) (by decide) hA.grow)
              have L5 : Hid ((fun w' : World => w'.cell? ⟨g9, at_, none⟩ = some (.pointer (some ⟨x.d.g, 0, none⟩)) ∧ w'.rangeAt g10 (at_ * 6) (rcells x)) V5) := Lib.hid (⟨hA.cell L4.out.1 (fun e => absurd (Option.some.inj e) NE9.out.symm), fun j v hj => hA.cell (L4.out.2 j v hj) (fun _ => by rw [rcs_len, HB.out.len]; have h6 : j < 6 := (List.getElem?_eq_some_iff.1 hj).1; omega)⟩)
              clear hA r9 r10
              refine hK _ _ L5.out ?_
              clear hK K
              simp only [Act.put, List.setIfInBounds_toArray, List.set_cons_zero, List.set_cons_succ]
              refine h_look (i := 15) rfl (by kernel_rfl) ?_ rfl (fun w' hS => ?_) L5.out ?_
              rotate_left
              · go_simp
                first | done | rfl
              simp only [Act.put, List.setIfInBounds_toArray, List.set_cons_zero, List.set_cons_succ]
              refine h_look (i := 16) rfl (by kernel_rfl) ?_ rfl (fun w' hS => ?_) L5.out ?_
              rotate_left
              · go_simp
                first | done | rfl
              simp only [Act.put, List.setIfInBounds_toArray, List.set_cons_zero, List.set_cons_succ]
              refine h_end (by kernel_rfl) ?_
              have HBT : Hid (Both V5 w.heap.size n (k + 1) (m + 1) (xs ++ [⟨d', x.ls, x.p, x.c⟩]) G9 C9 G10 C10) := Lib.hid ⟨T5.out.more (Nat.le_succ k), by rw [List.length_append, HB.out.len]; rfl, Nat.succ_pos m, by omega, by rw [ptrs_app]; exact P5.out, by rw [rcs_app, show rcs [⟨d', x.ls, x.p, x.c⟩] = rcells x by show rcells ⟨d', x.ls, x.p, x.c⟩ ++ [] = _; rw [E1.out, List.append_nil]]; exact R5.out⟩
              have HBW : Hid (Below w.heap.size w V5) := Lib.hid (F5.out.belowOf HBE.out (fun q hq => by rcases hq with rfl | rfl; exact B9.out.1; exact B9.out.2))
              go_wp2_with fail
              go_roundw
              case rel => exact ⟨k + 1, m + 1, xs ++ [⟨d', x.ls, x.p, x.c⟩], G9, C9, G10, C10, h, by go_num, rfl, rfl, HBT, HBW⟩
              case measure => exact (rnd h).2
          · have hm4i : ¬ (m : Int) < 4 := by omega
            have HBT : Hid (Both W w.heap.size n (k + 1) m xs g9 c9 g10 c10) := Lib.hid ⟨HB.out.st.more (Nat.le_succ k), HB.out.len, HB.out.pos, HB.out.most, HB.out.own9, HB.out.own10⟩
            have HBW := HBE
            go_wp2_with fail
            go_roundw
            case rel => exact ⟨k + 1, m, xs, g9, c9, g10, c10, h, by go_num, rfl, rfl, HBT, HBW⟩
            case measure => exact (rnd h).2
        by_cases k7 : (IntKind.u64.wrap (KK k)).tmod 8 = 7
        · as_aux_lemma =>
            have HAt := Lib.hid (HB.out.st.one at_ x HX.out).at_
            have d9 : W.cell? ⟨g9, at_, none⟩ = some (.pointer (some ⟨x.d.g, 0, none⟩)) := own_cell HB.out.own9 (ptrs_get HX.out)
            have N9 : Hid (∀ q, Foot x.d q → q ≠ g9 ∧ q ≠ g10 ∧ q ≠ O) := Lib.hid (fun q hq => by
              obtain ⟨_, h1, _⟩ := own_block HB.out.own9 rfl
              obtain ⟨_, h2, _⟩ := own_block HB.out.own10 rfl
              exact ⟨foot_ne HAt.out hq h1 (by decide) (by decide) (by decide), foot_ne HAt.out hq h2 (by decide) (by decide) (by decide), foot_ne HAt.out hq HO.out (by decide) (by decide) (by decide)⟩)
            have FB : Hid (∀ q, Foot x.d q → w.heap.size ≤ q) := Lib.hid (fun q hq => by obtain ⟨_, _, _, _, h1⟩ := foot_blk HAt.out hq; exact h1)
            obtain ⟨A, hAb⟩ : ∃ A : Int, ableI x.d.down (NN k) = A := ⟨_, rfl⟩
            obtain ⟨rl, hrl⟩ : ∃ rl : List UInt8, (if ableI x.d.down (NN k) = 0 then x.d.img (NN k) else []) = rl := ⟨_, rfl⟩
            have HAB := Lib.hid hAb
            have HRL := Lib.hid hrl
            clear hAb hrl
            go_upto_region 34 with fail
            have HS : Hid ((fun w' : World => w'.cell? ⟨g9, at_, none⟩ = some (.pointer (some ⟨x.d.g, 0, none⟩)) ∧ w'.cell? ⟨O, 2, none⟩ = some (.int .i64 (NN k))) W.drew) := Lib.hid (⟨d9, o2⟩)
            refine h_region (fun w' : World => w'.cell? ⟨g9, at_, none⟩ = some (.pointer (some ⟨x.d.g, 0, none⟩)) ∧ w'.cell? ⟨O, 2, none⟩ = some (.int .i64 (NN k))) 12 (by kernel_rfl) (by kernel_rfl) ?_
            refine h_look (i := 0) rfl (by kernel_rfl) ?_ rfl (fun w' hS => ?_) HS.out ?_
            rotate_left
            · obtain ⟨e9, e2⟩ := hS
              go_simp
              first | done | rfl
            simp only [Act.put, List.setIfInBounds_toArray, List.set_cons_zero, List.set_cons_succ]
            refine h_look (i := 1) rfl (by kernel_rfl) ?_ rfl (fun w' hS => ?_) HS.out ?_
            rotate_left
            · obtain ⟨e9, e2⟩ := hS
              go_simp
              first | done | rfl
            simp only [Act.put, List.setIfInBounds_toArray, List.set_cons_zero, List.set_cons_succ]
            refine h_look (i := 2) rfl (by kernel_rfl) ?_ rfl (fun w' hS => ?_) HS.out ?_
            rotate_left
            · obtain ⟨e9, e2⟩ := hS
              go_simp
              first | done | rfl
            simp only [Act.put, List.setIfInBounds_toArray, List.set_cons_zero, List.set_cons_succ]
            refine h_look (i := 3) rfl (by kernel_rfl) ?_ rfl (fun w' hS => ?_) HS.out ?_
            rotate_left
            · obtain ⟨e9, e2⟩ := hS
              go_simp
              first | done | rfl
            simp only [Act.put, List.setIfInBounds_toArray, List.set_cons_zero, List.set_cons_succ]
            refine h_look (i := 4) rfl (by kernel_rfl) ?_ rfl (fun w' hS => ?_) HS.out ?_
            rotate_left
            · obtain ⟨e9, e2⟩ := hS
              go_simp
              first | done | rfl
            simp only [Act.put, List.setIfInBounds_toArray, List.set_cons_zero, List.set_cons_succ]
            refine h_look (i := 5) rfl (by kernel_rfl) ?_ rfl (fun w' hS => ?_) HS.out ?_
            rotate_left
            · obtain ⟨e9, e2⟩ := hS
              go_simp
              first | done | rfl
            simp only [Act.put, List.setIfInBounds_toArray, List.set_cons_zero, List.set_cons_succ]
            refine h_one (i := 6) (by kernel_rfl) rfl rfl (fun K hK => ?_)
            go_simp
            refine (read_any (NN k) HAt.out.drew).mono ?_
            rintro e W2 ⟨v, rfl, ho, hb⟩
            rw [HRL.out] at ho
            rw [HAB.out]
            have HV := Lib.hid ho
            have HB2 : Hid (Below W.heap.size W W2) := Lib.hid (below_undrew hb)
            clear ho hb
            have HS2 : Hid ((fun w' : World => w'.cell? ⟨g9, at_, none⟩ = some (.pointer (some ⟨x.d.g, 0, none⟩)) ∧ w'.cell? ⟨O, 2, none⟩ = some (.int .i64 (NN k))) W2) := Lib.hid ⟨cell_below HB2.out d9, cell_below HB2.out o2⟩
            refine hK _ _ HS2.out ?_
            clear hK K HS
            refine h_look (i := 7) rfl (by kernel_rfl) ?_ rfl (fun w' hS => ?_) HS2.out ?_
            rotate_left
            · go_simp
              first | done | rfl
            simp only [Act.put, List.setIfInBounds_toArray, List.set_cons_zero, List.set_cons_succ]
            refine h_look (i := 8) rfl (by kernel_rfl) ?_ rfl (fun w' hS => ?_) HS2.out ?_
            rotate_left
            · go_simp
              first | done | rfl
            simp only [Act.put, List.setIfInBounds_toArray, List.set_cons_zero, List.set_cons_succ]
            refine h_look (i := 9) rfl (by kernel_rfl) ?_ rfl (fun w' hS => ?_) HS2.out ?_
            rotate_left
            · go_simp
              first | done | rfl
            simp only [Act.put, List.setIfInBounds_toArray, List.set_cons_zero, List.set_cons_succ]
            refine h_look (i := 10) rfl (by kernel_rfl) ?_ rfl (fun w' hS => ?_) HS2.out ?_
            rotate_left
            · go_simp
              first | done | rfl
            simp only [Act.put, List.setIfInBounds_toArray, List.set_cons_zero, List.set_cons_succ]
            refine h_look (i := 11) rfl (by kernel_rfl) ?_ rfl (fun w' hS => ?_) HS2.out ?_
            rotate_left
            · go_simp
              first | done | rfl
            simp only [Act.put, List.setIfInBounds_toArray, List.set_cons_zero, List.set_cons_succ]
            refine h_end (by kernel_rfl) ?_
            have hcv := conv_own HV.out
            have R2 := Lib.hid (range10 (own_below HB.out.own10 HB2.out) HX.out)
            have c33 : W2.cell? ⟨g10, at_ * 6 + 3, none⟩ = some (.bool x.d.down) := R2.out 3 _ rfl
            have e2 : W2.cell? ⟨O, 2, none⟩ = some (.int .i64 (NN k)) := HS2.out.2
            have HBT : Hid (Both W2 w.heap.size n (k + 1) m xs g9 c9 g10 c10) := Lib.hid (by have h1 := HB.out.below HB2.out; exact ⟨h1.st.more (Nat.le_succ k), h1.len, h1.pos, h1.most, h1.own9, h1.own10⟩)
            have HBW : Hid (Below w.heap.size w W2) := Lib.hid (b_then HBE.out HB2.out)
            clear o0 o1 o2 o3 d9
            by_cases hdn : x.d.down = true
            · have hrl : rl = [] := by have h1 := HRL.out; rw [hdn] at h1; exact h1.symm
              have hAb : A = 26 := by have h1 := HAB.out; rw [hdn] at h1; exact h1.symm
              subst hrl hAb
              rw [hdn] at c33
              go_wp2_with fail
              go_roundw
              case rel => exact ⟨k + 1, m, xs, g9, c9, g10, c10, h, by go_num, rfl, rfl, HBT, HBW⟩
              case measure => exact (rnd h).2
            · have hdn : x.d.down = false := by cases h1 : x.d.down with | true => exact absurd h1 hdn | false => rfl
              rw [hdn] at c33
              by_cases hs0 : NN k = 0
              · have hrl : rl = x.d.a := by have h1 := HRL.out; rw [hdn, hs0] at h1; exact h1.symm
                have hAb : A = 0 := by have h1 := HAB.out; rw [hdn, hs0] at h1; exact h1.symm
                subst hrl hAb
                rw [hs0] at e2
                go_upto_region 40 with fail
                have HS3 : Hid ((fun w' : World => w'.cell? ⟨O, 2, none⟩ = some (.int .i64 0) ∧ w'.rangeAt g10 (at_ * 6) (rcells x)) W2.drew) := Lib.hid (⟨e2, R2.out⟩)
                refine h_region (fun w' : World => w'.cell? ⟨O, 2, none⟩ = some (.int .i64 0) ∧ w'.rangeAt g10 (at_ * 6) (rcells x)) 9 (by kernel_rfl) (by kernel_rfl) ?_
                refine h_look (i := 0) rfl (by kernel_rfl) ?_ rfl (fun w' hS => ?_) HS3.out ?_
                rotate_left
                · obtain ⟨e3, e4⟩ := hS
                  have c34 : w'.cell? ⟨g10, at_ * 6, none⟩ = some (.string ⟨x.d.a.toArray⟩) := e4 0 _ rfl
                  go_simp
                  first | done | rfl
                simp only [Act.put, List.setIfInBounds_toArray, List.set_cons_zero, List.set_cons_succ]
                refine h_look (i := 1) rfl (by kernel_rfl) ?_ rfl (fun w' hS => ?_) HS3.out ?_
                rotate_left
                · obtain ⟨e3, e4⟩ := hS
                  have c34 : w'.cell? ⟨g10, at_ * 6, none⟩ = some (.string ⟨x.d.a.toArray⟩) := e4 0 _ rfl
                  go_simp
                  first | done | rfl
                simp only [Act.put, List.setIfInBounds_toArray, List.set_cons_zero, List.set_cons_succ]
                refine h_look (i := 2) rfl (by kernel_rfl) ?_ rfl (fun w' hS => ?_) HS3.out ?_
                rotate_left
                · obtain ⟨e3, e4⟩ := hS
                  have c34 : w'.cell? ⟨g10, at_ * 6, none⟩ = some (.string ⟨x.d.a.toArray⟩) := e4 0 _ rfl
                  go_simp
                  first | done | rfl
                simp only [Act.put, List.setIfInBounds_toArray, List.set_cons_zero, List.set_cons_succ]
                refine h_look (i := 3) rfl (by kernel_rfl) ?_ rfl (fun w' hS => ?_) HS3.out ?_
                rotate_left
                · obtain ⟨e3, e4⟩ := hS
                  have c34 : w'.cell? ⟨g10, at_ * 6, none⟩ = some (.string ⟨x.d.a.toArray⟩) := e4 0 _ rfl
                  go_simp
                  first | done | rfl
                simp only [Act.put, List.setIfInBounds_toArray, List.set_cons_zero, List.set_cons_succ]
                refine h_look (i := 4) rfl (by kernel_rfl) ?_ rfl (fun w' hS => ?_) HS3.out ?_
                rotate_left
                · obtain ⟨e3, e4⟩ := hS
                  have c34 : w'.cell? ⟨g10, at_ * 6, none⟩ = some (.string ⟨x.d.a.toArray⟩) := e4 0 _ rfl
                  go_simp
                  first | done | rfl
                simp only [Act.put, List.setIfInBounds_toArray, List.set_cons_zero, List.set_cons_succ]
                refine h_look (i := 5) rfl (by kernel_rfl) ?_ rfl (fun w' hS => ?_) HS3.out ?_
                rotate_left
                · obtain ⟨e3, e4⟩ := hS
                  have c34 : w'.cell? ⟨g10, at_ * 6, none⟩ = some (.string ⟨x.d.a.toArray⟩) := e4 0 _ rfl
                  go_simp
                  first | done | rfl
                simp only [Act.put, List.setIfInBounds_toArray, List.set_cons_zero, List.set_cons_succ]
                refine h_look (i := 6) rfl (by kernel_rfl) ?_ rfl (fun w' hS => ?_) HS3.out ?_
                rotate_left
                · obtain ⟨e3, e4⟩ := hS
                  have c34 : w'.cell? ⟨g10, at_ * 6, none⟩ = some (.string ⟨x.d.a.toArray⟩) := e4 0 _ rfl
                  go_simp
                  first | done | rfl
                simp only [Act.put, List.setIfInBounds_toArray, List.set_cons_zero, List.set_cons_succ]
                refine h_look (i := 7) rfl (by kernel_rfl) ?_ rfl (fun w' hS => ?_) HS3.out ?_
                rotate_left
                · obtain ⟨e3, e4⟩ := hS
                  have c34 : w'.cell? ⟨g10, at_ * 6, none⟩ = some (.string ⟨x.d.a.toArray⟩) := e4 0 _ rfl
                  go_simp
                  first | done | rfl
                simp only [Act.put, List.setIfInBounds_toArray, List.set_cons_zero, List.set_cons_succ]
                refine h_look (i := 8) rfl (by kernel_rfl) ?_ rfl (fun w' hS => ?_) HS3.out ?_
                rotate_left
                · obtain ⟨e3, e4⟩ := hS
                  have c34 : w'.cell? ⟨g10, at_ * 6, none⟩ = some (.string ⟨x.d.a.toArray⟩) := e4 0 _ rfl
                  go_simp
                  first | done | rfl
                simp only [Act.put, List.setIfInBounds_toArray, List.set_cons_zero, List.set_cons_succ]
                refine h_end (by kernel_rfl) ?_
                have hcv : (convert 22 9 v).run Try.prog W2.drew = .ok (.string ⟨x.d.a.toArray⟩) W2.drew := conv_own (own_drew HV.out)
                have HBT : Hid (Both W2.drew w.heap.size n (k + 1) m xs g9 c9 g10 c10) := Lib.hid (HBT.out.below (b_drew (Below.refl _ _)))
                have HBW : Hid (Below w.heap.size w W2.drew) := Lib.hid (b_drew HBW.out)
                clear c33
                go_wp2_with fail
                go_roundw
                case rel => exact ⟨k + 1, m, xs, g9, c9, g10, c10, h, by go_num, rfl, rfl, HBT, HBW⟩
                case measure => exact (rnd h).2
              · by_cases hs1 : NN k = 1
                · have hrl : rl = x.d.b := by have h1 := HRL.out; rw [hdn, hs1] at h1; exact h1.symm
                  have hAb : A = 0 := by have h1 := HAB.out; rw [hdn, hs1] at h1; exact h1.symm
                  subst hrl hAb
                  rw [hs1] at e2
                  go_upto_region 40 with fail
                  have HS3 : Hid ((fun w' : World => w'.cell? ⟨O, 2, none⟩ = some (.int .i64 1) ∧ w'.rangeAt g10 (at_ * 6) (rcells x)) W2.drew) := Lib.hid (⟨e2, R2.out⟩)
                  refine h_region (fun w' : World => w'.cell? ⟨O, 2, none⟩ = some (.int .i64 1) ∧ w'.rangeAt g10 (at_ * 6) (rcells x)) 9 (by kernel_rfl) (by kernel_rfl) ?_
                  refine h_look (i := 0) rfl (by kernel_rfl) ?_ rfl (fun w' hS => ?_) HS3.out ?_
                  rotate_left
                  · obtain ⟨e3, e4⟩ := hS
                    have c34 : w'.cell? ⟨g10, at_ * 6 + 1, none⟩ = some (.string ⟨x.d.b.toArray⟩) := e4 1 _ rfl
                    go_simp
                    first | done | rfl
                  simp only [Act.put, List.setIfInBounds_toArray, List.set_cons_zero, List.set_cons_succ]
                  refine h_look (i := 1) rfl (by kernel_rfl) ?_ rfl (fun w' hS => ?_) HS3.out ?_
                  rotate_left
                  · obtain ⟨e3, e4⟩ := hS
                    have c34 : w'.cell? ⟨g10, at_ * 6 + 1, none⟩ = some (.string ⟨x.d.b.toArray⟩) := e4 1 _ rfl
                    go_simp
                    first | done | rfl
                  simp only [Act.put, List.setIfInBounds_toArray, List.set_cons_zero, List.set_cons_succ]
                  refine h_look (i := 2) rfl (by kernel_rfl) ?_ rfl (fun w' hS => ?_) HS3.out ?_
                  rotate_left
                  · obtain ⟨e3, e4⟩ := hS
                    have c34 : w'.cell? ⟨g10, at_ * 6 + 1, none⟩ = some (.string ⟨x.d.b.toArray⟩) := e4 1 _ rfl
                    go_simp
                    first | done | rfl
                  simp only [Act.put, List.setIfInBounds_toArray, List.set_cons_zero, List.set_cons_succ]
                  refine h_look (i := 3) rfl (by kernel_rfl) ?_ rfl (fun w' hS => ?_) HS3.out ?_
                  rotate_left
                  · obtain ⟨e3, e4⟩ := hS
                    have c34 : w'.cell? ⟨g10, at_ * 6 + 1, none⟩ = some (.string ⟨x.d.b.toArray⟩) := e4 1 _ rfl
                    go_simp
                    first | done | rfl
                  simp only [Act.put, List.setIfInBounds_toArray, List.set_cons_zero, List.set_cons_succ]
                  refine h_look (i := 4) rfl (by kernel_rfl) ?_ rfl (fun w' hS => ?_) HS3.out ?_
                  rotate_left
                  · obtain ⟨e3, e4⟩ := hS
                    have c34 : w'.cell? ⟨g10, at_ * 6 + 1, none⟩ = some (.string ⟨x.d.b.toArray⟩) := e4 1 _ rfl
                    go_simp
                    first | done | rfl
                  simp only [Act.put, List.setIfInBounds_toArray, List.set_cons_zero, List.set_cons_succ]
                  refine h_look (i := 5) rfl (by kernel_rfl) ?_ rfl (fun w' hS => ?_) HS3.out ?_
                  rotate_left
                  · obtain ⟨e3, e4⟩ := hS
                    have c34 : w'.cell? ⟨g10, at_ * 6 + 1, none⟩ = some (.string ⟨x.d.b.toArray⟩) := e4 1 _ rfl
                    go_simp
                    first | done | rfl
                  simp only [Act.put, List.setIfInBounds_toArray, List.set_cons_zero, List.set_cons_succ]
                  refine h_look (i := 6) rfl (by kernel_rfl) ?_ rfl (fun w' hS => ?_) HS3.out ?_
                  rotate_left
                  · obtain ⟨e3, e4⟩ := hS
                    have c34 : w'.cell? ⟨g10, at_ * 6 + 1, none⟩ = some (.string ⟨x.d.b.toArray⟩) := e4 1 _ rfl
                    go_simp
                    first | done | rfl
                  simp only [Act.put, List.setIfInBounds_toArray, List.set_cons_zero, List.set_cons_succ]
                  refine h_look (i := 7) rfl (by kernel_rfl) ?_ rfl (fun w' hS => ?_) HS3.out ?_
                  rotate_left
                  · obtain ⟨e3, e4⟩ := hS
                    have c34 : w'.cell? ⟨g10, at_ * 6 + 1, none⟩ = some (.string ⟨x.d.b.toArray⟩) := e4 1 _ rfl
                    go_simp
                    first | done | rfl
                  simp only [Act.put, List.setIfInBounds_toArray, List.set_cons_zero, List.set_cons_succ]
                  refine h_look (i := 8) rfl (by kernel_rfl) ?_ rfl (fun w' hS => ?_) HS3.out ?_
                  rotate_left
                  · obtain ⟨e3, e4⟩ := hS
                    have c34 : w'.cell? ⟨g10, at_ * 6 + 1, none⟩ = some (.string ⟨x.d.b.toArray⟩) := e4 1 _ rfl
                    go_simp
                    first | done | rfl
                  simp only [Act.put, List.setIfInBounds_toArray, List.set_cons_zero, List.set_cons_succ]
                  refine h_end (by kernel_rfl) ?_
                  have hcv : (convert 22 9 v).run Try.prog W2.drew = .ok (.string ⟨x.d.b.toArray⟩) W2.drew := conv_own (own_drew HV.out)
                  have HBT : Hid (Both W2.drew w.heap.size n (k + 1) m xs g9 c9 g10 c10) := Lib.hid (HBT.out.below (b_drew (Below.refl _ _)))
                  have HBW : Hid (Below w.heap.size w W2.drew) := Lib.hid (b_drew HBW.out)
                  clear c33
                  go_wp2_with fail
                  go_roundw
                  case rel => exact ⟨k + 1, m, xs, g9, c9, g10, c10, h, by go_num, rfl, rfl, HBT, HBW⟩
                  case measure => exact (rnd h).2
                · have hA2 : ableI x.d.down (NN k) = 2 := by rw [ableI_no (Or.inr ⟨hs0, hs1⟩), hdn]; rfl
                  have hrl : rl = [] := by have h1 := HRL.out; rw [hA2] at h1; exact h1.symm
                  have hAb : A = 2 := by have h1 := HAB.out; rw [hA2] at h1; exact h1.symm
                  subst hrl hAb
                  have n0 : (NN k != 0) = true := by simpa using hs0
                  have n1 : (NN k != 1) = true := by simpa using hs1
                  go_wp2_with fail
                  go_roundw
                  case rel => exact ⟨k + 1, m, xs, g9, c9, g10, c10, h, by go_num, rfl, rfl, HBT, HBW⟩
                  case measure => exact (rnd h).2
        have n4 : ((IntKind.u64.wrap (KK k)).tmod 8 == 4) = false := by simpa using k4
        have n5 : ((IntKind.u64.wrap (KK k)).tmod 8 == 5) = false := by simpa using k5
        have n6 : ((IntKind.u64.wrap (KK k)).tmod 8 == 6) = false := by simpa using k6
        have n7 : ((IntKind.u64.wrap (KK k)).tmod 8 == 7) = false := by simpa using k7
        clear k4 k5 k6 k7
        by_cases hno : x.d.down = true ∨ (NN k ≠ 0 ∧ NN k ≠ 1) ∨ x.d.a.length < bl.length
        · as_aux_lemma =>
            have HAt := Lib.hid (HB.out.st.one at_ x HX.out).at_
            have d9 : W.cell? ⟨g9, at_, none⟩ = some (.pointer (some ⟨x.d.g, 0, none⟩)) := own_cell HB.out.own9 (ptrs_get HX.out)
            have N9 : Hid (∀ q, Foot x.d q → q ≠ g9 ∧ q ≠ g10 ∧ q ≠ O) := Lib.hid (fun q hq => by
              obtain ⟨_, h1, _⟩ := own_block HB.out.own9 rfl
              obtain ⟨_, h2, _⟩ := own_block HB.out.own10 rfl
              exact ⟨foot_ne HAt.out hq h1 (by decide) (by decide) (by decide), foot_ne HAt.out hq h2 (by decide) (by decide) (by decide), foot_ne HAt.out hq HO.out (by decide) (by decide) (by decide)⟩)
            have FB : Hid (∀ q, Foot x.d q → w.heap.size ≤ q) := Lib.hid (fun q hq => by obtain ⟨_, _, _, _, h1⟩ := foot_blk HAt.out hq; exact h1)
            obtain ⟨f, hf⟩ : ∃ f : Int, (if x.d.down then (26 : Int) else 2) = f := ⟨_, rfl⟩
            have HF := Lib.hid hf
            clear hf
            have R0 := Lib.hid (range10 HB.out.own10 HX.out)
            go_upto_region 19 with fail
            obtain ⟨V0, hV0⟩ : ∃ V : World, W.drew = V := ⟨_, rfl⟩
            have F0 : Hid (Below W.heap.size W V0) := Lib.hid (by rw [← hV0]; exact b_drew (Below.refl _ _))
            have L0 : Hid ((fun w' : World => w'.rangeAt g10 (at_ * 6) (rcells x) ∧ w'.cell? ⟨O, 2, none⟩ = some (.int .i64 (NN k)) ∧ w'.cell? ⟨O, 3, none⟩ = some (.slice pb B cb) ∧ Reads w' (.slice pb B cb) bl) V0) := Lib.hid ⟨range_below F0.out R0.out, cell_below F0.out o2, cell_below F0.out o3, reads_below HBK.out (b_then HBE.out F0.out)⟩
            refine h_region (fun w' : World => w'.rangeAt g10 (at_ * 6) (rcells x) ∧ w'.cell? ⟨O, 2, none⟩ = some (.int .i64 (NN k)) ∧ w'.cell? ⟨O, 3, none⟩ = some (.slice pb B cb) ∧ Reads w' (.slice pb B cb) bl) 16 (by kernel_rfl) (by kernel_rfl) ?_
            rw [hV0]
            clear hV0
            refine h_look (i := 0) rfl (by kernel_rfl) ?_ rfl (fun w' hS => ?_) L0.out ?_
            rotate_left
            · obtain ⟨_, e2, e3, _⟩ := hS
              go_simp
              first | done | rfl
            simp only [Act.put, List.setIfInBounds_toArray, List.set_cons_zero, List.set_cons_succ]
            refine h_look (i := 1) rfl (by kernel_rfl) ?_ rfl (fun w' hS => ?_) L0.out ?_
            rotate_left
            · obtain ⟨_, e2, e3, _⟩ := hS
              go_simp
              first | done | rfl
            simp only [Act.put, List.setIfInBounds_toArray, List.set_cons_zero, List.set_cons_succ]
            refine h_look (i := 2) rfl (by kernel_rfl) ?_ rfl (fun w' hS => ?_) L0.out ?_
            rotate_left
            · obtain ⟨_, e2, e3, _⟩ := hS
              go_simp
              first | done | rfl
            simp only [Act.put, List.setIfInBounds_toArray, List.set_cons_zero, List.set_cons_succ]
            refine h_look (i := 3) rfl (by kernel_rfl) (.agg (rcells x).toArray) rfl (fun w' hS => ?_) L0.out ?_
            · exact look_mid rfl rfl hS.1 rfl
            simp only [Act.put, List.setIfInBounds_toArray, List.set_cons_zero, List.set_cons_succ]
            refine h_look (i := 4) rfl (by kernel_rfl) ?_ rfl (fun w' hS => ?_) L0.out ?_
            rotate_left
            · obtain ⟨_, e2, e3, _⟩ := hS
              go_simp
              first | done | rfl
            simp only [Act.put, List.setIfInBounds_toArray, List.set_cons_zero, List.set_cons_succ]
            refine h_look (i := 5) rfl (by kernel_rfl) ?_ rfl (fun w' hS => ?_) L0.out ?_
            rotate_left
            · obtain ⟨_, e2, e3, _⟩ := hS
              go_simp
              first | done | rfl
            simp only [Act.put, List.setIfInBounds_toArray, List.set_cons_zero, List.set_cons_succ]
            refine h_look (i := 6) rfl (by kernel_rfl) ?_ rfl (fun w' hS => ?_) L0.out ?_
            rotate_left
            · obtain ⟨_, e2, e3, _⟩ := hS
              go_simp
              first | done | rfl
            simp only [Act.put, List.setIfInBounds_toArray, List.set_cons_zero, List.set_cons_succ]
            refine h_look (i := 7) rfl (by kernel_rfl) ?_ rfl (fun w' hS => ?_) L0.out ?_
            rotate_left
            · obtain ⟨_, e2, e3, _⟩ := hS
              go_simp
              first | done | rfl
            simp only [Act.put, List.setIfInBounds_toArray, List.set_cons_zero, List.set_cons_succ]
            refine h_look (i := 8) rfl (by kernel_rfl) ?_ rfl (fun w' hS => ?_) L0.out ?_
            rotate_left
            · have hcv := conv_reads hS.2.2.2
              go_simp
              first | done | rfl
            simp only [Act.put, List.setIfInBounds_toArray, List.set_cons_zero, List.set_cons_succ]
            refine h_two (i := 9) (j := 13) (by kernel_rfl) rfl rfl rfl rfl (fun K hK => ?_) (fun K hK => ?_)
            · go_simp
              have hrw := rwrite_none (w := V0) (x := x) (slot := NN k) (l := bl) hno
              rw [HF.out] at hrw
              refine hrw.mono ?_
              clear hrw
              rintro e V1 ⟨rfl, hb⟩
              have F1 : Hid (Below W.heap.size W V1) := Lib.hid (b_then F0.out hb)
              have L1 : Hid ((fun w' : World => w'.rangeAt g10 (at_ * 6) (rcells x) ∧ w'.cell? ⟨O, 2, none⟩ = some (.int .i64 (NN k)) ∧ w'.cell? ⟨O, 3, none⟩ = some (.slice pb B cb) ∧ Reads w' (.slice pb B cb) bl) V1) := Lib.hid ⟨range_below F1.out R0.out, cell_below F1.out o2, cell_below F1.out o3, reads_below HBK.out (b_then HBE.out F1.out)⟩
              clear hb
              refine hK _ _ L1.out ?_
              clear hK K
              refine h_look (i := 10) rfl (by kernel_rfl) ?_ rfl (fun w' hS => ?_) L1.out ?_
              rotate_left
              · go_simp
                first | done | rfl
              simp only [Act.put, List.setIfInBounds_toArray, List.set_cons_zero, List.set_cons_succ]
              refine h_look (i := 11) rfl (by kernel_rfl) ?_ rfl (fun w' hS => ?_) L1.out ?_
              rotate_left
              · go_simp
                first | done | rfl
              simp only [Act.put, List.setIfInBounds_toArray, List.set_cons_zero, List.set_cons_succ]
              refine h_look (i := 12) rfl (by kernel_rfl) ?_ rfl (fun w' hS => ?_) L1.out ?_
              rotate_left
              · go_simp
                first | done | rfl
              simp only [Act.put, List.setIfInBounds_toArray, List.set_cons_zero, List.set_cons_succ]
              refine h_one (i := 13) (by kernel_rfl) rfl rfl (fun K hK => ?_)
              go_simp
              obtain ⟨V2, hV⟩ : ∃ V : World, V1.alloc (Obj.cells #[.string ⟨#[]⟩, .string ⟨#[]⟩, .int .i64 0, .bool false, .int .i64 0, .slice none 0 0] 44) = V := ⟨_, rfl⟩
              obtain ⟨G19, hG⟩ : ∃ g : Nat, V1.heap.size = g := ⟨_, rfl⟩
              rw [hV, hG]
              have hb : Below V1.heap.size V1 V2 := by rw [← hV]; exact b_alloc (Below.refl _ _) _
              have M2 : Hid (V2.heap[G19]? = some (Obj.cells #[.string ⟨#[]⟩, .string ⟨#[]⟩, .int .i64 0, .bool false, .int .i64 0, .slice none 0 0] 44 (0, 0))) := Lib.hid (by rw [← hV]; exact blk_new hG.symm)
              have hG2 : Hid (W.heap.size ≤ G19) := Lib.hid (by rw [← hG]; exact F1.out.size)
              have F2 : Hid (Below W.heap.size W V2) := Lib.hid (b_then F1.out hb)
              have L2 : Hid ((fun w' : World => w'.rangeAt g10 (at_ * 6) (rcells x) ∧ w'.cell? ⟨O, 2, none⟩ = some (.int .i64 (NN k)) ∧ w'.cell? ⟨O, 3, none⟩ = some (.slice pb B cb) ∧ Reads w' (.slice pb B cb) bl) V2) := Lib.hid ⟨range_below F2.out R0.out, cell_below F2.out o2, cell_below F2.out o3, reads_below HBK.out (b_then HBE.out F2.out)⟩
              clear hV hG hb
              refine hK _ _ L2.out ?_
              clear hK K
              refine h_one (i := 14) (by kernel_rfl) rfl rfl (fun K hK => ?_)
              refine wp_store_blk 44 _ _ rfl G19 44 _ (rcells x).toArray rfl rfl M2.out rfl info44 (rcells_one _) ?_
              intro V3 hg hgr
              have M3 : Hid (V3.heap[G19]? = some (.cells (rcells x).toArray 44 (0, 0))) := Lib.hid hg
              have F3 : Hid (Below W.heap.size W V3) := Lib.hid (b_row F2.out hgr hG2.out)
              have L3 : Hid ((fun w' : World => w'.rangeAt g10 (at_ * 6) (rcells x) ∧ w'.cell? ⟨O, 2, none⟩ = some (.int .i64 (NN k)) ∧ w'.cell? ⟨O, 3, none⟩ = some (.slice pb B cb) ∧ Reads w' (.slice pb B cb) bl) V3) := Lib.hid ⟨range_below F3.out R0.out, cell_below F3.out o2, cell_below F3.out o3, reads_below HBK.out (b_then HBE.out F3.out)⟩
              clear hg hgr
              refine hK _ _ L3.out ?_
              clear hK K
              simp only [Act.put]
              refine h_look (i := 15) rfl (by kernel_rfl) ?_ rfl (fun w' hS => ?_) L3.out ?_
              rotate_left
              · go_simp
                first | done | rfl
              simp only [Act.put, List.setIfInBounds_toArray, List.set_cons_zero, List.set_cons_succ]
              refine h_end (by kernel_rfl) ?_
              go_upto_region 20 with fail
              have HS : Hid ((fun w' : World => w'.cell? ⟨g9, at_, none⟩ = some (.pointer (some ⟨x.d.g, 0, none⟩)) ∧ w'.cell? ⟨O, 2, none⟩ = some (.int .i64 (NN k)) ∧ w'.cell? ⟨O, 3, none⟩ = some (.slice pb B cb)) V3.drew) := Lib.hid (⟨cell_below F3.out d9, L3.out.2.1, L3.out.2.2.1⟩)
              refine h_region (fun w' : World => w'.cell? ⟨g9, at_, none⟩ = some (.pointer (some ⟨x.d.g, 0, none⟩)) ∧ w'.cell? ⟨O, 2, none⟩ = some (.int .i64 (NN k)) ∧ w'.cell? ⟨O, 3, none⟩ = some (.slice pb B cb)) 10 (by kernel_rfl) (by kernel_rfl) ?_
              refine h_look (i := 0) rfl (by kernel_rfl) ?_ rfl (fun w' hS => ?_) HS.out ?_
              rotate_left
              · obtain ⟨e9, e2, e3⟩ := hS
                go_simp
                first | done | rfl
              simp only [Act.put, List.setIfInBounds_toArray, List.set_cons_zero, List.set_cons_succ]
              refine h_look (i := 1) rfl (by kernel_rfl) ?_ rfl (fun w' hS => ?_) HS.out ?_
              rotate_left
              · obtain ⟨e9, e2, e3⟩ := hS
                go_simp
                first | done | rfl
              simp only [Act.put, List.setIfInBounds_toArray, List.set_cons_zero, List.set_cons_succ]
              refine h_look (i := 2) rfl (by kernel_rfl) ?_ rfl (fun w' hS => ?_) HS.out ?_
              rotate_left
              · obtain ⟨e9, e2, e3⟩ := hS
                go_simp
                first | done | rfl
              simp only [Act.put, List.setIfInBounds_toArray, List.set_cons_zero, List.set_cons_succ]
              refine h_look (i := 3) rfl (by kernel_rfl) ?_ rfl (fun w' hS => ?_) HS.out ?_
              rotate_left
              · obtain ⟨e9, e2, e3⟩ := hS
                go_simp
                first | done | rfl
              simp only [Act.put, List.setIfInBounds_toArray, List.set_cons_zero, List.set_cons_succ]
              refine h_look (i := 4) rfl (by kernel_rfl) ?_ rfl (fun w' hS => ?_) HS.out ?_
              rotate_left
              · obtain ⟨e9, e2, e3⟩ := hS
                go_simp
                first | done | rfl
              simp only [Act.put, List.setIfInBounds_toArray, List.set_cons_zero, List.set_cons_succ]
              refine h_look (i := 5) rfl (by kernel_rfl) ?_ rfl (fun w' hS => ?_) HS.out ?_
              rotate_left
              · obtain ⟨e9, e2, e3⟩ := hS
                go_simp
                first | done | rfl
              simp only [Act.put, List.setIfInBounds_toArray, List.set_cons_zero, List.set_cons_succ]
              refine h_look (i := 6) rfl (by kernel_rfl) ?_ rfl (fun w' hS => ?_) HS.out ?_
              rotate_left
              · obtain ⟨e9, e2, e3⟩ := hS
                go_simp
                first | done | rfl
              simp only [Act.put, List.setIfInBounds_toArray, List.set_cons_zero, List.set_cons_succ]
              refine h_look (i := 7) rfl (by kernel_rfl) ?_ rfl (fun w' hS => ?_) HS.out ?_
              rotate_left
              · obtain ⟨e9, e2, e3⟩ := hS
                go_simp
                first | done | rfl
              simp only [Act.put, List.setIfInBounds_toArray, List.set_cons_zero, List.set_cons_succ]
              refine h_one (i := 8) (by kernel_rfl) rfl rfl (fun K hK => ?_)
              go_simp
              have hpw := write_none (slot := NN k) (v := .slice pb B cb) (l := bl) ((HAt.out.below F3.out).drew) (reads_below L3.out.2.2.2 (b_drew (Below.refl _ _))) hno
              rw [HF.out] at hpw
              refine hpw.mono ?_
              clear hpw
              rintro e w9 ⟨rfl, rfl⟩
              refine hK _ _ HS.out ?_
              clear hK K
              refine h_look (i := 9) rfl (by kernel_rfl) ?_ rfl (fun w' hS => ?_) HS.out ?_
              rotate_left
              · go_simp
                first | done | rfl
              simp only [Act.put, List.setIfInBounds_toArray, List.set_cons_zero, List.set_cons_succ]
              refine h_end (by kernel_rfl) ?_
              have hff : (f != f) = false := by simp
              go_upto_region 23 with fail
              refine wp_region_lit ?_
              refine wpList_plain rfl (fun K hK => ?_)
              go_simp
              refine hK _ _ ?_
              clear hK K
              refine wpList_plain rfl (fun K hK => ?_)
              go_simp
              refine hK _ _ ?_
              clear hK K
              refine wpList_load_row rfl 44 _ rfl G19 rfl 44 _ (0, 0) _ M3.out Try.underlying44 rfl info44 ?_
              refine wpList_plain rfl (fun K hK => ?_)
              go_simp
              refine hK _ _ ?_
              clear hK K
              refine wpList_store_mid rfl 44 _ _ rfl g10 (at_ * 6) (rcells x).toArray rfl rfl (there10 (own_below HB.out.own10 (b_drew F3.out)) HX.out) info44 (rcells_one x) ?_
              obtain ⟨hBT, hgT, hgb⟩ := HB.out.turn (S := fun _ => False) (j' := k + 1) (W2 := V3.drew) (W3 := V3.drew) (x' := x) HX.out (by rw [set_self HX.out]; exact (HB.out.st.below (b_drew F3.out)).more (Nat.le_succ k)) (Fr.of_below (b_drew F3.out)) (fun _ h1 => h1.elim) (Below.refl _ _) rfl
              have HBT := Lib.hid hBT
              have HBW := Lib.hid (turn_below HBE.out (Fr.of_below (S := fun _ => False) (b_drew F3.out)) (fun _ h1 => h1.elim) (Below.refl _ _) hgT hgb)
              clear hBT hgT hgb
              go_wp2_with fail
              go_roundw
              case rel => exact ⟨k + 1, m, xs.set at_ x, g9, c9, g10, c10, h, by go_num, rfl, rfl, HBT, HBW⟩
              case measure => exact (rnd h).2
            · go_simp
              obtain ⟨V1, hV⟩ : ∃ V : World, V0.alloc (Obj.cells #[.string ⟨#[]⟩, .string ⟨#[]⟩, .int .i64 0, .bool false, .int .i64 0, .slice none 0 0] 44) = V := ⟨_, rfl⟩
              obtain ⟨G19, hG⟩ : ∃ g : Nat, V0.heap.size = g := ⟨_, rfl⟩
              rw [hV, hG]
              have hb : Below V0.heap.size V0 V1 := by rw [← hV]; exact b_alloc (Below.refl _ _) _
              have M1 : Hid (V1.heap[G19]? = some (Obj.cells #[.string ⟨#[]⟩, .string ⟨#[]⟩, .int .i64 0, .bool false, .int .i64 0, .slice none 0 0] 44 (0, 0))) := Lib.hid (by rw [← hV]; exact blk_new hG.symm)
              have hG2 : Hid (W.heap.size ≤ G19) := Lib.hid (by rw [← hG]; exact F0.out.size)
              have F1 : Hid (Below W.heap.size W V1) := Lib.hid (b_then F0.out hb)
              have L1 : Hid ((fun w' : World => w'.rangeAt g10 (at_ * 6) (rcells x) ∧ w'.cell? ⟨O, 2, none⟩ = some (.int .i64 (NN k)) ∧ w'.cell? ⟨O, 3, none⟩ = some (.slice pb B cb) ∧ Reads w' (.slice pb B cb) bl) V1) := Lib.hid ⟨range_below F1.out R0.out, cell_below F1.out o2, cell_below F1.out o3, reads_below HBK.out (b_then HBE.out F1.out)⟩
              clear hV hG hb
              refine hK _ _ L1.out ?_
              clear hK K
              refine h_one (i := 9) (by kernel_rfl) rfl rfl (fun K hK => ?_)
              go_simp
              have hrw := rwrite_none (w := V1) (x := x) (slot := NN k) (l := bl) hno
              rw [HF.out] at hrw
              refine hrw.mono ?_
              clear hrw
              rintro e V2 ⟨rfl, hb⟩
              have F2 : Hid (Below W.heap.size W V2) := Lib.hid (b_then F1.out hb)
              have L2 : Hid ((fun w' : World => w'.rangeAt g10 (at_ * 6) (rcells x) ∧ w'.cell? ⟨O, 2, none⟩ = some (.int .i64 (NN k)) ∧ w'.cell? ⟨O, 3, none⟩ = some (.slice pb B cb) ∧ Reads w' (.slice pb B cb) bl) V2) := Lib.hid ⟨range_below F2.out R0.out, cell_below F2.out o2, cell_below F2.out o3, reads_below HBK.out (b_then HBE.out F2.out)⟩
              have M2 := Lib.hid (blk_below M1.out hb)
              clear hb
              refine hK _ _ L2.out ?_
              clear hK K
              refine h_look (i := 10) rfl (by kernel_rfl) ?_ rfl (fun w' hS => ?_) L2.out ?_
              rotate_left
              · go_simp
                first | done | rfl
              simp only [Act.put, List.setIfInBounds_toArray, List.set_cons_zero, List.set_cons_succ]
              refine h_look (i := 11) rfl (by kernel_rfl) ?_ rfl (fun w' hS => ?_) L2.out ?_
              rotate_left
              · go_simp
                first | done | rfl
              simp only [Act.put, List.setIfInBounds_toArray, List.set_cons_zero, List.set_cons_succ]
              refine h_look (i := 12) rfl (by kernel_rfl) ?_ rfl (fun w' hS => ?_) L2.out ?_
              rotate_left
              · go_simp
                first | done | rfl
              simp only [Act.put, List.setIfInBounds_toArray, List.set_cons_zero, List.set_cons_succ]
              refine h_one (i := 14) (by kernel_rfl) rfl rfl (fun K hK => ?_)
              refine wp_store_blk 44 _ _ rfl G19 44 _ (rcells x).toArray rfl rfl M2.out rfl info44 (rcells_one _) ?_
              intro V3 hg hgr
              have M3 : Hid (V3.heap[G19]? = some (.cells (rcells x).toArray 44 (0, 0))) := Lib.hid hg
              have F3 : Hid (Below W.heap.size W V3) := Lib.hid (b_row F2.out hgr hG2.out)
              have L3 : Hid ((fun w' : World => w'.rangeAt g10 (at_ * 6) (rcells x) ∧ w'.cell? ⟨O, 2, none⟩ = some (.int .i64 (NN k)) ∧ w'.cell? ⟨O, 3, none⟩ = some (.slice pb B cb) ∧ Reads w' (.slice pb B cb) bl) V3) := Lib.hid ⟨range_below F3.out R0.out, cell_below F3.out o2, cell_below F3.out o3, reads_below HBK.out (b_then HBE.out F3.out)⟩
              clear hg hgr
              refine hK _ _ L3.out ?_
              clear hK K
              simp only [Act.put]
              refine h_look (i := 15) rfl (by kernel_rfl) ?_ rfl (fun w' hS => ?_) L3.out ?_
              rotate_left
              · go_simp
                first | done | rfl
              simp only [Act.put, List.setIfInBounds_toArray, List.set_cons_zero, List.set_cons_succ]
              refine h_end (by kernel_rfl) ?_
              go_upto_region 20 with fail
              have HS : Hid ((fun w' : World => w'.cell? ⟨g9, at_, none⟩ = some (.pointer (some ⟨x.d.g, 0, none⟩)) ∧ w'.cell? ⟨O, 2, none⟩ = some (.int .i64 (NN k)) ∧ w'.cell? ⟨O, 3, none⟩ = some (.slice pb B cb)) V3.drew) := Lib.hid (⟨cell_below F3.out d9, L3.out.2.1, L3.out.2.2.1⟩)
              refine h_region (fun w' : World => w'.cell? ⟨g9, at_, none⟩ = some (.pointer (some ⟨x.d.g, 0, none⟩)) ∧ w'.cell? ⟨O, 2, none⟩ = some (.int .i64 (NN k)) ∧ w'.cell? ⟨O, 3, none⟩ = some (.slice pb B cb)) 10 (by kernel_rfl) (by kernel_rfl) ?_
              refine h_look (i := 0) rfl (by kernel_rfl) ?_ rfl (fun w' hS => ?_) HS.out ?_
              rotate_left
              · obtain ⟨e9, e2, e3⟩ := hS
                go_simp
                first | done | rfl
              simp only [Act.put, List.setIfInBounds_toArray, List.set_cons_zero, List.set_cons_succ]
              refine h_look (i := 1) rfl (by kernel_rfl) ?_ rfl (fun w' hS => ?_) HS.out ?_
              rotate_left
              · obtain ⟨e9, e2, e3⟩ := hS
                go_simp
                first | done | rfl
              simp only [Act.put, List.setIfInBounds_toArray, List.set_cons_zero, List.set_cons_succ]
              refine h_look (i := 2) rfl (by kernel_rfl) ?_ rfl (fun w' hS => ?_) HS.out ?_
              rotate_left
              · obtain ⟨e9, e2, e3⟩ := hS
                go_simp
                first | done | rfl
              simp only [Act.put, List.setIfInBounds_toArray, List.set_cons_zero, List.set_cons_succ]
              refine h_look (i := 3) rfl (by kernel_rfl) ?_ rfl (fun w' hS => ?_) HS.out ?_
              rotate_left
              · obtain ⟨e9, e2, e3⟩ := hS
                go_simp
                first | done | rfl
              simp only [Act.put, List.setIfInBounds_toArray, List.set_cons_zero, List.set_cons_succ]
              refine h_look (i := 4) rfl (by kernel_rfl) ?_ rfl (fun w' hS => ?_) HS.out ?_
              rotate_left
              · obtain ⟨e9, e2, e3⟩ := hS
                go_simp
                first | done | rfl
              simp only [Act.put, List.setIfInBounds_toArray, List.set_cons_zero, List.set_cons_succ]
              refine h_look (i := 5) rfl (by kernel_rfl) ?_ rfl (fun w' hS => ?_) HS.out ?_
              rotate_left
              · obtain ⟨e9, e2, e3⟩ := hS
                go_simp
                first | done | rfl
              simp only [Act.put, List.setIfInBounds_toArray, List.set_cons_zero, List.set_cons_succ]
              refine h_look (i := 6) rfl (by kernel_rfl) ?_ rfl (fun w' hS => ?_) HS.out ?_
              rotate_left
              · obtain ⟨e9, e2, e3⟩ := hS
                go_simp
                first | done | rfl
              simp only [Act.put, List.setIfInBounds_toArray, List.set_cons_zero, List.set_cons_succ]
              refine h_look (i := 7) rfl (by kernel_rfl) ?_ rfl (fun w' hS => ?_) HS.out ?_
              rotate_left
              · obtain ⟨e9, e2, e3⟩ := hS
                go_simp
                first | done | rfl
              simp only [Act.put, List.setIfInBounds_toArray, List.set_cons_zero, List.set_cons_succ]
              refine h_one (i := 8) (by kernel_rfl) rfl rfl (fun K hK => ?_)
              go_simp
              have hpw := write_none (slot := NN k) (v := .slice pb B cb) (l := bl) ((HAt.out.below F3.out).drew) (reads_below L3.out.2.2.2 (b_drew (Below.refl _ _))) hno
              rw [HF.out] at hpw
              refine hpw.mono ?_
              clear hpw
              rintro e w9 ⟨rfl, rfl⟩
              refine hK _ _ HS.out ?_
              clear hK K
              refine h_look (i := 9) rfl (by kernel_rfl) ?_ rfl (fun w' hS => ?_) HS.out ?_
              rotate_left
              · go_simp
                first | done | rfl
              simp only [Act.put, List.setIfInBounds_toArray, List.set_cons_zero, List.set_cons_succ]
              refine h_end (by kernel_rfl) ?_
              have hff : (f != f) = false := by simp
              go_upto_region 23 with fail
              refine wp_region_lit ?_
              refine wpList_plain rfl (fun K hK => ?_)
              go_simp
              refine hK _ _ ?_
              clear hK K
              refine wpList_plain rfl (fun K hK => ?_)
              go_simp
              refine hK _ _ ?_
              clear hK K
              refine wpList_load_row rfl 44 _ rfl G19 rfl 44 _ (0, 0) _ M3.out Try.underlying44 rfl info44 ?_
              refine wpList_plain rfl (fun K hK => ?_)
              go_simp
              refine hK _ _ ?_
              clear hK K
              refine wpList_store_mid rfl 44 _ _ rfl g10 (at_ * 6) (rcells x).toArray rfl rfl (there10 (own_below HB.out.own10 (b_drew F3.out)) HX.out) info44 (rcells_one x) ?_
              obtain ⟨hBT, hgT, hgb⟩ := HB.out.turn (S := fun _ => False) (j' := k + 1) (W2 := V3.drew) (W3 := V3.drew) (x' := x) HX.out (by rw [set_self HX.out]; exact (HB.out.st.below (b_drew F3.out)).more (Nat.le_succ k)) (Fr.of_below (b_drew F3.out)) (fun _ h1 => h1.elim) (Below.refl _ _) rfl
              have HBT := Lib.hid hBT
              have HBW := Lib.hid (turn_below HBE.out (Fr.of_below (S := fun _ => False) (b_drew F3.out)) (fun _ h1 => h1.elim) (Below.refl _ _) hgT hgb)
              clear hBT hgT hgb
              go_wp2_with fail
              go_roundw
              case rel => exact ⟨k + 1, m, xs.set at_ x, g9, c9, g10, c10, h, by go_num, rfl, rfl, HBT, HBW⟩
              case measure => exact (rnd h).2
        · as_aux_lemma =>
            have HAt := Lib.hid (HB.out.st.one at_ x HX.out).at_
            have d9 : W.cell? ⟨g9, at_, none⟩ = some (.pointer (some ⟨x.d.g, 0, none⟩)) := own_cell HB.out.own9 (ptrs_get HX.out)
            have N9 : Hid (∀ q, Foot x.d q → q ≠ g9 ∧ q ≠ g10 ∧ q ≠ O) := Lib.hid (fun q hq => by
              obtain ⟨_, h1, _⟩ := own_block HB.out.own9 rfl
              obtain ⟨_, h2, _⟩ := own_block HB.out.own10 rfl
              exact ⟨foot_ne HAt.out hq h1 (by decide) (by decide) (by decide), foot_ne HAt.out hq h2 (by decide) (by decide) (by decide), foot_ne HAt.out hq HO.out (by decide) (by decide) (by decide)⟩)
            have FB : Hid (∀ q, Foot x.d q → w.heap.size ≤ q) := Lib.hid (fun q hq => by obtain ⟨_, _, _, _, h1⟩ := foot_blk HAt.out hq; exact h1)
            obtain ⟨f, hf⟩ : ∃ f : Int, (if rgoes x.d.left bl.length then (26 : Int) else 0) = f := ⟨_, rfl⟩
            have HF := Lib.hid hf
            clear hf
            have R0 := Lib.hid (range10 HB.out.own10 HX.out)
            have HX1 := HB.out.st.one at_ x HX.out
            have OX := Lib.hid HX1.own9
            have hok : (NN k = 0 ∨ NN k = 1) ∧ x.d.down = false ∧ bl.length ≤ x.d.a.length ∧ x.d.b.length = x.d.a.length ∧ (-1 ≤ x.d.left ∧ x.d.left ≤ 9223372036854775807) ∧ (x.d.a.length ≤ 262144 ∧ x.d.wr ≤ 60000 ∧ 0 ≤ x.d.wr ∧ x.ls.length ≤ 999) := by
              have h1 := HX1.at_.la
              have h2 := HX1.at_.lb
              have h3 := HX1.at_.ln
              have h4 := HX1.hl
              have h5 := HX1.hwr
              have h6 := HX1.hj
              have h7 := HLEN.out
              refine ⟨?_, ?_, ?_, by omega, h4, by omega, by omega, by omega, by omega⟩
              · by_cases h8 : NN k = 0
                · exact Or.inl h8
                · by_cases h9 : NN k = 1
                  · exact Or.inr h9
                  · exact absurd (Or.inr (Or.inl ⟨h8, h9⟩)) hno
              · cases h8 : x.d.down with
                | true => exact absurd (Or.inl h8) hno
                | false => rfl
              · exact Nat.le_of_not_lt (fun h8 => hno (Or.inr (Or.inr h8)))
            have hok2 : x.d.down = false ∧ (NN k = 0 ∨ NN k = 1) ∧ bl.length ≤ x.d.n ∧ bl.length ≤ 1000 ∧ (bl ≠ [] → ∀ q, (Value.slice pb B cb).ownBlock = some q → q ≠ x.d.g ∧ q ≠ x.d.s0 ∧ q ≠ x.d.s1 ∧ x.d.wv.ownBlock ≠ some q) ∧ x.d.vs.length ≤ 1000 ∧ (0 ≤ x.d.wr ∧ x.d.wr < 4611686018427387904) ∧ (-1 ≤ x.d.left ∧ x.d.left ≤ 9223372036854775807) := by
              refine ⟨hok.2.1, hok.1, by rw [← HX1.at_.la]; exact hok.2.2.1, by rw [HBn.out]; omega, ?_, by rw [HX1.lists.1]; omega, by omega, hok.2.2.2.2.1⟩
              intro hne q hq1
              have h1 := reads_lt HBK.out hne hq1
              refine ⟨?_, ?_, ?_, ?_⟩
              · rintro rfl
                have := FB.out _ (Or.inl rfl)
                omega
              · rintro rfl
                have := FB.out _ (Or.inr (Or.inl rfl))
                omega
              · rintro rfl
                have := FB.out _ (Or.inr (Or.inr (Or.inl rfl)))
                omega
              · intro h2
                have := FB.out _ (Or.inr (Or.inr (Or.inr h2)))
                omega
            have HK1 := Lib.hid hok
            have HK2 := Lib.hid hok2
            clear HX1 hok hok2
            go_upto_region 19 with fail
            obtain ⟨V0, hV0⟩ : ∃ V : World, W.drew = V := ⟨_, rfl⟩
            have F0 : Hid (Below W.heap.size W V0) := Lib.hid (by rw [← hV0]; exact b_drew (Below.refl _ _))
            have L0 : Hid ((fun w' : World => w'.rangeAt g10 (at_ * 6) (rcells x) ∧ w'.cell? ⟨O, 2, none⟩ = some (.int .i64 (NN k)) ∧ w'.cell? ⟨O, 3, none⟩ = some (.slice pb B cb) ∧ Reads w' (.slice pb B cb) bl) V0) := Lib.hid ⟨range_below F0.out R0.out, cell_below F0.out o2, cell_below F0.out o3, reads_below HBK.out (b_then HBE.out F0.out)⟩
            refine h_region (fun w' : World => w'.rangeAt g10 (at_ * 6) (rcells x) ∧ w'.cell? ⟨O, 2, none⟩ = some (.int .i64 (NN k)) ∧ w'.cell? ⟨O, 3, none⟩ = some (.slice pb B cb) ∧ Reads w' (.slice pb B cb) bl) 16 (by kernel_rfl) (by kernel_rfl) ?_
            rw [hV0]
            clear hV0
            refine h_look (i := 0) rfl (by kernel_rfl) ?_ rfl (fun w' hS => ?_) L0.out ?_
            rotate_left
            · obtain ⟨_, e2, e3, _⟩ := hS
              go_simp
              first | done | rfl
            simp only [Act.put, List.setIfInBounds_toArray, List.set_cons_zero, List.set_cons_succ]
            refine h_look (i := 1) rfl (by kernel_rfl) ?_ rfl (fun w' hS => ?_) L0.out ?_
            rotate_left
            · obtain ⟨_, e2, e3, _⟩ := hS
              go_simp
              first | done | rfl
            simp only [Act.put, List.setIfInBounds_toArray, List.set_cons_zero, List.set_cons_succ]
            refine h_look (i := 2) rfl (by kernel_rfl) ?_ rfl (fun w' hS => ?_) L0.out ?_
            rotate_left
            · obtain ⟨_, e2, e3, _⟩ := hS
              go_simp
              first | done | rfl
            simp only [Act.put, List.setIfInBounds_toArray, List.set_cons_zero, List.set_cons_succ]
            refine h_look (i := 3) rfl (by kernel_rfl) (.agg (rcells x).toArray) rfl (fun w' hS => ?_) L0.out ?_
            · exact look_mid rfl rfl hS.1 rfl
            simp only [Act.put, List.setIfInBounds_toArray, List.set_cons_zero, List.set_cons_succ]
            refine h_look (i := 4) rfl (by kernel_rfl) ?_ rfl (fun w' hS => ?_) L0.out ?_
            rotate_left
            · obtain ⟨_, e2, e3, _⟩ := hS
              go_simp
              first | done | rfl
            simp only [Act.put, List.setIfInBounds_toArray, List.set_cons_zero, List.set_cons_succ]
            refine h_look (i := 5) rfl (by kernel_rfl) ?_ rfl (fun w' hS => ?_) L0.out ?_
            rotate_left
            · obtain ⟨_, e2, e3, _⟩ := hS
              go_simp
              first | done | rfl
            simp only [Act.put, List.setIfInBounds_toArray, List.set_cons_zero, List.set_cons_succ]
            refine h_look (i := 6) rfl (by kernel_rfl) ?_ rfl (fun w' hS => ?_) L0.out ?_
            rotate_left
            · obtain ⟨_, e2, e3, _⟩ := hS
              go_simp
              first | done | rfl
            simp only [Act.put, List.setIfInBounds_toArray, List.set_cons_zero, List.set_cons_succ]
            refine h_look (i := 7) rfl (by kernel_rfl) ?_ rfl (fun w' hS => ?_) L0.out ?_
            rotate_left
            · obtain ⟨_, e2, e3, _⟩ := hS
              go_simp
              first | done | rfl
            simp only [Act.put, List.setIfInBounds_toArray, List.set_cons_zero, List.set_cons_succ]
            refine h_look (i := 8) rfl (by kernel_rfl) ?_ rfl (fun w' hS => ?_) L0.out ?_
            rotate_left
            · have hcv := conv_reads hS.2.2.2
              go_simp
              first | done | rfl
            simp only [Act.put, List.setIfInBounds_toArray, List.set_cons_zero, List.set_cons_succ]
            refine h_two (i := 9) (j := 13) (by kernel_rfl) rfl rfl rfl rfl (fun K hK => ?_) (fun K hK => ?_)
            · go_simp
              have hrw := rwrite_bk (w := V0) (L0.out.1) (own_below OX.out F0.out) HK1.out.1 HK1.out.2.1 HK1.out.2.2.1 HK1.out.2.2.2.1 HK1.out.2.2.2.2.1 HK1.out.2.2.2.2.2
              rw [HF.out] at hrw
              refine hrw.mono ?_
              clear hrw
              rintro e V1 ⟨p', c', rfl, ho9, hb⟩
              have F1 : Hid (Below W.heap.size W V1) := Lib.hid (b_then F0.out hb)
              have L1 : Hid ((fun w' : World => w'.rangeAt g10 (at_ * 6) (rcells x) ∧ w'.cell? ⟨O, 2, none⟩ = some (.int .i64 (NN k)) ∧ w'.cell? ⟨O, 3, none⟩ = some (.slice pb B cb) ∧ Reads w' (.slice pb B cb) bl) V1) := Lib.hid ⟨range_below F1.out R0.out, cell_below F1.out o2, cell_below F1.out o3, reads_below HBK.out (b_then HBE.out F1.out)⟩
              have Y1 : Hid (V1.ownsRow w.heap.size 9 1 (.slice p' (x.ls.length + 1) c') (x.ls.length + 1) (strs (x.ls ++ [bl]))) := Lib.hid (own_under ho9 (Nat.le_trans HBE.out.size F0.out.size))
              clear ho9
              clear hb
              refine hK _ _ L1.out ?_
              clear hK K
              refine h_look (i := 10) rfl (by kernel_rfl) ?_ rfl (fun w' hS => ?_) L1.out ?_
              rotate_left
              · go_simp
                first | done | rfl
              simp only [Act.put, List.setIfInBounds_toArray, List.set_cons_zero, List.set_cons_succ]
              refine h_look (i := 11) rfl (by kernel_rfl) ?_ rfl (fun w' hS => ?_) L1.out ?_
              rotate_left
              · go_simp
                first | done | rfl
              simp only [Act.put, List.setIfInBounds_toArray, List.set_cons_zero, List.set_cons_succ]
              refine h_look (i := 12) rfl (by kernel_rfl) ?_ rfl (fun w' hS => ?_) L1.out ?_
              rotate_left
              · go_simp
                first | done | rfl
              simp only [Act.put, List.setIfInBounds_toArray, List.set_cons_zero, List.set_cons_succ]
              refine h_one (i := 13) (by kernel_rfl) rfl rfl (fun K hK => ?_)
              go_simp
              obtain ⟨V2, hV⟩ : ∃ V : World, V1.alloc (Obj.cells #[.string ⟨#[]⟩, .string ⟨#[]⟩, .int .i64 0, .bool false, .int .i64 0, .slice none 0 0] 44) = V := ⟨_, rfl⟩
              obtain ⟨G19, hG⟩ : ∃ g : Nat, V1.heap.size = g := ⟨_, rfl⟩
              rw [hV, hG]
              have hb : Below V1.heap.size V1 V2 := by rw [← hV]; exact b_alloc (Below.refl _ _) _
              have M2 : Hid (V2.heap[G19]? = some (Obj.cells #[.string ⟨#[]⟩, .string ⟨#[]⟩, .int .i64 0, .bool false, .int .i64 0, .slice none 0 0] 44 (0, 0))) := Lib.hid (by rw [← hV]; exact blk_new hG.symm)
              have hG2 : Hid (W.heap.size ≤ G19) := Lib.hid (by rw [← hG]; exact F1.out.size)
              have F2 : Hid (Below W.heap.size W V2) := Lib.hid (b_then F1.out hb)
              have L2 : Hid ((fun w' : World => w'.rangeAt g10 (at_ * 6) (rcells x) ∧ w'.cell? ⟨O, 2, none⟩ = some (.int .i64 (NN k)) ∧ w'.cell? ⟨O, 3, none⟩ = some (.slice pb B cb) ∧ Reads w' (.slice pb B cb) bl) V2) := Lib.hid ⟨range_below F2.out R0.out, cell_below F2.out o2, cell_below F2.out o3, reads_below HBK.out (b_then HBE.out F2.out)⟩
              have Y2 := Lib.hid (own_below Y1.out hb)
              clear hV hG hb
              refine hK _ _ L2.out ?_
              clear hK K
              refine h_one (i := 14) (by kernel_rfl) rfl rfl (fun K hK => ?_)
              refine wp_store_blk 44 _ _ rfl G19 44 _ (rcells ⟨x.d.wrote (NN k) bl (.slice none 0 0) (.slice none 0 0), x.ls ++ [bl], p', c'⟩).toArray rfl rfl M2.out rfl info44 (rcells_one _) ?_
              intro V3 hg hgr
              have M3 : Hid (V3.heap[G19]? = some (.cells (rcells ⟨x.d.wrote (NN k) bl (.slice none 0 0) (.slice none 0 0), x.ls ++ [bl], p', c'⟩).toArray 44 (0, 0))) := Lib.hid hg
              have Y3 := Lib.hid (own_fr (Fr.of_grown (S := fun q => q = G19) hgr rfl) Y2.out (fun q hq hs => by obtain ⟨_, h1, _⟩ := own_block Y2.out hq; exact blk_ne h1 M2.out (by decide) hs))
              have F3 : Hid (Below W.heap.size W V3) := Lib.hid (b_row F2.out hgr hG2.out)
              have L3 : Hid ((fun w' : World => w'.rangeAt g10 (at_ * 6) (rcells x) ∧ w'.cell? ⟨O, 2, none⟩ = some (.int .i64 (NN k)) ∧ w'.cell? ⟨O, 3, none⟩ = some (.slice pb B cb) ∧ Reads w' (.slice pb B cb) bl) V3) := Lib.hid ⟨range_below F3.out R0.out, cell_below F3.out o2, cell_below F3.out o3, reads_below HBK.out (b_then HBE.out F3.out)⟩
              clear hg hgr
              refine hK _ _ L3.out ?_
              clear hK K
              simp only [Act.put]
              refine h_look (i := 15) rfl (by kernel_rfl) ?_ rfl (fun w' hS => ?_) L3.out ?_
              rotate_left
              · go_simp
                first | done | rfl
              simp only [Act.put, List.setIfInBounds_toArray, List.set_cons_zero, List.set_cons_succ]
              refine h_end (by kernel_rfl) ?_
              go_upto_region 20 with fail
              have HS : Hid ((fun w' : World => w'.cell? ⟨g9, at_, none⟩ = some (.pointer (some ⟨x.d.g, 0, none⟩)) ∧ w'.cell? ⟨O, 2, none⟩ = some (.int .i64 (NN k)) ∧ w'.cell? ⟨O, 3, none⟩ = some (.slice pb B cb)) V3.drew) := Lib.hid (⟨cell_below F3.out d9, L3.out.2.1, L3.out.2.2.1⟩)
              refine h_region (fun w' : World => w'.cell? ⟨g9, at_, none⟩ = some (.pointer (some ⟨x.d.g, 0, none⟩)) ∧ w'.cell? ⟨O, 2, none⟩ = some (.int .i64 (NN k)) ∧ w'.cell? ⟨O, 3, none⟩ = some (.slice pb B cb)) 10 (by kernel_rfl) (by kernel_rfl) ?_
              refine h_look (i := 0) rfl (by kernel_rfl) ?_ rfl (fun w' hS => ?_) HS.out ?_
              rotate_left
              · obtain ⟨e9, e2, e3⟩ := hS
                go_simp
                first | done | rfl
              simp only [Act.put, List.setIfInBounds_toArray, List.set_cons_zero, List.set_cons_succ]
              refine h_look (i := 1) rfl (by kernel_rfl) ?_ rfl (fun w' hS => ?_) HS.out ?_
              rotate_left
              · obtain ⟨e9, e2, e3⟩ := hS
                go_simp
                first | done | rfl
              simp only [Act.put, List.setIfInBounds_toArray, List.set_cons_zero, List.set_cons_succ]
              refine h_look (i := 2) rfl (by kernel_rfl) ?_ rfl (fun w' hS => ?_) HS.out ?_
              rotate_left
              · obtain ⟨e9, e2, e3⟩ := hS
                go_simp
                first | done | rfl
              simp only [Act.put, List.setIfInBounds_toArray, List.set_cons_zero, List.set_cons_succ]
              refine h_look (i := 3) rfl (by kernel_rfl) ?_ rfl (fun w' hS => ?_) HS.out ?_
              rotate_left
              · obtain ⟨e9, e2, e3⟩ := hS
                go_simp
                first | done | rfl
              simp only [Act.put, List.setIfInBounds_toArray, List.set_cons_zero, List.set_cons_succ]
              refine h_look (i := 4) rfl (by kernel_rfl) ?_ rfl (fun w' hS => ?_) HS.out ?_
              rotate_left
              · obtain ⟨e9, e2, e3⟩ := hS
                go_simp
                first | done | rfl
              simp only [Act.put, List.setIfInBounds_toArray, List.set_cons_zero, List.set_cons_succ]
              refine h_look (i := 5) rfl (by kernel_rfl) ?_ rfl (fun w' hS => ?_) HS.out ?_
              rotate_left
              · obtain ⟨e9, e2, e3⟩ := hS
                go_simp
                first | done | rfl
              simp only [Act.put, List.setIfInBounds_toArray, List.set_cons_zero, List.set_cons_succ]
              refine h_look (i := 6) rfl (by kernel_rfl) ?_ rfl (fun w' hS => ?_) HS.out ?_
              rotate_left
              · obtain ⟨e9, e2, e3⟩ := hS
                go_simp
                first | done | rfl
              simp only [Act.put, List.setIfInBounds_toArray, List.set_cons_zero, List.set_cons_succ]
              refine h_look (i := 7) rfl (by kernel_rfl) ?_ rfl (fun w' hS => ?_) HS.out ?_
              rotate_left
              · obtain ⟨e9, e2, e3⟩ := hS
                go_simp
                first | done | rfl
              simp only [Act.put, List.setIfInBounds_toArray, List.set_cons_zero, List.set_cons_succ]
              refine h_one (i := 8) (by kernel_rfl) rfl rfl (fun K hK => ?_)
              go_simp
              have hpw := write_ok (NN k) (.slice pb B cb) bl ((HAt.out.below F3.out).drew) HK2.out.1 HK2.out.2.1 (reads_below L3.out.2.2.2 (b_drew (Below.refl _ _))) HK2.out.2.2.1 HK2.out.2.2.2.1 HK2.out.2.2.2.2.1 HK2.out.2.2.2.2.2.1 (Nat.le_trans HBE.out.size F3.out.size) HK2.out.2.2.2.2.2.2.1 HK2.out.2.2.2.2.2.2.2
              refine hpw.mono ?_
              clear hpw
              rintro e W6 ⟨wv, v6, hW⟩
              obtain rfl := hW.ret
              have HW := Lib.hid hW
              have FS : Hid (∀ q, (q = x.d.g ∨ (q = if NN k = 0 then x.d.s0 else x.d.s1) ∨ x.d.wv.ownBlock = some q) → Foot x.d q) := Lib.hid (by
                rintro q (hq1 | hq1 | hq1)
                · exact Or.inl hq1
                · split at hq1
                  · exact Or.inr (Or.inl hq1)
                  · exact Or.inr (Or.inr (Or.inl hq1))
                · exact Or.inr (Or.inr (Or.inr hq1)))
              have FR : Hid (Fr (fun q => q = x.d.g ∨ (q = if NN k = 0 then x.d.s0 else x.d.s1) ∨ x.d.wv.ownBlock = some q) V3 W6) := Lib.hid (fr_drew hW.fr)
              clear hW
              have HS6 : Hid ((fun w' : World => w'.cell? ⟨g9, at_, none⟩ = some (.pointer (some ⟨x.d.g, 0, none⟩)) ∧ w'.cell? ⟨O, 2, none⟩ = some (.int .i64 (NN k)) ∧ w'.cell? ⟨O, 3, none⟩ = some (.slice pb B cb)) W6) := Lib.hid ⟨cell_fr FR.out (cell_below F3.out d9) (fun hs => (N9.out _ (FS.out _ hs)).1 rfl), cell_fr FR.out L3.out.2.1 (fun hs => (N9.out _ (FS.out _ hs)).2.2 rfl), cell_fr FR.out L3.out.2.2.1 (fun hs => (N9.out _ (FS.out _ hs)).2.2 rfl)⟩
              rw [show (if x.d.goes bl.length then (26 : Int) else 0) = f from HF.out]
              refine hK _ _ HS6.out ?_
              clear hK K HS
              refine h_look (i := 9) rfl (by kernel_rfl) ?_ rfl (fun w' hS => ?_) HS6.out ?_
              rotate_left
              · go_simp
                first | done | rfl
              simp only [Act.put, List.setIfInBounds_toArray, List.set_cons_zero, List.set_cons_succ]
              refine h_end (by kernel_rfl) ?_
              have M6 := Lib.hid (FR.out.row M3.out (fun hs => foot_ne (HAt.out.below F3.out) (FS.out _ hs) M3.out (by decide) (by decide) (by decide) rfl))
              have Y6 : Hid (W6.ownsRow w.heap.size 9 1 (.slice p' (x.ls.length + 1) c') (x.ls.length + 1) (strs (x.ls ++ [bl]))) := Lib.hid (own_fr FR.out Y3.out (fun q hq1 hs => by obtain ⟨_, h1, _⟩ := own_block Y3.out hq1; exact foot_ne (HAt.out.below F3.out) (FS.out _ hs) h1 (by decide) (by decide) (by decide) rfl))
              have ST6 := Lib.hid ((HB.out.st.below F3.out).written (p' := p') (c' := c') HX.out (HW.out.undrew) (by rw [HBn.out]; omega) Y6.out)
              have FW : Hid (Fr (fun q => q = x.d.g ∨ (q = if NN k = 0 then x.d.s0 else x.d.s1) ∨ x.d.wv.ownBlock = some q) W W6) := Lib.hid ((Fr.of_below F3.out).trans FR.out)
              have T6 := Lib.hid (own_fr FW.out HB.out.own10 (fun q hq1 hs => by cases hq1; exact (N9.out _ (FS.out _ hs)).2.1 rfl))
              have hff : (f != f) = false := by simp
              go_upto_region 23 with fail
              refine wp_region_lit ?_
              refine wpList_plain rfl (fun K hK => ?_)
              go_simp
              refine hK _ _ ?_
              clear hK K
              refine wpList_plain rfl (fun K hK => ?_)
              go_simp
              refine hK _ _ ?_
              clear hK K
              refine wpList_load_row rfl 44 _ rfl G19 rfl 44 _ (0, 0) _ M6.out Try.underlying44 rfl info44 ?_
              refine wpList_plain rfl (fun K hK => ?_)
              go_simp
              refine hK _ _ ?_
              clear hK K
              obtain ⟨x', hx'⟩ : ∃ x' : Bk, x' = ⟨x.d.wrote (NN k) bl wv v6, x.ls ++ [bl], p', c'⟩ := ⟨_, rfl⟩
              refine wpList_store_mid rfl 44 _ _ rfl g10 (at_ * 6) (rcells x').toArray rfl (by rw [hx']; rfl) (there10 T6.out HX.out) info44 (rcells_one x') ?_
              rw [← hx'] at ST6
              obtain ⟨hBT, hgT, hgb⟩ := HB.out.turn (W3 := W6) HX.out ST6.out FW.out FS.out (Below.refl _ _) (by rw [hx']; rfl)
              have HBT := Lib.hid hBT
              have HBW := Lib.hid (turn_below HBE.out FW.out (fun q hq1 => FB.out q (FS.out q hq1)) (Below.refl _ _) hgT hgb)
              clear hBT hgT hgb hx'
              go_wp2_with fail
              go_roundw
              case rel => exact ⟨k + 1, m, xs.set at_ x', g9, c9, g10, c10, h, by go_num, rfl, rfl, HBT, HBW⟩
              case measure => exact (rnd h).2
            · go_simp
              obtain ⟨V1, hV⟩ : ∃ V : World, V0.alloc (Obj.cells #[.string ⟨#[]⟩, .string ⟨#[]⟩, .int .i64 0, .bool false, .int .i64 0, .slice none 0 0] 44) = V := ⟨_, rfl⟩
              obtain ⟨G19, hG⟩ : ∃ g : Nat, V0.heap.size = g := ⟨_, rfl⟩
              rw [hV, hG]
              have hb : Below V0.heap.size V0 V1 := by rw [← hV]; exact b_alloc (Below.refl _ _) _
              have M1 : Hid (V1.heap[G19]? = some (Obj.cells #[.string ⟨#[]⟩, .string ⟨#[]⟩, .int .i64 0, .bool false, .int .i64 0, .slice none 0 0] 44 (0, 0))) := Lib.hid (by rw [← hV]; exact blk_new hG.symm)
              have hG2 : Hid (W.heap.size ≤ G19) := Lib.hid (by rw [← hG]; exact F0.out.size)
              have F1 : Hid (Below W.heap.size W V1) := Lib.hid (b_then F0.out hb)
              have L1 : Hid ((fun w' : World => w'.rangeAt g10 (at_ * 6) (rcells x) ∧ w'.cell? ⟨O, 2, none⟩ = some (.int .i64 (NN k)) ∧ w'.cell? ⟨O, 3, none⟩ = some (.slice pb B cb) ∧ Reads w' (.slice pb B cb) bl) V1) := Lib.hid ⟨range_below F1.out R0.out, cell_below F1.out o2, cell_below F1.out o3, reads_below HBK.out (b_then HBE.out F1.out)⟩
              clear hV hG hb
              refine hK _ _ L1.out ?_
              clear hK K
              refine h_one (i := 9) (by kernel_rfl) rfl rfl (fun K hK => ?_)
              go_simp
              have hrw := rwrite_bk (w := V1) (L1.out.1) (own_below OX.out F1.out) HK1.out.1 HK1.out.2.1 HK1.out.2.2.1 HK1.out.2.2.2.1 HK1.out.2.2.2.2.1 HK1.out.2.2.2.2.2
              rw [HF.out] at hrw
              refine hrw.mono ?_
              clear hrw
              rintro e V2 ⟨p', c', rfl, ho9, hb⟩
              have F2 : Hid (Below W.heap.size W V2) := Lib.hid (b_then F1.out hb)
              have L2 : Hid ((fun w' : World => w'.rangeAt g10 (at_ * 6) (rcells x) ∧ w'.cell? ⟨O, 2, none⟩ = some (.int .i64 (NN k)) ∧ w'.cell? ⟨O, 3, none⟩ = some (.slice pb B cb) ∧ Reads w' (.slice pb B cb) bl) V2) := Lib.hid ⟨range_below F2.out R0.out, cell_below F2.out o2, cell_below F2.out o3, reads_below HBK.out (b_then HBE.out F2.out)⟩
              have Y2 : Hid (V2.ownsRow w.heap.size 9 1 (.slice p' (x.ls.length + 1) c') (x.ls.length + 1) (strs (x.ls ++ [bl]))) := Lib.hid (own_under ho9 (Nat.le_trans HBE.out.size F1.out.size))
              clear ho9
              have M2 := Lib.hid (blk_below M1.out hb)
              clear hb
              refine hK _ _ L2.out ?_
              clear hK K
              refine h_look (i := 10) rfl (by kernel_rfl) ?_ rfl (fun w' hS => ?_) L2.out ?_
              rotate_left
              · go_simp
                first | done | rfl
              simp only [Act.put, List.setIfInBounds_toArray, List.set_cons_zero, List.set_cons_succ]
              refine h_look (i := 11) rfl (by kernel_rfl) ?_ rfl (fun w' hS => ?_) L2.out ?_
              rotate_left
              · go_simp
                first | done | rfl
              simp only [Act.put, List.setIfInBounds_toArray, List.set_cons_zero, List.set_cons_succ]
              refine h_look (i := 12) rfl (by kernel_rfl) ?_ rfl (fun w' hS => ?_) L2.out ?_
              rotate_left
              · go_simp
                first | done | rfl
              simp only [Act.put, List.setIfInBounds_toArray, List.set_cons_zero, List.set_cons_succ]
              refine h_one (i := 14) (by kernel_rfl) rfl rfl (fun K hK => ?_)
              refine wp_store_blk 44 _ _ rfl G19 44 _ (rcells ⟨x.d.wrote (NN k) bl (.slice none 0 0) (.slice none 0 0), x.ls ++ [bl], p', c'⟩).toArray rfl rfl M2.out rfl info44 (rcells_one _) ?_
              intro V3 hg hgr
              have M3 : Hid (V3.heap[G19]? = some (.cells (rcells ⟨x.d.wrote (NN k) bl (.slice none 0 0) (.slice none 0 0), x.ls ++ [bl], p', c'⟩).toArray 44 (0, 0))) := Lib.hid hg
              have Y3 := Lib.hid (own_fr (Fr.of_grown (S := fun q => q = G19) hgr rfl) Y2.out (fun q hq hs => by obtain ⟨_, h1, _⟩ := own_block Y2.out hq; exact blk_ne h1 M2.out (by decide) hs))
              have F3 : Hid (Below W.heap.size W V3) := Lib.hid (b_row F2.out hgr hG2.out)
              have L3 : Hid ((fun w' : World => w'.rangeAt g10 (at_ * 6) (rcells x) ∧ w'.cell? ⟨O, 2, none⟩ = some (.int .i64 (NN k)) ∧ w'.cell? ⟨O, 3, none⟩ = some (.slice pb B cb) ∧ Reads w' (.slice pb B cb) bl) V3) := Lib.hid ⟨range_below F3.out R0.out, cell_below F3.out o2, cell_below F3.out o3, reads_below HBK.out (b_then HBE.out F3.out)⟩
              clear hg hgr
              refine hK _ _ L3.out ?_
              clear hK K
              simp only [Act.put]
              refine h_look (i := 15) rfl (by kernel_rfl) ?_ rfl (fun w' hS => ?_) L3.out ?_
              rotate_left
              · go_simp
                first | done | rfl
              simp only [Act.put, List.setIfInBounds_toArray, List.set_cons_zero, List.set_cons_succ]
              refine h_end (by kernel_rfl) ?_
              go_upto_region 20 with fail
              have HS : Hid ((fun w' : World => w'.cell? ⟨g9, at_, none⟩ = some (.pointer (some ⟨x.d.g, 0, none⟩)) ∧ w'.cell? ⟨O, 2, none⟩ = some (.int .i64 (NN k)) ∧ w'.cell? ⟨O, 3, none⟩ = some (.slice pb B cb)) V3.drew) := Lib.hid (⟨cell_below F3.out d9, L3.out.2.1, L3.out.2.2.1⟩)
              refine h_region (fun w' : World => w'.cell? ⟨g9, at_, none⟩ = some (.pointer (some ⟨x.d.g, 0, none⟩)) ∧ w'.cell? ⟨O, 2, none⟩ = some (.int .i64 (NN k)) ∧ w'.cell? ⟨O, 3, none⟩ = some (.slice pb B cb)) 10 (by kernel_rfl) (by kernel_rfl) ?_
              refine h_look (i := 0) rfl (by kernel_rfl) ?_ rfl (fun w' hS => ?_) HS.out ?_
              rotate_left
              · obtain ⟨e9, e2, e3⟩ := hS
                go_simp
                first | done | rfl
              simp only [Act.put, List.setIfInBounds_toArray, List.set_cons_zero, List.set_cons_succ]
              refine h_look (i := 1) rfl (by kernel_rfl) ?_ rfl (fun w' hS => ?_) HS.out ?_
              rotate_left
              · obtain ⟨e9, e2, e3⟩ := hS
                go_simp
                first | done | rfl
              simp only [Act.put, List.setIfInBounds_toArray, List.set_cons_zero, List.set_cons_succ]
              refine h_look (i := 2) rfl (by kernel_rfl) ?_ rfl (fun w' hS => ?_) HS.out ?_
              rotate_left
              · obtain ⟨e9, e2, e3⟩ := hS
                go_simp
                first | done | rfl
              simp only [Act.put, List.setIfInBounds_toArray, List.set_cons_zero, List.set_cons_succ]
              refine h_look (i := 3) rfl (by kernel_rfl) ?_ rfl (fun w' hS => ?_) HS.out ?_
              rotate_left
              · obtain ⟨e9, e2, e3⟩ := hS
                go_simp
                first | done | rfl
              simp only [Act.put, List.setIfInBounds_toArray, List.set_cons_zero, List.set_cons_succ]
              refine h_look (i := 4) rfl (by kernel_rfl) ?_ rfl (fun w' hS => ?_) HS.out ?_
              rotate_left
              · obtain ⟨e9, e2, e3⟩ := hS
                go_simp
                first | done | rfl
              simp only [Act.put, List.setIfInBounds_toArray, List.set_cons_zero, List.set_cons_succ]
              refine h_look (i := 5) rfl (by kernel_rfl) ?_ rfl (fun w' hS => ?_) HS.out ?_
              rotate_left
              · obtain ⟨e9, e2, e3⟩ := hS
                go_simp
                first | done | rfl
              simp only [Act.put, List.setIfInBounds_toArray, List.set_cons_zero, List.set_cons_succ]
              refine h_look (i := 6) rfl (by kernel_rfl) ?_ rfl (fun w' hS => ?_) HS.out ?_
              rotate_left
              · obtain ⟨e9, e2, e3⟩ := hS
                go_simp
                first | done | rfl
              simp only [Act.put, List.setIfInBounds_toArray, List.set_cons_zero, List.set_cons_succ]
              refine h_look (i := 7) rfl (by kernel_rfl) ?_ rfl (fun w' hS => ?_) HS.out ?_
              rotate_left
              · obtain ⟨e9, e2, e3⟩ := hS
                go_simp
                first | done | rfl
              simp only [Act.put, List.setIfInBounds_toArray, List.set_cons_zero, List.set_cons_succ]
              refine h_one (i := 8) (by kernel_rfl) rfl rfl (fun K hK => ?_)
              go_simp
              have hpw := write_ok (NN k) (.slice pb B cb) bl ((HAt.out.below F3.out).drew) HK2.out.1 HK2.out.2.1 (reads_below L3.out.2.2.2 (b_drew (Below.refl _ _))) HK2.out.2.2.1 HK2.out.2.2.2.1 HK2.out.2.2.2.2.1 HK2.out.2.2.2.2.2.1 (Nat.le_trans HBE.out.size F3.out.size) HK2.out.2.2.2.2.2.2.1 HK2.out.2.2.2.2.2.2.2
              refine hpw.mono ?_
              clear hpw
              rintro e W6 ⟨wv, v6, hW⟩
              obtain rfl := hW.ret
              have HW := Lib.hid hW
              have FS : Hid (∀ q, (q = x.d.g ∨ (q = if NN k = 0 then x.d.s0 else x.d.s1) ∨ x.d.wv.ownBlock = some q) → Foot x.d q) := Lib.hid (by
                rintro q (hq1 | hq1 | hq1)
                · exact Or.inl hq1
                · split at hq1
                  · exact Or.inr (Or.inl hq1)
                  · exact Or.inr (Or.inr (Or.inl hq1))
                · exact Or.inr (Or.inr (Or.inr hq1)))
              have FR : Hid (Fr (fun q => q = x.d.g ∨ (q = if NN k = 0 then x.d.s0 else x.d.s1) ∨ x.d.wv.ownBlock = some q) V3 W6) := Lib.hid (fr_drew hW.fr)
              clear hW
              have HS6 : Hid ((fun w' : World => w'.cell? ⟨g9, at_, none⟩ = some (.pointer (some ⟨x.d.g, 0, none⟩)) ∧ w'.cell? ⟨O, 2, none⟩ = some (.int .i64 (NN k)) ∧ w'.cell? ⟨O, 3, none⟩ = some (.slice pb B cb)) W6) := Lib.hid ⟨cell_fr FR.out (cell_below F3.out d9) (fun hs => (N9.out _ (FS.out _ hs)).1 rfl), cell_fr FR.out L3.out.2.1 (fun hs => (N9.out _ (FS.out _ hs)).2.2 rfl), cell_fr FR.out L3.out.2.2.1 (fun hs => (N9.out _ (FS.out _ hs)).2.2 rfl)⟩
              rw [show (if x.d.goes bl.length then (26 : Int) else 0) = f from HF.out]
              refine hK _ _ HS6.out ?_
              clear hK K HS
              refine h_look (i := 9) rfl (by kernel_rfl) ?_ rfl (fun w' hS => ?_) HS6.out ?_
              rotate_left
              · go_simp
                first | done | rfl
              simp only [Act.put, List.setIfInBounds_toArray, List.set_cons_zero, List.set_cons_succ]
              refine h_end (by kernel_rfl) ?_
              have M6 := Lib.hid (FR.out.row M3.out (fun hs => foot_ne (HAt.out.below F3.out) (FS.out _ hs) M3.out (by decide) (by decide) (by decide) rfl))
              have Y6 : Hid (W6.ownsRow w.heap.size 9 1 (.slice p' (x.ls.length + 1) c') (x.ls.length + 1) (strs (x.ls ++ [bl]))) := Lib.hid (own_fr FR.out Y3.out (fun q hq1 hs => by obtain ⟨_, h1, _⟩ := own_block Y3.out hq1; exact foot_ne (HAt.out.below F3.out) (FS.out _ hs) h1 (by decide) (by decide) (by decide) rfl))
              have ST6 := Lib.hid ((HB.out.st.below F3.out).written (p' := p') (c' := c') HX.out (HW.out.undrew) (by rw [HBn.out]; omega) Y6.out)
              have FW : Hid (Fr (fun q => q = x.d.g ∨ (q = if NN k = 0 then x.d.s0 else x.d.s1) ∨ x.d.wv.ownBlock = some q) W W6) := Lib.hid ((Fr.of_below F3.out).trans FR.out)
              have T6 := Lib.hid (own_fr FW.out HB.out.own10 (fun q hq1 hs => by cases hq1; exact (N9.out _ (FS.out _ hs)).2.1 rfl))
              have hff : (f != f) = false := by simp
              go_upto_region 23 with fail
              refine wp_region_lit ?_
              refine wpList_plain rfl (fun K hK => ?_)
              go_simp
              refine hK _ _ ?_
              clear hK K
              refine wpList_plain rfl (fun K hK => ?_)
              go_simp
              refine hK _ _ ?_
              clear hK K
              refine wpList_load_row rfl 44 _ rfl G19 rfl 44 _ (0, 0) _ M6.out Try.underlying44 rfl info44 ?_
              refine wpList_plain rfl (fun K hK => ?_)
              go_simp
              refine hK _ _ ?_
              clear hK K
              obtain ⟨x', hx'⟩ : ∃ x' : Bk, x' = ⟨x.d.wrote (NN k) bl wv v6, x.ls ++ [bl], p', c'⟩ := ⟨_, rfl⟩
              refine wpList_store_mid rfl 44 _ _ rfl g10 (at_ * 6) (rcells x').toArray rfl (by rw [hx']; rfl) (there10 T6.out HX.out) info44 (rcells_one x') ?_
              rw [← hx'] at ST6
              obtain ⟨hBT, hgT, hgb⟩ := HB.out.turn (W3 := W6) HX.out ST6.out FW.out FS.out (Below.refl _ _) (by rw [hx']; rfl)
              have HBT := Lib.hid hBT
              have HBW := Lib.hid (turn_below HBE.out FW.out (fun q hq1 => FB.out q (FS.out q hq1)) (Below.refl _ _) hgT hgb)
              clear hBT hgT hgb hx'
              go_wp2_with fail
              go_roundw
              case rel => exact ⟨k + 1, m, xs.set at_ x', g9, c9, g10, c10, h, by go_num, rfl, rfl, HBT, HBW⟩
              case measure => exact (rnd h).2
    · as_aux_lemma =>
        obtain rfl : k = len := by omega
        have hmost := hB.out.most
        go_wp2_with fail
        go_loopw [259] (fun j wq => ∃ q : Nat, q ≤ m ∧ j = .int .i64 (q : Int) ∧ Hid (Both wq w.heap.size n k m xs g9 c9 g10 c10) ∧ Hid (Below w.heap.size w wq)) (fun j _ => m - (intOf j).toNat)
        case atStart => exact ⟨0, Nat.zero_le _, rfl, hB, hbel⟩
        case round =>
          obtain ⟨q, hq, rfl, hB2, hbel2⟩ := hrel
          clear hB hbel
          by_cases hql : q < m
          · obtain ⟨x, hx⟩ : ∃ x, xs[q]? = some x := ⟨_, List.getElem?_eq_getElem (by rw [hB2.out.len]; exact hql)⟩
            have HX := Lib.hid hx
            obtain ⟨W, hW⟩ : ∃ V : World, wr = V := ⟨_, rfl⟩
            rw [hW] at hB2 hbel2 ⊢
            have d9 : W.cell? ⟨g9, q, none⟩ = some (.pointer (some ⟨x.d.g, 0, none⟩)) := own_cell hB2.out.own9 (ptrs_get HX.out)
            have hi0 : (0 : Int) ≤ (q : Int) := by omega
            have hia : (q : Int) < (m : Int) := by omega
            have HR := Lib.hid (rnd hql)
            clear hx hW hq
            go_upto_region 47 with fail
            clear d9
            have HX1 := Lib.hid (hB2.out.st.one q x HX.out)
            have R0 := Lib.hid (range10 hB2.out.own10 HX.out)
            obtain ⟨V0, hV0⟩ : ∃ V : World, W.drew = V := ⟨_, rfl⟩
            have F0 : Hid (Below W.heap.size W V0) := Lib.hid (by rw [← hV0]; exact b_drew (Below.refl _ _))
            have L0 : Hid ((fun w' : World => w'.rangeAt g10 (q * 6) (rcells x)) V0) := Lib.hid (range_below F0.out R0.out)
            refine h_region (fun w' : World => w'.rangeAt g10 (q * 6) (rcells x)) 54 (by kernel_rfl) (by kernel_rfl) ?_
            rw [hV0]
            clear hV0
            refine h_look (i := 0) rfl (by kernel_rfl) ?_ rfl (fun w' hS => ?_) L0.out ?_
            rotate_left
            · go_simp
              first | done | rfl
            simp only [Act.put, List.setIfInBounds_toArray, List.set_cons_zero, List.set_cons_succ]
            refine h_look (i := 2) rfl (by kernel_rfl) ?_ rfl (fun w' hS => ?_) L0.out ?_
            rotate_left
            · go_simp
              first | done | rfl
            simp only [Act.put, List.setIfInBounds_toArray, List.set_cons_zero, List.set_cons_succ]
            refine h_look (i := 3) rfl (by kernel_rfl) ?_ rfl (fun w' hS => ?_) L0.out ?_
            rotate_left
            · go_simp
              first | done | rfl
            simp only [Act.put, List.setIfInBounds_toArray, List.set_cons_zero, List.set_cons_succ]
            refine h_look (i := 4) rfl (by kernel_rfl) ?_ rfl (fun w' hS => ?_) L0.out ?_
            rotate_left
            · go_simp
              first | done | rfl
            simp only [Act.put, List.setIfInBounds_toArray, List.set_cons_zero, List.set_cons_succ]
            refine h_look (i := 5) rfl (by kernel_rfl) ?_ rfl (fun w' hS => ?_) L0.out ?_
            rotate_left
            · go_simp
              first | done | rfl
            simp only [Act.put, List.setIfInBounds_toArray, List.set_cons_zero, List.set_cons_succ]
            refine h_look (i := 6) rfl (by kernel_rfl) ?_ rfl (fun w' hS => ?_) L0.out ?_
            rotate_left
            · have r3 : w'.cell? ⟨g10, q * 6 + 3, none⟩ = some (.bool x.d.down) := hS 3 _ rfl
              go_simp
              first | done | rfl
            simp only [Act.put, List.setIfInBounds_toArray, List.set_cons_zero, List.set_cons_succ]
            refine h_one (i := 1) (by kernel_rfl) rfl rfl (fun K hK => ?_)
            go_simp
            refine (down_any (HX1.out.at_.below F0.out)).mono ?_
            rintro e w9 ⟨rfl, rfl⟩
            refine hK _ _ L0.out ?_
            clear hK K
            refine h_look (i := 7) rfl (by kernel_rfl) (.bool false) rfl (fun w' hS => ?_) L0.out ?_
            · have hh : (x.d.down != x.d.down) = false := by simp
              go_simp
              first | done | rfl | exact ⟨rfl, rfl⟩
            simp only [Act.put, List.setIfInBounds_toArray, List.set_cons_zero, List.set_cons_succ]
            refine h_look (i := 8) rfl (by kernel_rfl) ?_ rfl (fun w' hS => ?_) L0.out ?_
            rotate_left
            · go_simp
              first | done | rfl
            simp only [Act.put, List.setIfInBounds_toArray, List.set_cons_zero, List.set_cons_succ]
            refine h_look (i := 9) rfl (by kernel_rfl) ?_ rfl (fun w' hS => ?_) L0.out ?_
            rotate_left
            · go_simp
              first | done | rfl
            simp only [Act.put, List.setIfInBounds_toArray, List.set_cons_zero, List.set_cons_succ]
            refine h_look (i := 11) rfl (by kernel_rfl) ?_ rfl (fun w' hS => ?_) L0.out ?_
            rotate_left
            · go_simp
              first | done | rfl
            simp only [Act.put, List.setIfInBounds_toArray, List.set_cons_zero, List.set_cons_succ]
            refine h_look (i := 12) rfl (by kernel_rfl) ?_ rfl (fun w' hS => ?_) L0.out ?_
            rotate_left
            · go_simp
              first | done | rfl
            simp only [Act.put, List.setIfInBounds_toArray, List.set_cons_zero, List.set_cons_succ]
            refine h_look (i := 13) rfl (by kernel_rfl) ?_ rfl (fun w' hS => ?_) L0.out ?_
            rotate_left
            · go_simp
              first | done | rfl
            simp only [Act.put, List.setIfInBounds_toArray, List.set_cons_zero, List.set_cons_succ]
            refine h_look (i := 14) rfl (by kernel_rfl) ?_ rfl (fun w' hS => ?_) L0.out ?_
            rotate_left
            · go_simp
              first | done | rfl
            simp only [Act.put, List.setIfInBounds_toArray, List.set_cons_zero, List.set_cons_succ]
            refine h_look (i := 15) rfl (by kernel_rfl) ?_ rfl (fun w' hS => ?_) L0.out ?_
            rotate_left
            · have r4 : w'.cell? ⟨g10, q * 6 + 4, none⟩ = some (.int .i64 x.d.wr) := hS 4 _ rfl
              go_simp
              first | done | rfl
            simp only [Act.put, List.setIfInBounds_toArray, List.set_cons_zero, List.set_cons_succ]
            refine h_one (i := 10) (by kernel_rfl) rfl rfl (fun K hK => ?_)
            go_simp
            refine (written_any (HX1.out.at_.below F0.out)).mono ?_
            rintro e w9 ⟨rfl, rfl⟩
            refine hK _ _ L0.out ?_
            clear hK K
            refine h_look (i := 16) rfl (by kernel_rfl) (.bool false) rfl (fun w' hS => ?_) L0.out ?_
            · have hh : (x.d.wr != x.d.wr) = false := by simp
              go_simp
              first | done | rfl | exact ⟨rfl, rfl⟩
            simp only [Act.put, List.setIfInBounds_toArray, List.set_cons_zero, List.set_cons_succ]
            refine h_look (i := 17) rfl (by kernel_rfl) ?_ rfl (fun w' hS => ?_) L0.out ?_
            rotate_left
            · go_simp
              first | done | rfl
            simp only [Act.put, List.setIfInBounds_toArray, List.set_cons_zero, List.set_cons_succ]
            refine h_look (i := 18) rfl (by kernel_rfl) ?_ rfl (fun w' hS => ?_) L0.out ?_
            rotate_left
            · go_simp
              first | done | rfl
            simp only [Act.put, List.setIfInBounds_toArray, List.set_cons_zero, List.set_cons_succ]
            refine h_look (i := 19) rfl (by kernel_rfl) ?_ rfl (fun w' hS => ?_) L0.out ?_
            rotate_left
            · go_simp
              first | done | rfl
            simp only [Act.put, List.setIfInBounds_toArray, List.set_cons_zero, List.set_cons_succ]
            refine h_look (i := 21) rfl (by kernel_rfl) ?_ rfl (fun w' hS => ?_) L0.out ?_
            rotate_left
            · go_simp
              first | done | rfl
            simp only [Act.put, List.setIfInBounds_toArray, List.set_cons_zero, List.set_cons_succ]
            refine h_one (i := 20) (by kernel_rfl) rfl rfl (fun K hK => ?_)
            go_simp
            have hsz := size_any (HX1.out.at_.below F0.out)
            rw [HX1.out.hn] at hsz
            refine (hsz).mono ?_
            rintro e w9 ⟨rfl, rfl⟩
            clear hsz
            refine hK _ _ L0.out ?_
            clear hK K
            refine h_look (i := 22) rfl (by kernel_rfl) (.bool false) rfl (fun w' hS => ?_) L0.out ?_
            · have hh : ((n : Int) != (n : Int)) = false := by simp
              go_simp
              first | done | rfl | exact ⟨rfl, rfl⟩
            simp only [Act.put, List.setIfInBounds_toArray, List.set_cons_zero, List.set_cons_succ]
            refine h_look (i := 23) rfl (by kernel_rfl) ?_ rfl (fun w' hS => ?_) L0.out ?_
            rotate_left
            · go_simp
              first | done | rfl
            simp only [Act.put, List.setIfInBounds_toArray, List.set_cons_zero, List.set_cons_succ]
            refine h_look (i := 24) rfl (by kernel_rfl) ?_ rfl (fun w' hS => ?_) L0.out ?_
            rotate_left
            · go_simp
              first | done | rfl
            simp only [Act.put, List.setIfInBounds_toArray, List.set_cons_zero, List.set_cons_succ]
            refine h_look (i := 25) rfl (by kernel_rfl) ?_ rfl (fun w' hS => ?_) L0.out ?_
            rotate_left
            · go_simp
              first | done | rfl
            simp only [Act.put, List.setIfInBounds_toArray, List.set_cons_zero, List.set_cons_succ]
            refine h_look (i := 28) rfl (by kernel_rfl) ?_ rfl (fun w' hS => ?_) L0.out ?_
            rotate_left
            · go_simp
              first | done | rfl
            simp only [Act.put, List.setIfInBounds_toArray, List.set_cons_zero, List.set_cons_succ]
            refine h_look (i := 29) rfl (by kernel_rfl) ?_ rfl (fun w' hS => ?_) L0.out ?_
            rotate_left
            · go_simp
              first | done | rfl
            simp only [Act.put, List.setIfInBounds_toArray, List.set_cons_zero, List.set_cons_succ]
            refine h_look (i := 30) rfl (by kernel_rfl) ?_ rfl (fun w' hS => ?_) L0.out ?_
            rotate_left
            · go_simp
              first | done | rfl
            simp only [Act.put, List.setIfInBounds_toArray, List.set_cons_zero, List.set_cons_succ]
            refine h_look (i := 31) rfl (by kernel_rfl) ?_ rfl (fun w' hS => ?_) L0.out ?_
            rotate_left
            · go_simp
              first | done | rfl
            simp only [Act.put, List.setIfInBounds_toArray, List.set_cons_zero, List.set_cons_succ]
            refine h_look (i := 32) rfl (by kernel_rfl) ?_ rfl (fun w' hS => ?_) L0.out ?_
            rotate_left
            · go_simp
              first | done | rfl
            simp only [Act.put, List.setIfInBounds_toArray, List.set_cons_zero, List.set_cons_succ]
            refine h_look (i := 33) rfl (by kernel_rfl) ?_ rfl (fun w' hS => ?_) L0.out ?_
            rotate_left
            · have r0 : w'.cell? ⟨g10, q * 6, none⟩ = some (.string ⟨x.d.a.toArray⟩) := hS 0 _ rfl
              go_simp
              first | done | rfl
            simp only [Act.put, List.setIfInBounds_toArray, List.set_cons_zero, List.set_cons_succ]
            refine h_one (i := 26) (by kernel_rfl) rfl rfl (fun K hK => ?_)
            go_simp
            refine (image_any 0 (HX1.out.at_.below F0.out)).mono ?_
            rintro e V1 ⟨v0, rfl, ho, hb⟩
            have F1 : Hid (Below W.heap.size W V1) := Lib.hid (b_then F0.out hb)
            have L1 : Hid ((fun w' : World => w'.rangeAt g10 (q * 6) (rcells x)) V1) := Lib.hid (range_below F1.out R0.out)
            have hcv : (convert 22 9 v0).run Try.prog V1 = .ok (.string ⟨x.d.a.toArray⟩) V1 := conv_own ho
            clear ho hb
            refine hK _ _ L1.out ?_
            clear hK K
            refine h_one (i := 27) (by kernel_rfl) rfl rfl (fun K hK => ?_)
            go_simp
            refine hK _ _ L1.out ?_
            clear hK K
            clear hcv
            refine h_look (i := 34) rfl (by kernel_rfl) (.bool false) rfl (fun w' hS => ?_) L1.out ?_
            · go_simp
              first | done | rfl | exact ⟨rfl, rfl⟩
            simp only [Act.put, List.setIfInBounds_toArray, List.set_cons_zero, List.set_cons_succ]
            refine h_look (i := 35) rfl (by kernel_rfl) ?_ rfl (fun w' hS => ?_) L1.out ?_
            rotate_left
            · go_simp
              first | done | rfl
            simp only [Act.put, List.setIfInBounds_toArray, List.set_cons_zero, List.set_cons_succ]
            refine h_look (i := 36) rfl (by kernel_rfl) ?_ rfl (fun w' hS => ?_) L1.out ?_
            rotate_left
            · go_simp
              first | done | rfl
            simp only [Act.put, List.setIfInBounds_toArray, List.set_cons_zero, List.set_cons_succ]
            refine h_look (i := 37) rfl (by kernel_rfl) ?_ rfl (fun w' hS => ?_) L1.out ?_
            rotate_left
            · go_simp
              first | done | rfl
            simp only [Act.put, List.setIfInBounds_toArray, List.set_cons_zero, List.set_cons_succ]
            refine h_look (i := 40) rfl (by kernel_rfl) ?_ rfl (fun w' hS => ?_) L1.out ?_
            rotate_left
            · go_simp
              first | done | rfl
            simp only [Act.put, List.setIfInBounds_toArray, List.set_cons_zero, List.set_cons_succ]
            refine h_look (i := 41) rfl (by kernel_rfl) ?_ rfl (fun w' hS => ?_) L1.out ?_
            rotate_left
            · go_simp
              first | done | rfl
            simp only [Act.put, List.setIfInBounds_toArray, List.set_cons_zero, List.set_cons_succ]
            refine h_look (i := 42) rfl (by kernel_rfl) ?_ rfl (fun w' hS => ?_) L1.out ?_
            rotate_left
            · go_simp
              first | done | rfl
            simp only [Act.put, List.setIfInBounds_toArray, List.set_cons_zero, List.set_cons_succ]
            refine h_look (i := 43) rfl (by kernel_rfl) ?_ rfl (fun w' hS => ?_) L1.out ?_
            rotate_left
            · go_simp
              first | done | rfl
            simp only [Act.put, List.setIfInBounds_toArray, List.set_cons_zero, List.set_cons_succ]
            refine h_look (i := 44) rfl (by kernel_rfl) ?_ rfl (fun w' hS => ?_) L1.out ?_
            rotate_left
            · go_simp
              first | done | rfl
            simp only [Act.put, List.setIfInBounds_toArray, List.set_cons_zero, List.set_cons_succ]
            refine h_look (i := 45) rfl (by kernel_rfl) ?_ rfl (fun w' hS => ?_) L1.out ?_
            rotate_left
            · have r1 : w'.cell? ⟨g10, q * 6 + 1, none⟩ = some (.string ⟨x.d.b.toArray⟩) := hS 1 _ rfl
              go_simp
              first | done | rfl
            simp only [Act.put, List.setIfInBounds_toArray, List.set_cons_zero, List.set_cons_succ]
            refine h_one (i := 38) (by kernel_rfl) rfl rfl (fun K hK => ?_)
            go_simp
            refine (image_any 1 (HX1.out.at_.below F1.out)).mono ?_
            rintro e V2 ⟨v1, rfl, ho, hb⟩
            have F2 : Hid (Below W.heap.size W V2) := Lib.hid (b_then F1.out hb)
            have L2 : Hid ((fun w' : World => w'.rangeAt g10 (q * 6) (rcells x)) V2) := Lib.hid (range_below F2.out R0.out)
            have hcv : (convert 22 9 v1).run Try.prog V2 = .ok (.string ⟨x.d.b.toArray⟩) V2 := conv_own ho
            clear ho hb
            refine hK _ _ L2.out ?_
            clear hK K
            refine h_one (i := 39) (by kernel_rfl) rfl rfl (fun K hK => ?_)
            go_simp
            refine hK _ _ L2.out ?_
            clear hK K
            clear hcv
            refine h_look (i := 46) rfl (by kernel_rfl) (.bool false) rfl (fun w' hS => ?_) L2.out ?_
            · go_simp
              first | done | rfl | exact ⟨rfl, rfl⟩
            simp only [Act.put, List.setIfInBounds_toArray, List.set_cons_zero, List.set_cons_succ]
            refine h_look (i := 47) rfl (by kernel_rfl) ?_ rfl (fun w' hS => ?_) L2.out ?_
            rotate_left
            · go_simp
              first | done | rfl
            simp only [Act.put, List.setIfInBounds_toArray, List.set_cons_zero, List.set_cons_succ]
            refine h_look (i := 48) rfl (by kernel_rfl) ?_ rfl (fun w' hS => ?_) L2.out ?_
            rotate_left
            · go_simp
              first | done | rfl
            simp only [Act.put, List.setIfInBounds_toArray, List.set_cons_zero, List.set_cons_succ]
            refine h_look (i := 49) rfl (by kernel_rfl) ?_ rfl (fun w' hS => ?_) L2.out ?_
            rotate_left
            · go_simp
              first | done | rfl
            simp only [Act.put, List.setIfInBounds_toArray, List.set_cons_zero, List.set_cons_succ]
            refine h_one (i := 50) (by kernel_rfl) rfl rfl (fun K hK => ?_)
            go_simp
            refine (image2 (HX1.out.at_.below F2.out)).mono ?_
            rintro e w9 ⟨rfl, rfl⟩
            refine hK _ _ L2.out ?_
            clear hK K
            refine h_look (i := 51) rfl (by kernel_rfl) ?_ rfl (fun w' hS => ?_) L2.out ?_
            rotate_left
            · go_simp
              first | done | rfl
            simp only [Act.put, List.setIfInBounds_toArray, List.set_cons_zero, List.set_cons_succ]
            refine h_look (i := 52) rfl (by kernel_rfl) (.bool false) rfl (fun w' hS => ?_) L2.out ?_
            · go_simp
              first | done | rfl | exact ⟨rfl, rfl⟩
            simp only [Act.put, List.setIfInBounds_toArray, List.set_cons_zero, List.set_cons_succ]
            refine h_look (i := 53) rfl (by kernel_rfl) ?_ rfl (fun w' hS => ?_) L2.out ?_
            rotate_left
            · go_simp
              first | done | rfl
            simp only [Act.put, List.setIfInBounds_toArray, List.set_cons_zero, List.set_cons_succ]
            refine h_end (by kernel_rfl) ?_
            go_wp2_with fail
            have HX2 := Lib.hid ((hB2.out.st.below F2.out).one q x HX.out)
            have HLL : Hid (x.ls.length ≤ 1000) := Lib.hid (by have h1 := HX2.out.hj; have h2 := HLEN.out; omega)
            refine (writes_any HX2.out.at_ x.ls HX2.out.lists HLL.out (fun l hl => Nat.le_trans (HX2.out.hb l hl) (by decide))).mono ?_
            rintro e W4 ⟨v, us, rfl, ho, hO, hb⟩
            obtain ⟨pv, cv, rfl⟩ := own_shape ho
            have F4 : Hid (Below W.heap.size W W4) := Lib.hid (b_then F2.out hb)
            have HV := Lib.hid ho
            have HO4 := Lib.hid hO
            have HX4 := Lib.hid ((hB2.out.st.below F4.out).one q x HX.out)
            have c5 : W4.cell? ⟨g10, q * 6 + 5, none⟩ = some (.slice x.p x.ls.length x.c) := (range_below F4.out R0.out) 5 _ rfl
            have hll : ((x.ls.length : Int) != (x.ls.length : Int)) = false := by simp
            clear ho hO hb
            go_wp2_with fail
            go_loopw [331] (fun j wq => ∃ r : Nat, r ≤ x.ls.length ∧ j = .int .i64 (r : Int) ∧ Hid (Below W4.heap.size W4 wq)) (fun j _ => x.ls.length - (intOf j).toNat)
            case atStart => exact ⟨0, Nat.zero_le _, rfl, Lib.hid (Below.refl _ _)⟩
            case round =>
              obtain ⟨r, hr, rfl, hb4⟩ := hrel
              clear c5
              have c5 : wr.cell? ⟨g10, q * 6 + 5, none⟩ = some (.slice x.p x.ls.length x.c) := (range_below (b_then F4.out hb4.out) R0.out) 5 _ rfl
              by_cases hrl : r < x.ls.length
              · obtain ⟨l, hl⟩ : ∃ l, x.ls[r]? = some l := ⟨_, List.getElem?_eq_getElem hrl⟩
                obtain ⟨u, hu⟩ : ∃ u, us[r]? = some u := ⟨_, List.getElem?_eq_getElem (by rw [HO4.out.1]; exact hrl)⟩
                have hcv : (convert 22 9 u).run Try.prog wr.drew = .ok (.string ⟨l.toArray⟩) wr.drew := conv_own (own_drew (own_below (HO4.out.2 r u l hu hl) hb4.out))
                have hsl : (strs x.ls)[r]? = some (.string ⟨l.toArray⟩) := by simp [strs, hl]
                obtain ⟨gv, hpv⟩ : ∃ gv, pv = some ⟨gv, 0, none⟩ := by
                  obtain ⟨_, h1 | ⟨gv, cap, cur, h1, _⟩⟩ := HV.out
                  · have := h1.2
                    omega
                  · injection h1 with h1
                    exact ⟨gv, h1⟩
                obtain ⟨gp, hpp⟩ : ∃ gp, x.p = some ⟨gp, 0, none⟩ := by
                  obtain ⟨_, h1 | ⟨gp, cap, cur, h1, _⟩⟩ := HX4.out.own9
                  · have := h1.2
                    omega
                  · injection h1 with h1
                    exact ⟨gp, h1⟩
                subst hpv
                have h9 := HX4.out.own9
                rw [hpp] at h9
                rw [hpp] at c5
                have cu : wr.cell? ⟨gv, r, none⟩ = some u := own_cell (own_below HV.out hb4.out) hu
                have cs : wr.cell? ⟨gp, r, none⟩ = some (.string ⟨l.toArray⟩) := own_cell (own_below h9 hb4.out) hsl
                have hr0 : (0 : Int) ≤ (r : Int) := by omega
                have hr1 : (r : Int) < (x.ls.length : Int) := by omega
                have HRR := Lib.hid (rnd hrl)
                have HWR := Lib.hid (inc_w (j := r) (by have h1 := HLL.out; omega))
                clear h9 hsl hl hu hpp hr
                go_upto_region 55 with fail
                have HS : Hid ((fun w' : World => w' = wr.drew) wr.drew) := Lib.hid rfl
                refine h_region (fun w' : World => w' = wr.drew) 14 (by kernel_rfl) (by kernel_rfl) ?_
                refine h_look (i := 0) rfl (by kernel_rfl) ?_ rfl (fun w' hS => ?_) HS.out ?_
                rotate_left
                · obtain rfl := hS
                  go_simp
                  first | done | rfl
                simp only [Act.put, List.setIfInBounds_toArray, List.set_cons_zero, List.set_cons_succ]
                refine h_look (i := 1) rfl (by kernel_rfl) ?_ rfl (fun w' hS => ?_) HS.out ?_
                rotate_left
                · obtain rfl := hS
                  go_simp
                  first | done | rfl
                simp only [Act.put, List.setIfInBounds_toArray, List.set_cons_zero, List.set_cons_succ]
                refine h_look (i := 2) rfl (by kernel_rfl) ?_ rfl (fun w' hS => ?_) HS.out ?_
                rotate_left
                · obtain rfl := hS
                  go_simp
                  first | done | rfl
                simp only [Act.put, List.setIfInBounds_toArray, List.set_cons_zero, List.set_cons_succ]
                refine h_look (i := 3) rfl (by kernel_rfl) ?_ rfl (fun w' hS => ?_) HS.out ?_
                rotate_left
                · obtain rfl := hS
                  go_simp
                  first | done | rfl
                simp only [Act.put, List.setIfInBounds_toArray, List.set_cons_zero, List.set_cons_succ]
                refine h_look (i := 4) rfl (by kernel_rfl) ?_ rfl (fun w' hS => ?_) HS.out ?_
                rotate_left
                · obtain rfl := hS
                  go_simp
                  first | done | rfl
                simp only [Act.put, List.setIfInBounds_toArray, List.set_cons_zero, List.set_cons_succ]
                refine h_look (i := 5) rfl (by kernel_rfl) ?_ rfl (fun w' hS => ?_) HS.out ?_
                rotate_left
                · obtain rfl := hS
                  go_simp
                  first | done | rfl
                simp only [Act.put, List.setIfInBounds_toArray, List.set_cons_zero, List.set_cons_succ]
                refine h_look (i := 6) rfl (by kernel_rfl) ?_ rfl (fun w' hS => ?_) HS.out ?_
                rotate_left
                · obtain rfl := hS
                  go_simp
                  first | done | rfl
                simp only [Act.put, List.setIfInBounds_toArray, List.set_cons_zero, List.set_cons_succ]
                refine h_look (i := 7) rfl (by kernel_rfl) ?_ rfl (fun w' hS => ?_) HS.out ?_
                rotate_left
                · obtain rfl := hS
                  go_simp
                  first | done | rfl
                simp only [Act.put, List.setIfInBounds_toArray, List.set_cons_zero, List.set_cons_succ]
                refine h_look (i := 8) rfl (by kernel_rfl) ?_ rfl (fun w' hS => ?_) HS.out ?_
                rotate_left
                · obtain rfl := hS
                  go_simp
                  first | done | rfl
                simp only [Act.put, List.setIfInBounds_toArray, List.set_cons_zero, List.set_cons_succ]
                refine h_look (i := 9) rfl (by kernel_rfl) ?_ rfl (fun w' hS => ?_) HS.out ?_
                rotate_left
                · obtain rfl := hS
                  go_simp
                  first | done | rfl
                simp only [Act.put, List.setIfInBounds_toArray, List.set_cons_zero, List.set_cons_succ]
                refine h_look (i := 10) rfl (by kernel_rfl) ?_ rfl (fun w' hS => ?_) HS.out ?_
                rotate_left
                · obtain rfl := hS
                  go_simp
                  first | done | rfl
                simp only [Act.put, List.setIfInBounds_toArray, List.set_cons_zero, List.set_cons_succ]
                refine h_look (i := 11) rfl (by kernel_rfl) ?_ rfl (fun w' hS => ?_) HS.out ?_
                rotate_left
                · obtain rfl := hS
                  go_simp
                  first | done | rfl
                simp only [Act.put, List.setIfInBounds_toArray, List.set_cons_zero, List.set_cons_succ]
                refine h_look (i := 12) rfl (by kernel_rfl) ?_ rfl (fun w' hS => ?_) HS.out ?_
                rotate_left
                · obtain rfl := hS
                  go_simp
                  first | done | rfl
                simp only [Act.put, List.setIfInBounds_toArray, List.set_cons_zero, List.set_cons_succ]
                refine h_look (i := 13) rfl (by kernel_rfl) (.bool false) rfl (fun w' hS => ?_) HS.out ?_
                · obtain rfl := hS
                  go_simp
                  first | done | rfl | exact ⟨rfl, rfl⟩
                simp only [Act.put, List.setIfInBounds_toArray, List.set_cons_zero, List.set_cons_succ]
                refine h_end (by kernel_rfl) ?_
                go_wp2_with fail
                rw [HWR.out]
                go_roundw
                case rel => exact ⟨r + 1, HRR.out.1, rfl, Lib.hid (b_drew hb4.out)⟩
                case measure => exact HRR.out.2
              · obtain rfl : r = x.ls.length := by omega
                go_wp2_with fail
                go_roundw
                case rel => exact ⟨q + 1, HR.out.1, by go_num, Lib.hid (hB2.out.below (b_then F4.out hb4.out)), Lib.hid (b_then hbel2.out (b_then F4.out hb4.out))⟩
                case measure => exact HR.out.2
          · go_wp2_with fail
            go_ret
            exact ⟨rfl, hbel2.out⟩
end Go.Proofs.Ytijcdpefcdgklaa.Di
