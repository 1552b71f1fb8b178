/- The document's disks: new, armed, up again, by walks. -/
import Derived.Test.YtijcdpefcdgklaaGf
namespace Go.Proofs.Ytijcdpefcdgklaa.Di
open Go.RowKit K

/-- The document's disk as a value. -/
def rvc (s0 s1 : ByteArray) (l : Int) (o : Bool) (n : Int) (p : Option Addr) (k c : Nat) : Array Value := #[.string s0, .string s1, .int .i64 l, .bool o, .int .i64 n, .slice p k c]
def rv (s0 s1 : ByteArray) (l : Int) (o : Bool) (n : Int) (p : Option Addr) (k c : Nat) : Value := .agg (rvc s0 s1 l o n p k c)
/-- A value comes back, and below all that stood nothing has turned. -/
def RetB (w : World) (v : Value) (e : Ending) (w' : World) : Prop := e = .returned v ∧ Below w.heap.size w w'
set_option maxHeartbeats 4000000 in
set_option maxRecDepth 100000 in
theorem rup_any (w : World) (s0 s1 : ByteArray) (l : Int) (o : Bool) (n : Int) (p : Option Addr) (k c : Nat) : Calls Try.prog 19 #[rv s0 s1 l o n p k c] w (RetB w (rv s0 s1 (-1) false n p k c)) := by
  unfold rv rvc
  go_enter Try.func19, Try.ntmps19
  go_wp2_with fail
  exact bodyPost_ret (results_cell_row Try.results19 _ _ (w.heap.size + 1) 44 (rvc s0 s1 (-1) false n p k c) (0, 0) _ rfl (blk_new (by simp)) Try.underlying44 rfl rfl) rfl ⟨rfl, b_alloc (b_alloc (Below.refl _ _) _) _⟩
set_option maxHeartbeats 4000000 in
set_option maxRecDepth 100000 in
theorem rarm_any (w : World) (s0 s1 : ByteArray) (l : Int) (o : Bool) (n : Int) (p : Option Addr) (k c : Nat) (m : Int) : Calls Try.prog 18 #[rv s0 s1 l o n p k c, .int .i64 m] w (RetB w (rv s0 s1 (if m < 0 then -1 else m) o n p k c)) := by
  unfold rv rvc
  by_cases hm : m < 0
  · rw [if_pos hm]
    go_enter Try.func18, Try.ntmps18
    go_wp2_with fail
    exact bodyPost_ret (results_cell_row Try.results18 _ _ (w.heap.size + 1) 44 (rvc s0 s1 (-1) o n p k c) (0, 0) _ rfl (blk_new (by simp)) Try.underlying44 rfl rfl) rfl ⟨rfl, b_alloc (b_alloc (Below.refl _ _) _) _⟩
  · rw [if_neg hm]
    go_enter Try.func18, Try.ntmps18
    go_wp2_with fail
    exact bodyPost_ret (results_cell_row Try.results18 _ _ (w.heap.size + 1) 44 (rvc s0 s1 m o n p k c) (0, 0) _ rfl (blk_new (by simp)) Try.underlying44 rfl rfl) rfl ⟨rfl, b_alloc (b_alloc (Below.refl _ _) _) _⟩
/-- So many nought bytes, as a text. -/
def zt (n : Nat) : ByteArray := ⟨(zs n).toArray⟩
theorem zs_len (n : Nat) : (zs n).length = n := by simp [zs]
theorem conv_zt (w : World) (n : Nat) : (convert 22 9 (.slice (some ⟨w.heap.size, 0, none⟩) n n)).run Try.prog (w.alloc (.cells (bys (zs n)).toArray 5)) = .ok (.string (zt n)) (w.alloc (.cells (bys (zs n)).toArray 5)) := by
  have h := run_convert_bytes_back (P := Try.prog) (w.alloc (.cells (bys (zs n)).toArray 5)) 22 9 5 ⟨w.heap.size, 0, none⟩ n (zs n) Try.underlying22 Try.underlying5 Try.underlying9 (fun j hj => by
    have e1 : (⟨w.heap.size, 0, none⟩ : Addr).add j = ⟨w.heap.size, j, none⟩ := by unfold Addr.add; split <;> simp_all
    rw [e1, cell_of_row _ _ _ _ _ _ (blk_new rfl)]
    simpa using bys_get hj)
  rw [zs_len] at h
  exact h
theorem conv_zt2 (w : World) (x : Obj) (n : Nat) : (convert 22 9 (.slice (some ⟨w.heap.size + 1, 0, none⟩) n n)).run Try.prog ((w.alloc x).alloc (.cells (bys (zs n)).toArray 5)) = .ok (.string (zt n)) ((w.alloc x).alloc (.cells (bys (zs n)).toArray 5)) := by
  have h := conv_zt (w.alloc x) n
  rw [show (w.alloc x).heap.size = w.heap.size + 1 by simp] at h
  exact h
attribute [local go_sem ↓] conv_zt2 make22
set_option maxHeartbeats 4000000 in
set_option maxRecDepth 100000 in
theorem rnew_any (w : World) (n : Nat) (hn : n ≤ 262144) : Calls Try.prog 17 #[.int .i64 n] w (RetB w (rv (zt n) (zt n) (-1) false 0 none 0 0)) := by
  go_enter Try.func17, Try.ntmps17
  go_wp2_with fail
  exact bodyPost_ret (results_cell_row Try.results17 _ _ w.heap.size 44 (rvc (zt n) (zt n) (-1) false 0 none 0 0) (0, 0) _ rfl (blk_alloc (blk_new rfl) _) Try.underlying44 rfl rfl) rfl ⟨rfl, b_alloc (b_alloc (Below.refl _ _) _) _⟩
/-- Returns a copy of a list of slices. -/
def CloneVs (w : World) (vs : List Value) (e : Ending) (w' : World) : Prop := ∃ v, e = .returned v ∧ w'.ownsRow w.heap.size 22 1 v vs.length vs ∧ Below w.heap.size w w'
theorem own_empty22 {w : World} : (w.alloc (.cells #[] 22)).ownsRow w.heap.size 22 1 (.slice (some ⟨w.heap.size, 0, none⟩) 0 0) 0 [] :=
  ⟨by simp, Or.inr ⟨_, 0, #[], rfl, Nat.le_refl _, blk_new rfl, Nat.le_refl _, by unfold maxLen; omega, by simp, by simp⟩⟩
attribute [local go_sem ↓] eq37 eq37n
set_option maxHeartbeats 4000000 in
set_option maxRecDepth 100000 in
theorem clone37_any (w : World) (base : Nat) (v : Value) (vs : List Value) (h : w.ownsRow base 22 1 v vs.length vs) (h1 : ∀ u ∈ vs, u.oneCell' = true) (hl : vs.length ≤ 1000) : Calls Try.prog 23 #[v] w (CloneVs w vs) := by
  obtain ⟨n, hn⟩ : ∃ n, vs.length = n := ⟨_, rfl⟩
  have H := Lib.hid h
  have H1 := Lib.hid h1
  have HN := Lib.hid hn
  have HL : Hid (n ≤ 1000) := Lib.hid (by omega)
  obtain ⟨hx, h2 | ⟨g, cap, cur, rfl, hb, hg, hc, hm, hs, ht⟩⟩ := h
  · obtain ⟨rfl, h2⟩ := h2
    clear hx
    obtain rfl : vs = [] := List.length_eq_zero_iff.1 h2
    clear hn h1 hl
    go_enter Try.func23, Try.ntmps23
    go_wp2_with fail
    go_ret
    exact ⟨_, rfl, own_nil _ _ _ _, Below.refl _ _⟩
  · rw [hn] at H
    rw [hn]
    have HC := Lib.hid (H.out.cells (g := g) rfl)
    clear hb hg hc hm hs ht h1 hl hn hx
    go_enter Try.func23, Try.ntmps23
    go_upto_region 3 with fail
    refine wp_region_lit ?_
    refine wpList_plain rfl (fun K hK => ?_)
    go_simp
    refine hK _ _ ?_
    clear hK K
    refine wpList_plain rfl (fun K hK => ?_)
    go_simp
    refine hK _ _ ?_
    clear hK K
    by_cases h0 : n = 0
    · subst h0
      obtain rfl : vs = [] := List.length_eq_zero_iff.1 HN.out
      have hr : (Builtin.append_ #[37, 37] 37 #[.slice (some ⟨w.heap.size, 0, none⟩) 0 0, .slice (some ⟨g, 0, none⟩) 0 cap]).run Try.prog (w.alloc (.cells #[] 22)) = .ok (.slice (some ⟨w.heap.size, 0, none⟩) 0 0) (w.alloc (.cells #[] 22)) := by
        have := Try.underlying37
        obtain ⟨i, hi, hz⟩ := Option.map_eq_some_iff.1 info22
        simp [Builtin.append_, run_underlying this, sizeOf, typeInfo, hi, Builtin.lenOf, Builtin.firstCells, storeCells, loadCells, loadCellsFrom]
      have HR := Lib.hid hr
      clear hr
      refine wpList_app0 rfl _ _ 37 rfl _ _ rfl rfl HR.out ?_
      go_wp2_with fail
      go_ret
      exact ⟨_, rfl, own_empty22, b_alloc (Below.refl _ _) _⟩
    · refine wpList_app _ rfl _ _ _ rfl w.heap.size 22 (.slice none 0 0) 1 24 Try.underlying37 info22 rfl (by decide) (.slice (some ⟨w.heap.size, 0, none⟩) 0 0) 0 [] rfl ⟨g, 0, none⟩ n cap vs rfl (by rw [HN.out, Nat.mul_one]) H1.out (by omega) (by have := HL.out; unfold maxLen; omega) (by have := HL.out; omega) own_empty22 ?_ (by simp) ?_
      · intro j u hj
        have h5 := HC.out j u hj
        rw [Below.cell (b_alloc (Below.refl w.heap.size w) _) (cell_lt h5)]
        exact h5
      · intro g2 cap2 w' hA
        have HA := Lib.hid hA
        clear hA
        rw [Nat.zero_add] at HA ⊢
        go_wp2_with fail
        go_ret
        refine ⟨_, rfl, ?_, HA.out.below (b_alloc (Below.refl _ _) _) (Nat.le_refl _)⟩
        have := HA.out.own
        rw [Nat.zero_add, List.nil_append] at this
        rw [HN.out]
        exact this
end Go.Proofs.Ytijcdpefcdgklaa.Di
