/- The document's disks: what is not written, by walks. -/
import Derived.Test.YtijcdpefcdgklaaEc
namespace Go.Proofs.Ytijcdpefcdgklaa.Di
open Go.RowKit K

theorem results_w20 {W : World} {g : Nat} {s0 s1 : ByteArray} {l : Int} {o : Bool} {n : Int} {p : Option Addr} {k c : Nat} {t : Value} {tmps : Array Value} (h : W.heap[g]? = some (.cells (rvc s0 s1 l o n p k c) 44 (0, 0))) (e4 : tmps.getD 6 undef = .pointer (some ⟨g, 0, none⟩) := by rfl) (e5 : tmps.getD 7 undef = t := by rfl) :
    (results Try.f20 tmps).run Try.prog W = .ok (.tuple #[rv s0 s1 l o n p k c, t]) W := by
  have h' := run_loadVar_row (P := Try.prog) W g 44 44 _ (0, 0) _ h Try.underlying44 rfl rfl
  have e4' : tmps[6]?.getD undef = .pointer (some ⟨g, 0, none⟩) := by simpa using e4
  have e5' : tmps[7]?.getD undef = t := by simpa using e5
  simp [results, Try.results20, e4', e5', asAddr, h', rv]
set_option maxHeartbeats 4000000 in
set_option maxRecDepth 100000 in
theorem rwrite_off (w : World) (s0 s1 : ByteArray) (l : Int) (n : Int) (p : Option Addr) (k c : Nat) (slot : Int) (b : ByteArray) : Calls Try.prog 20 #[rv s0 s1 l true n p k c, .int .i64 slot, .string b] w (RetB w (.tuple #[rv s0 s1 l true n p k c, .int .i64 26])) := by
  unfold rv rvc
  go_enter Try.func20, Try.ntmps20
  go_wp2_with fail
  exact bodyPost_ret (results_w20 (g := w.heap.size + 1) (s0 := s0) (s1 := s1) (l := l) (o := true) (n := n) (p := p) (k := k) (c := c) (blk_new (by simp))) rfl ⟨rfl, b_alloc (b_alloc (Below.refl _ _) _) _⟩
set_option maxHeartbeats 4000000 in
set_option maxRecDepth 100000 in
theorem rwrite_no (w : World) (s0 s1 : ByteArray) (l : Int) (n : Int) (p : Option Addr) (k c : Nat) (slot : Int) (b : ByteArray) (h : (slot ≠ 0 ∧ slot ≠ 1) ∨ s0.size < b.size) : Calls Try.prog 20 #[rv s0 s1 l false n p k c, .int .i64 slot, .string b] w (RetB w (.tuple #[rv s0 s1 l false n p k c, .int .i64 2])) := by
  unfold rv rvc
  by_cases h0 : slot ≠ 0 ∧ slot ≠ 1
  · obtain ⟨h1, h2⟩ := h0
    clear h
    go_enter Try.func20, Try.ntmps20
    go_wp2_with fail
    exact bodyPost_ret (results_w20 (g := w.heap.size + 1) (s0 := s0) (s1 := s1) (l := l) (o := false) (n := n) (p := p) (k := k) (c := c) (blk_new (by simp))) rfl ⟨rfl, b_alloc (b_alloc (Below.refl _ _) _) _⟩
  · have hs : s0.size < b.size := h.resolve_left h0
    have hsi : (s0.size : Int) < (b.size : Int) := by omega
    have h01 : slot = 0 ∨ slot = 1 := by omega
    clear h h0
    rcases h01 with rfl | rfl
    · go_enter Try.func20, Try.ntmps20
      go_wp2_with fail
      exact bodyPost_ret (results_w20 (g := w.heap.size + 1) (s0 := s0) (s1 := s1) (l := l) (o := false) (n := n) (p := p) (k := k) (c := c) (blk_new (by simp))) rfl ⟨rfl, b_alloc (b_alloc (Below.refl _ _) _) _⟩
    · go_enter Try.func20, Try.ntmps20
      go_wp2_with fail
      exact bodyPost_ret (results_w20 (g := w.heap.size + 1) (s0 := s0) (s1 := s1) (l := l) (o := false) (n := n) (p := p) (k := k) (c := c) (blk_new (by simp))) rfl ⟨rfl, b_alloc (b_alloc (Below.refl _ _) _) _⟩
end Go.Proofs.Ytijcdpefcdgklaa.Di
