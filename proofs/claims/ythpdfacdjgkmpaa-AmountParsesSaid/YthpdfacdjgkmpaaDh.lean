/- Wide numbers: order, lengths, products by a word: walks. -/
import Derived.Test.YthpdfacdjgkmpaaDg
import Derived.Laws.MathBits
import Derived.Laws.Bits64b
namespace Go.Proofs.Ythpdfacdjgkmpaa.Wi
open Go.RowKit K

def cmpI (x y : Int) : Int := if x < y then -1 else if y < x then 1 else 0
def uintV (a b : Int) : Value := if a = 0 then .tuple #[.int .u64 b, .bool true] else .tuple #[.int .u64 0, .bool false]
theorem and_mod (z : Int) : bits .and .u64 (z % 18446744073709551616) 4294967295 = z % 18446744073709551616 % 4294967296 := by
  exact and_low32 _ (by omega) (by omega)
set_option maxHeartbeats 4000000 in
theorem product_any (w : World) (x y : Int) (hx : U x) (hy : U y) : Calls Try.prog 54 #[.int .u64 x, .int .u64 y] w (Ret w (.agg #[.int .u64 (x * y / 18446744073709551616), .int .u64 (x * y % 18446744073709551616)])) := by
  unfold U at hx hy
  go_enter Try.func54, Try.ntmps54
  go_wp2
  refine bodyPost_ret (v := .agg #[.int .u64 (x * y / 18446744073709551616), .int .u64 (x * y % 18446744073709551616)]) ?_ rfl ⟨rfl, by (repeat (first | exact Below.refl _ _ | refine b_alloc ?_ _ | refine b_set ?_ (by first | exact Nat.le_refl _ | (simp; omega) | omega | simp) _ | refine b_drew ?_))⟩
  rw [← mul64_arith x y hx.1 hx.2 hy.1 hy.2]
  simp [results, Try.results54, go_sem, and_mod, and_low32 x hx.1 hx.2, and_low32 y hy.1 hy.2, wu64]
set_option maxHeartbeats 4000000 in
theorem compare_any (w : World) (a b c d : Int) (_ : U a) (hb : U b) (_ : U c) (hd : U d) : Calls Try.prog 23 #[wv a b, wv c d] w (Ret w (.int .i64 (cmpI (wval a b) (wval c d)))) := by
  unfold U at *
  unfold wv wval
  go_enter Try.func23, Try.ntmps23
  go_wp2
  all_goals unfold cmpI
  all_goals first
  | (rw [if_pos (by omega)]; refine bodyPost_ret (v := .int .i64 (-1)) (by simp [results, Try.results23, go_sem]; done) rfl ⟨rfl, by (repeat (first | exact Below.refl _ _ | refine b_alloc ?_ _ | refine b_set ?_ (by first | exact Nat.le_refl _ | (simp; omega) | omega | simp) _ | refine b_drew ?_))⟩)
  | (rw [if_neg (by omega), if_pos (by omega)]; refine bodyPost_ret (v := .int .i64 1) (by simp [results, Try.results23, go_sem]; done) rfl ⟨rfl, by (repeat (first | exact Below.refl _ _ | refine b_alloc ?_ _ | refine b_set ?_ (by first | exact Nat.le_refl _ | (simp; omega) | omega | simp) _ | refine b_drew ?_))⟩)
  | (rw [if_neg (by omega), if_neg (by omega)]; refine bodyPost_ret (v := .int .i64 0) (by simp [results, Try.results23, go_sem]; done) rfl ⟨rfl, by (repeat (first | exact Below.refl _ _ | refine b_alloc ?_ _ | refine b_set ?_ (by first | exact Nat.le_refl _ | (simp; omega) | omega | simp) _ | refine b_drew ?_))⟩)
theorem of1_any (w : World) (a : Int) : Calls Try.prog 25 #[.int .u64 a] w (Ret w (wv 0 a)) := by
  unfold wv
  go_enter Try.func25, Try.ntmps25
  go_wp2
  exact bodyPost_ret (v := .agg #[.int .u64 0, .int .u64 a]) (by simp [results, Try.results25, go_sem]; done) rfl ⟨rfl, by (repeat (first | exact Below.refl _ _ | refine b_alloc ?_ _ | refine b_set ?_ (by first | exact Nat.le_refl _ | (simp; omega) | omega | simp) _ | refine b_drew ?_))⟩
theorem uint_any (w : World) (a b : Int) : Calls Try.prog 48 #[wv a b] w (Ret w (uintV a b)) := by
  unfold wv
  go_enter Try.func48, Try.ntmps48
  go_wp2
  all_goals unfold uintV
  all_goals first
  | (rw [if_neg (by simpa using ‹(a != 0) = true›)]; exact bodyPost_ret (v := .tuple #[.int .u64 0, .bool false]) (by simp [results, Try.results48, go_sem]; done) rfl ⟨rfl, by (repeat (first | exact Below.refl _ _ | refine b_alloc ?_ _ | refine b_set ?_ (by first | exact Nat.le_refl _ | (simp; omega) | omega | simp) _ | refine b_drew ?_))⟩)
  | (rw [if_pos (by simpa using ‹(a != 0) = false›)]; exact bodyPost_ret (v := .tuple #[.int .u64 b, .bool true]) (by simp [results, Try.results48, go_sem]; done) rfl ⟨rfl, by (repeat (first | exact Below.refl _ _ | refine b_alloc ?_ _ | refine b_set ?_ (by first | exact Nat.le_refl _ | (simp; omega) | omega | simp) _ | refine b_drew ?_))⟩)
  | trace_state
end Go.Proofs.Ythpdfacdjgkmpaa.Wi
