/- Wide numbers: sums, differences, order, products, by walks. -/
import Derived.Test.YthpdfacdjgkmpaaDf
namespace Go.Proofs.Ythpdfacdjgkmpaa.Wi
open Go.RowKit K

def U (x : Int) : Prop := 0 ≤ x ∧ x < 18446744073709551616
def optV (X : Int) (ok : Prop) [Decidable ok] : Value := if ok then .tuple #[wv (X / 18446744073709551616) (X % 18446744073709551616), .bool true] else .tuple #[wv 0 0, .bool false]
def wval (h l : Int) : Int := h * 18446744073709551616 + l
theorem optV_yes {X : Int} {ok : Prop} [Decidable ok] {a b : Int} (h : ok) (hb : 0 ≤ b ∧ b < 18446744073709551616) (hX : X = a * 18446744073709551616 + b) : (Value.tuple #[.agg #[.int .u64 a, .int .u64 b], .bool true]) = optV X ok := by
  have e1 : X / 18446744073709551616 = a := by omega
  have e2 : X % 18446744073709551616 = b := by omega
  rw [optV, if_pos h, e1, e2, wv]
theorem optV_no {X : Int} {ok : Prop} [Decidable ok] (h : ¬ ok) : (Value.tuple #[.agg #[.int .u64 0, .int .u64 0], .bool false]) = optV X ok := by
  rw [optV, if_neg h, wv]
set_option maxHeartbeats 4000000 in
theorem add_any (w : World) (a b c d : Int) (ha : U a) (hb : U b) (hc : U c) (hd : U d) : Calls Try.prog 30 #[wv a b, wv c d] w (Ret w (optV (wval a b + wval c d) (wval a b + wval c d < 340282366920938463463374607431768211456))) := by
  unfold U at ha hb hc hd
  unfold wv wval
  go_enter Try.func30, Try.ntmps30
  go_wp2
  all_goals first
    | (refine bodyPost_ret (v := .tuple #[.agg #[.int .u64 0, .int .u64 0], .bool false]) (by simp [results, Try.results30, go_sem] <;> (first | omega | (simp only [wu64] at *; done) | (simp only [wu64] at *; omega))) rfl ⟨congrArg Ending.returned (optV_no (by (first | omega | (simp only [wu64] at *; done) | (simp only [wu64] at *; omega)))), by (repeat (first | exact Below.refl _ _ | refine b_alloc ?_ _ | refine b_set ?_ (by first | exact Nat.le_refl _ | (simp; omega) | omega | simp) _ | refine b_drew ?_))⟩)
    | (refine bodyPost_ret (v := .tuple #[.agg #[.int .u64 (IntKind.u64.wrap (IntKind.u64.wrap (a + c) + 1)), .int .u64 (IntKind.u64.wrap (b + d))], .bool true]) (by simp [results, Try.results30, go_sem] <;> (first | omega | (simp only [wu64] at *; done) | (simp only [wu64] at *; omega))) rfl ⟨congrArg Ending.returned (optV_yes (by (first | omega | (simp only [wu64] at *; done) | (simp only [wu64] at *; omega))) (by (first | omega | (simp only [wu64] at *; done) | (simp only [wu64] at *; omega))) (by (first | omega | (simp only [wu64] at *; done) | (simp only [wu64] at *; omega)))), by (repeat (first | exact Below.refl _ _ | refine b_alloc ?_ _ | refine b_set ?_ (by first | exact Nat.le_refl _ | (simp; omega) | omega | simp) _ | refine b_drew ?_))⟩)
    | (refine bodyPost_ret (v := .tuple #[.agg #[.int .u64 (IntKind.u64.wrap (IntKind.u64.wrap (a + c) + 0)), .int .u64 (IntKind.u64.wrap (b + d))], .bool true]) (by simp [results, Try.results30, go_sem] <;> (first | omega | (simp only [wu64] at *; done) | (simp only [wu64] at *; omega))) rfl ⟨congrArg Ending.returned (optV_yes (by (first | omega | (simp only [wu64] at *; done) | (simp only [wu64] at *; omega))) (by (first | omega | (simp only [wu64] at *; done) | (simp only [wu64] at *; omega))) (by (first | omega | (simp only [wu64] at *; done) | (simp only [wu64] at *; omega)))), by (repeat (first | exact Below.refl _ _ | refine b_alloc ?_ _ | refine b_set ?_ (by first | exact Nat.le_refl _ | (simp; omega) | omega | simp) _ | refine b_drew ?_))⟩)
set_option maxHeartbeats 4000000 in
theorem sub_any (w : World) (a b c d : Int) (ha : U a) (hb : U b) (hc : U c) (hd : U d) : Calls Try.prog 24 #[wv a b, wv c d] w (Ret w (optV (wval a b - wval c d) (wval c d ≤ wval a b))) := by
  unfold U at ha hb hc hd
  unfold wv wval
  go_enter Try.func24, Try.ntmps24
  go_wp2
  all_goals first
    | (refine bodyPost_ret (v := .tuple #[.agg #[.int .u64 0, .int .u64 0], .bool false]) (by simp [results, Try.results24, go_sem] <;> (first | omega | (simp only [wu64] at *; done) | (simp only [wu64] at *; omega))) rfl ⟨congrArg Ending.returned (optV_no (by (first | omega | (simp only [wu64] at *; done) | (simp only [wu64] at *; omega)))), by (repeat (first | exact Below.refl _ _ | refine b_alloc ?_ _ | refine b_set ?_ (by first | exact Nat.le_refl _ | (simp; omega) | omega | simp) _ | refine b_drew ?_))⟩)
    | (refine bodyPost_ret (v := .tuple #[.agg #[.int .u64 (a - c), .int .u64 ((b - d) % 18446744073709551616)], .bool true]) (by simp [results, Try.results24, go_sem] <;> (first | omega | (simp only [wu64] at *; done) | (simp only [wu64] at *; omega))) rfl ⟨congrArg Ending.returned (optV_yes (by (first | omega | (simp only at *; done) | (simp only [wu64] at *; omega))) (by (first | omega | (simp only [wu64] at *; done) | (simp only [wu64] at *; omega))) (by (first | omega | (simp only [wu64] at *; done) | (simp only [wu64] at *; omega)))), by (repeat (first | exact Below.refl _ _ | refine b_alloc ?_ _ | refine b_set ?_ (by first | exact Nat.le_refl _ | (simp; omega) | omega | simp) _ | refine b_drew ?_))⟩)
    | (refine bodyPost_ret (v := .tuple #[.agg #[.int .u64 (a - c - 1), .int .u64 ((b - d) % 18446744073709551616)], .bool true]) (by simp [results, Try.results24, go_sem] <;> (first | omega | (simp only [wu64] at *; done) | (simp only [wu64] at *; omega))) rfl ⟨congrArg Ending.returned (optV_yes (by (first | omega | (simp only [wu64] at *; done) | (simp only [wu64] at *; omega))) (by (first | omega | (simp only [wu64] at *; done) | (simp only [wu64] at *; omega))) (by (first | omega | (simp only [wu64] at *; done) | (simp only [wu64] at *; omega)))), by (repeat (first | exact Below.refl _ _ | refine b_alloc ?_ _ | refine b_set ?_ (by first | exact Nat.le_refl _ | (simp; omega) | omega | simp) _ | refine b_drew ?_))⟩)
    | (refine bodyPost_ret (v := .tuple #[.agg #[.int .u64 0, .int .u64 ((b - d) % 18446744073709551616)], .bool true]) (by simp [results, Try.results24, go_sem] <;> (first | omega | (simp only [wu64] at *; done) | (simp only [wu64] at *; omega))) rfl ⟨congrArg Ending.returned (optV_yes (by (first | omega | (simp only [wu64] at *; done) | (simp only [wu64] at *; omega))) (by (first | omega | (simp only [wu64] at *; done) | (simp only [wu64] at *; omega))) (by (first | omega | (simp only [wu64] at *; done) | (simp only [wu64] at *; omega)))), by (repeat (first | exact Below.refl _ _ | refine b_alloc ?_ _ | refine b_set ?_ (by first | exact Nat.le_refl _ | (simp; omega) | omega | simp) _ | refine b_drew ?_))⟩)
end Go.Proofs.Ythpdfacdjgkmpaa.Wi
