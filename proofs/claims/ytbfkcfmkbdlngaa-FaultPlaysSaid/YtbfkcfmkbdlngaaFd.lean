/- Contracts of the reference's plans, by walks. -/
import Derived.Test.YtbfkcfmkbdlngaaFb
import Derived.Test.YtbfkcfmkbdlngaaKit
namespace Go.Proofs.Ytbfkcfmkbdlngaa.Fa
open Go.RowKit K

def pv (a f t : Int) (d : Bool) : Value := .agg #[.int .i64 a, .int .i64 f, .int .i64 t, .bool d]
set_option maxHeartbeats 400000 in
theorem rnew_any (w : World)  : Calls Try.prog 12 #[] w fun e w' => e = .returned (pv (-1) 0 0 false) ∧ Below w.heap.size w w' := by
  unfold pv
  go_enter Try.func12, Try.ntmps12
  go_wp2
  refine bodyPost_ret (v := pv (-1) 0 0 false) (by simp [results, Try.results12, go_sem, pv]) rfl ⟨rfl, (by repeat (with_reducible (first | exact Below.refl _ _ | refine b_alloc ?_ _ | refine b_drew ?_ | (refine b_set ?_ (by simp) _))))⟩
set_option maxHeartbeats 400000 in
theorem rup_any (w : World) (a f t : Int) (d : Bool) : Calls Try.prog 16 #[pv a f t d] w fun e w' => e = .returned (pv (-1) 0 t false) ∧ Below w.heap.size w w' := by
  unfold pv
  go_enter Try.func16, Try.ntmps16
  go_wp2
  refine bodyPost_ret (v := pv (-1) 0 t false) (by simp [results, Try.results16, go_sem, pv]) rfl ⟨rfl, (by repeat (with_reducible (first | exact Below.refl _ _ | refine b_alloc ?_ _ | refine b_drew ?_ | (refine b_set ?_ (by simp) _))))⟩
set_option maxHeartbeats 1000000 in
theorem rarm_any (w : World) (a f t : Int) (d : Bool) (n : Int) : Calls Try.prog 13 #[pv a f t d, .int .i64 n] w fun e w' => e = .returned (pv (armA n) f t d) ∧ Below w.heap.size w w' := by
  unfold pv
  rcases Int.lt_or_le n (-1) with hn | hn
  · have e1 : armA n = -1 := by unfold armA; rw [if_pos (by omega)]
    rw [e1]
    clear e1
    go_enter Try.func13, Try.ntmps13
    go_wp2
    refine bodyPost_ret (v := pv (-1) f t d) (by simp [results, Try.results13, go_sem, pv]) rfl ⟨rfl, (by repeat (with_reducible (first | exact Below.refl _ _ | refine b_alloc ?_ _ | refine b_drew ?_ | (refine b_set ?_ (by simp) _))))⟩
  rcases Int.lt_or_le n 0 with hm | hm
  · obtain rfl : n = -1 := by omega
    have e1 : armA (-1) = -1 := rfl
    rw [e1]
    clear e1
    go_enter Try.func13, Try.ntmps13
    go_wp2
    refine bodyPost_ret (v := pv (-1) f t d) (by simp [results, Try.results13, go_sem, pv]) rfl ⟨rfl, (by repeat (with_reducible (first | exact Below.refl _ _ | refine b_alloc ?_ _ | refine b_drew ?_ | (refine b_set ?_ (by simp) _))))⟩
  · have e1 : armA n = n := by unfold armA; rw [if_neg (by omega)]
    rw [e1]
    clear e1
    go_enter Try.func13, Try.ntmps13
    go_wp2
    refine bodyPost_ret (v := pv n f t d) (by simp [results, Try.results13, go_sem, pv]) rfl ⟨rfl, (by repeat (with_reducible (first | exact Below.refl _ _ | refine b_alloc ?_ _ | refine b_drew ?_ | (refine b_set ?_ (by simp) _))))⟩
set_option maxHeartbeats 1000000 in
theorem rfail_any (w : World) (a f t : Int) (d : Bool) (n : Int) : Calls Try.prog 14 #[pv a f t d, .int .i64 n] w fun e w' => e = .returned (pv a (failF n) t d) ∧ Below w.heap.size w w' := by
  unfold pv
  rcases Int.lt_or_le n 0 with hn | hn
  · have e1 : failF n = 0 := by unfold failF; rw [if_pos hn]
    rw [e1]
    clear e1
    go_enter Try.func14, Try.ntmps14
    go_wp2
    refine bodyPost_ret (v := pv a 0 t d) (by simp [results, Try.results14, go_sem, pv]) rfl ⟨rfl, (by repeat (with_reducible (first | exact Below.refl _ _ | refine b_alloc ?_ _ | refine b_drew ?_ | (refine b_set ?_ (by simp) _))))⟩
  rcases Int.lt_or_le 1000 n with hm | hm
  · have e1 : failF n = 1000 := by unfold failF; rw [if_neg (by omega), if_pos hm]
    rw [e1]
    clear e1
    go_enter Try.func14, Try.ntmps14
    go_wp2
    refine bodyPost_ret (v := pv a 1000 t d) (by simp [results, Try.results14, go_sem, pv]) rfl ⟨rfl, (by repeat (with_reducible (first | exact Below.refl _ _ | refine b_alloc ?_ _ | refine b_drew ?_ | (refine b_set ?_ (by simp) _))))⟩
  · have e1 : failF n = n := by unfold failF; rw [if_neg (by omega), if_neg (by omega)]
    rw [e1]
    clear e1
    go_enter Try.func14, Try.ntmps14
    go_wp2
    refine bodyPost_ret (v := pv a n t d) (by simp [results, Try.results14, go_sem, pv]) rfl ⟨rfl, (by repeat (with_reducible (first | exact Below.refl _ _ | refine b_alloc ?_ _ | refine b_drew ?_ | (refine b_set ?_ (by simp) _))))⟩
set_option maxHeartbeats 400000 in
theorem rtry_down (w : World) (a f t : Int) : Calls Try.prog 19 #[pv a f t true] w fun e w' => e = .returned (.tuple #[pv a f t true, .int .i64 26]) ∧ Below w.heap.size w w' := by
  unfold pv
  go_enter Try.func19, Try.ntmps19
  go_wp2
  refine bodyPost_ret (v := .tuple #[pv a f t true, .int .i64 26]) (by simp [results, Try.results19, go_sem, pv]) rfl ⟨rfl, (by repeat (with_reducible (first | exact Below.refl _ _ | refine b_alloc ?_ _ | refine b_drew ?_ | (refine b_set ?_ (by simp) _))))⟩
set_option maxHeartbeats 400000 in
theorem rtry_gone (w : World) (f t : Int) : Calls Try.prog 19 #[pv 0 f t false] w fun e w' => e = .returned (.tuple #[pv 0 f t true, .int .i64 26]) ∧ Below w.heap.size w w' := by
  unfold pv
  go_enter Try.func19, Try.ntmps19
  go_wp2
  refine bodyPost_ret (v := .tuple #[pv 0 f t true, .int .i64 26]) (by simp [results, Try.results19, go_sem, pv]) rfl ⟨rfl, (by repeat (with_reducible (first | exact Below.refl _ _ | refine b_alloc ?_ _ | refine b_drew ?_ | (refine b_set ?_ (by simp) _))))⟩
set_option maxHeartbeats 4000000 in
theorem rtry_up (w : World) (a f t : Int) (ha : -1 ≤ a ∧ a ≤ 9223372036854775807) (hf : 0 ≤ f ∧ f ≤ 1000) (h0 : ¬ a = 0) : Calls Try.prog 19 #[pv a f t false] w fun e w' => e = .returned (.tuple #[pv (upA a) (upF f) (wrap64 (t + 1)) false, .int .i64 (upE f)]) ∧ Below w.heap.size w w' := by
  unfold pv
  have hz : (a == 0) = false := by simpa using h0
  clear h0
  rcases Int.lt_or_le 0 a with p | p
  · rcases Int.lt_or_le 0 f with q | q
    · have hq : (f == 0) = false := by simp; omega
      have e1 : upA a = a - 1 := by unfold upA; rw [if_pos p]
      have e2 : upF f = f - 1 := by unfold upF; rw [if_pos q]
      have e3 : upE f = 25 := by unfold upE; rw [if_pos q]
      rw [e1, e2, e3]
      clear e1 e2 e3
      go_enter Try.func19, Try.ntmps19
      go_wp2
      refine bodyPost_ret (v := .tuple #[pv (a - 1) (f - 1) (wrap64 (t + 1)) false, .int .i64 25]) (by simp [results, Try.results19, go_sem, pv]) rfl ⟨rfl, (by repeat (with_reducible (first | exact Below.refl _ _ | refine b_alloc ?_ _ | refine b_drew ?_ | (refine b_set ?_ (by simp) _))))⟩
    obtain rfl : f = 0 := by omega
    have e1 : upA a = a - 1 := by unfold upA; rw [if_pos p]
    have e2 : upF 0 = 0 := rfl
    have e3 : upE 0 = 0 := rfl
    rw [e1, e2, e3]
    clear e1 e2 e3
    go_enter Try.func19, Try.ntmps19
    go_wp2
    refine bodyPost_ret (v := .tuple #[pv (a - 1) 0 (wrap64 (t + 1)) false, .int .i64 0]) (by simp [results, Try.results19, go_sem, pv]) rfl ⟨rfl, (by repeat (with_reducible (first | exact Below.refl _ _ | refine b_alloc ?_ _ | refine b_drew ?_ | (refine b_set ?_ (by simp) _))))⟩
  · rcases Int.lt_or_le 0 f with q | q
    · have hq : (f == 0) = false := by simp; omega
      have e1 : upA a = a := by unfold upA; rw [if_neg (by omega)]
      have e2 : upF f = f - 1 := by unfold upF; rw [if_pos q]
      have e3 : upE f = 25 := by unfold upE; rw [if_pos q]
      rw [e1, e2, e3]
      clear e1 e2 e3
      go_enter Try.func19, Try.ntmps19
      go_wp2
      refine bodyPost_ret (v := .tuple #[pv a (f - 1) (wrap64 (t + 1)) false, .int .i64 25]) (by simp [results, Try.results19, go_sem, pv]) rfl ⟨rfl, (by repeat (with_reducible (first | exact Below.refl _ _ | refine b_alloc ?_ _ | refine b_drew ?_ | (refine b_set ?_ (by simp) _))))⟩
    obtain rfl : f = 0 := by omega
    have e1 : upA a = a := by unfold upA; rw [if_neg (by omega)]
    have e2 : upF 0 = 0 := rfl
    have e3 : upE 0 = 0 := rfl
    rw [e1, e2, e3]
    clear e1 e2 e3
    go_enter Try.func19, Try.ntmps19
    go_wp2
    refine bodyPost_ret (v := .tuple #[pv a 0 (wrap64 (t + 1)) false, .int .i64 0]) (by simp [results, Try.results19, go_sem, pv]) rfl ⟨rfl, (by repeat (with_reducible (first | exact Below.refl _ _ | refine b_alloc ?_ _ | refine b_drew ?_ | (refine b_set ?_ (by simp) _))))⟩
theorem rtry_to (w : World) (a f t : Int) (d : Bool) (r a' f' t' : Int) (d' : Bool) (hf : Fits a f) (hr : tryR a f t d = (r, a', f', t', d')) :
    Calls Try.prog 19 #[pv a f t d] w fun e w' => e = .returned (.tuple #[pv a' f' t' d', .int .i64 r]) ∧ Below w.heap.size w w' := by
  unfold tryR at hr
  cases d with
  | true =>
    rw [if_pos (.inl rfl)] at hr
    simp only [Prod.mk.injEq] at hr
    obtain ⟨rfl, rfl, rfl, rfl, rfl⟩ := hr
    exact rtry_down w a f t
  | false =>
    by_cases h0 : a = 0
    · subst h0
      rw [if_pos (.inr rfl)] at hr
      simp only [Prod.mk.injEq] at hr
      obtain ⟨rfl, rfl, rfl, rfl, rfl⟩ := hr
      exact rtry_gone w f t
    · rw [if_neg (by simp [h0])] at hr
      simp only [Prod.mk.injEq] at hr
      obtain ⟨rfl, rfl, rfl, rfl, rfl⟩ := hr
      exact rtry_up w a f t hf.1 hf.2 h0
end Go.Proofs.Ytbfkcfmkbdlngaa.Fa
