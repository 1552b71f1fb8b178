/- Contracts of package fault's methods, by walks. -/
import Derived.Test.YtbfkcfmkbdlngaaProg
import Derived.WalkKit
import Derived.WalkLawsBesides
import Derived.Below
import Derived.OwnWalk
import Derived.Lib.Hide
import Derived.KernelRfl
namespace Go.Proofs.Ytbfkcfmkbdlngaa.Fa
open Go.RowKit

/-- A plan lies at block g. -/
def Plan (w : World) (g : Nat) (a f t : Int) (d : Bool) : Prop :=
  w.heap[g]? = some (.cells #[.int .i64 a, .int .i64 f, .int .i64 t, .bool d] 44 (0, 0))

section
variable {w : World} {g : Nat} {a f t : Int} {d : Bool}
theorem Plan.cell (h : Plan w g a f t d) (i : Nat) : w.cell? ⟨g, i, none⟩ = (#[Value.int .i64 a, .int .i64 f, .int .i64 t, .bool d] : Array Value)[i]? := cell_of_row w g i _ _ _ h
theorem Plan.free (h : Plan w g a f t d) (i : Nat) : w.frozen? ⟨g, i, none⟩ = false := frozen_of_row w g i _ _ h
theorem Plan.lt (h : Plan w g a f t d) : g < w.heap.size := (Array.getElem?_eq_some_iff.1 h).1
theorem Plan.set0 (h : Plan w g a f t d) (x : Int) : Plan (w.setCell ⟨g, 0, none⟩ (.int .i64 x)) g x f t d := heap_setCell_same w g 0 _ _ _ h
theorem Plan.set1 (h : Plan w g a f t d) (x : Int) : Plan (w.setCell ⟨g, 1, none⟩ (.int .i64 x)) g a x t d := heap_setCell_same w g 1 _ _ _ h
theorem Plan.set2 (h : Plan w g a f t d) (x : Int) : Plan (w.setCell ⟨g, 2, none⟩ (.int .i64 x)) g a f x d := heap_setCell_same w g 2 _ _ _ h
theorem Plan.set3 (h : Plan w g a f t d) (x : Bool) : Plan (w.setCell ⟨g, 3, none⟩ (.bool x)) g a f t x := heap_setCell_same w g 3 _ _ _ h
theorem Plan.drew (h : Plan w g a f t d) : Plan w.drew g a f t d := h
theorem Plan.drewN (h : Plan w g a f t d) (n : Nat) : Plan (w.drewN n) g a f t d := h
theorem Plan.kept (h : Plan w g a f t d) {w' : World} {row : Option Nat} (hg : w.grownBy w' row) (hne : some g ≠ row) : Plan w' g a f t d := (hg.block g h.lt hne).trans h
theorem Plan.below (h : Plan w g a f t d) {w' : World} (hg : Below w.heap.size w w') : Plan w' g a f t d := (hg.block g h.lt).trans h
theorem Plan.alloc (h : Plan w g a f t d) (o : Obj) : Plan (w.alloc o) g a f t d := ((Below.heap_alloc w o g h.lt)).trans h
end
theorem gb_refl (w : World) (row : Option Nat) : w.grownBy w row := ⟨rfl, rfl, rfl, Nat.le_refl _, fun _ _ _ => rfl⟩
theorem gb_drew {w w' : World} {row : Option Nat} (h : w.grownBy w' row) : w.grownBy w'.drew row := ⟨h.os, h.tape, h.output, h.size, h.block⟩
theorem gb_set {w w' : World} {g : Nat} (h : w.grownBy w' (some g)) (i : Nat) (v : Value) : w.grownBy (w'.setCell ⟨g, i, none⟩ v) (some g) :=
  ⟨h.os, h.tape, h.output, by simp [World.setCell]; exact h.size, fun k hk hne => by
    rw [Below.heap_setCell _ _ _ _ (by intro e; exact hne (congrArg some e))]; exact h.block k hk hne⟩
theorem gb_alloc {w w' : World} {row : Option Nat} (h : w.grownBy w' row) (o : Obj) : w.grownBy (w'.alloc o) row :=
  ⟨h.os, h.tape, h.output, by simp; have := h.size; omega, fun k hk hne => by
    rw [Below.heap_alloc _ _ _ (by have := h.size; omega)]; exact h.block k hk hne⟩

/-- What a method answers, and what the plan is behind it. -/
def Ans (w : World) (g : Nat) (v : Value) (a f t : Int) (d : Bool) (e : Ending) (w' : World) : Prop :=
  e = .returned v ∧ Plan w' g a f t d ∧ w.grownBy w' (some g)

def upA (a : Int) : Int := if 0 < a then a - 1 else a
def upF (f : Int) : Int := if 0 < f then f - 1 else 0
def upE (f : Int) : Int := if 0 < f then 25 else 0
def armA (n : Int) : Int := if n < -1 then -1 else n
def failF (n : Int) : Int := if n < 0 then 0 else if 1000 < n then 1000 else n

set_option maxHeartbeats 400000 in
theorem try_nil (w : World)  :
    Calls Try.prog 9 #[.pointer none] w (fun e w' => e = .returned (.int .i64 1) ∧ w = w') := by
  go_enter Try.func9, Try.ntmps9
  go_wp2
  go_ret
  exact ⟨rfl, rfl⟩
set_option maxHeartbeats 400000 in
theorem arm_nil (w : World) (n : Int) :
    Calls Try.prog 7 #[.pointer none, .int .i64 n] w (fun e w' => e = .returned (.tuple #[]) ∧ w = w') := by
  go_enter Try.func7, Try.ntmps7
  go_wp2
  go_end0
  exact ⟨rfl, rfl⟩
set_option maxHeartbeats 400000 in
theorem fail_nil (w : World) (n : Int) :
    Calls Try.prog 8 #[.pointer none, .int .i64 n] w (fun e w' => e = .returned (.tuple #[]) ∧ w = w') := by
  go_enter Try.func8, Try.ntmps8
  go_wp2
  go_end0
  exact ⟨rfl, rfl⟩
set_option maxHeartbeats 400000 in
theorem up_nil (w : World)  :
    Calls Try.prog 15 #[.pointer none] w (fun e w' => e = .returned (.tuple #[]) ∧ w = w') := by
  go_enter Try.func15, Try.ntmps15
  go_wp2
  go_end0
  exact ⟨rfl, rfl⟩
set_option maxHeartbeats 400000 in
theorem kill_nil (w : World)  :
    Calls Try.prog 17 #[.pointer none] w (fun e w' => e = .returned (.tuple #[]) ∧ w = w') := by
  go_enter Try.func17, Try.ntmps17
  go_wp2
  go_end0
  exact ⟨rfl, rfl⟩
set_option maxHeartbeats 400000 in
theorem down_nil (w : World)  :
    Calls Try.prog 10 #[.pointer none] w (fun e w' => e = .returned (.bool false) ∧ w = w') := by
  go_enter Try.func10, Try.ntmps10
  go_wp2
  go_ret
  exact ⟨rfl, rfl⟩
set_option maxHeartbeats 400000 in
theorem tried_nil (w : World)  :
    Calls Try.prog 11 #[.pointer none] w (fun e w' => e = .returned (.int .i64 0) ∧ w = w') := by
  go_enter Try.func11, Try.ntmps11
  go_wp2
  go_ret
  exact ⟨rfl, rfl⟩
set_option maxHeartbeats 400000 in
theorem failing_nil (w : World)  :
    Calls Try.prog 20 #[.pointer none] w (fun e w' => e = .returned (.int .i64 0) ∧ w = w') := by
  go_enter Try.func20, Try.ntmps20
  go_wp2
  go_ret
  exact ⟨rfl, rfl⟩
set_option maxHeartbeats 400000 in
theorem clone_nil (w : World)  :
    Calls Try.prog 18 #[.pointer none] w (fun e w' => e = .returned (.pointer none) ∧ w = w') := by
  go_enter Try.func18, Try.ntmps18
  go_wp2
  go_ret
  exact ⟨rfl, rfl⟩
set_option maxHeartbeats 400000 in
theorem down_some (w : World) (g : Nat) (a f t : Int) (d : Bool) (h : Plan w g a f t d) :
    Calls Try.prog 10 #[.pointer (some ⟨g, 0, none⟩)] w (fun e w' => e = .returned (.bool d) ∧ w = w') := by
  have c0 : w.cell? ⟨g, 0, none⟩ = some (.int .i64 a) := h.cell 0
  have c1 : w.cell? ⟨g, 1, none⟩ = some (.int .i64 f) := h.cell 1
  have c2 : w.cell? ⟨g, 2, none⟩ = some (.int .i64 t) := h.cell 2
  have c3 : w.cell? ⟨g, 3, none⟩ = some (.bool d) := h.cell 3
  have z0 := h.free 0
  have z1 := h.free 1
  have z2 := h.free 2
  have z3 := h.free 3
  have H := Lib.hid h
  clear h
  go_enter Try.func10, Try.ntmps10
  go_wp2
  go_ret
  exact ⟨rfl, rfl⟩
set_option maxHeartbeats 400000 in
theorem tried_some (w : World) (g : Nat) (a f t : Int) (d : Bool) (h : Plan w g a f t d) :
    Calls Try.prog 11 #[.pointer (some ⟨g, 0, none⟩)] w (fun e w' => e = .returned (.int .i64 t) ∧ w = w') := by
  have c0 : w.cell? ⟨g, 0, none⟩ = some (.int .i64 a) := h.cell 0
  have c1 : w.cell? ⟨g, 1, none⟩ = some (.int .i64 f) := h.cell 1
  have c2 : w.cell? ⟨g, 2, none⟩ = some (.int .i64 t) := h.cell 2
  have c3 : w.cell? ⟨g, 3, none⟩ = some (.bool d) := h.cell 3
  have z0 := h.free 0
  have z1 := h.free 1
  have z2 := h.free 2
  have z3 := h.free 3
  have H := Lib.hid h
  clear h
  go_enter Try.func11, Try.ntmps11
  go_wp2
  go_ret
  exact ⟨rfl, rfl⟩
set_option maxHeartbeats 400000 in
theorem failing_some (w : World) (g : Nat) (a f t : Int) (d : Bool) (h : Plan w g a f t d) :
    Calls Try.prog 20 #[.pointer (some ⟨g, 0, none⟩)] w (fun e w' => e = .returned (.int .i64 f) ∧ w = w') := by
  have c0 : w.cell? ⟨g, 0, none⟩ = some (.int .i64 a) := h.cell 0
  have c1 : w.cell? ⟨g, 1, none⟩ = some (.int .i64 f) := h.cell 1
  have c2 : w.cell? ⟨g, 2, none⟩ = some (.int .i64 t) := h.cell 2
  have c3 : w.cell? ⟨g, 3, none⟩ = some (.bool d) := h.cell 3
  have z0 := h.free 0
  have z1 := h.free 1
  have z2 := h.free 2
  have z3 := h.free 3
  have H := Lib.hid h
  clear h
  go_enter Try.func20, Try.ntmps20
  go_wp2
  go_ret
  exact ⟨rfl, rfl⟩
set_option maxHeartbeats 400000 in
theorem kill_some (w : World) (g : Nat) (a f t : Int) (d : Bool) (h : Plan w g a f t d) :
    Calls Try.prog 17 #[.pointer (some ⟨g, 0, none⟩)] w (Ans w g (.tuple #[]) a f t true) := by
  have c0 : w.cell? ⟨g, 0, none⟩ = some (.int .i64 a) := h.cell 0
  have c1 : w.cell? ⟨g, 1, none⟩ = some (.int .i64 f) := h.cell 1
  have c2 : w.cell? ⟨g, 2, none⟩ = some (.int .i64 t) := h.cell 2
  have c3 : w.cell? ⟨g, 3, none⟩ = some (.bool d) := h.cell 3
  have z0 := h.free 0
  have z1 := h.free 1
  have z2 := h.free 2
  have z3 := h.free 3
  have H := Lib.hid h
  clear h
  go_enter Try.func17, Try.ntmps17
  go_wp2
  go_end0
  exact ⟨rfl, (by repeat (first | exact H.out | with_reducible (first | apply Plan.drew | apply Plan.set0 | apply Plan.set1 | apply Plan.set2 | apply Plan.set3))), (by repeat (with_reducible (first | exact gb_refl _ _ | refine gb_drew ?_ | refine gb_set ?_ _ _)))⟩
set_option maxHeartbeats 400000 in
theorem up_some (w : World) (g : Nat) (a f t : Int) (d : Bool) (h : Plan w g a f t d) :
    Calls Try.prog 15 #[.pointer (some ⟨g, 0, none⟩)] w (Ans w g (.tuple #[]) (-1) 0 t false) := by
  have c0 : w.cell? ⟨g, 0, none⟩ = some (.int .i64 a) := h.cell 0
  have c1 : w.cell? ⟨g, 1, none⟩ = some (.int .i64 f) := h.cell 1
  have c2 : w.cell? ⟨g, 2, none⟩ = some (.int .i64 t) := h.cell 2
  have c3 : w.cell? ⟨g, 3, none⟩ = some (.bool d) := h.cell 3
  have z0 := h.free 0
  have z1 := h.free 1
  have z2 := h.free 2
  have z3 := h.free 3
  have H := Lib.hid h
  clear h
  go_enter Try.func15, Try.ntmps15
  go_wp2
  go_end0
  exact ⟨rfl, (by repeat (first | exact H.out | with_reducible (first | apply Plan.drew | apply Plan.set0 | apply Plan.set1 | apply Plan.set2 | apply Plan.set3))), (by repeat (with_reducible (first | exact gb_refl _ _ | refine gb_drew ?_ | refine gb_set ?_ _ _)))⟩
set_option maxHeartbeats 400000 in
theorem arm_some (w : World) (g : Nat) (a f t : Int) (d : Bool) (n : Int) (h : Plan w g a f t d) :
    Calls Try.prog 7 #[.pointer (some ⟨g, 0, none⟩), .int .i64 n] w (Ans w g (.tuple #[]) (armA n) f t d) := by
  have c0 : w.cell? ⟨g, 0, none⟩ = some (.int .i64 a) := h.cell 0
  have c1 : w.cell? ⟨g, 1, none⟩ = some (.int .i64 f) := h.cell 1
  have c2 : w.cell? ⟨g, 2, none⟩ = some (.int .i64 t) := h.cell 2
  have c3 : w.cell? ⟨g, 3, none⟩ = some (.bool d) := h.cell 3
  have z0 := h.free 0
  have z1 := h.free 1
  have z2 := h.free 2
  have z3 := h.free 3
  have H := Lib.hid h
  clear h
  by_cases hn : n < -1
  · have e1 : armA n = -1 := by unfold armA; rw [if_pos hn]
    rw [e1]
    clear e1
    go_enter Try.func7, Try.ntmps7
    go_wp2
    go_end0
    exact ⟨rfl, (by repeat (first | exact H.out | with_reducible (first | apply Plan.drew | apply Plan.set0 | apply Plan.set1 | apply Plan.set2 | apply Plan.set3))), (by repeat (with_reducible (first | exact gb_refl _ _ | refine gb_drew ?_ | refine gb_set ?_ _ _)))⟩
  · have e1 : armA n = n := by unfold armA; rw [if_neg hn]
    rw [e1]
    clear e1
    go_enter Try.func7, Try.ntmps7
    go_wp2
    go_end0
    exact ⟨rfl, (by repeat (first | exact H.out | with_reducible (first | apply Plan.drew | apply Plan.set0 | apply Plan.set1 | apply Plan.set2 | apply Plan.set3))), (by repeat (with_reducible (first | exact gb_refl _ _ | refine gb_drew ?_ | refine gb_set ?_ _ _)))⟩

set_option maxHeartbeats 400000 in
theorem fail_some (w : World) (g : Nat) (a f t : Int) (d : Bool) (n : Int) (h : Plan w g a f t d) :
    Calls Try.prog 8 #[.pointer (some ⟨g, 0, none⟩), .int .i64 n] w (Ans w g (.tuple #[]) a (failF n) t d) := by
  have c0 : w.cell? ⟨g, 0, none⟩ = some (.int .i64 a) := h.cell 0
  have c1 : w.cell? ⟨g, 1, none⟩ = some (.int .i64 f) := h.cell 1
  have c2 : w.cell? ⟨g, 2, none⟩ = some (.int .i64 t) := h.cell 2
  have c3 : w.cell? ⟨g, 3, none⟩ = some (.bool d) := h.cell 3
  have z0 := h.free 0
  have z1 := h.free 1
  have z2 := h.free 2
  have z3 := h.free 3
  have H := Lib.hid h
  clear h
  rcases Int.lt_or_le n 0 with hn | hn
  · have e1 : failF n = 0 := by unfold failF; rw [if_pos hn]
    rw [e1]
    clear e1
    go_enter Try.func8, Try.ntmps8
    go_wp2
    go_end0
    exact ⟨rfl, (by repeat (first | exact H.out | with_reducible (first | apply Plan.drew | apply Plan.set0 | apply Plan.set1 | apply Plan.set2 | apply Plan.set3))), (by repeat (with_reducible (first | exact gb_refl _ _ | refine gb_drew ?_ | refine gb_set ?_ _ _)))⟩
  rcases Int.lt_or_le 1000 n with hm | hm
  · have e1 : failF n = 1000 := by unfold failF; rw [if_neg (by omega), if_pos hm]
    rw [e1]
    clear e1
    go_enter Try.func8, Try.ntmps8
    go_wp2
    go_end0
    exact ⟨rfl, (by repeat (first | exact H.out | with_reducible (first | apply Plan.drew | apply Plan.set0 | apply Plan.set1 | apply Plan.set2 | apply Plan.set3))), (by repeat (with_reducible (first | exact gb_refl _ _ | refine gb_drew ?_ | refine gb_set ?_ _ _)))⟩
  · have e1 : failF n = n := by unfold failF; rw [if_neg (by omega), if_neg (by omega)]
    rw [e1]
    clear e1
    go_enter Try.func8, Try.ntmps8
    go_wp2
    go_end0
    exact ⟨rfl, (by repeat (first | exact H.out | with_reducible (first | apply Plan.drew | apply Plan.set0 | apply Plan.set1 | apply Plan.set2 | apply Plan.set3))), (by repeat (with_reducible (first | exact gb_refl _ _ | refine gb_drew ?_ | refine gb_set ?_ _ _)))⟩

set_option maxHeartbeats 400000 in
theorem try_down (w : World) (g : Nat) (a f t : Int) (h : Plan w g a f t true) :
    Calls Try.prog 9 #[.pointer (some ⟨g, 0, none⟩)] w (Ans w g (.int .i64 26) a f t true) := by
  have c0 : w.cell? ⟨g, 0, none⟩ = some (.int .i64 a) := h.cell 0
  have c1 : w.cell? ⟨g, 1, none⟩ = some (.int .i64 f) := h.cell 1
  have c2 : w.cell? ⟨g, 2, none⟩ = some (.int .i64 t) := h.cell 2
  have c3 : w.cell? ⟨g, 3, none⟩ = some (.bool true) := h.cell 3
  have z0 := h.free 0
  have z1 := h.free 1
  have z2 := h.free 2
  have z3 := h.free 3
  have H := Lib.hid h
  clear h
  go_enter Try.func9, Try.ntmps9
  go_wp2
  go_ret
  exact ⟨rfl, (by repeat (first | exact H.out | with_reducible (first | apply Plan.drew | apply Plan.set0 | apply Plan.set1 | apply Plan.set2 | apply Plan.set3))), (by repeat (with_reducible (first | exact gb_refl _ _ | refine gb_drew ?_ | refine gb_set ?_ _ _)))⟩
set_option maxHeartbeats 400000 in
theorem try_gone (w : World) (g : Nat) (f t : Int) (h : Plan w g 0 f t false) :
    Calls Try.prog 9 #[.pointer (some ⟨g, 0, none⟩)] w (Ans w g (.int .i64 26) 0 f t true) := by
  have c0 : w.cell? ⟨g, 0, none⟩ = some (.int .i64 0) := h.cell 0
  have c1 : w.cell? ⟨g, 1, none⟩ = some (.int .i64 f) := h.cell 1
  have c2 : w.cell? ⟨g, 2, none⟩ = some (.int .i64 t) := h.cell 2
  have c3 : w.cell? ⟨g, 3, none⟩ = some (.bool false) := h.cell 3
  have z0 := h.free 0
  have z1 := h.free 1
  have z2 := h.free 2
  have z3 := h.free 3
  have H := Lib.hid h
  clear h
  go_enter Try.func9, Try.ntmps9
  go_wp2
  go_ret
  exact ⟨rfl, (by repeat (first | exact H.out | with_reducible (first | apply Plan.drew | apply Plan.set0 | apply Plan.set1 | apply Plan.set2 | apply Plan.set3))), (by repeat (with_reducible (first | exact gb_refl _ _ | refine gb_drew ?_ | refine gb_set ?_ _ _)))⟩
set_option maxHeartbeats 4000000 in
theorem try_up (w : World) (g : Nat) (a f t : Int) (ha : -1 ≤ a ∧ a ≤ 9223372036854775807) (hf : 0 ≤ f ∧ f ≤ 1000) (h0 : ¬ a = 0) (h : Plan w g a f t false) :
    Calls Try.prog 9 #[.pointer (some ⟨g, 0, none⟩)] w (Ans w g (.int .i64 (upE f)) (upA a) (upF f) (wrap64 (t + 1)) false) := by
  have c0 : w.cell? ⟨g, 0, none⟩ = some (.int .i64 a) := h.cell 0
  have c1 : w.cell? ⟨g, 1, none⟩ = some (.int .i64 f) := h.cell 1
  have c2 : w.cell? ⟨g, 2, none⟩ = some (.int .i64 t) := h.cell 2
  have c3 : w.cell? ⟨g, 3, none⟩ = some (.bool false) := h.cell 3
  have z0 := h.free 0
  have z1 := h.free 1
  have z2 := h.free 2
  have z3 := h.free 3
  have H := Lib.hid h
  clear h
  have hz : (a == 0) = false := by simpa using h0
  clear h0
  rcases Int.lt_or_le 0 a with p | p
  · rcases Int.lt_or_le 0 f with q | q
    · have e1 : upA a = a - 1 := by unfold upA; rw [if_pos p]
      have e2 : upF f = f - 1 := by unfold upF; rw [if_pos q]
      have e3 : upE f = 25 := by unfold upE; rw [if_pos q]
      rw [e1, e2, e3]
      clear e1 e2 e3
      go_enter Try.func9, Try.ntmps9
      go_wp2
      go_ret
      exact ⟨rfl, (by repeat (first | exact H.out | with_reducible (first | apply Plan.drew | apply Plan.set0 | apply Plan.set1 | apply Plan.set2 | apply Plan.set3))), (by repeat (with_reducible (first | exact gb_refl _ _ | refine gb_drew ?_ | refine gb_set ?_ _ _)))⟩
    obtain rfl : f = 0 := by omega
    have e1 : upA a = a - 1 := by unfold upA; rw [if_pos p]
    have e2 : upF 0 = 0 := rfl
    have e3 : upE 0 = 0 := rfl
    rw [e1, e2, e3]
    clear e1 e2 e3
    go_enter Try.func9, Try.ntmps9
    go_wp2
    go_ret
    exact ⟨rfl, (by repeat (first | exact H.out | with_reducible (first | apply Plan.drew | apply Plan.set0 | apply Plan.set1 | apply Plan.set2 | apply Plan.set3))), (by repeat (with_reducible (first | exact gb_refl _ _ | refine gb_drew ?_ | refine gb_set ?_ _ _)))⟩
  · rcases Int.lt_or_le 0 f with q | q
    · have e1 : upA a = a := by unfold upA; rw [if_neg (by omega)]
      have e2 : upF f = f - 1 := by unfold upF; rw [if_pos q]
      have e3 : upE f = 25 := by unfold upE; rw [if_pos q]
      rw [e1, e2, e3]
      clear e1 e2 e3
      go_enter Try.func9, Try.ntmps9
      go_wp2
      go_ret
      exact ⟨rfl, (by repeat (first | exact H.out | with_reducible (first | apply Plan.drew | apply Plan.set0 | apply Plan.set1 | apply Plan.set2 | apply Plan.set3))), (by repeat (with_reducible (first | exact gb_refl _ _ | refine gb_drew ?_ | refine gb_set ?_ _ _)))⟩
    obtain rfl : f = 0 := by omega
    have e1 : upA a = a := by unfold upA; rw [if_neg (by omega)]
    have e2 : upF 0 = 0 := rfl
    have e3 : upE 0 = 0 := rfl
    rw [e1, e2, e3]
    clear e1 e2 e3
    go_enter Try.func9, Try.ntmps9
    go_wp2
    go_ret
    exact ⟨rfl, (by repeat (first | exact H.out | with_reducible (first | apply Plan.drew | apply Plan.set0 | apply Plan.set1 | apply Plan.set2 | apply Plan.set3))), (by repeat (with_reducible (first | exact gb_refl _ _ | refine gb_drew ?_ | refine gb_set ?_ _ _)))⟩

/-- A new plan. -/
def Made (w : World) (a f t : Int) (d : Bool) (e : Ending) (w' : World) : Prop :=
  ∃ g, e = .returned (.pointer (some ⟨g, 0, none⟩)) ∧ w.heap.size ≤ g ∧ Plan w' g a f t d ∧ Below w.heap.size w w'
set_option maxHeartbeats 400000 in
theorem new_any (w : World)  :
    Calls Try.prog 6 #[] w (Made w (-1) 0 0 false) := by
  go_enter Try.func6, Try.ntmps6
  go_wp2
  go_ret
  exact ⟨_, rfl, Nat.le_refl _, heap_alloc_new w _, (Below.refl _ _).alloc (Nat.le_refl _) _⟩
set_option maxHeartbeats 400000 in
theorem clone_some (w : World) (g : Nat) (a f t : Int) (d : Bool) (h : Plan w g a f t d) :
    Calls Try.prog 18 #[.pointer (some ⟨g, 0, none⟩)] w (Made w a f t d) := by
  have c0 : w.cell? ⟨g, 0, none⟩ = some (.int .i64 a) := h.cell 0
  have c1 : w.cell? ⟨g, 1, none⟩ = some (.int .i64 f) := h.cell 1
  have c2 : w.cell? ⟨g, 2, none⟩ = some (.int .i64 t) := h.cell 2
  have c3 : w.cell? ⟨g, 3, none⟩ = some (.bool d) := h.cell 3
  have z0 := h.free 0
  have z1 := h.free 1
  have z2 := h.free 2
  have z3 := h.free 3
  have H := Lib.hid h
  clear h
  go_enter Try.func18, Try.ntmps18
  go_wp2
  go_ret
  exact ⟨_, rfl, Nat.le_refl _, heap_alloc_new w _, (Below.refl _ _).alloc (Nat.le_refl _) _⟩
end Go.Proofs.Ytbfkcfmkbdlngaa.Fa
