/- What is asked ahead of every statement of package fault, by a walk; and Try in one form. -/
import Derived.Test.YtbfkcfmkbdlngaaFa
import Derived.Outline
namespace Go.Proofs.Ytbfkcfmkbdlngaa.Fa
open Go.RowKit

def tryR (a f t : Int) (d : Bool) : Int × Int × Int × Int × Bool :=
  if d = true ∨ a = 0 then (26, a, f, t, true) else (upE f, upA a, upF f, wrap64 (t + 1), false)

/-- A plan's numbers are in range. -/
def Fits (a f : Int) : Prop := (-1 ≤ a ∧ a ≤ 9223372036854775807) ∧ 0 ≤ f ∧ f ≤ 1000

theorem try_to (w : World) (g : Nat) (a f t : Int) (d : Bool) (r a' f' t' : Int) (d' : Bool) (hf : Fits a f) (hr : tryR a f t d = (r, a', f', t', d')) (h : Plan w g a f t d) :
    Calls Try.prog 9 #[.pointer (some ⟨g, 0, none⟩)] w (Ans w g (.int .i64 r) a' f' t' d') := by
  unfold tryR at hr
  cases d with
  | true =>
    rw [if_pos (.inl rfl)] at hr
    simp only [Prod.mk.injEq] at hr
    obtain ⟨rfl, rfl, rfl, rfl, rfl⟩ := hr
    exact try_down w g a f t h
  | false =>
    by_cases h0 : a = 0
    · subst h0
      rw [if_pos (.inr rfl)] at hr
      simp only [Prod.mk.injEq] at hr
      obtain ⟨rfl, rfl, rfl, rfl, rfl⟩ := hr
      exact try_gone w g f t h
    · rw [if_neg (by simp [h0])] at hr
      simp only [Prod.mk.injEq] at hr
      obtain ⟨rfl, rfl, rfl, rfl, rfl⟩ := hr
      exact try_up w g a f t hf.1 hf.2 h0 h

theorem arm_to (w : World) (g : Nat) (a f t : Int) (d : Bool) (n a' : Int) (ha : armA n = a') (h : Plan w g a f t d) :
    Calls Try.prog 7 #[.pointer (some ⟨g, 0, none⟩), .int .i64 n] w (Ans w g (.tuple #[]) a' f t d) := by
  subst ha
  exact arm_some w g a f t d n h
theorem fail_to (w : World) (g : Nat) (a f t : Int) (d : Bool) (n f' : Int) (hf : failF n = f') (h : Plan w g a f t d) :
    Calls Try.prog 8 #[.pointer (some ⟨g, 0, none⟩), .int .i64 n] w (Ans w g (.tuple #[]) a f' t d) := by
  subst hf
  exact fail_some w g a f t d n h

theorem below_gb {w0 w w' : World} {g : Nat} (h : Below w0.heap.size w0 w) (hg : w.grownBy w' (some g)) (h0 : w0.heap.size ≤ g) : Below w0.heap.size w0 w' :=
  h.grown hg h.size (fun k hk => by injection hk with hk; omega)

set_option maxHeartbeats 1000000 in
theorem first_any (w : World) : Calls Try.prog 5 #[] w fun e w' => e = .returned (.bool true) ∧ Below w.heap.size w w' := by
  go_enter Try.func5, Try.ntmps5
  go_wp2_with fail
  refine (new_any _).mono ?_
  rintro e w1 ⟨g, rfl, hg, hp, hb⟩
  have B1 := Lib.hid hb
  have P1 := Lib.hid hp
  clear hb hp
  go_wp2_with fail
  refine (try_to _ g _ _ _ _ 0 (-1) 0 1 false ⟨by omega, by omega⟩ (by decide +kernel) P1.out).mono ?_
  rintro e w2 ⟨rfl, hp, hb⟩
  have B2 := Lib.hid (below_gb B1.out hb hg)
  have P2 := Lib.hid hp
  clear hb hp B1 P1
  go_wp2_with fail
  refine (arm_to _ g _ _ _ _ _ 1 (by decide +kernel) P2.out).mono ?_
  rintro e w3 ⟨rfl, hp, hb⟩
  have B3 := Lib.hid (below_gb B2.out hb hg)
  have P3 := Lib.hid hp
  clear hb hp B2 P2
  go_wp2_with fail
  refine (fail_to _ g _ _ _ _ _ 2 (by decide +kernel) P3.out).mono ?_
  rintro e w4 ⟨rfl, hp, hb⟩
  have B4 := Lib.hid (below_gb B3.out hb hg)
  have P4 := Lib.hid hp
  clear hb hp B3 P3
  go_wp2_with fail
  refine (try_to _ g _ _ _ _ 25 0 1 2 false ⟨by omega, by omega⟩ (by decide +kernel) P4.out).mono ?_
  rintro e w5 ⟨rfl, hp, hb⟩
  have B5 := Lib.hid (below_gb B4.out hb hg)
  have P5 := Lib.hid hp
  clear hb hp B4 P4
  go_wp2_with fail
  refine (try_to _ g _ _ _ _ 26 0 1 2 true ⟨by omega, by omega⟩ (by decide +kernel) P5.out).mono ?_
  rintro e w6 ⟨rfl, hp, hb⟩
  have B6 := Lib.hid (below_gb B5.out hb hg)
  have P6 := Lib.hid hp
  clear hb hp B5 P5
  go_wp2_with fail
  refine (failing_some _ g _ _ _ _ P6.out).mono ?_
  rintro e w7 ⟨rfl, rfl⟩
  go_wp2_with fail
  refine (up_some _ g _ _ _ _ P6.out).mono ?_
  rintro e w7 ⟨rfl, hp, hb⟩
  have B7 := Lib.hid (below_gb B6.out hb hg)
  have P7 := Lib.hid hp
  clear hb hp B6 P6
  go_wp2_with fail
  refine (try_to _ g _ _ _ _ 0 (-1) 0 3 false ⟨by omega, by omega⟩ (by decide +kernel) P7.out).mono ?_
  rintro e w8 ⟨rfl, hp, hb⟩
  have B8 := Lib.hid (below_gb B7.out hb hg)
  have P8 := Lib.hid hp
  clear hb hp B7 P7
  go_wp2_with fail
  refine (tried_some _ g _ _ _ _ P8.out).mono ?_
  rintro e w9 ⟨rfl, rfl⟩
  go_wp2_with fail
  refine (down_some _ g _ _ _ _ P8.out).mono ?_
  rintro e w9 ⟨rfl, rfl⟩
  go_wp2_with fail
  go_ret
  exact ⟨rfl, B8.out⟩
end Go.Proofs.Ytbfkcfmkbdlngaa.Fa
