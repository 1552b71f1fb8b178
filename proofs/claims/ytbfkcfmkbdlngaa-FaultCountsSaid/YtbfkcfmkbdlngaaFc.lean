/- FaultCounts' walk. -/
import Derived.Test.YtbfkcfmkbdlngaaFb
namespace Go.Proofs.Ytbfkcfmkbdlngaa.Fa
open Go.RowKit

/-- How many fail still, behind k. -/
def rem (m k : Nat) : Int := if k < m then (m : Int) - k else 0
theorem rem_yes {m k : Nat} (h : k < m) : upE (rem m k) = 25 ∧ upF (rem m k) = rem m (k + 1) := by
  unfold rem upE upF
  rw [if_pos h]
  refine ⟨by rw [if_pos (by omega)], ?_⟩
  rw [if_pos (by omega)]
  by_cases h' : k + 1 < m
  · rw [if_pos h']; omega
  · rw [if_neg h']; omega
theorem rem_no {m k : Nat} (h : ¬ k < m) : upE (rem m k) = 0 ∧ upF (rem m k) = rem m (k + 1) := by
  unfold rem upE upF
  rw [if_neg h, if_neg (show ¬ k + 1 < m by omega)]
  exact ⟨rfl, rfl⟩
theorem rem_fits {m k : Nat} (h : m ≤ 255) : 0 ≤ rem m k ∧ rem m k ≤ 1000 := by
  unfold rem
  split <;> omega
theorem wrap_small {x : Int} (h0 : 0 ≤ x) (h : x ≤ 1000000) : wrap64 x = x := by
  unfold wrap64; omega
theorem try_go {n k m : Nat} (hn : n ≤ 255) (h : k < n) (r : Int) (hr : upE (rem m k) = r) (hq : upF (rem m k) = rem m (k + 1)) :
    tryR ((n : Int) - k) (rem m k) k false = (r, (n : Int) - (k + 1 : Nat), rem m (k + 1), ((k + 1 : Nat) : Int), false) := by
  unfold tryR
  rw [if_neg (by simp; omega), hr, hq, wrap_small (by omega) (by omega)]
  unfold upA
  rw [if_pos (by omega)]
  simp only [Prod.mk.injEq, and_true, true_and]
  exact ⟨by omega, by omega⟩

theorem rem_zero (m : Nat) : (m : Int) = rem m 0 := by
  unfold rem
  split <;> omega
theorem plan_at {w : World} {g : Nat} {a f t a' f' : Int} {d : Bool} (h : Plan w g a f t d) (ha : a = a') (hf : f = f') : Plan w g a' f' t d := ha ▸ hf ▸ h

set_option maxHeartbeats 1000000 in
theorem counts_any (n m : Nat) (hn : n ≤ 255) (hm : m ≤ 255) (w : World) :
    Calls Try.prog 3 #[.int .u8 n, .int .u8 m] w fun e w' => e = .returned (.bool true) ∧ Below w.heap.size w w' := by
  go_enter Try.func3, Try.ntmps3
  go_wp2_with fail
  refine (first_any _).mono ?_
  rintro e w1 ⟨rfl, hb⟩
  have B1 := Lib.hid hb
  clear hb
  go_wp2_with fail
  refine (new_any _).mono ?_
  rintro e w2 ⟨g, rfl, hg, hp, hb⟩
  have hg := Nat.le_trans B1.out.size hg
  have B2 := Lib.hid (B1.out.trans (hb.mono B1.out.size))
  have P2 := Lib.hid hp
  clear hb hp B1
  go_wp2_with fail
  refine (arm_to _ g _ _ _ _ _ n (by unfold armA; rw [if_neg (by omega)]) P2.out).mono ?_
  rintro e w3 ⟨rfl, hp, hb⟩
  have B3 := Lib.hid (below_gb B2.out hb hg)
  have P3 := Lib.hid hp
  clear hb hp B2 P2
  go_wp2_with fail
  refine (fail_to _ g _ _ _ _ _ m (by unfold failF; rw [if_neg (by omega), if_neg (by omega)]) P3.out).mono ?_
  rintro e w4 ⟨rfl, hp, hb⟩
  have B4 := Lib.hid (below_gb B3.out hb hg)
  have P4 := Lib.hid hp
  clear hb hp B3 P3
  go_wp2_with fail
  go_loopw [21] (fun i wr => ∃ k : Nat, k ≤ n ∧ i = .int .i64 k ∧ Hid (Plan wr g ((n : Int) - k) (rem m k) k false) ∧ Hid (Below w.heap.size w wr)) (fun i _ => n - (intOf i).toNat)
  case atStart => exact ⟨0, Nat.zero_le _, rfl, plan_at P4.out (by omega) (rem_zero m), B4⟩
  case round =>
    obtain ⟨k, hk, rfl, hp, hb⟩ := hrel
    clear B4 P4
    by_cases h : k < n
    · by_cases q : k < m
      · have hr := Lib.hid (rem_yes q)
        go_wp2_with fail
        refine (try_to _ g _ _ _ _ 25 _ _ _ false ⟨by omega, rem_fits hm⟩ (try_go hn h _ hr.out.1 hr.out.2) hp.out).mono ?_
        rintro e w5 ⟨rfl, hp5, hb5⟩
        have B5 := Lib.hid (below_gb hb.out hb5 hg)
        have P5 := Lib.hid hp5
        clear hb5 hp5 hb hp
        go_wp2_with fail
        refine (down_some _ g _ _ _ _ P5.out).mono ?_
        rintro e w9 ⟨rfl, rfl⟩
        go_wp2_with fail
        go_roundw
        case rel => exact ⟨k + 1, by omega, by go_num, P5, B5⟩
        case measure => simp [intOf]; omega
      · have hr := Lib.hid (rem_no q)
        go_wp2_with fail
        refine (try_to _ g _ _ _ _ 0 _ _ _ false ⟨by omega, rem_fits hm⟩ (try_go hn h _ hr.out.1 hr.out.2) hp.out).mono ?_
        rintro e w5 ⟨rfl, hp5, hb5⟩
        have B5 := Lib.hid (below_gb hb.out hb5 hg)
        have P5 := Lib.hid hp5
        clear hb5 hp5 hb hp
        go_wp2_with fail
        refine (down_some _ g _ _ _ _ P5.out).mono ?_
        rintro e w9 ⟨rfl, rfl⟩
        go_wp2_with fail
        go_roundw
        case rel => exact ⟨k + 1, by omega, by go_num, P5, B5⟩
        case measure => simp [intOf]; omega
    · obtain rfl : k = n := by omega
      have P4 : Hid (Plan wr g 0 (rem m k) k false) := by have := hp.out; rwa [Int.sub_self] at this
      clear hp
      go_wp2_with fail
      refine (try_to _ g _ _ _ _ 26 _ _ _ true ⟨by omega, rem_fits hm⟩ (by unfold tryR; rw [if_pos (.inr rfl)]) P4.out).mono ?_
      rintro e w5 ⟨rfl, hp5, hb5⟩
      have B5 := Lib.hid (below_gb hb.out hb5 hg)
      have P5 := Lib.hid hp5
      clear hb5 hp5 hb P4
      go_wp2_with fail
      refine (down_some _ g _ _ _ _ P5.out).mono ?_
      rintro e w6 ⟨rfl, rfl⟩
      go_wp2_with fail
      refine (tried_some _ g _ _ _ _ P5.out).mono ?_
      rintro e w6 ⟨rfl, rfl⟩
      go_wp2_with fail
      refine (try_to _ g _ _ _ _ 26 _ _ _ true ⟨by omega, rem_fits hm⟩ (by unfold tryR; rw [if_pos (.inl rfl)]) P5.out).mono ?_
      rintro e w7 ⟨rfl, hp7, hb7⟩
      have B7 := Lib.hid (below_gb B5.out hb7 hg)
      clear hp7 hb7 B5
      go_wp2_with fail
      go_ret
      exact ⟨rfl, B7.out⟩
end Go.Proofs.Ytbfkcfmkbdlngaa.Fa
