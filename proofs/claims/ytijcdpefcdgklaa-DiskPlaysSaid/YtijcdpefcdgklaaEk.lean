/- DiskPlays: a walk where nothing is played. -/
import Derived.Test.YtijcdpefcdgklaaEi
namespace Go.Proofs.Ytijcdpefcdgklaa.Di
open Go.RowKit K

attribute [local go_sem ↓] eq22 eq22n eq37 eq37n eq25 ne25 eqn25 nen25 st_size
set_option maxHeartbeats 4000000 in
set_option maxRecDepth 100000 in
theorem plays_mid (w : World) (n : Int) (h1 : 400 < n) (h2 : n ≤ 262144) (v : Value) : Calls Try.prog 4 #[.int .i64 n, v] w fun e w' => e = .returned (.bool true) ∧ Below w.heap.size w w' := by
  go_enter Try.func4, Try.ntmps4
  go_wp2_with fail
  refine (first_any _).mono ?_
  rintro e w1 ⟨rfl, hb⟩
  have B1 := Lib.hid hb
  clear hb
  go_wp2_with fail
  go_ret
  exact ⟨rfl, B1.out⟩
set_option maxHeartbeats 4000000 in
set_option maxRecDepth 100000 in
theorem plays_long (w : World) (n : Int) (h1 : ¬ (400 < n ∧ n ≤ 262144)) (A : Option Addr) (len cap : Nat) (hlen : 60 < len) : Calls Try.prog 4 #[.int .i64 n, .slice A len cap] w fun e w' => e = .returned (.bool true) ∧ Below w.heap.size w w' := by
  have hl : (60 : Int) < (len : Int) := by omega
  have h2 : n ≤ 400 ∨ 262144 < n := by omega
  clear h1
  rcases h2 with h2 | h2
  · have h3 : ¬ 400 < n := by omega
    clear h2
    go_enter Try.func4, Try.ntmps4
    go_wp2_with fail
    refine (first_any _).mono ?_
    rintro e w1 ⟨rfl, hb⟩
    have B1 := Lib.hid hb
    clear hb
    go_wp2_with fail
    go_ret
    exact ⟨rfl, B1.out⟩
  · have h3 : 400 < n := by omega
    have h4 : ¬ n ≤ 262144 := by omega
    clear h2
    go_enter Try.func4, Try.ntmps4
    go_wp2_with fail
    refine (first_any _).mono ?_
    rintro e w1 ⟨rfl, hb⟩
    have B1 := Lib.hid hb
    clear hb
    go_wp2_with fail
    go_ret
    exact ⟨rfl, B1.out⟩
set_option maxHeartbeats 4000000 in
set_option maxRecDepth 100000 in
/-- A nil disk. -/
theorem plays_nil (w : World) (n : Int) (h1 : n < 16 ∨ 262144 < n) (A : Option Addr) (len cap : Nat) (hlen : len ≤ 60) : Calls Try.prog 4 #[.int .i64 n, .slice A len cap] w fun e w' => e = .returned (.bool true) ∧ Below w.heap.size w w' := by
  have hl : ¬ (60 : Int) < (len : Int) := by omega
  have hl2 : ¬ 60 < len := by omega
  rcases h1 with h1 | h1
  · have h3 : ¬ 400 < n := by omega
    have h5 : ¬ 262144 < n := by omega
    clear hlen
    go_enter Try.func4, Try.ntmps4
    go_wp2_with fail
    refine (first_any _).mono ?_
    rintro e w1 ⟨rfl, hb⟩
    have B1 := Lib.hid hb
    clear hb
    go_wp2_with fail
    refine (new_no w1 n (by omega)).mono ?_
    rintro e w2 ⟨rfl, rfl⟩
    go_wp2_with (first | (refine (nil_arm _ _).mono ?_; rintro e w9 ⟨rfl, rfl⟩) | (refine (nil_up _).mono ?_; rintro e w9 ⟨rfl, rfl⟩) | (refine (nil_read _ _).mono ?_; rintro e w9 ⟨rfl, rfl⟩) | (refine (nil_write _ _ _).mono ?_; rintro e w9 ⟨rfl, rfl⟩) | (refine (nil_size _).mono ?_; rintro e w9 ⟨rfl, rfl⟩) | (refine (nil_written _).mono ?_; rintro e w9 ⟨rfl, rfl⟩) | (refine (nil_image _ _).mono ?_; rintro e w9 ⟨rfl, rfl⟩) | (refine (nil_writes _).mono ?_; rintro e w9 ⟨rfl, rfl⟩) | (refine (nil_down _).mono ?_; rintro e w9 ⟨rfl, rfl⟩) | (refine (nil_clone _).mono ?_; rintro e w9 ⟨rfl, rfl⟩))
    go_ret
    exact ⟨rfl, B1.out⟩
  · have h3 : 400 < n := by omega
    have h4 : ¬ n ≤ 262144 := by omega
    have h5 : ¬ n < 16 := by omega
    clear hlen
    go_enter Try.func4, Try.ntmps4
    go_wp2_with fail
    refine (first_any _).mono ?_
    rintro e w1 ⟨rfl, hb⟩
    have B1 := Lib.hid hb
    clear hb
    go_wp2_with fail
    refine (new_no w1 n (by omega)).mono ?_
    rintro e w2 ⟨rfl, rfl⟩
    go_wp2_with (first | (refine (nil_arm _ _).mono ?_; rintro e w9 ⟨rfl, rfl⟩) | (refine (nil_up _).mono ?_; rintro e w9 ⟨rfl, rfl⟩) | (refine (nil_read _ _).mono ?_; rintro e w9 ⟨rfl, rfl⟩) | (refine (nil_write _ _ _).mono ?_; rintro e w9 ⟨rfl, rfl⟩) | (refine (nil_size _).mono ?_; rintro e w9 ⟨rfl, rfl⟩) | (refine (nil_written _).mono ?_; rintro e w9 ⟨rfl, rfl⟩) | (refine (nil_image _ _).mono ?_; rintro e w9 ⟨rfl, rfl⟩) | (refine (nil_writes _).mono ?_; rintro e w9 ⟨rfl, rfl⟩) | (refine (nil_down _).mono ?_; rintro e w9 ⟨rfl, rfl⟩) | (refine (nil_clone _).mono ?_; rintro e w9 ⟨rfl, rfl⟩))
    go_ret
    exact ⟨rfl, B1.out⟩
end Go.Proofs.Ytijcdpefcdgklaa.Di
