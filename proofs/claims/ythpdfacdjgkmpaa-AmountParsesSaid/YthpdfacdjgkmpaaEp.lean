/- Both texts of an amount tell that amount: plain. -/
import Derived.Test.YthpdfacdjgkmpaaEo
namespace Go.Proofs.Ythpdfacdjgkmpaa.Wi
open Go.RowKit K

theorem digit_byte {d : Nat} (h : d < 10) : isD (UInt8.ofNat (48 + d)) = true ∧ (UInt8.ofNat (48 + d)).toNat - 48 = d := by
  rcases (show d = 0 ∨ d = 1 ∨ d = 2 ∨ d = 3 ∨ d = 4 ∨ d = 5 ∨ d = 6 ∨ d = 7 ∨ d = 8 ∨ d = 9 by omega) with rfl | rfl | rfl | rfl | rfl | rfl | rfl | rfl | rfl | rfl <;> decide
theorem dec_all (X : Nat) : (∀ c ∈ Lib.decDigits X, isD c = true) ∧ valD (Lib.decDigits X) = X ∧ Lib.decDigits X ≠ [] := by
  induction X using Nat.strongRecOn with
  | _ X ih =>
    by_cases h : X < 10
    · rw [Lib.decDigits_one h]
      refine ⟨fun c hc => ?_, ?_, by simp⟩
      · rw [List.mem_singleton.1 hc]; exact (digit_byte h).1
      · rw [valD, List.foldl_cons, List.foldl_nil, (digit_byte h).2]; omega
    · rw [dec_up h]
      obtain ⟨h1, h2, h3⟩ := ih (X / 10) (by omega)
      refine ⟨fun c hc => ?_, ?_, by simp⟩
      · rcases List.mem_append.1 hc with hc | hc
        · exact h1 c hc
        · rw [List.mem_singleton.1 hc]; exact (digit_byte (Nat.mod_lt _ (by decide))).1
      · rw [valD, List.foldl_append, ← valD, h2, List.foldl_cons, List.foldl_nil, (digit_byte (Nat.mod_lt _ (by decide))).2]
        omega
theorem ndig_le : ∀ (n u : Nat), u < 10 ^ (n + 1) → Lib.nDigits u ≤ n + 1
  | 0, u, h => by rw [Lib.nDigits_small (by omega)]; decide
  | n + 1, u, h => by
    by_cases hu : u < 10
    · rw [Lib.nDigits_small hu]; omega
    · rw [Lib.nDigits_big hu]
      have := ndig_le n (u / 10) (by rw [Nat.pow_succ] at h; omega)
      omega
theorem cnt_app {a b : List UInt8} (ha : ∀ c ∈ a, isD c = true) (hb : ∀ c, b.head? = some c → isD c = false) : cntD (a ++ b) = a.length := by
  induction a with
  | nil =>
    cases b with
    | nil => rfl
    | cons x t =>
      have := hb x rfl
      rw [List.nil_append, cnt_cons, if_neg (by rw [this]; decide)]
      rfl
  | cons x t ih =>
    rw [List.cons_append, cnt_cons, if_pos (ha x (List.mem_cons_self ..)), ih (fun c hc => ha c (List.mem_cons_of_mem _ hc)), List.length_cons]
/-- Digits and a suffix. -/
theorem parse_two {Y X z : Nat} {t : Int} {S : List UInt8} (hS : sufP S = some (t, z)) (hh : ∀ c, S.head? = some c → isD c = false ∧ c ≠ 46) (hs : scaled Y (9 + t) z = X) (hX : (X : Int) ≤ Most) (hY : Y ≤ X) : parseV (Lib.decDigits Y ++ S) = .tuple #[wn (X : Int), .int .i64 0] := by
  obtain ⟨h1, h2, h3⟩ := dec_all Y
  have hl : (Lib.decDigits Y).length ≤ 28 := by
    rw [Lib.decDigits_length]
    refine ndig_le 27 Y ?_
    have : (10 : Nat) ^ (27 + 1) = 10000000000000000000000000000 := by decide
    unfold Most at hX
    omega
  generalize Lib.decDigits Y = d at *
  have hc : cntD (d ++ S) = d.length := cnt_app h1 (fun c h => (hh c h).1)
  have hhd : head S 46 = false := by
    unfold head
    refine decide_eq_false fun h => ?_
    exact (hh 46 h).2 rfl
  rw [parseV, if_neg (by simp [h3]), hc, List.take_left, List.drop_left, hhd, if_neg (by decide), parseW, hS]
  simp only []
  rw [List.append_nil, if_neg h3, if_neg (by simp; omega), h2]
  simp only [List.length_nil, Int.natCast_zero, Int.sub_zero]
  rw [hs, if_pos hX]
theorem suf_ten {k : Nat} (h : k ≤ 9) : sufP (sufK k) = some (3 * (k : Int) - 9, 0) ∧ ∀ c, (sufK k).head? = some c → isD c = false ∧ c ≠ 46 := by
  rcases (show k = 0 ∨ k = 1 ∨ k = 2 ∨ k = 3 ∨ k = 4 ∨ k = 5 ∨ k = 6 ∨ k = 7 ∨ k = 8 ∨ k = 9 by omega) with rfl | rfl | rfl | rfl | rfl | rfl | rfl | rfl | rfl | rfl <;> refine ⟨by kernel_rfl, ?_⟩ <;> intro c hc <;> simp [sufK] at hc <;> subst hc <;> decide
theorem suf_two {k : Nat} (h : k ≤ 6) : sufP (sufB k) = some (0, 10 * k) ∧ ∀ c, (sufB k).head? = some c → isD c = false ∧ c ≠ 46 := by
  rcases (show k = 0 ∨ k = 1 ∨ k = 2 ∨ k = 3 ∨ k = 4 ∨ k = 5 ∨ k = 6 by omega) with rfl | rfl | rfl | rfl | rfl | rfl | rfl <;> refine ⟨by kernel_rfl, ?_⟩ <;> intro c hc <;> simp [sufB] at hc <;> subst hc <;> decide
theorem le_mul_pow {Y B k X : Nat} (hB : 0 < B) (h : Y * B ^ k = X) : Y ≤ X := by
  rw [← h]
  exact Nat.le_mul_of_pos_right _ (Nat.pow_pos hB)
/-- The text tells its amount. -/
theorem text_back {X : Nat} (hX : (X : Int) ≤ Most) : parseV (textL X) = .tuple #[wn (X : Int), .int .i64 0] ∧ textL X ≠ [] ∧ (textL X).length ≤ 41 := by
  by_cases h0 : X = 0
  · subst h0
    rw [p7]
    exact ⟨by kernel_rfl, by simp, by decide⟩
  · rw [textL, if_pos hX, if_neg h0]
    obtain ⟨h1, h2⟩ := cut_mul (B := 1000) 9 X
    generalize (cutB 1000 9 X).1 = Y at *
    generalize (cutB 1000 9 X).2 = k at *
    obtain ⟨s1, s2⟩ := suf_ten h2
    have hY : Y ≤ X := le_mul_pow (by decide) h1
    refine ⟨parse_two s1 s2 ?_ hX hY, by simp [(dec_all Y).2.2], ?_⟩
    · have ht : (9 + (3 * (k : Int) - 9)).toNat = 3 * k := by omega
      rw [scaled, if_neg (by omega), ht, Nat.pow_zero, Nat.mul_one, Nat.pow_mul]
      exact h1
    · have a1 := dec_len (X := Y) (by unfold Most at hX; unfold Lim; omega)
      have a2 := suf_le h2
      rw [List.length_append]
      omega
/-- The binary text tells its amount. -/
theorem bin_back {X : Nat} (hX : (X : Int) ≤ Most) : parseV (binL X) = .tuple #[wn (X : Int), .int .i64 0] ∧ (binL X).length ≤ 41 := by
  rw [binL]
  split
  · rename_i h
    obtain ⟨_, h3, _, _⟩ := h
    obtain ⟨h1, h2⟩ := cut_mul (B := 1024) 6 (X / 1000000000)
    generalize (cutB 1024 6 (X / 1000000000)).1 = Y at *
    generalize (cutB 1024 6 (X / 1000000000)).2 = k at *
    obtain ⟨s1, s2⟩ := suf_two h2
    have hY : Y ≤ X / 1000000000 := le_mul_pow (by decide) h1
    have hYX : Y ≤ X := by omega
    refine ⟨parse_two s1 s2 ?_ hX hYX, ?_⟩
    · rw [scaled, if_neg (by decide), show (9 + (0 : Int)).toNat = 9 from rfl, Nat.pow_mul, show 2 ^ 10 = 1024 from rfl, show 10 ^ 9 = 1000000000 from rfl]
      have : Y * 1000000000 * 1024 ^ k = Y * 1024 ^ k * 1000000000 := by rw [Nat.mul_assoc, Nat.mul_comm 1000000000, ← Nat.mul_assoc]
      rw [this, h1]
      omega
    · have a1 := dec_len (X := Y) (by unfold Most at hX; unfold Lim; omega)
      have a2 := sufB_le h2
      rw [List.length_append]
      omega
  · exact ⟨(text_back hX).1, (text_back hX).2.2⟩
/-- The units are the next whole ones. -/
theorem units_back {X : Nat} (hX : (X : Int) ≤ Most) : ceilOf X 1000000000 ≤ 1152921504606846976 ∧ (X : Int) ≤ ((ceilOf X 1000000000 * 1000000000 : Nat) : Int) ∧ ((ceilOf X 1000000000 * 1000000000 : Nat) : Int) - (X : Int) < 1000000000 ∧ ((ceilOf X 1000000000 * 1000000000 : Nat) : Int) < Lim := by
  unfold ceilOf Most Lim at *
  split <;> omega
theorem none_most {X : Nat} (hX : ¬ (X : Int) ≤ Most) : textL X = [] ∧ binL X = [] := by
  have h1 : textL X = [] := by rw [textL, if_neg hX]
  exact ⟨h1, by rw [binL, if_neg (fun h => hX h.1), h1]⟩
end Go.Proofs.Ythpdfacdjgkmpaa.Wi
