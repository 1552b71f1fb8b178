/- What an amount's text tells, in plain terms. -/
import Derived.Test.YthpdfacdjgkmpaaEj
namespace Go.Proofs.Ythpdfacdjgkmpaa.Wi
open Go.RowKit K

/-- The exponent that a text tells. -/
def expP (l : List UInt8) : Option (Int × Nat) := if cntD (signed l).2 = (signed l).2.length ∧ 1 ≤ (signed l).2.length ∧ (signed l).2.length ≤ 2 then some ((signed l).1 * (valD (signed l).2 : Nat), 0) else none
/-- What a suffix tells: powers of ten and of two. -/
def sufP (l : List UInt8) : Option (Int × Nat) := match sufL.find? (fun r => r.1 = l) with
  | some r => some r.2
  | none => match l with
    | [] => none
    | a :: t => if a = 101 ∨ a = 69 then expP t else none
theorem exp_open (l : List UInt8) : (∃ x : Int, expV l = .tuple #[.int .i64 x, .bool true] ∧ expP l = some (x, 0) ∧ -99 ≤ x ∧ x ≤ 99) ∨ (∃ x : Int, expV l = .tuple #[.int .i64 x, .bool false] ∧ expP l = none) := by
  unfold expV expP
  split
  · rename_i h
    refine .inl ⟨_, rfl, rfl, ?_⟩
    have h1 := val_lt (l := (signed l).2) h.1 (signed l).2.length (Nat.le_refl _)
    rw [List.take_length] at h1
    have h2 : 10 ^ (signed l).2.length ≤ 10 ^ 2 := Nat.pow_le_pow_right (by decide) h.2.2
    have h3 : valD (signed l).2 < 100 := Nat.lt_of_lt_of_le h1 h2
    clear h1 h2
    rcases (signed_len l).2 with e | e <;> rw [e] <;> omega
  · exact .inr ⟨_, rfl, rfl⟩
theorem suf_all : ∀ r ∈ sufL, -99 ≤ r.2.1 ∧ r.2.1 ≤ 99 ∧ r.2.2 ≤ 60 ∧ (r.2.2 ≠ 0 → r.2.1 = 0) := by decide
theorem scale_open (l : List UInt8) : (∃ s t z, scaleV l = .tuple #[agg3 s t z, .bool true] ∧ sufP l = some (t, z) ∧ -99 ≤ t ∧ t ≤ 99 ∧ z ≤ 60 ∧ (z ≠ 0 → t = 0)) ∨ (∃ s t z, scaleV l = .tuple #[agg3 s t z, .bool false] ∧ sufP l = none) := by
  unfold scaleV sufP
  cases hf : sufL.find? (fun r => decide (r.1 = l)) with
  | some r =>
    have := suf_all r (List.mem_of_find?_eq_some hf)
    exact .inl ⟨_, _, _, rfl, rfl, this⟩
  | none =>
    cases l with
    | nil => exact .inr ⟨_, _, _, rfl, rfl⟩
    | cons a t =>
      by_cases ha : a = 101 ∨ a = 69
      · simp only [if_pos ha]
        rcases exp_open t with ⟨x, h1, h2, h3, h4⟩ | ⟨x, h1, h2⟩
        · rw [h1, h2]
          exact .inl ⟨[], x, 0, rfl, rfl, h3, h4, by decide, fun h => absurd rfl h⟩
        · rw [h1, h2]
          exact .inr ⟨[], x, 0, rfl, rfl⟩
      · simp only [if_neg ha]
        exact .inr ⟨_, _, _, rfl, trivial⟩
/-- So many billionths, rounded up. -/
def scaled (X : Nat) (t : Int) (z : Nat) : Nat := if t < 0 then byUp (X * 2 ^ z) (-t).toNat else X * 10 ^ t.toNat * 2 ^ z
theorem byUp_split (X t z : Nat) : X / 10 ^ t * 2 ^ z + byUp (X % 10 ^ t * 2 ^ z) t = byUp (X * 2 ^ z) t := by
  unfold byUp
  have hN : 0 < 10 ^ t := Nat.pow_pos (by decide)
  generalize 10 ^ t = N at *
  generalize 2 ^ z = M at *
  have e : X * M = X % N * M + N * (X / N * M) := by
    have h := Nat.div_add_mod X N
    calc X * M = (N * (X / N) + X % N) * M := by rw [h]
      _ = X % N * M + N * (X / N * M) := by rw [Nat.add_mul, Nat.mul_assoc, Nat.add_comm]
  rw [e, Nat.add_mul_div_left _ _ hN, Nat.add_mul_mod_self_left]
  omega
theorem byUp_lt {X t z : Nat} : byUp (X % 10 ^ t * 2 ^ z) t ≤ 2 ^ z := by
  unfold byUp
  have hN : 0 < 10 ^ t := Nat.pow_pos (by decide)
  generalize 10 ^ t = N at *
  have hM : 0 < 2 ^ z := Nat.pow_pos (by decide)
  generalize 2 ^ z = M at *
  have h1 : X % N * M < N * M := Nat.mul_lt_mul_of_pos_right (Nat.mod_lt _ hN) hM
  have h2 : X % N * M / N < M := Nat.div_lt_of_lt_mul h1
  split <;> omega
theorem down_open (X t z : Nat) (hX : (X : Int) < Lim) (hz : z ≤ 60) : ∃ (a b : Int) (ok : Bool), downV X t z = .tuple #[.agg #[.int .u64 a, .int .u64 b], .bool ok] ∧ U a ∧ U b ∧ (ok = true → wval a b = ((byUp (X * 2 ^ z) t : Nat) : Int)) ∧ (ok = false → Most < ((byUp (X * 2 ^ z) t : Nat) : Int)) := by
  unfold downV
  by_cases h0 : z = 0
  · rw [if_pos h0]
    subst h0
    have hl : ((byUp X t : Nat) : Int) < Lim := Int.lt_of_le_of_lt (Int.ofNat_le.2 byUp_le) hX
    obtain ⟨a, b, ha, hb, hv, he⟩ := wn_open (Int.natCast_nonneg (byUp X t)) hl
    refine ⟨a, b, true, by rw [he], ha, hb, fun _ => by rw [hv, Nat.pow_zero, Nat.mul_one], fun h => by cases h⟩
  · rw [if_neg h0, byUp_split]
    by_cases hs : ((X / 10 ^ t * 2 ^ z : Nat) : Int) < Lim
    · rw [if_pos hs]
      by_cases hy : ((byUp (X * 2 ^ z) t : Nat) : Int) < Lim
      · obtain ⟨a, b, ha, hb, hv, he⟩ := opt_open (Int.natCast_nonneg _) hy
        exact ⟨a, b, true, he, ha, hb, fun _ => hv, fun h => by cases h⟩
      · exact ⟨0, 0, false, opt_no hy, u_zero, u_zero, fun h => (by cases h), fun _ => by unfold Lim at hy; unfold Most; omega⟩
    · rw [if_neg hs]
      have h1 := byUp_lt (X := X) (t := t) (z := z)
      have h2 := two_lt hz
      obtain ⟨a, b, ha, hb, hv, he⟩ := wn_open (X := ((byUp (X % 10 ^ t * 2 ^ z) t : Nat) : Int)) (Int.natCast_nonneg _) (by unfold Lim; omega)
      refine ⟨a, b, false, by rw [he], ha, hb, (fun h => by cases h), fun _ => ?_⟩
      have h3 := byUp_split X t z
      unfold Lim at hs
      unfold Most
      omega
theorem up_open (X t z : Nat) : ∃ (a b : Int) (ok : Bool), upV X t z = .tuple #[.agg #[.int .u64 a, .int .u64 b], .bool ok] ∧ U a ∧ U b ∧ (ok = true → wval a b = ((X * 10 ^ t * 2 ^ z : Nat) : Int)) ∧ (ok = false → Most < ((X * 10 ^ t * 2 ^ z : Nat) : Int)) := by
  unfold upV
  by_cases hy : ((X * 10 ^ t * 2 ^ z : Nat) : Int) < Lim
  · obtain ⟨a, b, ha, hb, hv, he⟩ := opt_open (Int.natCast_nonneg _) hy
    exact ⟨a, b, true, he, ha, hb, fun _ => hv, fun h => by cases h⟩
  · exact ⟨0, 0, false, opt_no hy, u_zero, u_zero, fun h => (by cases h), fun _ => by unfold Lim at hy; unfold Most; omega⟩
def errV (e : Int) : Value := .tuple #[wv 0 0, .int .i64 e]
/-- What a text of whole digits, digits behind the point and a suffix tells. -/
def parseW (W P S : List UInt8) : Value := match sufP S with
  | none => errV 11
  | some r => if W ++ P = [] then errV 11 else if 28 < W.length + P.length then errV 12 else
    if ((scaled (valD (W ++ P)) (9 + r.1 - P.length) r.2 : Nat) : Int) ≤ Most then .tuple #[wn (scaled (valD (W ++ P)) (9 + r.1 - P.length) r.2 : Nat), .int .i64 0] else errV 15
/-- What a text tells. -/
def parseV (l : List UInt8) : Value := if l = [] then errV 10 else
  if head (l.drop (cntD l)) 46 = true then parseW (l.take (cntD l)) ((l.drop (cntD l)).tail.take (cntD (l.drop (cntD l)).tail)) ((l.drop (cntD l)).tail.drop (cntD (l.drop (cntD l)).tail))
  else parseW (l.take (cntD l)) [] (l.drop (cntD l))
theorem allD_cnt {l : List UInt8} (h : ∀ c ∈ l, isD c = true) : cntD l = l.length := by
  induction l with
  | nil => rfl
  | cons a t ih => rw [cnt_cons, if_pos (h a (List.mem_cons_self ..)), ih (fun c hc => h c (List.mem_cons_of_mem _ hc)), List.length_cons]
theorem allD_take (l : List UInt8) : ∀ c ∈ l.take (cntD l), isD c = true := by
  intro c hc
  obtain ⟨i, hi, rfl⟩ := List.mem_iff_getElem.1 hc
  rw [List.length_take] at hi
  refine cnt_in (l := l) (k := i) (by omega) ?_
  rw [List.getElem?_eq_getElem (by omega), List.getElem_take]
theorem add_st (a b : List UInt8) : (⟨a.toArray⟩ : ByteArray) ++ ⟨b.toArray⟩ = ⟨(a ++ b).toArray⟩ := by
  refine ByteArray.ext ?_
  simp
end Go.Proofs.Ythpdfacdjgkmpaa.Wi
