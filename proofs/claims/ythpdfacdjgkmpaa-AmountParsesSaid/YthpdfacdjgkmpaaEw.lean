/- The document's reading of an amount: plain facts. -/
import Derived.Test.YthpdfacdjgkmpaaEv
namespace Go.Proofs.Ythpdfacdjgkmpaa.Wi
open Go.RowKit K

/-- Where the reading stands: so many bytes, points, digits, digits behind the point; the digits. -/
def At (l : List UInt8) (k pt cnt bh : Nat) (D : List UInt8) : Prop :=
  (pt = 0 ∧ k ≤ cntD l ∧ cnt = k ∧ bh = 0 ∧ D = l.take k) ∨
  (pt = 1 ∧ head (l.drop (cntD l)) 46 = true ∧ ∃ j, j ≤ cntD (l.drop (cntD l)).tail ∧ k = cntD l + 1 + j ∧ cnt = cntD l + j ∧ bh = j ∧ D = l.take (cntD l) ++ (l.drop (cntD l)).tail.take j)
theorem tail_at (l : List UInt8) (n j : Nat) : (l.drop n).tail[j]? = l[n + 1 + j]? := by
  rw [List.tail_drop, List.getElem?_drop]
theorem tail_len (l : List UInt8) (n : Nat) : (l.drop n).tail.length = l.length - (n + 1) := by
  rw [List.tail_drop, List.length_drop]
theorem head_at {l : List UInt8} {n : Nat} (h : head (l.drop n) 46 = true) : l[n]? = some 46 := by
  have := of_decide_eq_true h
  rw [List.head?_drop] at this
  exact this
theorem at_zero (l : List UInt8) : At l 0 0 0 0 [] := .inl ⟨rfl, Nat.zero_le _, rfl, rfl, by simp⟩
theorem at_facts {l D : List UInt8} {k pt cnt bh : Nat} (h : At l k pt cnt bh D) : D.length = cnt ∧ k ≤ l.length ∧ cnt ≤ k ∧ bh ≤ cnt ∧ pt ≤ 1 ∧ (∀ c ∈ D, isD c = true) := by
  have hc := cnt_le l
  rcases h with ⟨rfl, hk, rfl, rfl, rfl⟩ | ⟨rfl, hh, j, hj, rfl, rfl, rfl, rfl⟩
  · refine ⟨by rw [List.length_take]; omega, by omega, Nat.le_refl _, Nat.zero_le _, by decide, fun c hc => ?_⟩
    refine allD_take l c ?_
    obtain ⟨i, hi, rfl⟩ := List.mem_iff_getElem.1 hc
    rw [List.length_take] at hi
    rw [List.getElem_take]
    rw [List.mem_iff_getElem]
    refine ⟨i, by rw [List.length_take]; omega, by rw [List.getElem_take]⟩
  · have h1 := cnt_le (l.drop (cntD l)).tail
    have h2 := tail_len l (cntD l)
    have h3 : cntD l < l.length := by
      have := head_at hh
      exact (List.getElem?_eq_some_iff.1 this).1
    refine ⟨by rw [List.length_append, List.length_take, List.length_take]; omega, by omega, by omega, by omega, by decide, fun c hc => ?_⟩
    rcases List.mem_append.1 hc with hc | hc
    · exact allD_take l c hc
    · refine allD_take (l.drop (cntD l)).tail c ?_
      obtain ⟨i, hi, rfl⟩ := List.mem_iff_getElem.1 hc
      rw [List.length_take] at hi
      rw [List.getElem_take]
      rw [List.mem_iff_getElem]
      refine ⟨i, by rw [List.length_take]; omega, by rw [List.getElem_take]⟩
theorem at_digit {l D : List UInt8} {k pt cnt bh : Nat} {c : UInt8} (h : At l k pt cnt bh D) (hc : l[k]? = some c) (hd : isD c = true) : At l (k + 1) pt (cnt + 1) (bh + pt) (D ++ [c]) := by
  rcases h with ⟨rfl, hk, rfl, rfl, rfl⟩ | ⟨rfl, hh, j, hj, rfl, rfl, rfl, rfl⟩
  · refine .inl ⟨rfl, ?_, rfl, rfl, by rw [List.take_add_one, hc]; rfl⟩
    by_cases he : cnt = cntD l
    · subst he
      have := cnt_out hc
      rw [hd] at this
      cases this
    · omega
  · have hc2 : (l.drop (cntD l)).tail[bh]? = some c := by rw [tail_at]; exact hc
    refine .inr ⟨rfl, hh, bh + 1, ?_, by omega, by omega, rfl, by rw [List.take_add_one, hc2, List.append_assoc]; rfl⟩
    by_cases he : bh = cntD (l.drop (cntD l)).tail
    · rw [he] at hc2
      have := cnt_out hc2
      rw [hd] at this
      cases this
    · omega
theorem at_point {l D : List UInt8} {k pt cnt bh : Nat} (h : At l k pt cnt bh D) (hc : l[k]? = some 46) (hp : pt = 0) : At l (k + 1) 1 cnt bh D := by
  rcases h with ⟨_, hk, rfl, rfl, rfl⟩ | ⟨rfl, _⟩
  · have he : cnt = cntD l := by
      by_cases he : cnt = cntD l
      · exact he
      · have := cnt_in (show cnt < cntD l by omega) hc
        cases this
    subst he
    refine .inr ⟨rfl, ?_, 0, Nat.zero_le _, rfl, rfl, rfl, by simp⟩
    unfold head
    rw [List.head?_drop, hc]
    rfl
  · cases hp
theorem at_end {l D : List UInt8} {k pt cnt bh : Nat} (h : At l k pt cnt bh D) (hl : l ≠ []) (he : k = l.length ∨ ∃ c, l[k]? = some c ∧ isD c = false ∧ (c = 46 → pt = 1)) : ∃ W P, parseV l = parseW W P (l.drop k) ∧ D = W ++ P ∧ bh = P.length ∧ (W ++ P).length = cnt ∧ W.length + P.length = cnt := by
  have hlen := (at_facts h).1
  have hcl := cnt_le l
  rcases h with ⟨rfl, hk, rfl, rfl, rfl⟩ | ⟨rfl, hh, j, hj, rfl, rfl, rfl, rfl⟩
  · have hke : cnt = cntD l := by
      rcases he with he | ⟨c, hc, hd, _⟩
      · omega
      · by_cases hx : cnt = cntD l
        · exact hx
        · rw [cnt_in (show cnt < cntD l by omega) hc] at hd
          cases hd
    subst hke
    have hh : ¬ head (l.drop (cntD l)) 46 = true := by
      intro hh
      have h46 := head_at hh
      rcases he with he | ⟨c, hc, _, hp⟩
      · rw [he, List.getElem?_eq_none (Nat.le_refl _)] at h46
        cases h46
      · rw [hc] at h46
        exact absurd (hp (Option.some.inj h46)) (by decide)
    exact ⟨l.take (cntD l), [], by rw [parseV, if_neg hl, if_neg hh], by simp, rfl, by simpa using hlen, by simpa using hlen⟩
  · have hje : bh = cntD (l.drop (cntD l)).tail := by
      have h1 := cnt_le (l.drop (cntD l)).tail
      have h2 := tail_len l (cntD l)
      have h3 : cntD l < l.length := (List.getElem?_eq_some_iff.1 (head_at hh)).1
      rcases he with he | ⟨c, hc, hd, _⟩
      · by_cases hx : bh = cntD (l.drop (cntD l)).tail
        · exact hx
        · exfalso; omega
      · by_cases hx : bh = cntD (l.drop (cntD l)).tail
        · exact hx
        · rw [cnt_in (l := (l.drop (cntD l)).tail) (k := bh) (show bh < cntD (l.drop (cntD l)).tail by omega) (by rw [tail_at]; exact hc)] at hd
          cases hd
    refine ⟨l.take (cntD l), (l.drop (cntD l)).tail.take bh, ?_, rfl, ?_, hlen, ?_⟩
    · rw [parseV, if_neg hl, if_pos hh, ← hje]
      congr 1
      rw [List.tail_drop, List.drop_drop]
    · rw [List.length_take]
      have := cnt_le (l.drop (cntD l)).tail
      omega
    · rw [← hlen, List.length_append]
/-- The number of the first 28 digits. -/
theorem val_more {D : List UInt8} {c : UInt8} {cnt : Nat} (hD : D.length = cnt) : (cnt + 1 ≤ 28 → valD ((D ++ [c]).take 28) = valD (D.take 28) * 10 + (c.toNat - 48)) ∧ (¬ cnt + 1 ≤ 28 → valD ((D ++ [c]).take 28) = valD (D.take 28)) := by
  constructor
  · intro h
    rw [List.take_of_length_le (by rw [List.length_append]; simp; omega), List.take_of_length_le (by omega), val_app]
    simp [valD]
  · intro h
    rw [List.take_append_of_le_length (by omega)]
/-- A digit less. -/
theorem nread_drop {w : World} {g o c d n : Nat} {ds : List Nat} (h : NRead w (.slice (some ⟨g, o, none⟩) n c) (d :: ds)) : NRead w (.slice (some ⟨g, o + 1, none⟩) ds.length (c - 1)) ds ∧ n = ds.length + 1 ∧ n ≤ c ∧ w.cell? ⟨g, o, none⟩ = some (.int .i64 (d : Int)) := by
  obtain ⟨p, c', h1, h2, h3, h4, h5⟩ := h
  injection h1 with hp hn hc
  subst hp hc
  have hn' : n = ds.length + 1 := by rw [hn]; rfl
  have hl : ds.length + 1 ≤ c := h2
  refine ⟨⟨_, _, rfl, by omega, by omega, fun h => (by cases h), fun j x hj => ?_⟩, hn', by omega, ?_⟩
  · obtain ⟨g', o', hp, hc⟩ := h5 (j + 1) x hj
    injection hp with hp
    injection hp with hg ho
    subst hg ho
    exact ⟨g, o + 1, rfl, by rw [show o + 1 + j = o + (j + 1) by omega]; exact hc⟩
  · obtain ⟨g', o', hp, hc⟩ := h5 0 d rfl
    injection hp with hp
    injection hp with hg ho
    subst hg ho
    exact hc
theorem drop_step {X m d : Nat} {ds : List Nat} (h : valN (d :: ds) = X / 10 ^ m) (hd : d ≤ 9) : valN ds = X / 10 ^ (m + 1) ∧ (decide (X % 10 ^ (m + 1) ≠ 0) = (decide (X % 10 ^ m ≠ 0) || decide (0 < d))) := by
  obtain ⟨h1, h2⟩ := up_step (X := X) (k := m)
  rw [valN] at h
  refine ⟨by rw [h1, ← h]; omega, ?_⟩
  have h3 : X / 10 ^ m % 10 = d := by omega
  rw [h3] at h2
  by_cases ha : X % 10 ^ m = 0 <;> by_cases hb : d = 0 <;> simp_all <;> omega
theorem none_step {X m : Nat} (h : valN [] = X / 10 ^ m) : valN [] = X / 10 ^ (m + 1) ∧ decide (X % 10 ^ (m + 1) ≠ 0) = decide (X % 10 ^ m ≠ 0) := by
  obtain ⟨h1, h2⟩ := up_step (X := X) (k := m)
  rw [valN] at h
  rw [← h] at h1 h2
  refine ⟨by rw [h1]; rfl, ?_⟩
  congr 1
  simp [h2]
end Go.Proofs.Ythpdfacdjgkmpaa.Wi
