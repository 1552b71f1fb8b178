/- What WideBack's walk wants of numbers. -/
import Derived.Test.YtfckignchmpeaaaDt
namespace Go.Proofs.Ytfckignchmpeaaa.Wi
open Go.RowKit K

theorem keeps2 {w0 w : World} {H g1 g2 : Nat} {o1 o2 : Obj} (h1 : w.heap[g1]? = some o1) (l1 : g1 < H) (h2 : w.heap[g2]? = some o2) (l2 : g2 < H) (hH : w0.heap.size ≤ H) (hw : H ≤ w.heap.size) (hb : Below w0.heap.size w0 w) : Keeps [(g1, o1), (g2, o2)] w0 H w := by
  refine ⟨fun g o hm => ?_, hH, hw, hb⟩
  rcases List.mem_cons.1 hm with e | hm
  · cases e; exact ⟨h1, l1⟩
  · cases List.mem_singleton.1 hm; exact ⟨h2, l2⟩
theorem keeps3 {w0 w : World} {H g1 g2 g3 : Nat} {o1 o2 o3 : Obj} (h1 : w.heap[g1]? = some o1) (l1 : g1 < H) (h2 : w.heap[g2]? = some o2) (l2 : g2 < H) (h3 : w.heap[g3]? = some o3) (l3 : g3 < H) (hH : w0.heap.size ≤ H) (hw : H ≤ w.heap.size) (hb : Below w0.heap.size w0 w) : Keeps [(g1, o1), (g2, o2), (g3, o3)] w0 H w := by
  refine ⟨fun g o hm => ?_, hH, hw, hb⟩
  rcases List.mem_cons.1 hm with e | hm
  · cases e; exact ⟨h1, l1⟩
  rcases List.mem_cons.1 hm with e | hm
  · cases e; exact ⟨h2, l2⟩
  · cases List.mem_singleton.1 hm; exact ⟨h3, l3⟩
theorem k1 {w0 w : World} {H : Nat} {g : Nat} {o : Obj} {r : List (Nat × Obj)} (h : Keeps ((g, o) :: r) w0 H w) : w.heap[g]? = some o := keeps_row h (List.mem_cons_self ..)
theorem k2 {w0 w : World} {H : Nat} {g : Nat} {o : Obj} {p : Nat × Obj} {r : List (Nat × Obj)} (h : Keeps (p :: (g, o) :: r) w0 H w) : w.heap[g]? = some o := keeps_row h (List.mem_cons_of_mem _ (List.mem_cons_self ..))
theorem k3 {w0 w : World} {H : Nat} {g : Nat} {o : Obj} {p q : Nat × Obj} {r : List (Nat × Obj)} (h : Keeps (p :: q :: (g, o) :: r) w0 H w) : w.heap[g]? = some o := keeps_row h (List.mem_cons_of_mem _ (List.mem_cons_of_mem _ (List.mem_cons_self ..)))
theorem cells2 {w : World} {g : Nat} {x y : Value} {t : TypeId} (r : w.heap[g]? = some (.cells #[x, y] t (0, 0))) : w.cell? ⟨g, 0, none⟩ = some x ∧ w.cell? ⟨g, 1, none⟩ = some y := ⟨(cell_of_row _ _ _ _ _ _ r).trans rfl, (cell_of_row _ _ _ _ _ _ r).trans rfl⟩
theorem size_alloc0 (w : World) (o : Obj) : (w.alloc o).heap.size = w.heap.size + 1 := by
  show (w.heap.push o).size = _
  simp
theorem keepsH {rs : List (Nat × Obj)} {w0 w : World} {H : Nat} (h : Keeps rs w0 H w) : H ≤ w.heap.size := h.2.2.1
theorem keepsMid {P Q R : Prop} (h : P ∧ Q ∧ R) : Q := h.2.1
theorem blk_alloc_new1 (w : World) (p o : Obj) : ((w.alloc p).alloc o).heap[w.heap.size + 1]? = some o := by
  have := heap_alloc_new (w.alloc p) o
  rw [size_alloc0] at this
  exact this
theorem size_alloc (w : World) (o : Obj) : (w.alloc o).heap.size = w.heap.size + 1 := by
  show (w.heap.push o).size = _
  simp
theorem digit_of {d : Nat} (h : d < 10) : Lib.digitVal (UInt8.ofNat (48 + d)) = some d := by
  have e : (UInt8.ofNat (48 + d)).toNat = 48 + d := by
    rw [UInt8.toNat_ofNat']
    omega
  rw [Lib.digitVal, if_pos (by omega), e]
  congr 1
  omega
theorem dec_one {acc d : Nat} (h : d < 10) : Lib.decFrom acc [UInt8.ofNat (48 + d)] = some (acc * 10 + d) := by
  rw [Lib.decFrom, digit_of h]
  rfl
theorem dec_text (X : Nat) : Lib.decFrom 0 (Lib.decDigits X) = some X := by
  induction X using Nat.strongRecOn with
  | _ X ih =>
    rw [Lib.decDigits]
    by_cases h : X < 10
    · rw [dif_pos h, dec_one h, Nat.zero_mul, Nat.zero_add]
    · rw [dif_neg h, dec_append, ih (X / 10) (by omega)]
      show Lib.decFrom (X / 10) _ = _
      rw [dec_one (Nat.mod_lt _ (by omega))]
      congr 1
      omega
theorem dec_head (X : Nat) (h0 : 0 < X) : ∃ b l, Lib.decDigits X = b :: l ∧ b ≠ 48 := by
  induction X using Nat.strongRecOn with
  | _ X ih =>
    rw [Lib.decDigits]
    by_cases h : X < 10
    · rw [dif_pos h]
      refine ⟨_, [], rfl, fun e => ?_⟩
      have := congrArg UInt8.toNat e
      rw [UInt8.toNat_ofNat'] at this
      have e2 : (48 : UInt8).toNat = 48 := rfl
      omega
    · rw [dif_neg h]
      obtain ⟨b, l, hb, hn⟩ := ih (X / 10) (by omega) (by omega)
      rw [hb]
      exact ⟨b, _, rfl, hn⟩
theorem nDigits_le : ∀ (k u : Nat), u < 10 ^ (k + 1) → Lib.nDigits u ≤ k + 1
  | 0, u, h => by rw [Lib.nDigits_small (by simpa using h)]; omega
  | k + 1, u, h => by
    by_cases h0 : u < 10
    · rw [Lib.nDigits_small h0]; omega
    · rw [Lib.nDigits_big h0]
      have := nDigits_le k (u / 10) (by rw [Nat.pow_succ] at h; omega)
      omega
theorem text_len {X : Nat} (h : X < 340282366920938463463374607431768211456) : (⟨(Lib.decDigits X).toArray⟩ : ByteArray).size ≤ maxLen := by
  have hl : ((⟨(Lib.decDigits X).toArray⟩ : ByteArray)).data.toList = Lib.decDigits X := by simp
  rw [← len_eq, hl, Lib.decDigits_length]
  have := nDigits_le 39 X (Nat.lt_of_lt_of_le h (by decide))
  unfold maxLen
  omega
theorem parse_text (X : Nat) : parseV ⟨(Lib.decDigits X).toArray⟩ = wideV X := by
  have hl : ((⟨(Lib.decDigits X).toArray⟩ : ByteArray)).data.toList = Lib.decDigits X := by simp
  have hsz : (⟨(Lib.decDigits X).toArray⟩ : ByteArray).size = (Lib.decDigits X).length := by rw [← len_eq, hl]
  refine parse_done (by rw [hl]; exact dec_text X) ?_ ?_
  · rw [hsz, Lib.decDigits_length]
    have := Lib.nDigits_pos X
    omega
  · rintro ⟨h1, h2⟩
    rw [hl] at h2
    rw [hsz] at h1
    by_cases h0 : 0 < X
    · obtain ⟨b, l, hb, hn⟩ := dec_head X h0
      rw [hb] at h2
      exact hn (Option.some.inj h2)
    · obtain rfl : X = 0 := by omega
      rw [Lib.decDigits, dif_pos (by omega)] at h1
      simp at h1
theorem wval_rng {a b : Int} (ha : U a) (hb : U b) : 0 ≤ wval a b ∧ wval a b < 340282366920938463463374607431768211456 := by
  unfold U at ha hb
  unfold wval
  omega
theorem wval_div {a b : Int} (hb : U b) : wval a b / 18446744073709551616 = a ∧ wval a b % 18446744073709551616 = b := by
  unfold U at hb
  unfold wval
  omega
theorem opt_of {X a b : Int} {ok : Prop} [Decidable ok] (hb : U b) (h : ok) (hX : X = wval a b) : optV X ok = .tuple #[.agg #[.int .u64 a, .int .u64 b], .bool true] := by
  obtain ⟨h1, h2⟩ := wval_div (a := a) hb
  rw [optV, if_pos h, hX, h1, h2]
  rfl
theorem wn_back {X a b : Int} (hb : U b) (hX : X = wval a b) : wn X = .agg #[.int .u64 a, .int .u64 b] := by
  obtain ⟨h1, h2⟩ := wval_div (a := a) hb
  rw [wn, hX, h1, h2]
  rfl
theorem by_back {a b u : Int} (hb : U b) (hu : 0 < u) : wbyV (wval a b * u) u = .tuple #[.agg #[.int .u64 a, .int .u64 b], .int .u64 0, .bool true] := by
  rw [wbyV, if_neg (by omega), Int.mul_ediv_cancel _ (by omega), Int.mul_emod_left, wn_back hb rfl]
theorem by_pair {X u : Int} (h0 : 0 ≤ X) (hX : X < 340282366920938463463374607431768211456) (hu : 0 < u) : ∃ q1 q2 r p1 p2 : Int, wbyV X u = .tuple #[.agg #[.int .u64 q1, .int .u64 q2], .int .u64 r, .bool true] ∧ U q1 ∧ U q2 ∧ 0 ≤ r ∧ r < u ∧
    optV (wval q1 q2 * u) (wval q1 q2 * u < 340282366920938463463374607431768211456) = .tuple #[.agg #[.int .u64 p1, .int .u64 p2], .bool true] ∧ U p1 ∧ U p2 ∧ wval p1 p2 + r = X := by
  have h1 : 0 ≤ X / u := Int.ediv_nonneg h0 (by omega)
  have h2 : X / u ≤ X := Int.ediv_le_self u h0
  have h3 := Int.emod_nonneg X (show u ≠ 0 by omega)
  have h4 := Int.emod_lt_of_pos X hu
  have h5 := Int.mul_ediv_add_emod X u
  have h6 : X / u * u = u * (X / u) := Int.mul_comm _ _
  have h7 : 0 ≤ u * (X / u) := Int.mul_nonneg (by omega) h1
  refine ⟨X / u / 18446744073709551616, X / u % 18446744073709551616, X % u, X / u * u / 18446744073709551616, X / u * u % 18446744073709551616, ?_, ?_, ?_, h3, h4, ?_, ?_, ?_, ?_⟩
  · rw [wbyV, if_neg (by omega)]
    rfl
  · unfold U; omega
  · unfold U; omega
  · have e : wval (X / u / 18446744073709551616) (X / u % 18446744073709551616) = X / u := by unfold wval; omega
    rw [e, optV, if_pos (by omega)]
    rfl
  · unfold U; omega
  · unfold U; omega
  · have e : wval (X / u * u / 18446744073709551616) (X / u * u % 18446744073709551616) = X / u * u := by unfold wval; omega
    rw [e]
    omega
theorem by_any3 {X u : Int} (h0 : 0 ≤ X) (hX : X < 340282366920938463463374607431768211456) (hu : 0 ≤ u) : ∃ (q1 q2 r p1 p2 : Int) (t : Bool), wbyV X u = .tuple #[.agg #[.int .u64 q1, .int .u64 q2], .int .u64 r, .bool t] ∧ U q1 ∧ U q2 ∧ 0 ≤ r ∧ r ≤ u ∧ (t = true → r < u ∧
    optV (wval q1 q2 * u) (wval q1 q2 * u < 340282366920938463463374607431768211456) = .tuple #[.agg #[.int .u64 p1, .int .u64 p2], .bool true] ∧ U p1 ∧ U p2 ∧ wval p1 p2 + r = X) := by
  by_cases h : 0 < u
  · obtain ⟨q1, q2, r, p1, p2, h1, h2, h3, h4, h5, h6, h7, h8, h9⟩ := by_pair h0 hX h
    exact ⟨q1, q2, r, p1, p2, true, h1, h2, h3, h4, by omega, fun _ => ⟨h5, h6, h7, h8, h9⟩⟩
  · refine ⟨0, 0, 0, 0, 0, false, ?_, by unfold U; decide, by unfold U; decide, by omega, hu, fun e => absurd e (by decide)⟩
    rw [wbyV, if_pos (by omega)]
    rfl
theorem left_back {a b n : Int} (ha : U a) (hb : U b) : ∃ (x y : Int) (t : Bool), leftV (wval a b) n = .tuple #[.agg #[.int .u64 x, .int .u64 y], .bool t] ∧ U x ∧ U y ∧ (t = true → wn (wval x y / 2 ^ n.toNat) = .agg #[.int .u64 a, .int .u64 b]) := by
  have hw : 0 ≤ wval a b := by unfold U at ha hb; unfold wval; omega
  have hp : (0 : Int) < 2 ^ n.toNat := Int.pow_pos (by omega)
  unfold leftV optV
  by_cases h : 0 ≤ n ∧ wval a b * 2 ^ n.toNat < 340282366920938463463374607431768211456
  · rw [if_pos h]
    have h0 : 0 ≤ wval a b * 2 ^ n.toNat := Int.mul_nonneg hw (by omega)
    refine ⟨_, _, true, rfl, ?_, ?_, fun _ => ?_⟩
    · unfold U; omega
    · unfold U; omega
    · have e : wval (wval a b * 2 ^ n.toNat / 18446744073709551616) (wval a b * 2 ^ n.toNat % 18446744073709551616) = wval a b * 2 ^ n.toNat := by
        generalize wval a b * 2 ^ n.toNat = Z
        unfold wval
        omega
      rw [e, Int.mul_ediv_cancel _ (by omega), wn_back hb rfl]
  · rw [if_neg h]
    exact ⟨0, 0, false, rfl, by unfold U; decide, by unfold U; decide, fun e => absurd e (by decide)⟩
theorem opt_spec {X : Int} (h0 : 0 ≤ X) : ∃ (x y : Int) (t : Bool), optV X (X < 340282366920938463463374607431768211456) = .tuple #[.agg #[.int .u64 x, .int .u64 y], .bool t] ∧ U x ∧ U y ∧ (t = true → wval x y = X) := by
  by_cases hX : X < 340282366920938463463374607431768211456
  · obtain ⟨P, Q, h1, h2, h3, h4⟩ := opt_yes h0 hX
    exact ⟨P, Q, true, h4, h2, h3, fun _ => h1⟩
  · exact ⟨0, 0, false, by rw [optV, if_neg hX]; rfl, by unfold U; decide, by unfold U; decide, fun e => absurd e (by decide)⟩
theorem right_all {A : Int} (h : 0 ≤ A) : wn (A / 2 ^ (bitLen A.toNat : Int).toNat) = .agg #[.int .u64 0, .int .u64 0] := by
  obtain ⟨n, rfl⟩ := Int.eq_ofNat_of_zero_le h
  have e : ((n : Int) / 2 ^ (bitLen n : Int).toNat) = 0 := by
    rw [Int.toNat_natCast]
    have := Nat.div_eq_of_lt (bitLen_spec n).1
    have h2 : ((n / 2 ^ bitLen n : Nat) : Int) = 0 := by rw [this]; rfl
    rw [← h2]
    simp
  show wn ((n : Int) / 2 ^ (bitLen (n : Int).toNat : Int).toNat) = _
  rw [Int.toNat_natCast n, e]
  rfl
end Go.Proofs.Ytfckignchmpeaaa.Wi
