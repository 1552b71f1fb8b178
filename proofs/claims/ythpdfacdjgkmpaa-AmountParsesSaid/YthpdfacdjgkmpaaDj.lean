/- Lengths of words: walks. -/
import Derived.Test.YthpdfacdjgkmpaaDi
namespace Go.Proofs.Ythpdfacdjgkmpaa.Wi
open Go.RowKit K

theorem len_yes {x : Int} (h0 : 0 ≤ x) {k : Nat} (h : x / 2 ^ k ≠ 0) : bitLen x.toNat = k + bitLen (x / 2 ^ k).toNat := by
  obtain ⟨a, rfl⟩ := Int.eq_ofNat_of_zero_le h0
  have e : ((a : Int) / 2 ^ k).toNat = a / 2 ^ k := by
    have : ((a : Int) / 2 ^ k) = ((a / 2 ^ k : Nat) : Int) := by simp
    rw [this]; rfl
  rw [e]
  refine bitLen_shift a k (fun h' => h ?_)
  have : ((a : Int) / 2 ^ k) = ((a / 2 ^ k : Nat) : Int) := by simp
  rw [this, h']; rfl
theorem len_no {x : Int} {k : Nat} (_ : x / 2 ^ k = 0) : True := trivial
theorem len_small {x : Int} (h0 : 0 ≤ x) (h1 : x < 2) : (bitLen x.toNat : Int) = x := by
  have : x = 0 ∨ x = 1 := by omega
  rcases this with rfl | rfl <;> decide
def LenAt (x y s : Int) : Prop := 0 ≤ x ∧ 0 ≤ y ∧ y + 2 * s ≤ 64 ∧ (s = 32 ∧ x < 18446744073709551616 ∧ y + 64 ≤ 64) ∨ (s = 16 ∧ x < 4294967296 ∧ y + 32 ≤ 64) ∨ (s = 8 ∧ x < 65536 ∧ y + 16 ≤ 64) ∨ (s = 4 ∧ x < 256 ∧ y + 8 ≤ 64) ∨ (s = 2 ∧ x < 16 ∧ y + 4 ≤ 64) ∨ (s = 1 ∧ x < 4 ∧ y + 2 ≤ 64) ∨ (s = 0 ∧ x < 2)
set_option maxHeartbeats 4000000 in
theorem length_any (w : World) (X : Int) (hX : U X) : Calls Try.prog 62 #[.int .u64 X] w (Ret w (.int .i64 (bitLen X.toNat))) := by
  unfold U at hX
  obtain ⟨V, hV⟩ : ∃ V, Value.int .i64 (bitLen X.toNat) = V := ⟨_, rfl⟩
  rw [hV]
  have HV := Lib.hid hV
  clear hV
  go_enter Try.func62, Try.ntmps62
  go_wp2_with fail
  go_loopw [0, 3, 4] (fun u n t wr => ∃ x y s : Int, u = .int .u64 x ∧ n = .int .i64 y ∧ t = .int .i64 s ∧ Hid (y + (bitLen x.toNat : Int) = (bitLen X.toNat : Int)) ∧ 0 ≤ x ∧ 0 ≤ y ∧ ((s = 32 ∧ x < 18446744073709551616 ∧ y ≤ 0) ∨ (s = 16 ∧ x < 4294967296 ∧ y ≤ 32) ∨ (s = 8 ∧ x < 65536 ∧ y ≤ 48) ∨ (s = 4 ∧ x < 256 ∧ y ≤ 56) ∨ (s = 2 ∧ x < 16 ∧ y ≤ 60) ∨ (s = 1 ∧ x < 4 ∧ y ≤ 62) ∨ (s = 0 ∧ x < 2 ∧ y ≤ 63)) ∧ Hid (w = wr)) (fun _ _ t _ => (intOf t).toNat)
  case atStart => exact ⟨X, 0, 32, rfl, rfl, rfl, by show (0 : Int) + _ = _; omega, hX.1, by omega, .inl ⟨rfl, hX.2, by omega⟩, rfl⟩
  case round =>
    obtain ⟨x, y, s, rfl, rfl, rfl, hL, h0, hy, hs, hwo⟩ := hrel
    obtain rfl := hwo.out
    rcases hs with ⟨rfl, h1, h2⟩ | ⟨rfl, h1, h2⟩ | ⟨rfl, h1, h2⟩ | ⟨rfl, h1, h2⟩ | ⟨rfl, h1, h2⟩ | ⟨rfl, h1, h2⟩ | ⟨rfl, h1, h2⟩
    · by_cases hq : x / 4294967296 = 0
      · have b1 := len_no (k := 32) (show x / 2 ^ 32 = 0 from hq)
        go_wp2_with fail
        go_roundw
        case rel => exact ⟨x, y, 16, rfl, rfl, rfl, hL, by omega, by omega, by omega, (show True from trivial)⟩
        case measure => simp [intOf]
      · have b1 := len_yes h0 (k := 32) (show x / 2 ^ 32 ≠ 0 from hq)
        have hL2 : Hid (y + 32 + (bitLen (x / 4294967296).toNat : Int) = (bitLen X.toNat : Int)) := by
          have := hL.out
          have e : (x / 2 ^ 32) = x / 4294967296 := rfl
          rw [e] at b1
          show _ = _
          omega
        clear hL
        have ey : IntKind.i64.wrap (y + 32) = y + 32 := by simp [IntKind.wrap, IntKind.signed, IntKind.bits]; omega
        go_wp2_with fail
        go_roundw
        case rel => exact ⟨x / 4294967296, y + 32, 16, rfl, rfl, rfl, hL2, by omega, by omega, by omega, (show True from trivial)⟩
        case measure => simp [intOf]
    · by_cases hq : x / 65536 = 0
      · have b1 := len_no (k := 16) (show x / 2 ^ 16 = 0 from hq)
        go_wp2_with fail
        go_roundw
        case rel => exact ⟨x, y, 8, rfl, rfl, rfl, hL, by omega, by omega, by omega, (show True from trivial)⟩
        case measure => simp [intOf]
      · have b1 := len_yes h0 (k := 16) (show x / 2 ^ 16 ≠ 0 from hq)
        have hL2 : Hid (y + 16 + (bitLen (x / 65536).toNat : Int) = (bitLen X.toNat : Int)) := by
          have := hL.out
          have e : (x / 2 ^ 16) = x / 65536 := rfl
          rw [e] at b1
          show _ = _
          omega
        clear hL
        have ey : IntKind.i64.wrap (y + 16) = y + 16 := by simp [IntKind.wrap, IntKind.signed, IntKind.bits]; omega
        go_wp2_with fail
        go_roundw
        case rel => exact ⟨x / 65536, y + 16, 8, rfl, rfl, rfl, hL2, by omega, by omega, by omega, (show True from trivial)⟩
        case measure => simp [intOf]
    · by_cases hq : x / 256 = 0
      · have b1 := len_no (k := 8) (show x / 2 ^ 8 = 0 from hq)
        go_wp2_with fail
        go_roundw
        case rel => exact ⟨x, y, 4, rfl, rfl, rfl, hL, by omega, by omega, by omega, (show True from trivial)⟩
        case measure => simp [intOf]
      · have b1 := len_yes h0 (k := 8) (show x / 2 ^ 8 ≠ 0 from hq)
        have hL2 : Hid (y + 8 + (bitLen (x / 256).toNat : Int) = (bitLen X.toNat : Int)) := by
          have := hL.out
          have e : (x / 2 ^ 8) = x / 256 := rfl
          rw [e] at b1
          show _ = _
          omega
        clear hL
        have ey : IntKind.i64.wrap (y + 8) = y + 8 := by simp [IntKind.wrap, IntKind.signed, IntKind.bits]; omega
        go_wp2_with fail
        go_roundw
        case rel => exact ⟨x / 256, y + 8, 4, rfl, rfl, rfl, hL2, by omega, by omega, by omega, (show True from trivial)⟩
        case measure => simp [intOf]
    · by_cases hq : x / 16 = 0
      · have b1 := len_no (k := 4) (show x / 2 ^ 4 = 0 from hq)
        go_wp2_with fail
        go_roundw
        case rel => exact ⟨x, y, 2, rfl, rfl, rfl, hL, by omega, by omega, by omega, (show True from trivial)⟩
        case measure => simp [intOf]
      · have b1 := len_yes h0 (k := 4) (show x / 2 ^ 4 ≠ 0 from hq)
        have hL2 : Hid (y + 4 + (bitLen (x / 16).toNat : Int) = (bitLen X.toNat : Int)) := by
          have := hL.out
          have e : (x / 2 ^ 4) = x / 16 := rfl
          rw [e] at b1
          show _ = _
          omega
        clear hL
        have ey : IntKind.i64.wrap (y + 4) = y + 4 := by simp [IntKind.wrap, IntKind.signed, IntKind.bits]; omega
        go_wp2_with fail
        go_roundw
        case rel => exact ⟨x / 16, y + 4, 2, rfl, rfl, rfl, hL2, by omega, by omega, by omega, (show True from trivial)⟩
        case measure => simp [intOf]
    · by_cases hq : x / 4 = 0
      · have b1 := len_no (k := 2) (show x / 2 ^ 2 = 0 from hq)
        go_wp2_with fail
        go_roundw
        case rel => exact ⟨x, y, 1, rfl, rfl, rfl, hL, by omega, by omega, by omega, (show True from trivial)⟩
        case measure => simp [intOf]
      · have b1 := len_yes h0 (k := 2) (show x / 2 ^ 2 ≠ 0 from hq)
        have hL2 : Hid (y + 2 + (bitLen (x / 4).toNat : Int) = (bitLen X.toNat : Int)) := by
          have := hL.out
          have e : (x / 2 ^ 2) = x / 4 := rfl
          rw [e] at b1
          show _ = _
          omega
        clear hL
        have ey : IntKind.i64.wrap (y + 2) = y + 2 := by simp [IntKind.wrap, IntKind.signed, IntKind.bits]; omega
        go_wp2_with fail
        go_roundw
        case rel => exact ⟨x / 4, y + 2, 1, rfl, rfl, rfl, hL2, by omega, by omega, by omega, (show True from trivial)⟩
        case measure => simp [intOf]
    · by_cases hq : x / 2 = 0
      · have b1 := len_no (k := 1) (show x / 2 ^ 1 = 0 from hq)
        go_wp2_with fail
        go_roundw
        case rel => exact ⟨x, y, 0, rfl, rfl, rfl, hL, by omega, by omega, by omega, (show True from trivial)⟩
        case measure => simp [intOf]
      · have b1 := len_yes h0 (k := 1) (show x / 2 ^ 1 ≠ 0 from hq)
        have hL2 : Hid (y + 1 + (bitLen (x / 2).toNat : Int) = (bitLen X.toNat : Int)) := by
          have := hL.out
          have e : (x / 2 ^ 1) = x / 2 := rfl
          rw [e] at b1
          show _ = _
          omega
        clear hL
        have ey : IntKind.i64.wrap (y + 1) = y + 1 := by simp [IntKind.wrap, IntKind.signed, IntKind.bits]; omega
        go_wp2_with fail
        go_roundw
        case rel => exact ⟨x / 2, y + 1, 0, rfl, rfl, rfl, hL2, by omega, by omega, by omega, (show True from trivial)⟩
        case measure => simp [intOf]
    · have b1 := hL.out
      rw [len_small h0 h1] at b1
      have HB := Lib.hid b1
      clear b1 hL
      have e1 : IntKind.i64.wrap x = x := by simp [IntKind.wrap, IntKind.signed, IntKind.bits]; omega
      have e2 : IntKind.i64.wrap (y + x) = y + x := by simp [IntKind.wrap, IntKind.signed, IntKind.bits]; omega
      go_wp2_with fail
      refine bodyPost_ret (v := .int .i64 (y + x)) (by simp [results, Try.results62, go_sem]; done) rfl ⟨congrArg Ending.returned ?_, Below.refl _ _⟩
      rw [← HV.out, HB.out]
theorem bitLen_lt (n k : Nat) (h : n < 2 ^ k) : bitLen n ≤ k := by
  unfold bitLen
  split
  · omega
  · rename_i h0
    have := (Nat.log2_lt h0).2 h
    omega
set_option maxHeartbeats 4000000 in
theorem bits_any (w : World) (a b : Int) (ha : U a) (hb : U b) : Calls Try.prog 60 #[wv a b] w (Ret w (.int .i64 (bitLen (wval a b).toNat))) := by
  have HA := Lib.hid ha
  have HB := Lib.hid hb
  obtain ⟨V, hV⟩ : ∃ V, Value.int .i64 (bitLen (wval a b).toNat) = V := ⟨_, rfl⟩
  rw [hV]
  have HV := Lib.hid hV
  clear hV ha hb
  unfold wv
  by_cases h0 : a = 0
  · subst h0
    go_enter Try.func60, Try.ntmps60
    go_wp2_with fail
    refine (length_any _ b HB.out).mono ?_
    rintro e w1 ⟨rfl, hb1⟩
    obtain ⟨L, hL⟩ : ∃ L : Int, (bitLen b.toNat : Int) = L := ⟨_, rfl⟩
    rw [hL]
    have HL := Lib.hid hL
    clear hL
    go_wp2_with fail
    refine bodyPost_ret (v := .int .i64 L) (by simp [results, Try.results60, go_sem]; done) rfl ⟨congrArg Ending.returned ?_, b_then (b_alloc (Below.refl _ _) _) hb1⟩
    rw [← HV.out, ← HL.out, show wval 0 b = b by unfold wval; omega]
  · go_enter Try.func60, Try.ntmps60
    go_wp2_with fail
    refine (length_any _ a HA.out).mono ?_
    rintro e w1 ⟨rfl, hb1⟩
    have hl : bitLen a.toNat ≤ 64 := bitLen_lt _ 64 (by have := HA.out; unfold U at this; omega)
    have hx : (bitLen (wval a b).toNat : Int) = 64 + (bitLen a.toNat : Int) := by
      have h1 := HA.out
      have h2 := HB.out
      unfold U at h1 h2
      have e : wval a b / 2 ^ 64 = a := by unfold wval; omega
      have := len_yes (x := wval a b) (by unfold wval; omega) (k := 64) (by rw [e]; exact h0)
      rw [e] at this
      omega
    obtain ⟨L, hL⟩ : ∃ L : Int, (bitLen a.toNat : Int) = L := ⟨_, rfl⟩
    have e1 : IntKind.i64.wrap (64 + L) = 64 + L := by simp [IntKind.wrap, IntKind.signed, IntKind.bits]; omega
    rw [hL] at hx ⊢
    have HX := Lib.hid hx
    clear hL hx hl
    go_wp2_with fail
    refine bodyPost_ret (v := .int .i64 (64 + L)) (by simp [results, Try.results60, go_sem]; done) rfl ⟨congrArg Ending.returned ?_, b_then (b_alloc (Below.refl _ _) _) hb1⟩
    rw [← HV.out, ← HX.out]
end Go.Proofs.Ythpdfacdjgkmpaa.Wi
