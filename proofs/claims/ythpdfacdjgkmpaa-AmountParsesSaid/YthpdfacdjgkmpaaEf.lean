/- The digits at a text's beginning, a text's first byte, by walks. -/
import Derived.Test.YthpdfacdjgkmpaaEe
import Derived.Lib.PathFns
namespace Go.Proofs.Ythpdfacdjgkmpaa.Wi
open Go.RowKit K

attribute [local go_sem] lookTo stepTo Maker.step
/-- A text of bytes. -/
abbrev st (l : List UInt8) : ByteArray := ⟨l.toArray⟩
theorem st_size (l : List UInt8) : (⟨l.toArray⟩ : ByteArray).size = l.length := by show l.toArray.size = _; simp
def byteL (l : List UInt8) (i : Nat) : Nat := (l[i]?.map UInt8.toNat).getD 0
theorem byteL_lt (l : List UInt8) (i : Nat) : byteL l i < 256 := by
  unfold byteL
  cases l[i]? with
  | none => decide
  | some b => exact b.toNat_lt
theorem byteL_at {l : List UInt8} {i : Nat} {b : UInt8} (h : l[i]? = some b) : byteL l i = b.toNat := by rw [byteL, h]; rfl
theorem idxL (w : World) (l : List UInt8) (i : Nat) (h : i < l.length) : (Instr.index 9 (.string ⟨l.toArray⟩) (.int .i64 (i : Int))).run Try.prog w = .ok (.int .u8 (byteL l i)) w := by
  have hs : i < (⟨l.toArray⟩ : ByteArray).size := by rw [st_size]; exact h
  rw [run_index_string w 9 ⟨l.toArray⟩ .i64 (i : Int) Try.underlying9, dif_pos ⟨by omega, by omega⟩]
  have : byteL l i = ((⟨l.toArray⟩ : ByteArray)[((i : Nat) : Int).toNat]'(by rw [Int.toNat_natCast]; exact hs)).toNat := by
    rw [byteL, List.getElem?_eq_getElem h]
    rfl
  rw [this]
theorem take_st {l : List UInt8} (n : Nat) : (⟨l.toArray⟩ : ByteArray).extract 0 n = ⟨(l.take n).toArray⟩ := by
  refine ByteArray.ext ?_
  simp
theorem drop_st {l : List UInt8} (n : Nat) : (⟨l.toArray⟩ : ByteArray).extract n l.length = ⟨(l.drop n).toArray⟩ := by
  have := Lib.Pa.extract_from (⟨l.toArray⟩ : ByteArray) n
  rw [st_size] at this
  rw [this]
def isD (c : UInt8) : Bool := 48 ≤ c.toNat && c.toNat ≤ 57
/-- How many digits a text begins with. -/
def cntD (l : List UInt8) : Nat := (l.takeWhile isD).length
theorem cnt_le (l : List UInt8) : cntD l ≤ l.length := by
  unfold cntD
  have h := congrArg List.length (List.takeWhile_append_dropWhile (p := isD) (l := l))
  rw [List.length_append] at h
  omega
theorem cnt_cons (a : UInt8) (t : List UInt8) : cntD (a :: t) = if isD a = true then cntD t + 1 else 0 := by
  unfold cntD
  rw [List.takeWhile_cons]
  split <;> simp
theorem cnt_in : ∀ {l : List UInt8} {k : Nat} {c : UInt8}, k < cntD l → l[k]? = some c → isD c = true := by
  intro l
  induction l with
  | nil => intro k c h _; simp [cntD] at h
  | cons a t ih =>
    intro k c h hc
    rw [cnt_cons] at h
    split at h
    · rename_i ha
      cases k with
      | zero => simp at hc; subst hc; exact ha
      | succ k => exact ih (k := k) (by omega) (by simpa using hc)
    · omega
theorem cnt_out : ∀ {l : List UInt8} {c : UInt8}, l[cntD l]? = some c → isD c = false := by
  intro l
  induction l with
  | nil => intro c h; simp at h
  | cons a t ih =>
    intro c h
    rw [cnt_cons] at h
    split at h
    · exact ih (by simpa using h)
    · rename_i ha
      simp at h
      subst h
      simpa using ha
theorem cnt_more {l : List UInt8} {k : Nat} (hk : k ≤ cntD l) (hl : k < l.length) : (k < cntD l ↔ 48 ≤ byteL l k ∧ byteL l k ≤ 57) := by
  obtain ⟨c, hc⟩ : ∃ c, l[k]? = some c := ⟨_, List.getElem?_eq_getElem hl⟩
  rw [byteL_at hc]
  constructor
  · intro h
    have := cnt_in h hc
    simpa [isD] using this
  · intro h
    by_cases he : k = cntD l
    · subst he
      have := cnt_out hc
      simp [isD] at this
      omega
    · omega
attribute [local go_sem ↓] idxL st_size
/-- The digits, and what stands behind them. -/
def digV (l : List UInt8) : Value := .tuple #[.string ⟨(l.take (cntD l)).toArray⟩, .string ⟨(l.drop (cntD l)).toArray⟩]
set_option maxHeartbeats 4000000 in
set_option maxRecDepth 100000 in
theorem digits_any (w : World) (l : List UInt8) (hl : l.length ≤ maxLen) : Calls Try.prog 26 #[.string ⟨l.toArray⟩] w (Ret w (digV l)) := by
  have HL := Lib.hid hl
  have hm : maxLen = 4611686018427387904 ∨ True := Or.inr trivial
  clear hl hm
  have S0 : Hid (Stays [] w w) := Lib.hid (stays_nil (Below.refl _ _))
  go_enter Try.func26, Try.ntmps26
  go_wp2_with fail
  go_loopw [4] (fun i wr => ∃ k : Nat, k ≤ cntD l ∧ i = .int .i64 k ∧ Hid (Stays [] w wr)) (fun i _ => cntD l - (intOf i).toNat)
  case atStart => exact ⟨0, by omega, rfl, S0⟩
  case round =>
    obtain ⟨k, hk, rfl, S1⟩ := hrel
    clear S0
    have hcl := cnt_le l
    by_cases hlt : k < l.length
    · have hlti : (k : Int) < (l.length : Int) := by omega
      have hcm := cnt_more hk hlt
      have c0 := byteL_lt l k
      obtain ⟨c, hc, hc0, hc1⟩ : ∃ c : Int, (byteL l k : Int) = c ∧ 0 ≤ c ∧ c < 256 := ⟨_, rfl, by omega, by omega⟩
      by_cases h1 : c < 48
      · have hkc : k = cntD l := by omega
        have HC := Lib.hid hkc; have hkl : k ≤ l.length := by omega
        clear hcm hkc hk hcl c0
        go_upto_region 4 with fail
        refine reg (Stays [] w) (Turns [] w) (kdOf []) none0 (stays_good _ _) (by kernel_rfl) (by kernel_rfl) (stays_drew (S1.out)) (holds0 _) ?_
        refine g_look rfl rfl ?_ (fun w' hC => ?_) ?_
        rotate_left
        · go_simp
          first | done | rfl
        simp only [Act.put, List.setIfInBounds_toArray, List.set_cons_zero, List.set_cons_succ]
        refine g_look rfl rfl ?_ (fun w' hC => ?_) ?_
        rotate_left
        · go_simp
          first | done | rfl
        simp only [Act.put, List.setIfInBounds_toArray, List.set_cons_zero, List.set_cons_succ]
        refine g_look rfl rfl (.string ⟨(l.take k).toArray⟩) (fun w' hC => ?_) ?_
        · clear hC
          go_simp
          first | done | exact ⟨congrArg Value.string (take_st k), rfl⟩ | exact take_st k | (simp; exact take_st k)
        simp only [Act.put, List.setIfInBounds_toArray, List.set_cons_zero, List.set_cons_succ]
        refine g_look rfl rfl ?_ (fun w' hC => ?_) ?_
        rotate_left
        · go_simp
          first | done | rfl
        simp only [Act.put, List.setIfInBounds_toArray, List.set_cons_zero, List.set_cons_succ]
        refine g_look rfl rfl ?_ (fun w' hC => ?_) ?_
        rotate_left
        · go_simp
          first | done | rfl
        simp only [Act.put, List.setIfInBounds_toArray, List.set_cons_zero, List.set_cons_succ]
        refine g_look rfl rfl (.string ⟨(l.drop k).toArray⟩) (fun w' hC => ?_) ?_
        · clear hC
          go_simp
          first | done | exact ⟨congrArg Value.string (drop_st k), rfl⟩ | exact drop_st k | (simp; exact drop_st k)
        simp only [Act.put, List.setIfInBounds_toArray, List.set_cons_zero, List.set_cons_succ]
        refine g_look rfl rfl ?_ (fun w' hC => ?_) ?_
        rotate_left
        · go_simp
          first | done | rfl
        simp only [Act.put, List.setIfInBounds_toArray, List.set_cons_zero, List.set_cons_succ]
        refine g_look rfl rfl ?_ (fun w' hC => ?_) ?_
        rotate_left
        · go_simp
          first | done | rfl
        simp only [Act.put, List.setIfInBounds_toArray, List.set_cons_zero, List.set_cons_succ]
        refine g_end ?_
        intro w2 hC2 hh2
        have S2 : Hid (Stays [] w w2) := Lib.hid (stays_nil (stays_below hC2))
        clear S1
        clear hC2 hh2
        go_wp2_with fail
        refine bodyPost_ret (v := .tuple #[.string ⟨(l.take k).toArray⟩, .string ⟨(l.drop k).toArray⟩]) (by simp [results, Try.results26, go_sem]) rfl ⟨congrArg Ending.returned (by rw [digV, ← HC.out]), stays_below S2.out⟩
      · by_cases h2 : 57 < c
        · have hkc : k = cntD l := by omega
          have HC := Lib.hid hkc; have hkl : k ≤ l.length := by omega
          clear hcm hkc hk hcl c0
          go_upto_region 4 with fail
          refine reg (Stays [] w) (Turns [] w) (kdOf []) none0 (stays_good _ _) (by kernel_rfl) (by kernel_rfl) (stays_drew (S1.out)) (holds0 _) ?_
          refine g_look rfl rfl ?_ (fun w' hC => ?_) ?_
          rotate_left
          · go_simp
            first | done | rfl
          simp only [Act.put, List.setIfInBounds_toArray, List.set_cons_zero, List.set_cons_succ]
          refine g_look rfl rfl ?_ (fun w' hC => ?_) ?_
          rotate_left
          · go_simp
            first | done | rfl
          simp only [Act.put, List.setIfInBounds_toArray, List.set_cons_zero, List.set_cons_succ]
          refine g_look rfl rfl (.string ⟨(l.take k).toArray⟩) (fun w' hC => ?_) ?_
          · clear hC
            go_simp
            first | done | exact ⟨congrArg Value.string (take_st k), rfl⟩ | exact take_st k | (simp; exact take_st k)
          simp only [Act.put, List.setIfInBounds_toArray, List.set_cons_zero, List.set_cons_succ]
          refine g_look rfl rfl ?_ (fun w' hC => ?_) ?_
          rotate_left
          · go_simp
            first | done | rfl
          simp only [Act.put, List.setIfInBounds_toArray, List.set_cons_zero, List.set_cons_succ]
          refine g_look rfl rfl ?_ (fun w' hC => ?_) ?_
          rotate_left
          · go_simp
            first | done | rfl
          simp only [Act.put, List.setIfInBounds_toArray, List.set_cons_zero, List.set_cons_succ]
          refine g_look rfl rfl (.string ⟨(l.drop k).toArray⟩) (fun w' hC => ?_) ?_
          · clear hC
            go_simp
            first | done | exact ⟨congrArg Value.string (drop_st k), rfl⟩ | exact drop_st k | (simp; exact drop_st k)
          simp only [Act.put, List.setIfInBounds_toArray, List.set_cons_zero, List.set_cons_succ]
          refine g_look rfl rfl ?_ (fun w' hC => ?_) ?_
          rotate_left
          · go_simp
            first | done | rfl
          simp only [Act.put, List.setIfInBounds_toArray, List.set_cons_zero, List.set_cons_succ]
          refine g_look rfl rfl ?_ (fun w' hC => ?_) ?_
          rotate_left
          · go_simp
            first | done | rfl
          simp only [Act.put, List.setIfInBounds_toArray, List.set_cons_zero, List.set_cons_succ]
          refine g_end ?_
          intro w2 hC2 hh2
          have S2 : Hid (Stays [] w w2) := Lib.hid (stays_nil (stays_below hC2))
          clear S1
          clear hC2 hh2
          go_wp2_with fail
          refine bodyPost_ret (v := .tuple #[.string ⟨(l.take k).toArray⟩, .string ⟨(l.drop k).toArray⟩]) (by simp [results, Try.results26, go_sem]) rfl ⟨congrArg Ending.returned (by rw [digV, ← HC.out]), stays_below S2.out⟩
        · have hkc : k < cntD l := by omega
          have hwk : wrap64 ((k : Int) + 1) = (k : Int) + 1 := by
            have := HL.out
            unfold maxLen at this
            simp only [wrap64]
            omega
          clear hcm hk hcl c0
          go_wp2_with fail
          go_roundw
          case rel => exact ⟨k + 1, by omega, by rw [hwk]; rfl, S1⟩
          case measure =>
            rw [hwk]
            show cntD l - ((k : Int) + 1).toNat < cntD l - (k : Int).toNat
            omega
    · have hlti : ¬ (k : Int) < (l.length : Int) := by omega
      have hkc : k = cntD l := by omega
      have HC := Lib.hid hkc; have hkl : k ≤ l.length := by omega
      clear hkc hk hcl
      go_upto_region 4 with fail
      refine reg (Stays [] w) (Turns [] w) (kdOf []) none0 (stays_good _ _) (by kernel_rfl) (by kernel_rfl) (stays_drew (S1.out)) (holds0 _) ?_
      refine g_look rfl rfl ?_ (fun w' hC => ?_) ?_
      rotate_left
      · go_simp
        first | done | rfl
      simp only [Act.put, List.setIfInBounds_toArray, List.set_cons_zero, List.set_cons_succ]
      refine g_look rfl rfl ?_ (fun w' hC => ?_) ?_
      rotate_left
      · go_simp
        first | done | rfl
      simp only [Act.put, List.setIfInBounds_toArray, List.set_cons_zero, List.set_cons_succ]
      refine g_look rfl rfl (.string ⟨(l.take k).toArray⟩) (fun w' hC => ?_) ?_
      · clear hC
        go_simp
        first | done | exact ⟨congrArg Value.string (take_st k), rfl⟩ | exact take_st k | (simp; exact take_st k)
      simp only [Act.put, List.setIfInBounds_toArray, List.set_cons_zero, List.set_cons_succ]
      refine g_look rfl rfl ?_ (fun w' hC => ?_) ?_
      rotate_left
      · go_simp
        first | done | rfl
      simp only [Act.put, List.setIfInBounds_toArray, List.set_cons_zero, List.set_cons_succ]
      refine g_look rfl rfl ?_ (fun w' hC => ?_) ?_
      rotate_left
      · go_simp
        first | done | rfl
      simp only [Act.put, List.setIfInBounds_toArray, List.set_cons_zero, List.set_cons_succ]
      refine g_look rfl rfl (.string ⟨(l.drop k).toArray⟩) (fun w' hC => ?_) ?_
      · clear hC
        go_simp
        first | done | exact ⟨congrArg Value.string (drop_st k), rfl⟩ | exact drop_st k | (simp; exact drop_st k)
      simp only [Act.put, List.setIfInBounds_toArray, List.set_cons_zero, List.set_cons_succ]
      refine g_look rfl rfl ?_ (fun w' hC => ?_) ?_
      rotate_left
      · go_simp
        first | done | rfl
      simp only [Act.put, List.setIfInBounds_toArray, List.set_cons_zero, List.set_cons_succ]
      refine g_look rfl rfl ?_ (fun w' hC => ?_) ?_
      rotate_left
      · go_simp
        first | done | rfl
      simp only [Act.put, List.setIfInBounds_toArray, List.set_cons_zero, List.set_cons_succ]
      refine g_end ?_
      intro w2 hC2 hh2
      have S2 : Hid (Stays [] w w2) := Lib.hid (stays_nil (stays_below hC2))
      clear S1
      clear hC2 hh2
      go_wp2_with fail
      refine bodyPost_ret (v := .tuple #[.string ⟨(l.take k).toArray⟩, .string ⟨(l.drop k).toArray⟩]) (by simp [results, Try.results26, go_sem]) rfl ⟨congrArg Ending.returned (by rw [digV, ← HC.out]), stays_below S2.out⟩

end Go.Proofs.Ythpdfacdjgkmpaa.Wi
