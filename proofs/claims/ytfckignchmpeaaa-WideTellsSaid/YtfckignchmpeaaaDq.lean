/- Numbers of texts, by walks. -/
import Derived.Test.YtfckignchmpeaaaDl
import Derived.Test.YtfckignchmpeaaaOrd
import Derived.Lib.Atoi
import Derived.Laws.BytesString
import Derived.Deep.DeepCutAuto
namespace Go.Proofs.Ytfckignchmpeaaa.Wi
open Go.RowKit K

theorem dec_append : ∀ (a b : List UInt8) (acc : Nat), Lib.decFrom acc (a ++ b) = (Lib.decFrom acc a).bind fun m => Lib.decFrom m b
  | [], b, acc => by simp [Lib.decFrom]
  | x :: a, b, acc => by
    rw [List.cons_append, Lib.decFrom, Lib.decFrom]
    cases Lib.digitVal x with
    | none => rfl
    | some d => exact dec_append a b _
theorem dec_low : ∀ (l : List UInt8) (acc n : Nat), Lib.decFrom acc l = some n → acc * 10 ^ l.length ≤ n
  | [], acc, n, h => by simp [Lib.decFrom] at h; simp; omega
  | x :: l, acc, n, h => by
    rw [Lib.decFrom] at h
    cases hd : Lib.digitVal x with
    | none => rw [hd] at h; cases h
    | some d =>
      rw [hd] at h
      have := dec_low l _ n h
      rw [List.length_cons, Nat.pow_succ, Nat.mul_comm (10 ^ l.length), ← Nat.mul_assoc]
      exact Nat.le_trans (Nat.mul_le_mul (by omega) (Nat.le_refl _)) this
theorem dec_mono {l : List UInt8} {k m n : Nat} (h : Lib.decFrom 0 (l.take k) = some m) (hn : Lib.decFrom 0 l = some n) : m ≤ n := by
  rw [← List.take_append_drop k l, dec_append, h] at hn
  have := dec_low _ _ _ hn
  exact Nat.le_trans (Nat.le_mul_of_pos_right _ (Nat.pow_pos (by omega))) this
theorem len_eq (s : ByteArray) : s.data.toList.length = s.size := Array.length_toList
theorem emp_eq (s : ByteArray) : s.toList.isEmpty = decide (s.size = 0) := by
  rw [ByteArray.toList_eq, ← len_eq]
  cases s.data.toList <;> simp
/-- The number that a text is, if it is one, as it is read. -/
def textN (l : List UInt8) : Option Nat := if l = [] ∨ (1 < l.length ∧ l[0]? = some 48) then none else Lib.decFrom 0 l
def parseV (s : ByteArray) : Value := match textN s.data.toList with
  | some n => wideV n
  | none => .tuple #[wv 0 0, .bool false]
def noV : Value := .tuple #[wv 0 0, .bool false]
theorem parse_none {s : ByteArray} (h : textN s.data.toList = none) : parseV s = noV := by rw [parseV, h]; rfl
theorem parse_big {s : ByteArray} (h : ∀ n, Lib.decFrom 0 s.data.toList = some n → 340282366920938463463374607431768211456 ≤ n) : parseV s = noV := by
  unfold parseV textN
  by_cases h0 : s.data.toList = [] ∨ (1 < s.data.toList.length ∧ s.data.toList[0]? = some 48)
  · rw [if_pos h0]; rfl
  · rw [if_neg h0]
    cases hd : Lib.decFrom 0 s.data.toList with
    | none => rfl
    | some n =>
      show wideV n = noV
      rw [wideV, if_neg (show ¬ n < 340282366920938463463374607431768211456 by have := h n hd; omega)]
      rfl
theorem parse_empty {s : ByteArray} (h : s.size = 0) : parseV s = noV := parse_none (by
  have : s.data.toList = [] := List.length_eq_zero_iff.1 (by rw [len_eq]; exact h)
  rw [textN, if_pos (Or.inl this)])
theorem parse_lead {s : ByteArray} (h : 1 < s.size) (h0 : s.data.toList[0]? = some 48) : parseV s = noV := parse_none (by
  rw [textN, if_pos (Or.inr ⟨by rw [len_eq]; exact h, h0⟩)])
theorem parse_bad {s : ByteArray} {k : Nat} {b : UInt8} (hb : s.data.toList[k]? = some b) (h : b.toNat < 48 ∨ 57 < b.toNat) : parseV s = noV := parse_big fun _ hn => by
  obtain ⟨d, hd⟩ := Lib.digit_of_decFrom _ _ _ hn k b hb
  have := Lib.digitVal_eq hd
  omega
theorem parse_over {s : ByteArray} {k m : Nat} (h : Lib.decFrom 0 (s.data.toList.take k) = some m) (hm : 340282366920938463463374607431768211456 ≤ m) : parseV s = noV := parse_big fun _ hn => Nat.le_trans hm (dec_mono h hn)
theorem dec_next {l : List UInt8} {k m : Nat} {b : UInt8} (h : Lib.decFrom 0 (l.take k) = some m) (hb : l[k]? = some b) (h1 : 48 ≤ b.toNat) (h2 : b.toNat ≤ 57) : Lib.decFrom 0 (l.take (k + 1)) = some (m * 10 + (b.toNat - 48)) :=
  Lib.decFrom_take l k 0 m b (b.toNat - 48) h hb (by rw [Lib.digitVal, if_pos ⟨h1, h2⟩])
theorem parse_long {s : ByteArray} (h : 40 < s.size) : parseV s = noV := by
  by_cases h0 : s.data.toList[0]? = some 48
  · exact parse_lead (by omega) h0
  · refine parse_big fun n hn => ?_
    have hl : 40 < s.data.toList.length := by rw [len_eq]; exact h
    cases hs : s.data.toList with
    | nil => rw [hs] at hl; simp at hl
    | cons b l =>
      rw [hs] at hn hl h0
      obtain ⟨d, hd⟩ := Lib.digit_of_decFrom _ _ _ hn 0 b rfl
      have hv := Lib.digitVal_eq hd
      rw [Lib.decFrom, hd] at hn
      have hd1 : 1 ≤ d := by
        by_cases hz : d = 0
        · exfalso
          apply h0
          rw [List.getElem?_cons_zero]
          exact congrArg some (UInt8.toNat_inj.1 (by show b.toNat = 48; omega))
        · omega
      have := dec_low l _ n hn
      have h2 : 10 ^ 40 ≤ 10 ^ l.length := Nat.pow_le_pow_right (by omega) (by rw [List.length_cons] at hl; omega)
      have h3 : 1 * 10 ^ 40 ≤ (0 * 10 + d) * 10 ^ l.length := Nat.mul_le_mul (by omega) h2
      have h4 : 340282366920938463463374607431768211456 ≤ 10 ^ 40 := by decide
      omega
theorem parse_done {s : ByteArray} {n : Nat} (h : Lib.decFrom 0 s.data.toList = some n) (h0 : s.size ≠ 0) (h1 : ¬ (1 < s.size ∧ s.data.toList[0]? = some 48)) : parseV s = wideV n := by
  unfold parseV textN
  rw [if_neg, h]
  rintro (e | e)
  · apply h0
    rw [← len_eq, e]
    rfl
  · exact h1 ⟨by rw [← len_eq]; exact e.1, e.2⟩
theorem results_opt19 {W : World} {g : Nat} {x y : Value} {t : Bool} {tmps : Array Value} (h : W.heap[g]? = some (.cells #[x, y] 24 (0, 0))) (i24 : (Try.prog.info? 24).map (·.size) = some 2) (e4 : tmps.getD 2 undef = .pointer (some ⟨g, 0, none⟩) := by rfl) (e5 : tmps.getD 3 undef = .bool t := by rfl) :
    (results Try.f19 tmps).run Try.prog W = .ok (.tuple #[.agg #[x, y], .bool t]) W := by
  have h' := run_loadVar_row (P := Try.prog) W g 24 24 _ (0, 0) _ h Try.underlying24 rfl i24
  have e4' : tmps[2]?.getD undef = .pointer (some ⟨g, 0, none⟩) := by simpa using e4
  have e5' : tmps[3]?.getD undef = .bool t := by simpa using e5
  simp [results, Try.results19, e4', e5', asAddr, h']
theorem wide_of {n : Nat} {h l : Int} (hv : wval h l = n) (hh : U h) (hl : U l) : wideV n = .tuple #[.agg #[.int .u64 h, .int .u64 l], .bool true] := by
  unfold U at hh hl
  unfold wval at hv
  have e1 : ((n / 65536 ^ 4 % 65536 ^ 4 : Nat) : Int) = h := by
    show ((n / 18446744073709551616 % 18446744073709551616 : Nat) : Int) = h
    omega
  have e2 : ((n % 65536 ^ 4 : Nat) : Int) = l := by
    show ((n % 18446744073709551616 : Nat) : Int) = l
    omega
  rw [wideV, if_pos (show n < 340282366920938463463374607431768211456 by omega), e1, e2]
  rfl
theorem opt_yes {X : Int} (h0 : 0 ≤ X) (hX : X < 340282366920938463463374607431768211456) : ∃ P Q : Int, wval P Q = X ∧ U P ∧ U Q ∧ optV X (X < 340282366920938463463374607431768211456) = .tuple #[.agg #[.int .u64 P, .int .u64 Q], .bool true] := by
  refine ⟨X / 18446744073709551616, X % 18446744073709551616, ?_, ?_, ?_, ?_⟩
  · unfold wval; omega
  · unfold U; omega
  · unfold U; omega
  · rw [optV, if_pos hX]
    rfl
theorem opt_any {X : Int} (h0 : 0 ≤ X) : ∃ (x y : Int) (t : Bool), optV X (X < 340282366920938463463374607431768211456) = .tuple #[.agg #[.int .u64 x, .int .u64 y], .bool t] ∧ (t = true → wval x y = X ∧ U x ∧ U y ∧ X.toNat < 340282366920938463463374607431768211456) ∧ (t = false → 340282366920938463463374607431768211456 ≤ X.toNat) := by
  by_cases hX : X < 340282366920938463463374607431768211456
  · obtain ⟨P, Q, h1, h2, h3, h4⟩ := opt_yes h0 hX
    exact ⟨P, Q, true, h4, fun _ => ⟨h1, h2, h3, by omega⟩, fun e => absurd e (by decide)⟩
  · exact ⟨0, 0, false, by rw [optV, if_neg hX]; rfl, fun e => absurd e (by decide), fun _ => by omega⟩
theorem opt_no {X : Int} (hX : ¬ X < 340282366920938463463374607431768211456) : optV X (X < 340282366920938463463374607431768211456) = noV := by
  rw [optV, if_neg hX]
  rfl
def byteN (s : ByteArray) (i : Nat) : Nat := (s.data.toList[i]?.map UInt8.toNat).getD 0
theorem byteN_at {s : ByteArray} {i : Nat} (h : i < s.size) : ∃ b, s.data.toList[i]? = some b ∧ byteN s i = b.toNat := by
  have h' : i < s.data.toList.length := by rw [len_eq]; exact h
  refine ⟨s.data.toList[i], List.getElem?_eq_getElem h', ?_⟩
  rw [byteN, List.getElem?_eq_getElem h']
  rfl
theorem byteN_lt (s : ByteArray) (i : Nat) : byteN s i < 256 := by
  unfold byteN
  cases s.data.toList[i]? with
  | none => decide
  | some b => exact b.toNat_lt
theorem idx9 (w : World) (s : ByteArray) (i : Nat) (h : i < s.size) : (Instr.index 9 (.string s) (.int .i64 (i : Int))).run Try.prog w = .ok (.int .u8 (byteN s i)) w := by
  rw [run_index_string w 9 s .i64 i rfl, dif_pos ⟨by omega, by omega⟩]
  have h' : i < s.data.toList.length := by rw [len_eq]; exact h
  have : byteN s i = (s[((i : Nat) : Int).toNat]'(by rw [Int.toNat_natCast]; exact h)).toNat := by
    rw [byteN, List.getElem?_eq_getElem h']
    simp [ByteArray.getElem_eq_getElem_data]
  rw [this]
theorem idx9_0 (w : World) (s : ByteArray) (h : 0 < s.size) : (Instr.index 9 (.string s) (.int .i64 0)).run Try.prog w = .ok (.int .u8 (byteN s 0)) w := idx9 w s 0 h
attribute [local go_sem ↓] idx9 idx9_0
theorem of1_exact (w : World) (a : Int) : Calls Try.prog 23 #[.int .u64 a] w fun e w' => e = .returned (wv 0 a) ∧ ∃ c d : Value, w' = w.alloc (.cells #[c, d] 24) := by
  unfold wv
  go_enter Try.func23, Try.ntmps23
  go_wp2
  refine bodyPost_ret (v := .agg #[.int .u64 0, .int .u64 a]) (by simp [results, Try.results23, go_sem]) rfl ⟨rfl, _, _, rfl⟩
set_option maxHeartbeats 4000000 in
theorem add_exact (w : World) (a b c d : Int) (ha : U a) (hb : U b) (hc : U c) (hd : U d) : Calls Try.prog 26 #[wv a b, wv c d] w fun e w' => e = .returned (optV (wval a b + wval c d) (wval a b + wval c d < 340282366920938463463374607431768211456)) ∧ ∃ p q r : Obj, w' = ((w.alloc p).alloc q).alloc r := by
  unfold U at ha hb hc hd
  unfold wv wval
  go_enter Try.func26, Try.ntmps26
  go_wp2
  all_goals first
    | (refine bodyPost_ret (v := .tuple #[.agg #[.int .u64 0, .int .u64 0], .bool false]) (by simp [results, Try.results26, go_sem] <;> (first | omega | (simp only [wu64] at *; done) | (simp only [wu64] at *; omega))) rfl ⟨congrArg Ending.returned (optV_no (by (first | omega | (simp only [wu64] at *; done) | (simp only [wu64] at *; omega)))), _, _, _, rfl⟩)
    | (refine bodyPost_ret (v := .tuple #[.agg #[.int .u64 (IntKind.u64.wrap (IntKind.u64.wrap (a + c) + 1)), .int .u64 (IntKind.u64.wrap (b + d))], .bool true]) (by simp [results, Try.results26, go_sem] <;> (first | omega | (simp only [wu64] at *; done) | (simp only [wu64] at *; omega))) rfl ⟨congrArg Ending.returned (optV_yes (by (first | omega | (simp only [wu64] at *; done) | (simp only [wu64] at *; omega))) (by (first | omega | (simp only [wu64] at *; done) | (simp only [wu64] at *; omega))) (by (first | omega | (simp only [wu64] at *; done) | (simp only [wu64] at *; omega)))), _, _, _, rfl⟩)
    | (refine bodyPost_ret (v := .tuple #[.agg #[.int .u64 (IntKind.u64.wrap (IntKind.u64.wrap (a + c) + 0)), .int .u64 (IntKind.u64.wrap (b + d))], .bool true]) (by simp [results, Try.results26, go_sem] <;> (first | omega | (simp only [wu64] at *; done) | (simp only [wu64] at *; omega))) rfl ⟨congrArg Ending.returned (optV_yes (by (first | omega | (simp only [wu64] at *; done) | (simp only [wu64] at *; omega))) (by (first | omega | (simp only [wu64] at *; done) | (simp only [wu64] at *; omega))) (by (first | omega | (simp only [wu64] at *; done) | (simp only [wu64] at *; omega)))), _, _, _, rfl⟩)
def LoopP (s : ByteArray) (w wr : World) (k : Nat) : Prop := ∃ (n : Nat) (h l : Int), Lib.decFrom 0 (s.data.toList.take k) = some n ∧ n < 340282366920938463463374607431768211456 ∧ wval h l = n ∧ U h ∧ U l ∧ wr.heap[w.heap.size + 1]? = some (.cells #[.int .u64 h, .int .u64 l] 24 (0, 0)) ∧ wr.heap[w.heap.size]? = some (.cells #[.int .u64 0, .int .u64 0] 24 (0, 0)) ∧ Below w.heap.size w wr
set_option maxHeartbeats 4000000 in
set_option maxRecDepth 100000 in
theorem parse_any (w : World) (s : ByteArray) (hs : s.size ≤ maxLen) : Calls Try.prog 19 #[.string s] w (Ret w (parseV s)) := by
  obtain ⟨V, hV⟩ : ∃ V, parseV s = V := ⟨_, rfl⟩
  rw [hV]
  have HV := Lib.hid hV
  clear hV
  go_enter Try.func19, Try.ntmps19
  have HSZ := Lib.hid hs
  clear hs
  go_upto_region 1 with fail
  go_cut [24] (fun t wx => wx = w.alloc (.cells #[.int .u64 0, .int .u64 0] 24) ∧ ∃ b : Bool, t = .bool b ∧ Hid (b = true → parseV s = noV) ∧ Hid (b = false → s.size ≠ 0 ∧ ¬ (1 < s.size ∧ s.data.toList[0]? = some 48)))
  case first =>
    by_cases h0 : s.size = 0
    · have he : s.toList.isEmpty = true := by rw [emp_eq, h0]; rfl
      go_wp2_with fail
      go_meet
      exact ⟨rfl, true, rfl, fun _ => parse_empty h0, (fun e => by cases e)⟩
    · have he : s.toList.isEmpty = false := by rw [emp_eq]; simp [h0]
      by_cases h1 : 40 < s.size
      · have h1i : (40 : Int) < (s.size : Int) := by omega
        go_wp2_with fail
        go_meet
        exact ⟨rfl, true, rfl, fun _ => parse_long h1, (fun e => by cases e)⟩
      · have h1i : ¬ (40 : Int) < (s.size : Int) := by omega
        have hpos : 0 < s.size := by omega
        by_cases h2 : 1 < s.size
        · have h2i : (1 : Int) < (s.size : Int) := by omega
          have c0 := byteN_lt s 0
          obtain ⟨c, hc, hc0, hc1⟩ : ∃ c : Int, (byteN s 0 : Int) = c ∧ 0 ≤ c ∧ c < 256 := ⟨_, rfl, by omega, by omega⟩
          by_cases h3 : c = 48
          · go_wp2_with fail
            go_meet
            obtain ⟨b, hb, hbn⟩ := byteN_at hpos
            exact ⟨rfl, true, rfl, fun _ => parse_lead h2 (by rw [hb]; exact congrArg some (UInt8.toNat_inj.1 (by show b.toNat = 48; omega))), (fun e => by cases e)⟩
          · have hb : (c == 48) = false := by simp [h3]
            go_wp2_with fail
            go_meet
            refine ⟨rfl, false, rfl, (fun e => by cases e), fun _ => ⟨h0, ?_⟩⟩
            rintro ⟨_, e⟩
            apply h3
            rw [← hc, byteN, e]
            rfl
        · have h2i : ¬ (1 : Int) < (s.size : Int) := by omega
          go_wp2_with fail
          go_meet
          exact ⟨rfl, false, rfl, (fun e => by cases e), fun _ => ⟨h0, fun e => h2 e.1⟩⟩
  case rest =>
    obtain ⟨rfl, b, rfl, hyes, hno⟩ := hcut
    cases b with
    | true =>
      go_wp2_with fail
      refine bodyPost_ret (v := noV) (results_opt19 (blk_new rfl) rfl) rfl ⟨congrArg Ending.returned ?_, by (repeat (first | exact Below.refl _ _ | refine b_alloc ?_ _ | refine b_set ?_ (by first | exact Nat.le_refl _ | (simp; omega) | omega | simp) _ | refine b_drew ?_))⟩
      rw [← HV.out, hyes.out (by simp)]
    | false =>
    obtain ⟨h0, HLp⟩ := hno.out (by simp)
    have HL := Lib.hid HLp
    clear hyes hno HLp
    go_wp2_with fail
    go_loopw [28] (fun c wr => ∃ k : Nat, c = .int .i64 k ∧ k ≤ s.size ∧ Hid (LoopP s w wr k)) (fun c _ => s.size - (intOf c).toNat)
    case atStart => exact ⟨0, rfl, by omega, 0, 0, 0, rfl, by decide, rfl, by unfold U; decide, by unfold U; decide, blk_new (by simp), blk_alloc (blk_new rfl) _, b_alloc (b_alloc (Below.refl _ _) _) _⟩
    case round =>
      obtain ⟨k, rfl, hk, hP⟩ := hrel
      obtain ⟨n, h, l, hn, hn2, hv, hh, hl, g1, g0, gb⟩ := hP.out
      have HN := Lib.hid hn
      have HV2 := Lib.hid hv
      have HG1 := Lib.hid g1
      have HG0 := Lib.hid g0
      have HGB := Lib.hid gb
      have HH := Lib.hid hh
      have HLL := Lib.hid hl
      have HN2 := Lib.hid hn2
      have p0 : wr.cell? ⟨w.heap.size, 0, none⟩ = some (.int .u64 0) := (cell_of_row _ _ _ _ _ _ g0).trans rfl
      have p1 : wr.cell? ⟨w.heap.size, 1, none⟩ = some (.int .u64 0) := (cell_of_row _ _ _ _ _ _ g0).trans rfl
      have p2 := frozen_of_row _ _ 0 _ _ g0
      have p3 := frozen_of_row _ _ 1 _ _ g0
      have p4 := blk_lt g0
      have q0 : wr.cell? ⟨(w.heap.size + 1), 0, none⟩ = some (.int .u64 h) := (cell_of_row _ _ _ _ _ _ g1).trans rfl
      have q1 : wr.cell? ⟨(w.heap.size + 1), 1, none⟩ = some (.int .u64 l) := (cell_of_row _ _ _ _ _ _ g1).trans rfl
      have q2 := frozen_of_row _ _ 0 _ _ g1
      have q3 := frozen_of_row _ _ 1 _ _ g1
      have q4 := blk_lt g1
      clear hP hn hv g0 g1 gb hh hl hn2
      by_cases hlt : k < s.size
      · have hlti : (k : Int) < (s.size : Int) := by omega
        have hwk : wrap64 ((k : Int) + 1) = (k : Int) + 1 := by
          have := HSZ.out
          unfold maxLen at this
          simp only [wrap64]
          omega
        have HWK := Lib.hid hwk
        clear hwk
        obtain ⟨b, hb, hbn⟩ := byteN_at hlt
        have b1 := b.toNat_lt
        have HB := Lib.hid hb
        obtain ⟨c, hc, hc0, hc1⟩ : ∃ c : Int, (byteN s k : Int) = c ∧ 0 ≤ c ∧ c < 256 := ⟨_, rfl, by omega, by omega⟩
        have hcb : Hid (c = (b.toNat : Int)) := by show c = _; omega
        clear hbn b1 hb
        by_cases hbad : c < 48 ∨ 57 < c
        · rcases hbad with hbad | hbad
          all_goals
            go_wp2_with fail
            refine bodyPost_ret (v := noV) (results_opt19 (set24_1 (set24_0 HG0.out)) rfl) rfl ⟨congrArg Ending.returned ?_, b_set (b_set HGB.out (Nat.le_refl _) _) (Nat.le_refl _) _⟩
            rw [← HV.out, parse_bad HB.out (by have := hcb.out; omega)]
        · have hd1 : ¬ c < 48 := by omega
          have hd2 : ¬ 57 < c := by omega
          clear hbad
          have HX := Lib.hid (show wval h l * 10 = ((n * 10 : Nat) : Int) by rw [HV2.out]; omega)
          go_wp2_with fail
          refine (times_word_any _ h l 10 HH.out HLL.out (by unfold U; decide)).mono ?_
          rintro e w1 ⟨rfl, hb1⟩
          rw [HX.out]
          have g0 := blk_below HG0.out hb1
          have g1 := blk_below HG1.out hb1
          have HG3 := Lib.hid g0
          have HG4 := Lib.hid g1
          have HGB1 := Lib.hid (b_then HGB.out hb1)
          have i0 : w1.cell? ⟨w.heap.size, 0, none⟩ = some (.int .u64 0) := (cell_of_row _ _ _ _ _ _ g0).trans rfl
          have i1 : w1.cell? ⟨w.heap.size, 1, none⟩ = some (.int .u64 0) := (cell_of_row _ _ _ _ _ _ g0).trans rfl
          have i2 := frozen_of_row _ _ 0 _ _ g0
          have i3 := frozen_of_row _ _ 1 _ _ g0
          have i4 := blk_lt g0
          have j0 : w1.cell? ⟨(w.heap.size + 1), 0, none⟩ = some (.int .u64 h) := (cell_of_row _ _ _ _ _ _ g1).trans rfl
          have j1 : w1.cell? ⟨(w.heap.size + 1), 1, none⟩ = some (.int .u64 l) := (cell_of_row _ _ _ _ _ _ g1).trans rfl
          have j2 := frozen_of_row _ _ 0 _ _ g1
          have j3 := frozen_of_row _ _ 1 _ _ g1
          have j4 := blk_lt g1
          clear p0 p1 p2 p3 p4 q0 q1 q2 q3 q4 g0 g1 hb1
          by_cases hf : n * 10 < 340282366920938463463374607431768211456
          · obtain ⟨P, Q, hPQ, hP, hQ, ho⟩ := opt_yes (X := ((n * 10 : Nat) : Int)) (by omega) (by omega)
            rw [ho]
            have HPQ := Lib.hid hPQ
            have HP := Lib.hid hP
            have HQ := Lib.hid hQ
            clear ho hPQ hP hQ hf
            obtain ⟨d, hd, hd0, hd9⟩ : ∃ d : Int, c - 48 = d ∧ 0 ≤ d ∧ d ≤ 9 := ⟨_, rfl, by omega, by omega⟩
            have we : IntKind.u8.wrap (c - 48) = d := by rw [← hd]; simp [IntKind.wrap, IntKind.signed, IntKind.bits]; omega
            have we2 : IntKind.u64.wrap d = d := wu_small (by omega) (by omega)
            obtain ⟨m, hm⟩ : ∃ m : Nat, n * 10 + (b.toNat - 48) = m := ⟨_, rfl⟩
            have HM := Lib.hid (show wval P Q + wval 0 d = (m : Int) by
              have h1 := HPQ.out
              have h2 := hcb.out
              rw [h1]
              unfold wval
              omega)
            have HN3 := Lib.hid (dec_next HN.out HB.out (by have := hcb.out; omega) (by have := hcb.out; omega))
            rw [hm] at HN3
            clear hm
            obtain ⟨x, y, t, ho, hspec⟩ := opt_any (X := (m : Int)) (by omega)
            have HO := Lib.hid ho
            have HS := Lib.hid hspec
            have HUD : Hid (U d) := by show U d; unfold U; omega
            have HU0 : Hid (U 0) := by show U 0; unfold U; omega
            clear ho hspec hd HN2
            go_wp2_with fail
            go_cut [7] (fun q wx => q = .bool t ∧ Hid (wx.heap[w.heap.size + 1]? = some (.cells #[.int .u64 x, .int .u64 y] 24 (0, 0))) ∧ Hid (wx.heap[w.heap.size]? = some (.cells #[.int .u64 0, .int .u64 0] 24 (0, 0))) ∧ Hid (Below w.heap.size w wx))
            case first =>
              refine wp_region_lists [[0, 1, 2, 3, 4, 5, 6, 7, 8, 9, 10, 11, 12], [0, 1, 2, 3, 4, 5, 6, 7, 8, 9, 11, 10, 12], [0, 1, 2, 3, 4, 5, 6, 7, 8, 10, 9, 11, 12], [0, 2, 1, 3, 4, 5, 6, 7, 8, 9, 10, 11, 12], [0, 2, 1, 3, 4, 5, 6, 7, 8, 9, 11, 10, 12], [0, 2, 1, 3, 4, 5, 6, 7, 8, 10, 9, 11, 12], [1, 0, 2, 3, 4, 5, 6, 7, 8, 9, 10, 11, 12], [1, 0, 2, 3, 4, 5, 6, 7, 8, 9, 11, 10, 12], [1, 0, 2, 3, 4, 5, 6, 7, 8, 10, 9, 11, 12], [1, 2, 0, 3, 4, 5, 6, 7, 8, 9, 10, 11, 12], [1, 2, 0, 3, 4, 5, 6, 7, 8, 9, 11, 10, 12], [1, 2, 0, 3, 4, 5, 6, 7, 8, 10, 9, 11, 12], [1, 2, 3, 0, 4, 5, 6, 7, 8, 9, 10, 11, 12], [1, 2, 3, 0, 4, 5, 6, 7, 8, 9, 11, 10, 12], [1, 2, 3, 0, 4, 5, 6, 7, 8, 10, 9, 11, 12], [1, 2, 3, 4, 0, 5, 6, 7, 8, 9, 10, 11, 12], [1, 2, 3, 4, 0, 5, 6, 7, 8, 9, 11, 10, 12], [1, 2, 3, 4, 0, 5, 6, 7, 8, 10, 9, 11, 12], [1, 2, 3, 4, 5, 0, 6, 7, 8, 9, 10, 11, 12], [1, 2, 3, 4, 5, 0, 6, 7, 8, 9, 11, 10, 12], [1, 2, 3, 4, 5, 0, 6, 7, 8, 10, 9, 11, 12], [1, 2, 3, 4, 5, 6, 0, 7, 8, 9, 10, 11, 12], [1, 2, 3, 4, 5, 6, 0, 7, 8, 9, 11, 10, 12], [1, 2, 3, 4, 5, 6, 0, 7, 8, 10, 9, 11, 12], [2, 0, 1, 3, 4, 5, 6, 7, 8, 9, 10, 11, 12], [2, 0, 1, 3, 4, 5, 6, 7, 8, 9, 11, 10, 12], [2, 0, 1, 3, 4, 5, 6, 7, 8, 10, 9, 11, 12], [2, 1, 0, 3, 4, 5, 6, 7, 8, 9, 10, 11, 12], [2, 1, 0, 3, 4, 5, 6, 7, 8, 9, 11, 10, 12], [2, 1, 0, 3, 4, 5, 6, 7, 8, 10, 9, 11, 12], [2, 1, 3, 0, 4, 5, 6, 7, 8, 9, 10, 11, 12], [2, 1, 3, 0, 4, 5, 6, 7, 8, 9, 11, 10, 12], [2, 1, 3, 0, 4, 5, 6, 7, 8, 10, 9, 11, 12], [2, 1, 3, 4, 0, 5, 6, 7, 8, 9, 10, 11, 12], [2, 1, 3, 4, 0, 5, 6, 7, 8, 9, 11, 10, 12], [2, 1, 3, 4, 0, 5, 6, 7, 8, 10, 9, 11, 12], [2, 1, 3, 4, 5, 0, 6, 7, 8, 9, 10, 11, 12], [2, 1, 3, 4, 5, 0, 6, 7, 8, 9, 11, 10, 12], [2, 1, 3, 4, 5, 0, 6, 7, 8, 10, 9, 11, 12], [2, 1, 3, 4, 5, 6, 0, 7, 8, 9, 10, 11, 12], [2, 1, 3, 4, 5, 6, 0, 7, 8, 9, 11, 10, 12], [2, 1, 3, 4, 5, 6, 0, 7, 8, 10, 9, 11, 12]] (by kernel_rfl) (by kernel_rfl) ?_
              refine ⟨?_, ?_, ?_, ?_, ?_, ?_, ?_, ?_, ?_, ?_, ?_, ?_, ?_, ?_, ?_, ?_, ?_, ?_, ?_, ?_, ?_, ?_, ?_, ?_, ?_, ?_, ?_, ?_, ?_, ?_, ?_, ?_, ?_, ?_, ?_, ?_, ?_, ?_, ?_, ?_, ?_, ?_, trivial⟩
              all_goals simp only [List.filterMap_cons, List.filterMap_nil, List.getElem?_toArray, List.getElem?_cons_succ, List.getElem?_cons_zero]
              all_goals
                go_wp2_with fail
                refine (of1_any _ d).mono ?_
                rintro e w2 ⟨rfl, hb2⟩
                have g0 : w2.heap[w.heap.size]? = some (.cells #[.int .u64 0, .int .u64 0] 24 (0, 0)) := blk_below (blk_drew (blk_alloc HG3.out _)) hb2
                have g1 : w2.heap[w.heap.size + 1]? = some (.cells #[.int .u64 h, .int .u64 l] 24 (0, 0)) := blk_below (blk_drew (blk_alloc HG4.out _)) hb2
                have gx : w2.heap[w1.heap.size]? = some (.cells #[.int .u64 P, .int .u64 Q] 24 (0, 0)) := blk_below (blk_drew (blk_new rfl)) hb2
                have hb2' : Below w.heap.size w w2 := b_then (b_drew (b_alloc HGB1.out _)) hb2
                have G0 := Lib.hid g0
                have G1 := Lib.hid g1
                have HB2 := Lib.hid hb2'
                have m0 : w2.cell? ⟨w.heap.size, 0, none⟩ = some (.int .u64 0) := (cell_of_row _ _ _ _ _ _ g0).trans rfl
                have m1 : w2.cell? ⟨w.heap.size, 1, none⟩ = some (.int .u64 0) := (cell_of_row _ _ _ _ _ _ g0).trans rfl
                have m2 := frozen_of_row _ _ 0 _ _ g0
                have m3 := frozen_of_row _ _ 1 _ _ g0
                have m4 := blk_lt g0
                have o0 : w2.cell? ⟨(w.heap.size + 1), 0, none⟩ = some (.int .u64 h) := (cell_of_row _ _ _ _ _ _ g1).trans rfl
                have o1 : w2.cell? ⟨(w.heap.size + 1), 1, none⟩ = some (.int .u64 l) := (cell_of_row _ _ _ _ _ _ g1).trans rfl
                have o2 := frozen_of_row _ _ 0 _ _ g1
                have o3 := frozen_of_row _ _ 1 _ _ g1
                have o4 := blk_lt g1
                have q0 : w2.cell? ⟨w1.heap.size, 0, none⟩ = some (.int .u64 P) := (cell_of_row _ _ _ _ _ _ gx).trans rfl
                have q1 : w2.cell? ⟨w1.heap.size, 1, none⟩ = some (.int .u64 Q) := (cell_of_row _ _ _ _ _ _ gx).trans rfl
                have q2 := frozen_of_row _ _ 0 _ _ gx
                have q3 := frozen_of_row _ _ 1 _ _ gx
                have q4 := blk_lt gx
                clear i0 i1 i2 i3 i4 j0 j1 j2 j3 j4 g0 g1 gx hb2 hb2'
                unfold wv
                go_wp2_with fail
                refine (add_any _ P Q 0 d HP.out HQ.out HU0.out HUD.out).mono ?_
                rintro e w3 ⟨rfl, hb3⟩
                rw [HM.out, HO.out]
                have g0 := blk_below G0.out hb3
                have g1 := blk_below G1.out hb3
                have hb3' := b_then HB2.out hb3
                have G3 := Lib.hid g0
                have G4 := Lib.hid g1
                have HB3 := Lib.hid hb3'
                have r0 : w3.cell? ⟨(w.heap.size + 1), 0, none⟩ = some (.int .u64 h) := (cell_of_row _ _ _ _ _ _ g1).trans rfl
                have r1 : w3.cell? ⟨(w.heap.size + 1), 1, none⟩ = some (.int .u64 l) := (cell_of_row _ _ _ _ _ _ g1).trans rfl
                have r2 := frozen_of_row _ _ 0 _ _ g1
                have r3 := frozen_of_row _ _ 1 _ _ g1
                have r4 := blk_lt g1
                clear m0 m1 m2 m3 m4 o0 o1 o2 o3 o4 q0 q1 q2 q3 q4 g0 g1 hb3 hb3'
                go_wp2_with fail
                go_meet
                exact ⟨rfl, set24_1 (set24_0 G4.out), blk_far (blk_far G3.out (show w.heap.size ≠ w.heap.size + 1 by omega) _) (show w.heap.size ≠ w.heap.size + 1 by omega) _, b_set (b_set HB3.out (show w.heap.size ≤ w.heap.size + 1 by omega) _) (show w.heap.size ≤ w.heap.size + 1 by omega) _⟩
            case rest =>
              obtain ⟨rfl, r1, r0, rb⟩ := hcut
              have z0 : wc.cell? ⟨w.heap.size, 0, none⟩ = some (.int .u64 0) := (cell_of_row _ _ _ _ _ _ r0.out).trans rfl
              have z1 : wc.cell? ⟨w.heap.size, 1, none⟩ = some (.int .u64 0) := (cell_of_row _ _ _ _ _ _ r0.out).trans rfl
              have z2 := frozen_of_row _ _ 0 _ _ r0.out
              have z3 := frozen_of_row _ _ 1 _ _ r0.out
              have z4 := blk_lt r0.out
              cases t with
              | true =>
                obtain ⟨hxy, hx, hy, hm2⟩ := (HS.out).1 rfl
                have HXY := Lib.hid hxy
                have HX2 := Lib.hid hx
                have HY2 := Lib.hid hy
                have HM2 := Lib.hid hm2
                clear hxy hx hy hm2
                go_wp2_with fail
                go_roundw
                case rel => exact ⟨k + 1, by rw [HWK.out]; rfl, by omega, m, x, y, HN3.out, HM2.out, HXY.out, HX2.out, HY2.out, r1.out, r0.out, rb.out⟩
                case measure =>
                  rw [HWK.out]
                  show s.size - ((k : Int) + 1).toNat < s.size - (k : Int).toNat
                  omega
              | false =>
                have HM2 := Lib.hid ((HS.out).2 rfl)
                go_wp2_with fail
                refine bodyPost_ret (v := noV) (results_opt19 (set24_1 (set24_0 r0.out)) rfl) rfl ⟨congrArg Ending.returned ?_, b_set (b_set rb.out (Nat.le_refl _) _) (Nat.le_refl _) _⟩
                rw [← HV.out, parse_over HN3.out HM2.out]
          · rw [opt_no (X := ((n * 10 : Nat) : Int)) (by omega)]
            unfold noV wv
            have HF := Lib.hid hf
            clear hf
            go_wp2_with fail
            refine bodyPost_ret (v := noV) (results_opt19 (blk_alloc (set24_1 (set24_0 HG3.out)) _) rfl) rfl ⟨congrArg Ending.returned ?_, b_alloc (b_set (b_set HGB1.out (Nat.le_refl _) _) (Nat.le_refl _) _) _⟩
            rw [← HV.out, parse_over (dec_next HN.out HB.out (by have := hcb.out; omega) (by have := hcb.out; omega)) (by have := HF.out; omega)]
      · obtain rfl : k = s.size := by omega
        go_wp2_with fail
        refine bodyPost_ret (v := .tuple #[.agg #[.int .u64 h, .int .u64 l], .bool true]) (results_opt19 (set24_1 (set24_0 HG0.out)) rfl) rfl ⟨congrArg Ending.returned ?_, b_set (b_set HGB.out (Nat.le_refl _) _) (Nat.le_refl _) _⟩
        have hn := HN.out
        rw [← len_eq, List.take_length] at hn
        rw [← HV.out, parse_done hn h0 HL.out, wide_of HV2.out HH.out HLL.out]
end Go.Proofs.Ytfckignchmpeaaa.Wi
