/- The document's number of a text of digits, by a walk. -/
import Derived.Test.YthpdfacdjgkmpaaEt
namespace Go.Proofs.Ythpdfacdjgkmpaa.Wi
open Go.RowKit K

def z20 : Array Value := #[.int .u64 0, .int .u64 0, .int .u64 0, .int .u64 0, .int .u64 0, .int .u64 0, .int .u64 0, .int .u64 0, .int .u64 0, .int .u64 0, .int .u64 0, .int .u64 0, .int .u64 0, .int .u64 0, .int .u64 0, .int .u64 0, .int .u64 0, .int .u64 0, .int .u64 0, .int .u64 0]
theorem dg_small {e : Nat} (h : e < 10) : Value.agg #[.int .u64 (e : Int), .int .u64 0, .int .u64 0, .int .u64 0, .int .u64 0, .int .u64 0, .int .u64 0, .int .u64 0, .int .u64 0, .int .u64 0, .int .u64 0, .int .u64 0, .int .u64 0, .int .u64 0, .int .u64 0, .int .u64 0, .int .u64 0, .int .u64 0, .int .u64 0, .int .u64 0] = dg e := by
  have : e = 0 ∨ e = 1 ∨ e = 2 ∨ e = 3 ∨ e = 4 ∨ e = 5 ∨ e = 6 ∨ e = 7 ∨ e = 8 ∨ e = 9 := by omega
  rcases this with rfl | rfl | rfl | rfl | rfl | rfl | rfl | rfl | rfl | rfl <;> rfl
theorem dg_ten : Value.agg #[.int .u64 10, .int .u64 0, .int .u64 0, .int .u64 0, .int .u64 0, .int .u64 0, .int .u64 0, .int .u64 0, .int .u64 0, .int .u64 0, .int .u64 0, .int .u64 0, .int .u64 0, .int .u64 0, .int .u64 0, .int .u64 0, .int .u64 0, .int .u64 0, .int .u64 0, .int .u64 0] = dg 10 := by kernel_rfl
theorem z20_zero : z20 = fc (dig 0) := by kernel_rfl
theorem over8 {m : Nat} (h : m < 65536 ^ 10) : (dig m 8 = 0 ∧ dig m 9 = 0) ↔ m < 65536 ^ 8 := by
  unfold dig
  have e9 : m / 65536 ^ 9 = m / 65536 ^ 8 / 65536 := by rw [show (65536 : Nat) ^ 9 = 65536 ^ 8 * 65536 from rfl, Nat.div_div_eq_div_mul]
  have h8 : m / 65536 ^ 8 < 65536 * 65536 := by
    refine Nat.div_lt_of_lt_mul ?_
    exact Nat.lt_of_lt_of_le h (by decide)
  have hz : m / 65536 ^ 8 = 0 ↔ m < 65536 ^ 8 := Nat.div_eq_zero_iff_lt (by decide)
  rw [e9, ← hz]
  generalize m / 65536 ^ 8 = q at *
  omega
theorem val_acc : ∀ (l : List UInt8) (a : Nat), l.foldl (fun n c => n * 10 + (c.toNat - 48)) a = a * 10 ^ l.length + valD l
  | [], a => by simp [valD]
  | c :: t, a => by
    have h1 := val_acc t (a * 10 + (c.toNat - 48))
    have h2 := val_acc t (0 * 10 + (c.toNat - 48))
    rw [valD, List.foldl_cons, List.foldl_cons, h1, h2, List.length_cons, Nat.pow_succ, Nat.add_mul, Nat.zero_mul, Nat.zero_add, Nat.mul_assoc, Nat.mul_comm 10, Nat.add_assoc]
theorem val_app (a b : List UInt8) : valD (a ++ b) = valD a * 10 ^ b.length + valD b := by
  rw [valD, List.foldl_append, val_acc, ← valD]
theorem val_mono (l : List UInt8) (k : Nat) : valD (l.take k) ≤ valD l := by
  have h := val_app (l.take k) (l.drop k)
  rw [List.take_append_drop] at h
  rw [h]
  exact Nat.le_trans (Nat.le_mul_of_pos_right _ (Nat.pow_pos (by decide))) (Nat.le_add_right _ _)
theorem wide_no {X : Nat} (h : ¬ X < 65536 ^ 8) : wideV X = .tuple #[.agg #[.int .u64 0, .int .u64 0], .bool false] := by rw [wideV, if_neg h]; rfl
theorem long_big {l : List UInt8} (hD : ∀ c ∈ l, isD c = true) (hlead : 1 < l.length → l.head? ≠ some 48) (h : 45 < l.length) : ¬ valD l < 65536 ^ 8 := by
  cases l with
  | nil => simp at h
  | cons a t =>
    have h1 := val_app [a] t
    have h2 : a ≠ 48 := fun e => hlead (by omega) (by rw [e]; rfl)
    have h3 := (isD_iff a).1 (hD a (List.mem_cons_self ..))
    have h4 : a.toNat ≠ 48 := fun e => h2 (UInt8.toNat_inj.1 e)
    have h5 : valD [a] = a.toNat - 48 := by simp [valD]
    have h6 : 10 ^ 45 ≤ 10 ^ t.length := Nat.pow_le_pow_right (by decide) (by simp at h; omega)
    have h7 : 1 * 10 ^ t.length ≤ valD [a] * 10 ^ t.length := Nat.mul_le_mul_right _ (by omega)
    have h8 : 65536 ^ 8 ≤ 10 ^ 45 := by decide
    rw [show a :: t = [a] ++ t from rfl, h1]
    generalize 10 ^ t.length = P at *
    generalize valD [a] * P = Q at *
    omega
theorem results_opt37 {W : World} {g : Nat} {x y : Value} {t : Bool} {tmps : Array Value} (h : W.heap[g]? = some (.cells #[x, y] 25 (0, 0))) (i24 : (Try.prog.info? 25).map (·.size) = some 2) (e4 : tmps.getD 2 undef = .pointer (some ⟨g, 0, none⟩) := by rfl) (e5 : tmps.getD 3 undef = .bool t := by rfl) :
    (results Try.f37 tmps).run Try.prog W = .ok (.tuple #[.agg #[x, y], .bool t]) W := by
  have h' := run_loadVar_row (P := Try.prog) W g 25 25 _ (0, 0) _ h Try.underlying25 rfl i24
  have e4' : tmps[2]?.getD undef = .pointer (some ⟨g, 0, none⟩) := by simpa using e4
  have e5' : tmps[3]?.getD undef = .bool t := by simpa using e5
  simp [results, Try.results37, e4', e5', asAddr, h']
theorem inc_wrap {k n : Nat} (h : n ≤ maxLen) (hk : k < n) : IntKind.i64.wrap ((k : Int) + 1) = (k : Int) + 1 := by
  unfold maxLen at h
  rw [i64w]
  simp only [wrap64]
  omega
theorem lt10 {n e m : Nat} (h : n < 65536 ^ 8) (he : e < 10) (hm : n * 10 + e = m) : m < 65536 ^ 10 := by
  have h1 : n < 340282366920938463463374607431768211456 := h
  exact Nat.lt_of_lt_of_le (show m < 3402823669209384634633746074317682114560 by omega) (by decide)
theorem byte_facts {c : Int} {n : Nat} (hn : (n : Int) = c) (h : 48 ≤ n ∧ n ≤ 57) : ¬ c < 48 ∧ ¬ (57 : Int) < c := by omega
theorem wide_open (X : Nat) : ∃ (a b : Int) (ok : Bool), wideV X = .tuple #[.agg #[.int .u64 a, .int .u64 b], .bool ok] := by
  unfold wideV
  split
  · exact ⟨_, _, _, rfl⟩
  · exact ⟨_, _, _, rfl⟩
theorem byte0 (l : List UInt8) (h : 0 < (⟨l.toArray⟩ : ByteArray).size) : ((⟨l.toArray⟩ : ByteArray)[0]'h).toNat = byteL l 0 := by
  have h1 : 0 < l.length := by rw [← st_size]; exact h
  rw [byteL, List.getElem?_eq_getElem h1]
  rfl
theorem ne_cast {x : Nat} (h : ¬ x = 0) : ¬ (x : Int) = 0 := fun e => h (Int.ofNat.inj e)
attribute [local go_sem] lookTo stepTo Maker.step
attribute [local go_sem ↓] idxL st_size one_size st_list
attribute [local irreducible] fc
set_option maxHeartbeats 4000000 in
set_option maxRecDepth 100000 in
theorem rparse_any (w : World) (l : List UInt8) (hne : l ≠ []) (hD : ∀ c ∈ l, isD c = true) (hlead : 1 < l.length → l.head? ≠ some 48) (hl : l.length ≤ maxLen) : Calls Try.prog 37 #[.string ⟨l.toArray⟩] w (Ret w (wideV (valD l))) := by
  obtain ⟨V, hV⟩ : ∃ V, wideV (valD l) = V := ⟨_, rfl⟩
  rw [hV]
  obtain ⟨n, hn⟩ : ∃ n, l.length = n := ⟨_, rfl⟩
  have hlen1 : 0 < l.length := List.length_pos_iff.2 hne
  have HV := Lib.hid hV
  have HBIG : Hid (45 < n → ¬ valD l < 65536 ^ 8) := Lib.hid (fun h => long_big hD hlead (by omega))
  have HN := Lib.hid hn
  have HNM : Hid (n ≤ maxLen) := Lib.hid (by omega)
  have HCN : Hid (cntD l = l.length) := Lib.hid (allD_cnt hD)
  have HNE : Hid ((l == []) = false) := Lib.hid (beq_eq_false_iff_ne.2 hne)
  have H48 : Hid (1 < n → ¬ (byteL l 0 : Int) = 48) := Lib.hid (by
    intro h1 h2
    cases l with
    | nil => exact hne rfl
    | cons a t =>
      refine hlead (by omega) ?_
      have h3 : (a.toNat : Int) = 48 := h2
      have : a = 48 := UInt8.toNat_inj.1 (by show a.toNat = 48; omega)
      rw [this]
      rfl)
  clear hV hl hD hlead hne
  have S0 : Hid (Stays [] w w) := Lib.hid (stays_nil (Below.refl _ _))
  go_enter Try.func37, Try.ntmps37
  go_upto_region 0 with fail
  refine reg_plain (Stays [] w) (Turns [] w) (kdOf [(0, .make (fun _ => allocM (.cells #[.int .u64 0, .int .u64 0] 25)))]) none0 (stays_good _ _) (S0.out) (holds0 _) ?_
  refine g_alloc (stays_good _ _) (.cells #[.int .u64 0, .int .u64 0] 25) rfl rfl (fun w' hC => ?_) (fun gr tr nr => ?_)
  · clear hC
    go_simp
    first | done | rfl | exact ⟨rfl, rfl⟩
  clear nr
  replace tr := Lib.hid tr
  simp only [Act.put, sa, sb, sc]
  refine g_look rfl rfl ?_ (fun w' hC => ?_) ?_
  rotate_left
  · go_simp
    first | done | rfl
  simp only [Act.put, sa, sb, sc]
  refine g_end ?_
  intro w1 hC1 hh1
  have S1 : Hid (Stays [(gr, Obj.cells #[.int .u64 0, .int .u64 0] 25 (0, 0))] w w1) := Lib.hid (stays_cons ((hh1 _ _ _ (own_new _ _ _ _)).1) (stays_nil (stays_below hC1)))
  clear hC1 hh1
  go_upto_region 1 with fail
  refine reg_plain (Stays [(gr, Obj.cells #[.int .u64 0, .int .u64 0] 25 (0, 0))] w) (Turns [(gr, Obj.cells #[.int .u64 0, .int .u64 0] 25 (0, 0))] w) (kdOf [(0, .make (fun _ => allocM (.cells z20 41)))]) none0 (stays_good _ _) (S1.out) (holds0 _) ?_
  refine g_alloc (stays_good _ _) (.cells z20 41) rfl rfl (fun w' hC => ?_) (fun gd td nd => ?_)
  · clear hC
    go_simp
    first | done | rfl | exact ⟨rfl, rfl⟩
  clear nd
  replace td := Lib.hid td
  simp only [Act.put, sa, sb, sc]
  refine g_end ?_
  intro w2 hC2 hh2
  have S2 : Hid (Stays [(gr, Obj.cells #[.int .u64 0, .int .u64 0] 25 (0, 0)), (gd, Obj.cells z20 41 (0, 0))] w w2) := Lib.hid (stays_cons (stays_row hC2 (List.mem_cons_self ..)) (stays_cons ((hh2 _ _ _ (own_new _ _ _ _)).1) (stays_nil (stays_below hC2))))
  clear S1
  clear hC2 hh2
  rw [z20_zero] at S2
  by_cases hlong : 45 < n
  · have h45 : (45 : Int) < (n : Int) := by omega
    have HB := Lib.hid (HBIG.out hlong)
    go_upto_region 2 with fail
    refine reg_plain (Stays [(gr, Obj.cells #[.int .u64 0, .int .u64 0] 25 (0, 0)), (gd, Obj.cells (fc (dig 0)) 41 (0, 0))] w) (Turns [(gr, Obj.cells #[.int .u64 0, .int .u64 0] 25 (0, 0)), (gd, Obj.cells (fc (dig 0)) 41 (0, 0))] w) (kdOf []) none0 (stays_good _ _) (S2.out) (holds0 _) ?_
    refine g_look rfl rfl ?_ (fun w' hC => ?_) ?_
    rotate_left
    · go_simp
      first | done | rfl
    simp only [Act.put, sa, sb, sc]
    refine g_look rfl rfl (.bool false) (fun w' hC => ?_) ?_
    · clear hC
      go_simp
      first | done | rfl | exact HNE.out | (simpa using HNE.out)
    simp only [Act.put, sa, sb, sc]
    refine g_look rfl rfl ?_ (fun w' hC => ?_) ?_
    rotate_left
    · go_simp
      first | done | rfl
    simp only [Act.put, sa, sb, sc]
    first
    | (refine g_skip rfl ?_)
    | (refine g_look rfl rfl ?_ (fun w' hC => ?_) ?_
       rotate_left
       · go_simp
         first | done | rfl)
    simp only [Act.put, sa, sb, sc]
    first
    | (refine g_skip rfl ?_)
    | (refine g_look rfl rfl (.int .i64 (n : Int)) (fun w' hC => ?_) ?_
       · clear hC
         go_simp
         first | done | rfl | exact hn | (rw [hn]; done) | (simp [hn]; done))
    simp only [Act.put, sa, sb, sc]
    first
    | (refine g_skip rfl ?_)
    | (refine g_look rfl rfl (.bool true) (fun w' hC => ?_) ?_
       · clear hC
         go_simp
         first | done | rfl | exact h45 | (simpa using h45))
    simp only [Act.put, sa, sb, sc]
    refine g_look rfl rfl ?_ (fun w' hC => ?_) ?_
    rotate_left
    · go_simp
      first | done | rfl
    simp only [Act.put, sa, sb, sc]
    refine g_look rfl rfl ?_ (fun w' hC => ?_) ?_
    rotate_left
    · go_simp
      first | done | rfl
    simp only [Act.put, sa, sb, sc]
    first
    | (refine g_skip rfl ?_)
    | (refine g_look rfl rfl ?_ (fun w' hC => ?_) ?_
       rotate_left
       · go_simp
         first | done | rfl)
    simp only [Act.put, sa, sb, sc]
    first
    | (refine g_skip rfl ?_)
    | (refine g_look rfl rfl (.int .i64 (n : Int)) (fun w' hC => ?_) ?_
       · clear hC
         go_simp
         first | done | rfl | exact hn | (rw [hn]; done) | (simp [hn]; done))
    simp only [Act.put, sa, sb, sc]
    first
    | (refine g_skip rfl ?_)
    | (refine g_look rfl rfl ?_ (fun w' hC => ?_) ?_
       rotate_left
       · go_simp
         first | done | rfl)
    simp only [Act.put, sa, sb, sc]
    first
    | (refine g_skip rfl ?_)
    | (refine g_look rfl rfl ?_ (fun w' hC => ?_) ?_
       rotate_left
       · go_simp
         first | done | rfl)
    simp only [Act.put, sa, sb, sc]
    first
    | (refine g_skip rfl ?_)
    | (refine g_look rfl rfl ?_ (fun w' hC => ?_) ?_
       rotate_left
       · go_simp
         first | done | rfl)
    simp only [Act.put, sa, sb, sc]
    first
    | (refine g_skip rfl ?_)
    | (refine g_look rfl rfl ?_ (fun w' hC => ?_) ?_
       rotate_left
       · go_simp
         first | done | rfl)
    simp only [Act.put, sa, sb, sc]
    first
    | (refine g_skip rfl ?_)
    | (refine g_look rfl rfl ?_ (fun w' hC => ?_) ?_
       rotate_left
       · go_simp
         first | done | rfl)
    simp only [Act.put, sa, sb, sc]
    first
    | (refine g_skip rfl ?_)
    | (refine g_look rfl rfl ?_ (fun w' hC => ?_) ?_
       rotate_left
       · go_simp
         first | done | rfl)
    simp only [Act.put, sa, sb, sc]
    refine g_look rfl rfl ?_ (fun w' hC => ?_) ?_
    rotate_left
    · go_simp
      first | done | rfl
    simp only [Act.put, sa, sb, sc]
    refine g_end ?_
    intro w3 hC3 hh3
    have S3 : Hid (Stays [(gr, Obj.cells #[.int .u64 0, .int .u64 0] 25 (0, 0)), (gd, Obj.cells (fc (dig 0)) 41 (0, 0))] w w3) := Lib.hid (stays_cons (stays_row hC3 (List.mem_cons_self ..)) (stays_cons (stays_row hC3 (List.mem_cons_of_mem _ (List.mem_cons_self ..))) (stays_nil (stays_below hC3))))
    clear S2
    clear hC3 hh3
    go_upto_region 3 with fail
    refine reg_plain (Stays [(gd, Obj.cells (fc (dig 0)) 41 (0, 0))] w) (Turns [(gd, Obj.cells (fc (dig 0)) 41 (0, 0))] w) (kdOf [(1, .touch)]) (Own.has none0 gr (Obj.cells #[.int .u64 0, .int .u64 0] 25 (0, 0))) (stays_good _ _) (stays_cons (stays_row S3.out (List.mem_cons_of_mem _ (List.mem_cons_self ..))) (stays_nil (stays_below S3.out))) (holds_has (holds0 _) (stays_row S3.out (List.mem_cons_self ..)) (turns_cons (turns_head td.out).symm (turns_nil tr.out.2))) ?_
    refine g_look rfl rfl ?_ (fun w' hC => ?_) ?_
    rotate_left
    · go_simp
      first | done | rfl
    simp only [Act.put, sa, sb, sc]
    refine g_store gr none 25 25 _ _ #[.int .u64 0, .int .u64 0] #[.int .u64 0, .int .u64 0] rfl rfl rfl rfl rfl (has_same _ _ _) (by kernel_rfl) (rfl) (rfl) (one25 _ _) ?_
    simp only [Act.put]
    refine g_look rfl rfl ?_ (fun w' hC => ?_) ?_
    rotate_left
    · go_simp
      first | done | rfl
    simp only [Act.put, sa, sb, sc]
    refine g_end ?_
    intro w4 hC4 hh4
    have S4 : Hid (Stays [(gr, Obj.cells #[.int .u64 0, .int .u64 0] 25 (0, 0)), (gd, Obj.cells (fc (dig 0)) 41 (0, 0))] w w4) := Lib.hid (stays_cons ((hh4 _ _ _ (own_new _ _ _ _)).1) (stays_cons (stays_row hC4 (List.mem_cons_self ..)) (stays_nil (stays_below hC4))))
    clear S3
    clear hC4 hh4
    go_wp2_with fail
    refine bodyPost_ret (v := .tuple #[.agg #[.int .u64 0, .int .u64 0], .bool false]) (results_opt37 (stays_head S4.out) rfl) rfl ⟨congrArg Ending.returned (by rw [← HV.out, wide_no HB.out]), stays_below S4.out⟩
  · have h45 : ¬ (45 : Int) < (n : Int) := by omega
    by_cases hmore : 1 < n
    · have h1i : (1 : Int) < (n : Int) := by omega
      obtain ⟨c0, hc0⟩ : ∃ c : Int, (byteL l 0 : Int) = c := ⟨_, rfl⟩
      have hc48 : ¬ c0 = 48 := by rw [← hc0]; exact H48.out hmore
      go_upto_region 2 with fail
      refine reg_plain (Stays [(gr, Obj.cells #[.int .u64 0, .int .u64 0] 25 (0, 0)), (gd, Obj.cells (fc (dig 0)) 41 (0, 0))] w) (Turns [(gr, Obj.cells #[.int .u64 0, .int .u64 0] 25 (0, 0)), (gd, Obj.cells (fc (dig 0)) 41 (0, 0))] w) (kdOf []) none0 (stays_good _ _) (S2.out) (holds0 _) ?_
      refine g_look rfl rfl ?_ (fun w' hC => ?_) ?_
      rotate_left
      · go_simp
        first | done | rfl
      simp only [Act.put, sa, sb, sc]
      refine g_look rfl rfl (.bool false) (fun w' hC => ?_) ?_
      · clear hC
        go_simp
        first | done | rfl | exact HNE.out | (simpa using HNE.out)
      simp only [Act.put, sa, sb, sc]
      refine g_look rfl rfl ?_ (fun w' hC => ?_) ?_
      rotate_left
      · go_simp
        first | done | rfl
      simp only [Act.put, sa, sb, sc]
      first
      | (refine g_skip rfl ?_)
      | (refine g_look rfl rfl ?_ (fun w' hC => ?_) ?_
         rotate_left
         · go_simp
           first | done | rfl)
      simp only [Act.put, sa, sb, sc]
      first
      | (refine g_skip rfl ?_)
      | (refine g_look rfl rfl (.int .i64 (n : Int)) (fun w' hC => ?_) ?_
         · clear hC
           go_simp
           first | done | rfl | exact hn | (rw [hn]; done) | (simp [hn]; done))
      simp only [Act.put, sa, sb, sc]
      first
      | (refine g_skip rfl ?_)
      | (refine g_look rfl rfl (.bool false) (fun w' hC => ?_) ?_
         · clear hC
           go_simp
           first | done | rfl | exact h45 | (simpa using h45))
      simp only [Act.put, sa, sb, sc]
      refine g_look rfl rfl ?_ (fun w' hC => ?_) ?_
      rotate_left
      · go_simp
        first | done | rfl
      simp only [Act.put, sa, sb, sc]
      refine g_look rfl rfl ?_ (fun w' hC => ?_) ?_
      rotate_left
      · go_simp
        first | done | rfl
      simp only [Act.put, sa, sb, sc]
      first
      | (refine g_skip rfl ?_)
      | (refine g_look rfl rfl ?_ (fun w' hC => ?_) ?_
         rotate_left
         · go_simp
           first | done | rfl)
      simp only [Act.put, sa, sb, sc]
      first
      | (refine g_skip rfl ?_)
      | (refine g_look rfl rfl (.int .i64 (n : Int)) (fun w' hC => ?_) ?_
         · clear hC
           go_simp
           first | done | rfl | exact hn | (rw [hn]; done) | (simp [hn]; done))
      simp only [Act.put, sa, sb, sc]
      first
      | (refine g_skip rfl ?_)
      | (refine g_look rfl rfl (.bool true) (fun w' hC => ?_) ?_
         · clear hC
           go_simp
           first | done | rfl | exact h1i | (simpa using h1i))
      simp only [Act.put, sa, sb, sc]
      first
      | (refine g_skip rfl ?_)
      | (refine g_look rfl rfl ?_ (fun w' hC => ?_) ?_
         rotate_left
         · go_simp
           first | done | rfl)
      simp only [Act.put, sa, sb, sc]
      first
      | (refine g_skip rfl ?_)
      | (refine g_look rfl rfl ?_ (fun w' hC => ?_) ?_
         rotate_left
         · go_simp
           first | done | rfl)
      simp only [Act.put, sa, sb, sc]
      first
      | (refine g_skip rfl ?_)
      | (refine g_look rfl rfl (.int .u8 c0) (fun w' hC => ?_) ?_
         · clear hC hn
           go_simp
           first | done | (rw [byte0]; exact hc0) | exact hc0 | (rw [hc0]; done))
      simp only [Act.put, sa, sb, sc]
      first
      | (refine g_skip rfl ?_)
      | (refine g_look rfl rfl (.bool false) (fun w' hC => ?_) ?_
         · clear hC
           go_simp
           first | done | rfl | exact hc48 | (simpa using hc48))
      simp only [Act.put, sa, sb, sc]
      first
      | (refine g_skip rfl ?_)
      | (refine g_look rfl rfl ?_ (fun w' hC => ?_) ?_
         rotate_left
         · go_simp
           first | done | rfl)
      simp only [Act.put, sa, sb, sc]
      refine g_look rfl rfl ?_ (fun w' hC => ?_) ?_
      rotate_left
      · go_simp
        first | done | rfl
      simp only [Act.put, sa, sb, sc]
      refine g_end ?_
      intro w3 hC3 hh3
      have S3 : Hid (Stays [(gr, Obj.cells #[.int .u64 0, .int .u64 0] 25 (0, 0)), (gd, Obj.cells (fc (dig 0)) 41 (0, 0))] w w3) := Lib.hid (stays_cons (stays_row hC3 (List.mem_cons_self ..)) (stays_cons (stays_row hC3 (List.mem_cons_of_mem _ (List.mem_cons_self ..))) (stays_nil (stays_below hC3))))
      clear S2
      clear hC3 hh3
      clear hc0 hc48 h1i h45 hmore hlong
      clear hlen1
      go_upto_region 4 with fail
      refine reg_plain (Stays [(gr, Obj.cells #[.int .u64 0, .int .u64 0] 25 (0, 0)), (gd, Obj.cells (fc (dig 0)) 41 (0, 0))] w) (Turns [(gr, Obj.cells #[.int .u64 0, .int .u64 0] 25 (0, 0)), (gd, Obj.cells (fc (dig 0)) 41 (0, 0))] w) (kdOf []) none0 (stays_good _ _) (S3.out) (holds0 _) ?_
      refine g_look rfl rfl ?_ (fun w' hC => ?_) ?_
      rotate_left
      · go_simp
        first | done | rfl
      simp only [Act.put, sa, sb, sc]
      refine g_end ?_
      intro w4 hC4 hh4
      have S4 : Hid (Stays [(gr, Obj.cells #[.int .u64 0, .int .u64 0] 25 (0, 0)), (gd, Obj.cells (fc (dig 0)) 41 (0, 0))] w w4) := Lib.hid (stays_cons (stays_row hC4 (List.mem_cons_self ..)) (stays_cons (stays_row hC4 (List.mem_cons_of_mem _ (List.mem_cons_self ..))) (stays_nil (stays_below hC4))))
      clear S3
      clear hC4 hh4
      go_wp2_with fail
      go_loopw [5] (fun c wr => ∃ k : Nat, c = .int .i64 k ∧ k ≤ n ∧ Hid (valD (l.take k) < 65536 ^ 8) ∧ Hid (Stays [(gr, Obj.cells #[.int .u64 0, .int .u64 0] 25 (0, 0)), (gd, Obj.cells (fc (dig (valD (l.take k)))) 41 (0, 0))] w wr)) (fun c _ => n - (intOf c).toNat)
      case atStart => exact ⟨0, rfl, Nat.zero_le _, Lib.hid (by rw [List.take_zero]; decide), Lib.hid (by rw [List.take_zero]; exact S4.out)⟩
      case round =>
        obtain ⟨k, rfl, hk, HLT, S5⟩ := hrel
        clear S4
        by_cases hlt : k < n
        · have hki : (k : Int) < (n : Int) := by omega
          have hltd : k < l.length := by omega
          have hb := (cnt_more (l := l) (k := k) (by have := HCN.out; omega) hltd).1 (by have := HCN.out; omega)
          have HS := Lib.hid (val_step hltd)
          obtain ⟨v, hvv⟩ : ∃ v, valD (l.take k) = v := ⟨_, rfl⟩
          rw [hvv] at HLT HS S5
          obtain ⟨e, hd⟩ : ∃ e : Nat, byteL l k - 48 = e := ⟨_, rfl⟩
          obtain ⟨c, hbb⟩ : ∃ c : Int, (byteL l k : Int) = c := ⟨_, rfl⟩
          obtain ⟨w1, w2, he9, _⟩ := dig_facts hbb hb hd
          obtain ⟨hd1, hd2⟩ := byte_facts hbb hb
          have HW1 := Lib.hid w1
          have HW2 := Lib.hid w2
          have HE : Hid (e < 10) := Lib.hid (by omega)
          have HLE := Lib.hid (round_end hlt)
          have HIN := Lib.hid (inc_wrap HNM.out hlt)
          obtain ⟨m, hm⟩ : ∃ m : Nat, v * 10 + e = m := ⟨_, rfl⟩
          have HM := Lib.hid hm
          have HM10 := Lib.hid (lt10 HLT.out HE.out hm)
          have HVM : Hid (valD (l.take (k + 1)) = m) := Lib.hid (by rw [HS.out, hd]; exact hm)
          clear w1 w2 hb HS hvv hd hm he9 hlt hk hn
          go_upto_region 5 with fail
          refine reg_plain (Stays [(gr, Obj.cells #[.int .u64 0, .int .u64 0] 25 (0, 0)), (gd, Obj.cells (fc (dig v)) 41 (0, 0))] w) (Turns [(gr, Obj.cells #[.int .u64 0, .int .u64 0] 25 (0, 0)), (gd, Obj.cells (fc (dig v)) 41 (0, 0))] w) (kdOf []) none0 (stays_good _ _) (S5.out) (holds0 _) ?_
          refine g_look rfl rfl ?_ (fun w' hC => ?_) ?_
          rotate_left
          · go_simp
            first | done | rfl
          simp only [Act.put, sa, sb, sc]
          refine g_look rfl rfl ?_ (fun w' hC => ?_) ?_
          rotate_left
          · go_simp
            first | done | rfl
          simp only [Act.put, sa, sb, sc]
          refine g_look rfl rfl ?_ (fun w' hC => ?_) ?_
          rotate_left
          · go_simp
            first | done | rfl
          simp only [Act.put, sa, sb, sc]
          refine g_look rfl rfl (.bool true) (fun w' hC => ?_) ?_
          · clear hC
            go_simp
            first | done | rfl | exact hki | (rw [HN.out]; exact hki) | (simpa [HN.out] using hki)
          simp only [Act.put, sa, sb, sc]
          refine g_end ?_
          intro w6 hC6 hh6
          have S6 : Hid (Stays [(gr, Obj.cells #[.int .u64 0, .int .u64 0] 25 (0, 0)), (gd, Obj.cells (fc (dig v)) 41 (0, 0))] w w6) := Lib.hid (stays_cons (stays_row hC6 (List.mem_cons_self ..)) (stays_cons (stays_row hC6 (List.mem_cons_of_mem _ (List.mem_cons_self ..))) (stays_nil (stays_below hC6))))
          clear S5
          clear hC6 hh6
          go_upto_region 7 with fail
          refine reg_plain (Stays [(gr, Obj.cells #[.int .u64 0, .int .u64 0] 25 (0, 0)), (gd, Obj.cells (fc (dig v)) 41 (0, 0))] w) (Turns [(gr, Obj.cells #[.int .u64 0, .int .u64 0] 25 (0, 0)), (gd, Obj.cells (fc (dig v)) 41 (0, 0))] w) (kdOf []) none0 (stays_good _ _) (S6.out) (holds0 _) ?_
          refine g_look rfl rfl ?_ (fun w' hC => ?_) ?_
          rotate_left
          · go_simp
            first | done | rfl
          simp only [Act.put, sa, sb, sc]
          refine g_look rfl rfl ?_ (fun w' hC => ?_) ?_
          rotate_left
          · go_simp
            first | done | rfl
          simp only [Act.put, sa, sb, sc]
          refine g_look rfl rfl (.int .u8 c) (fun w' hC => ?_) ?_
          · clear hC
            go_simp
            first | done | rfl | exact hbb | (rw [hbb]; done)
          simp only [Act.put, sa, sb, sc]
          refine g_look rfl rfl (.bool false) (fun w' hC => ?_) ?_
          · clear hC
            go_simp
            first | done | rfl | exact hd1 | (simpa using hd1)
          simp only [Act.put, sa, sb, sc]
          refine g_look rfl rfl ?_ (fun w' hC => ?_) ?_
          rotate_left
          · go_simp
            first | done | rfl
          simp only [Act.put, sa, sb, sc]
          first
          | (refine g_skip rfl ?_)
          | (refine g_look rfl rfl ?_ (fun w' hC => ?_) ?_
             rotate_left
             · go_simp
               first | done | rfl)
          simp only [Act.put, sa, sb, sc]
          first
          | (refine g_skip rfl ?_)
          | (refine g_look rfl rfl ?_ (fun w' hC => ?_) ?_
             rotate_left
             · go_simp
               first | done | rfl)
          simp only [Act.put, sa, sb, sc]
          first
          | (refine g_skip rfl ?_)
          | (refine g_look rfl rfl (.int .u8 c) (fun w' hC => ?_) ?_
             · clear hC
               go_simp
               first | done | rfl | exact hbb | (rw [hbb]; done))
          simp only [Act.put, sa, sb, sc]
          first
          | (refine g_skip rfl ?_)
          | (refine g_look rfl rfl (.bool false) (fun w' hC => ?_) ?_
             · clear hC
               go_simp
               first | done | rfl | exact hd2 | (simpa using hd2))
          simp only [Act.put, sa, sb, sc]
          refine g_look rfl rfl ?_ (fun w' hC => ?_) ?_
          rotate_left
          · go_simp
            first | done | rfl
          simp only [Act.put, sa, sb, sc]
          refine g_end ?_
          intro w7 hC7 hh7
          have S7 : Hid (Stays [(gr, Obj.cells #[.int .u64 0, .int .u64 0] 25 (0, 0)), (gd, Obj.cells (fc (dig v)) 41 (0, 0))] w w7) := Lib.hid (stays_cons (stays_row hC7 (List.mem_cons_self ..)) (stays_cons (stays_row hC7 (List.mem_cons_of_mem _ (List.mem_cons_self ..))) (stays_nil (stays_below hC7))))
          clear S6
          clear hC7 hh7
          go_upto_region 9 with fail
          refine reg (Stays [(gr, Obj.cells #[.int .u64 0, .int .u64 0] 25 (0, 0))] w) (Turns [(gr, Obj.cells #[.int .u64 0, .int .u64 0] 25 (0, 0))] w) (kdOf [(0, .touch), (2, .make (fun _ => callM (dg (v * 10)))), (9, .make (fun _ => callM (dg m))), (10, .touch)]) (Own.has none0 gd (Obj.cells (fc (dig v)) 41 (0, 0))) (stays_good _ _) (by kernel_rfl) (by kernel_rfl) (stays_drew (stays_cons (stays_row S7.out (List.mem_cons_self ..)) (stays_nil (stays_below S7.out)))) (holds_has (holds0 _) (stays_row (stays_drew S7.out) (List.mem_cons_of_mem _ (List.mem_cons_self ..))) (turns_cons (turns_head td.out) (turns_nil td.out.2))) ?_
          refine g_load_own 41 _ gd none 41 (fc (dig v)) (0, 0) _ rfl rfl rfl rfl (has_same _ _ _) (by kernel_rfl) Try.underlying41 rfl (info27 _) ?_
          simp only [Act.put, sa, sb, sc]
          refine g_look rfl rfl (dg 10) (fun w' hC => ?_) ?_
          · go_simp
            first | done | exact dg_ten
          simp only [Act.put, sa, sb, sc]
          refine g_call (stays_good _ _) (dg (v * 10)) rfl rfl (fun w' hC => ?_) ?_
          · clear hC
            go_simp
            refine (times_any _ v 10 HLT.out (by decide)).mono (fun e w2 h => ?_)
            obtain ⟨h1, h2⟩ := h
            exact gives h1 h2
          simp only [Act.put, sa, sb, sc]
          refine g_look rfl rfl ?_ (fun w' hC => ?_) ?_
          rotate_left
          · go_simp
            first | done | rfl
          simp only [Act.put, sa, sb, sc]
          refine g_look rfl rfl ?_ (fun w' hC => ?_) ?_
          rotate_left
          · go_simp
            first | done | rfl
          simp only [Act.put, sa, sb, sc]
          refine g_look rfl rfl (.int .u8 c) (fun w' hC => ?_) ?_
          · clear hC
            go_simp
            first | done | rfl | exact hbb | (rw [hbb]; done)
          simp only [Act.put, sa, sb, sc]
          refine g_look rfl rfl (.int .u8 (e : Int)) (fun w' hC => ?_) ?_
          · clear hC
            go_simp
            first | done | exact HW1.out | (rw [HW1.out]; done)
          simp only [Act.put, sa, sb, sc]
          refine g_look rfl rfl (.int .u64 (e : Int)) (fun w' hC => ?_) ?_
          · clear hC
            go_simp
            first | done | exact HW2.out | (rw [HW2.out]; done)
          simp only [Act.put, sa, sb, sc]
          refine g_look rfl rfl (dg e) (fun w' hC => ?_) ?_
          · go_simp
            first | done | exact dg_small HE.out
          simp only [Act.put, sa, sb, sc]
          refine g_call (stays_good _ _) (dg m) rfl rfl (fun w' hC => ?_) ?_
          · clear hC
            go_simp
            refine (plus_any _ (v * 10) e).mono (fun e w2 h => ?_)
            obtain ⟨h1, h2⟩ := h
            rw [HM.out] at h1
            exact gives h1 h2
          simp only [Act.put, sa, sb, sc]
          refine g_store gd (some 0) 41 41 _ _ (fc (dig v)) (fc (dig m)) rfl rfl rfl rfl rfl (own_new _ _ _ _) (by kernel_rfl) ((by first | exact fc_size _ | exact (fc_size _).trans (fc_size _).symm)) (info27 _) (fc_one _) ?_
          simp only [Act.put]
          refine g_end ?_
          intro w8 hC8 hh8
          have S8 : Hid (Stays [(gr, Obj.cells #[.int .u64 0, .int .u64 0] 25 (0, 0)), (gd, Obj.cells (fc (dig m)) 41 (0, 0))] w w8) := Lib.hid (stays_cons (stays_row hC8 (List.mem_cons_self ..)) (stays_cons ((hh8 _ _ _ (own_new _ _ _ _)).1) (stays_nil (stays_below hC8))))
          clear S7
          clear hC8 hh8
          obtain ⟨x8, hx8⟩ : ∃ x : Nat, dig m 8 = x := ⟨_, rfl⟩
          obtain ⟨x9, hx9⟩ : ∃ x : Nat, dig m 9 = x := ⟨_, rfl⟩
          have hov := over8 HM10.out
          rw [hx8, hx9] at hov
          have HX8 := Lib.hid hx8
          have HX9 := Lib.hid hx9
          clear hx8 hx9
          by_cases h8 : x8 = 0
          · by_cases h9 : x9 = 0
            · subst h8 h9
              have HM8 := Lib.hid (hov.1 ⟨rfl, rfl⟩)
              clear hov
              go_upto_region 10 with fail
              refine reg_plain (Stays [(gr, Obj.cells #[.int .u64 0, .int .u64 0] 25 (0, 0)), (gd, Obj.cells (fc (dig m)) 41 (0, 0))] w) (Turns [(gr, Obj.cells #[.int .u64 0, .int .u64 0] 25 (0, 0)), (gd, Obj.cells (fc (dig m)) 41 (0, 0))] w) (kdOf []) none0 (stays_good _ _) (S8.out) (holds0 _) ?_
              refine g_look rfl rfl (.pointer (some ⟨gd, 8, none⟩)) (fun w' hC => ?_) ?_
              · clear hC
                go_simp
                first | done | rfl | exact ⟨rfl, rfl⟩
              simp only [Act.put, sa, sb, sc]
              refine g_look rfl rfl (.int .u64 0) (fun w' hC => ?_) ?_
              · have c := Blk.cell (show Blk w' gd (dig m) from stays_row hC (List.mem_cons_of_mem _ (List.mem_cons_self ..))) (show 8 < 20 by decide)
                rw [HX8.out] at c
                clear hC
                go_simp
                first | done | rfl
              simp only [Act.put, sa, sb, sc]
              refine g_look rfl rfl (.bool false) (fun w' hC => ?_) ?_
              · clear hC
                go_simp
                first | done | rfl | exact hx8i | (simpa using hx8i)
              simp only [Act.put, sa, sb, sc]
              refine g_look rfl rfl ?_ (fun w' hC => ?_) ?_
              rotate_left
              · go_simp
                first | done | rfl
              simp only [Act.put, sa, sb, sc]
              first
              | (refine g_skip rfl ?_)
              | (refine g_look rfl rfl (.pointer (some ⟨gd, 9, none⟩)) (fun w' hC => ?_) ?_
                 · clear hC
                   go_simp
                   first | done | rfl | exact ⟨rfl, rfl⟩)
              simp only [Act.put, sa, sb, sc]
              first
              | (refine g_skip rfl ?_)
              | (refine g_look rfl rfl (.int .u64 0) (fun w' hC => ?_) ?_
                 · have c := Blk.cell (show Blk w' gd (dig m) from stays_row hC (List.mem_cons_of_mem _ (List.mem_cons_self ..))) (show 9 < 20 by decide)
                   rw [HX9.out] at c
                   clear hC
                   go_simp
                   first | done | rfl)
              simp only [Act.put, sa, sb, sc]
              first
              | (refine g_skip rfl ?_)
              | (refine g_look rfl rfl (.bool false) (fun w' hC => ?_) ?_
                 · clear hC
                   go_simp
                   first | done | rfl | exact hx9i | (simpa using hx9i))
              simp only [Act.put, sa, sb, sc]
              refine g_look rfl rfl ?_ (fun w' hC => ?_) ?_
              rotate_left
              · go_simp
                first | done | rfl
              simp only [Act.put, sa, sb, sc]
              refine g_end ?_
              intro w9 hC9 hh9
              have S9 : Hid (Stays [(gr, Obj.cells #[.int .u64 0, .int .u64 0] 25 (0, 0)), (gd, Obj.cells (fc (dig m)) 41 (0, 0))] w w9) := Lib.hid (stays_cons (stays_row hC9 (List.mem_cons_self ..)) (stays_cons (stays_row hC9 (List.mem_cons_of_mem _ (List.mem_cons_self ..))) (stays_nil (stays_below hC9))))
              clear S8
              clear hC9 hh9
              go_upto_region 6 with fail
              refine reg_plain (Stays [(gr, Obj.cells #[.int .u64 0, .int .u64 0] 25 (0, 0)), (gd, Obj.cells (fc (dig m)) 41 (0, 0))] w) (Turns [(gr, Obj.cells #[.int .u64 0, .int .u64 0] 25 (0, 0)), (gd, Obj.cells (fc (dig m)) 41 (0, 0))] w) (kdOf []) none0 (stays_good _ _) (S9.out) (holds0 _) ?_
              refine g_look rfl rfl ?_ (fun w' hC => ?_) ?_
              rotate_left
              · go_simp
                first | done | rfl
              simp only [Act.put, sa, sb, sc]
              refine g_look rfl rfl (.int .i64 ((k : Int) + 1)) (fun w' hC => ?_) ?_
              · clear hC
                go_simp
                first | done | exact HIN.out
              simp only [Act.put, sa, sb, sc]
              refine g_look rfl rfl ?_ (fun w' hC => ?_) ?_
              rotate_left
              · go_simp
                first | done | rfl
              simp only [Act.put, sa, sb, sc]
              refine g_end ?_
              intro w10 hC10 hh10
              have S10 : Hid (Stays [(gr, Obj.cells #[.int .u64 0, .int .u64 0] 25 (0, 0)), (gd, Obj.cells (fc (dig m)) 41 (0, 0))] w w10) := Lib.hid (stays_cons (stays_row hC10 (List.mem_cons_self ..)) (stays_cons (stays_row hC10 (List.mem_cons_of_mem _ (List.mem_cons_self ..))) (stays_nil (stays_below hC10))))
              clear S9
              clear hC10 hh10
              have S99 : Hid (Stays [(gr, Obj.cells #[.int .u64 0, .int .u64 0] 25 (0, 0)), (gd, Obj.cells (fc (dig m)) 41 (0, 0))] w w10) := Lib.hid (stays_cons (stays_row S10.out (List.mem_cons_self ..)) (stays_cons (stays_row S10.out (List.mem_cons_of_mem _ (List.mem_cons_self ..))) (stays_nil (stays_below S10.out))))
              rw [← HVM.out] at S99 HM8
              go_wp2_with fail
              go_roundw
              case rel => exact ⟨k + 1, rfl, HLE.out.1, HM8, S99⟩
              case measure => exact HLE.out.2
            · subst h8
              have hx9i := ne_cast h9
              have HOV : Hid (¬ m < 65536 ^ 8) := Lib.hid (fun h => h9 (hov.2 h).2)
              clear hov
              go_upto_region 10 with fail
              refine reg_plain (Stays [(gr, Obj.cells #[.int .u64 0, .int .u64 0] 25 (0, 0)), (gd, Obj.cells (fc (dig m)) 41 (0, 0))] w) (Turns [(gr, Obj.cells #[.int .u64 0, .int .u64 0] 25 (0, 0)), (gd, Obj.cells (fc (dig m)) 41 (0, 0))] w) (kdOf []) none0 (stays_good _ _) (S8.out) (holds0 _) ?_
              refine g_look rfl rfl (.pointer (some ⟨gd, 8, none⟩)) (fun w' hC => ?_) ?_
              · clear hC
                go_simp
                first | done | rfl | exact ⟨rfl, rfl⟩
              simp only [Act.put, sa, sb, sc]
              refine g_look rfl rfl (.int .u64 0) (fun w' hC => ?_) ?_
              · have c := Blk.cell (show Blk w' gd (dig m) from stays_row hC (List.mem_cons_of_mem _ (List.mem_cons_self ..))) (show 8 < 20 by decide)
                rw [HX8.out] at c
                clear hC
                go_simp
                first | done | rfl
              simp only [Act.put, sa, sb, sc]
              refine g_look rfl rfl (.bool false) (fun w' hC => ?_) ?_
              · clear hC
                go_simp
                first | done | rfl | exact hx8i | (simpa using hx8i)
              simp only [Act.put, sa, sb, sc]
              refine g_look rfl rfl ?_ (fun w' hC => ?_) ?_
              rotate_left
              · go_simp
                first | done | rfl
              simp only [Act.put, sa, sb, sc]
              first
              | (refine g_skip rfl ?_)
              | (refine g_look rfl rfl (.pointer (some ⟨gd, 9, none⟩)) (fun w' hC => ?_) ?_
                 · clear hC
                   go_simp
                   first | done | rfl | exact ⟨rfl, rfl⟩)
              simp only [Act.put, sa, sb, sc]
              first
              | (refine g_skip rfl ?_)
              | (refine g_look rfl rfl (.int .u64 (x9 : Int)) (fun w' hC => ?_) ?_
                 · have c := Blk.cell (show Blk w' gd (dig m) from stays_row hC (List.mem_cons_of_mem _ (List.mem_cons_self ..))) (show 9 < 20 by decide)
                   rw [HX9.out] at c
                   clear hC
                   go_simp
                   first | done | rfl)
              simp only [Act.put, sa, sb, sc]
              first
              | (refine g_skip rfl ?_)
              | (refine g_look rfl rfl (.bool true) (fun w' hC => ?_) ?_
                 · clear hC
                   go_simp
                   first | done | rfl | exact hx9i | (simpa using hx9i))
              simp only [Act.put, sa, sb, sc]
              refine g_look rfl rfl ?_ (fun w' hC => ?_) ?_
              rotate_left
              · go_simp
                first | done | rfl
              simp only [Act.put, sa, sb, sc]
              refine g_end ?_
              intro w9 hC9 hh9
              have S9 : Hid (Stays [(gr, Obj.cells #[.int .u64 0, .int .u64 0] 25 (0, 0)), (gd, Obj.cells (fc (dig m)) 41 (0, 0))] w w9) := Lib.hid (stays_cons (stays_row hC9 (List.mem_cons_self ..)) (stays_cons (stays_row hC9 (List.mem_cons_of_mem _ (List.mem_cons_self ..))) (stays_nil (stays_below hC9))))
              clear S8
              clear hC9 hh9
              go_upto_region 11 with fail
              refine reg_plain (Stays [(gd, Obj.cells (fc (dig m)) 41 (0, 0))] w) (Turns [(gd, Obj.cells (fc (dig m)) 41 (0, 0))] w) (kdOf [(1, .touch)]) (Own.has none0 gr (Obj.cells #[.int .u64 0, .int .u64 0] 25 (0, 0))) (stays_good _ _) (stays_cons (stays_row S9.out (List.mem_cons_of_mem _ (List.mem_cons_self ..))) (stays_nil (stays_below S9.out))) (holds_has (holds0 _) (stays_row S9.out (List.mem_cons_self ..)) (turns_cons (turns_head td.out).symm (turns_nil tr.out.2))) ?_
              refine g_look rfl rfl ?_ (fun w' hC => ?_) ?_
              rotate_left
              · go_simp
                first | done | rfl
              simp only [Act.put, sa, sb, sc]
              refine g_store gr none 25 25 _ _ #[.int .u64 0, .int .u64 0] #[.int .u64 0, .int .u64 0] rfl rfl rfl rfl rfl (has_same _ _ _) (by kernel_rfl) (rfl) (rfl) (one25 _ _) ?_
              simp only [Act.put]
              refine g_look rfl rfl ?_ (fun w' hC => ?_) ?_
              rotate_left
              · go_simp
                first | done | rfl
              simp only [Act.put, sa, sb, sc]
              refine g_end ?_
              intro w10 hC10 hh10
              have S10 : Hid (Stays [(gr, Obj.cells #[.int .u64 0, .int .u64 0] 25 (0, 0)), (gd, Obj.cells (fc (dig m)) 41 (0, 0))] w w10) := Lib.hid (stays_cons ((hh10 _ _ _ (own_new _ _ _ _)).1) (stays_cons (stays_row hC10 (List.mem_cons_self ..)) (stays_nil (stays_below hC10))))
              clear S9
              clear hC10 hh10
              go_wp2_with fail
              refine bodyPost_ret (v := .tuple #[.agg #[.int .u64 0, .int .u64 0], .bool false]) (results_opt37 (stays_head S10.out) rfl) rfl ⟨congrArg Ending.returned (by rw [← HV.out, wide_no (fun h => HOV.out (Nat.lt_of_le_of_lt (HVM.out ▸ val_mono l (k + 1)) h))]), stays_below S10.out⟩
          · have hx8i := ne_cast h8
            have HOV : Hid (¬ m < 65536 ^ 8) := Lib.hid (fun h => h8 (hov.2 h).1)
            clear hov
            go_upto_region 10 with fail
            refine reg_plain (Stays [(gr, Obj.cells #[.int .u64 0, .int .u64 0] 25 (0, 0)), (gd, Obj.cells (fc (dig m)) 41 (0, 0))] w) (Turns [(gr, Obj.cells #[.int .u64 0, .int .u64 0] 25 (0, 0)), (gd, Obj.cells (fc (dig m)) 41 (0, 0))] w) (kdOf []) none0 (stays_good _ _) (S8.out) (holds0 _) ?_
            refine g_look rfl rfl (.pointer (some ⟨gd, 8, none⟩)) (fun w' hC => ?_) ?_
            · clear hC
              go_simp
              first | done | rfl | exact ⟨rfl, rfl⟩
            simp only [Act.put, sa, sb, sc]
            refine g_look rfl rfl (.int .u64 (x8 : Int)) (fun w' hC => ?_) ?_
            · have c := Blk.cell (show Blk w' gd (dig m) from stays_row hC (List.mem_cons_of_mem _ (List.mem_cons_self ..))) (show 8 < 20 by decide)
              rw [HX8.out] at c
              clear hC
              go_simp
              first | done | rfl
            simp only [Act.put, sa, sb, sc]
            refine g_look rfl rfl (.bool true) (fun w' hC => ?_) ?_
            · clear hC
              go_simp
              first | done | rfl | exact hx8i | (simpa using hx8i)
            simp only [Act.put, sa, sb, sc]
            refine g_look rfl rfl ?_ (fun w' hC => ?_) ?_
            rotate_left
            · go_simp
              first | done | rfl
            simp only [Act.put, sa, sb, sc]
            first
            | (refine g_skip rfl ?_)
            | (refine g_look rfl rfl (.pointer (some ⟨gd, 9, none⟩)) (fun w' hC => ?_) ?_
               · clear hC
                 go_simp
                 first | done | rfl | exact ⟨rfl, rfl⟩)
            simp only [Act.put, sa, sb, sc]
            first
            | (refine g_skip rfl ?_)
            | (refine g_look rfl rfl (.int .u64 (x9 : Int)) (fun w' hC => ?_) ?_
               · have c := Blk.cell (show Blk w' gd (dig m) from stays_row hC (List.mem_cons_of_mem _ (List.mem_cons_self ..))) (show 9 < 20 by decide)
                 rw [HX9.out] at c
                 clear hC
                 go_simp
                 first | done | rfl)
            simp only [Act.put, sa, sb, sc]
            first
            | (refine g_skip rfl ?_)
            | (refine g_look rfl rfl (.bool true) (fun w' hC => ?_) ?_
               · clear hC
                 go_simp
                 first | done | rfl | exact hx9i | (simpa using hx9i))
            simp only [Act.put, sa, sb, sc]
            refine g_look rfl rfl ?_ (fun w' hC => ?_) ?_
            rotate_left
            · go_simp
              first | done | rfl
            simp only [Act.put, sa, sb, sc]
            refine g_end ?_
            intro w9 hC9 hh9
            have S9 : Hid (Stays [(gr, Obj.cells #[.int .u64 0, .int .u64 0] 25 (0, 0)), (gd, Obj.cells (fc (dig m)) 41 (0, 0))] w w9) := Lib.hid (stays_cons (stays_row hC9 (List.mem_cons_self ..)) (stays_cons (stays_row hC9 (List.mem_cons_of_mem _ (List.mem_cons_self ..))) (stays_nil (stays_below hC9))))
            clear S8
            clear hC9 hh9
            go_upto_region 11 with fail
            refine reg_plain (Stays [(gd, Obj.cells (fc (dig m)) 41 (0, 0))] w) (Turns [(gd, Obj.cells (fc (dig m)) 41 (0, 0))] w) (kdOf [(1, .touch)]) (Own.has none0 gr (Obj.cells #[.int .u64 0, .int .u64 0] 25 (0, 0))) (stays_good _ _) (stays_cons (stays_row S9.out (List.mem_cons_of_mem _ (List.mem_cons_self ..))) (stays_nil (stays_below S9.out))) (holds_has (holds0 _) (stays_row S9.out (List.mem_cons_self ..)) (turns_cons (turns_head td.out).symm (turns_nil tr.out.2))) ?_
            refine g_look rfl rfl ?_ (fun w' hC => ?_) ?_
            rotate_left
            · go_simp
              first | done | rfl
            simp only [Act.put, sa, sb, sc]
            refine g_store gr none 25 25 _ _ #[.int .u64 0, .int .u64 0] #[.int .u64 0, .int .u64 0] rfl rfl rfl rfl rfl (has_same _ _ _) (by kernel_rfl) (rfl) (rfl) (one25 _ _) ?_
            simp only [Act.put]
            refine g_look rfl rfl ?_ (fun w' hC => ?_) ?_
            rotate_left
            · go_simp
              first | done | rfl
            simp only [Act.put, sa, sb, sc]
            refine g_end ?_
            intro w10 hC10 hh10
            have S10 : Hid (Stays [(gr, Obj.cells #[.int .u64 0, .int .u64 0] 25 (0, 0)), (gd, Obj.cells (fc (dig m)) 41 (0, 0))] w w10) := Lib.hid (stays_cons ((hh10 _ _ _ (own_new _ _ _ _)).1) (stays_cons (stays_row hC10 (List.mem_cons_self ..)) (stays_nil (stays_below hC10))))
            clear S9
            clear hC10 hh10
            go_wp2_with fail
            refine bodyPost_ret (v := .tuple #[.agg #[.int .u64 0, .int .u64 0], .bool false]) (results_opt37 (stays_head S10.out) rfl) rfl ⟨congrArg Ending.returned (by rw [← HV.out, wide_no (fun h => HOV.out (Nat.lt_of_le_of_lt (HVM.out ▸ val_mono l (k + 1)) h))]), stays_below S10.out⟩
        · obtain ⟨rfl, hki⟩ := end_k hk hlt
          rw [show l.take k = l by rw [← hn, List.take_length]] at HLT S5
          obtain ⟨v, hvv⟩ : ∃ v, valD l = v := ⟨_, rfl⟩
          rw [hvv] at HLT S5
          obtain ⟨a, b, ok, hab⟩ := wide_open v
          have HAB := Lib.hid hab
          have HVV := Lib.hid hvv
          have HL20 : Hid (v < 65536 ^ 20) := Lib.hid (Nat.lt_of_lt_of_le HLT.out (by decide))
          clear hab hvv hk hlt
          go_upto_region 5 with fail
          refine reg_plain (Stays [(gr, Obj.cells #[.int .u64 0, .int .u64 0] 25 (0, 0)), (gd, Obj.cells (fc (dig v)) 41 (0, 0))] w) (Turns [(gr, Obj.cells #[.int .u64 0, .int .u64 0] 25 (0, 0)), (gd, Obj.cells (fc (dig v)) 41 (0, 0))] w) (kdOf []) none0 (stays_good _ _) (S5.out) (holds0 _) ?_
          refine g_look rfl rfl ?_ (fun w' hC => ?_) ?_
          rotate_left
          · go_simp
            first | done | rfl
          simp only [Act.put, sa, sb, sc]
          refine g_look rfl rfl ?_ (fun w' hC => ?_) ?_
          rotate_left
          · go_simp
            first | done | rfl
          simp only [Act.put, sa, sb, sc]
          refine g_look rfl rfl ?_ (fun w' hC => ?_) ?_
          rotate_left
          · go_simp
            first | done | rfl
          simp only [Act.put, sa, sb, sc]
          refine g_look rfl rfl (.bool false) (fun w' hC => ?_) ?_
          · clear hC
            go_simp
            first | done | rfl | exact hki | (rw [HN.out]; exact hki) | (simpa [HN.out] using hki)
          simp only [Act.put, sa, sb, sc]
          refine g_end ?_
          intro w6 hC6 hh6
          have S6 : Hid (Stays [(gr, Obj.cells #[.int .u64 0, .int .u64 0] 25 (0, 0)), (gd, Obj.cells (fc (dig v)) 41 (0, 0))] w w6) := Lib.hid (stays_cons (stays_row hC6 (List.mem_cons_self ..)) (stays_cons (stays_row hC6 (List.mem_cons_of_mem _ (List.mem_cons_self ..))) (stays_nil (stays_below hC6))))
          clear S5
          clear hC6 hh6
          go_upto_region 12 with fail
          refine reg_plain (Stays [(gd, Obj.cells (fc (dig v)) 41 (0, 0))] w) (Turns [(gd, Obj.cells (fc (dig v)) 41 (0, 0))] w) (kdOf [(1, .make (fun _ => callM (.tuple #[.agg #[.int .u64 a, .int .u64 b], .bool ok]))), (4, .touch)]) (Own.has none0 gr (Obj.cells #[.int .u64 0, .int .u64 0] 25 (0, 0))) (stays_good _ _) (stays_cons (stays_row S6.out (List.mem_cons_of_mem _ (List.mem_cons_self ..))) (stays_nil (stays_below S6.out))) (holds_has (holds0 _) (stays_row S6.out (List.mem_cons_self ..)) (turns_cons (turns_head td.out).symm (turns_nil tr.out.2))) ?_
          (refine g_load 41 _ gd 41 (fc (dig v)) (0, 0) _ rfl rfl rfl rfl (fun w' hC => stays_row hC (List.mem_cons_self ..)) Try.underlying41 rfl (info27 _) ?_)
          simp only [Act.put, sa, sb, sc]
          refine g_call (stays_good _ _) (.tuple #[.agg #[.int .u64 a, .int .u64 b], .bool ok]) rfl rfl (fun w' hC => ?_) ?_
          · clear hC
            go_simp
            refine (wide_any _ v HL20.out).mono (fun e w2 h => ?_)
            obtain ⟨h1, h2⟩ := h
            rw [HAB.out] at h1
            exact gives h1 h2
          simp only [Act.put, sa, sb, sc]
          refine g_look rfl rfl ?_ (fun w' hC => ?_) ?_
          rotate_left
          · go_simp
            first | done | rfl
          simp only [Act.put, sa, sb, sc]
          refine g_look rfl rfl ?_ (fun w' hC => ?_) ?_
          rotate_left
          · go_simp
            first | done | rfl
          simp only [Act.put, sa, sb, sc]
          refine g_store gr none 25 25 _ _ #[.int .u64 0, .int .u64 0] #[.int .u64 a, .int .u64 b] rfl rfl rfl rfl rfl (has_same _ _ _) (by kernel_rfl) (rfl) (rfl) (one25 _ _) ?_
          simp only [Act.put]
          refine g_look rfl rfl ?_ (fun w' hC => ?_) ?_
          rotate_left
          · go_simp
            first | done | rfl
          simp only [Act.put, sa, sb, sc]
          refine g_end ?_
          intro w7 hC7 hh7
          have S7 : Hid (Stays [(gr, Obj.cells #[.int .u64 a, .int .u64 b] 25 (0, 0)), (gd, Obj.cells (fc (dig v)) 41 (0, 0))] w w7) := Lib.hid (stays_cons ((hh7 _ _ _ (own_new _ _ _ _)).1) (stays_cons (stays_row hC7 (List.mem_cons_self ..)) (stays_nil (stays_below hC7))))
          clear S6
          clear hC7 hh7
          go_wp2_with fail
          refine bodyPost_ret (v := .tuple #[.agg #[.int .u64 a, .int .u64 b], .bool ok]) (results_opt37 (stays_row S7.out (List.mem_cons_self ..)) rfl) rfl ⟨congrArg Ending.returned (by rw [← HV.out, HVV.out, HAB.out]), stays_below S7.out⟩
    · have h1i : ¬ (1 : Int) < (n : Int) := by omega
      go_upto_region 2 with fail
      refine reg_plain (Stays [(gr, Obj.cells #[.int .u64 0, .int .u64 0] 25 (0, 0)), (gd, Obj.cells (fc (dig 0)) 41 (0, 0))] w) (Turns [(gr, Obj.cells #[.int .u64 0, .int .u64 0] 25 (0, 0)), (gd, Obj.cells (fc (dig 0)) 41 (0, 0))] w) (kdOf []) none0 (stays_good _ _) (S2.out) (holds0 _) ?_
      refine g_look rfl rfl ?_ (fun w' hC => ?_) ?_
      rotate_left
      · go_simp
        first | done | rfl
      simp only [Act.put, sa, sb, sc]
      refine g_look rfl rfl (.bool false) (fun w' hC => ?_) ?_
      · clear hC
        go_simp
        first | done | rfl | exact HNE.out | (simpa using HNE.out)
      simp only [Act.put, sa, sb, sc]
      refine g_look rfl rfl ?_ (fun w' hC => ?_) ?_
      rotate_left
      · go_simp
        first | done | rfl
      simp only [Act.put, sa, sb, sc]
      first
      | (refine g_skip rfl ?_)
      | (refine g_look rfl rfl ?_ (fun w' hC => ?_) ?_
         rotate_left
         · go_simp
           first | done | rfl)
      simp only [Act.put, sa, sb, sc]
      first
      | (refine g_skip rfl ?_)
      | (refine g_look rfl rfl (.int .i64 (n : Int)) (fun w' hC => ?_) ?_
         · clear hC
           go_simp
           first | done | rfl | exact hn | (rw [hn]; done) | (simp [hn]; done))
      simp only [Act.put, sa, sb, sc]
      first
      | (refine g_skip rfl ?_)
      | (refine g_look rfl rfl (.bool false) (fun w' hC => ?_) ?_
         · clear hC
           go_simp
           first | done | rfl | exact h45 | (simpa using h45))
      simp only [Act.put, sa, sb, sc]
      refine g_look rfl rfl ?_ (fun w' hC => ?_) ?_
      rotate_left
      · go_simp
        first | done | rfl
      simp only [Act.put, sa, sb, sc]
      refine g_look rfl rfl ?_ (fun w' hC => ?_) ?_
      rotate_left
      · go_simp
        first | done | rfl
      simp only [Act.put, sa, sb, sc]
      first
      | (refine g_skip rfl ?_)
      | (refine g_look rfl rfl ?_ (fun w' hC => ?_) ?_
         rotate_left
         · go_simp
           first | done | rfl)
      simp only [Act.put, sa, sb, sc]
      first
      | (refine g_skip rfl ?_)
      | (refine g_look rfl rfl (.int .i64 (n : Int)) (fun w' hC => ?_) ?_
         · clear hC
           go_simp
           first | done | rfl | exact hn | (rw [hn]; done) | (simp [hn]; done))
      simp only [Act.put, sa, sb, sc]
      first
      | (refine g_skip rfl ?_)
      | (refine g_look rfl rfl (.bool false) (fun w' hC => ?_) ?_
         · clear hC
           go_simp
           first | done | rfl | exact h1i | (simpa using h1i))
      simp only [Act.put, sa, sb, sc]
      first
      | (refine g_skip rfl ?_)
      | (refine g_look rfl rfl ?_ (fun w' hC => ?_) ?_
         rotate_left
         · go_simp
           first | done | rfl)
      simp only [Act.put, sa, sb, sc]
      first
      | (refine g_skip rfl ?_)
      | (refine g_look rfl rfl ?_ (fun w' hC => ?_) ?_
         rotate_left
         · go_simp
           first | done | rfl)
      simp only [Act.put, sa, sb, sc]
      first
      | (refine g_skip rfl ?_)
      | (refine g_look rfl rfl ?_ (fun w' hC => ?_) ?_
         rotate_left
         · go_simp
           first | done | rfl)
      simp only [Act.put, sa, sb, sc]
      first
      | (refine g_skip rfl ?_)
      | (refine g_look rfl rfl ?_ (fun w' hC => ?_) ?_
         rotate_left
         · go_simp
           first | done | rfl)
      simp only [Act.put, sa, sb, sc]
      first
      | (refine g_skip rfl ?_)
      | (refine g_look rfl rfl ?_ (fun w' hC => ?_) ?_
         rotate_left
         · go_simp
           first | done | rfl)
      simp only [Act.put, sa, sb, sc]
      refine g_look rfl rfl ?_ (fun w' hC => ?_) ?_
      rotate_left
      · go_simp
        first | done | rfl
      simp only [Act.put, sa, sb, sc]
      refine g_end ?_
      intro w3 hC3 hh3
      have S3 : Hid (Stays [(gr, Obj.cells #[.int .u64 0, .int .u64 0] 25 (0, 0)), (gd, Obj.cells (fc (dig 0)) 41 (0, 0))] w w3) := Lib.hid (stays_cons (stays_row hC3 (List.mem_cons_self ..)) (stays_cons (stays_row hC3 (List.mem_cons_of_mem _ (List.mem_cons_self ..))) (stays_nil (stays_below hC3))))
      clear S2
      clear hC3 hh3
      clear h1i h45 hmore hlong
      clear hlen1
      go_upto_region 4 with fail
      refine reg_plain (Stays [(gr, Obj.cells #[.int .u64 0, .int .u64 0] 25 (0, 0)), (gd, Obj.cells (fc (dig 0)) 41 (0, 0))] w) (Turns [(gr, Obj.cells #[.int .u64 0, .int .u64 0] 25 (0, 0)), (gd, Obj.cells (fc (dig 0)) 41 (0, 0))] w) (kdOf []) none0 (stays_good _ _) (S3.out) (holds0 _) ?_
      refine g_look rfl rfl ?_ (fun w' hC => ?_) ?_
      rotate_left
      · go_simp
        first | done | rfl
      simp only [Act.put, sa, sb, sc]
      refine g_end ?_
      intro w4 hC4 hh4
      have S4 : Hid (Stays [(gr, Obj.cells #[.int .u64 0, .int .u64 0] 25 (0, 0)), (gd, Obj.cells (fc (dig 0)) 41 (0, 0))] w w4) := Lib.hid (stays_cons (stays_row hC4 (List.mem_cons_self ..)) (stays_cons (stays_row hC4 (List.mem_cons_of_mem _ (List.mem_cons_self ..))) (stays_nil (stays_below hC4))))
      clear S3
      clear hC4 hh4
      go_wp2_with fail
      go_loopw [5] (fun c wr => ∃ k : Nat, c = .int .i64 k ∧ k ≤ n ∧ Hid (valD (l.take k) < 65536 ^ 8) ∧ Hid (Stays [(gr, Obj.cells #[.int .u64 0, .int .u64 0] 25 (0, 0)), (gd, Obj.cells (fc (dig (valD (l.take k)))) 41 (0, 0))] w wr)) (fun c _ => n - (intOf c).toNat)
      case atStart => exact ⟨0, rfl, Nat.zero_le _, Lib.hid (by rw [List.take_zero]; decide), Lib.hid (by rw [List.take_zero]; exact S4.out)⟩
      case round =>
        obtain ⟨k, rfl, hk, HLT, S5⟩ := hrel
        clear S4
        by_cases hlt : k < n
        · have hki : (k : Int) < (n : Int) := by omega
          have hltd : k < l.length := by omega
          have hb := (cnt_more (l := l) (k := k) (by have := HCN.out; omega) hltd).1 (by have := HCN.out; omega)
          have HS := Lib.hid (val_step hltd)
          obtain ⟨v, hvv⟩ : ∃ v, valD (l.take k) = v := ⟨_, rfl⟩
          rw [hvv] at HLT HS S5
          obtain ⟨e, hd⟩ : ∃ e : Nat, byteL l k - 48 = e := ⟨_, rfl⟩
          obtain ⟨c, hbb⟩ : ∃ c : Int, (byteL l k : Int) = c := ⟨_, rfl⟩
          obtain ⟨w1, w2, he9, _⟩ := dig_facts hbb hb hd
          obtain ⟨hd1, hd2⟩ := byte_facts hbb hb
          have HW1 := Lib.hid w1
          have HW2 := Lib.hid w2
          have HE : Hid (e < 10) := Lib.hid (by omega)
          have HLE := Lib.hid (round_end hlt)
          have HIN := Lib.hid (inc_wrap HNM.out hlt)
          obtain ⟨m, hm⟩ : ∃ m : Nat, v * 10 + e = m := ⟨_, rfl⟩
          have HM := Lib.hid hm
          have HM10 := Lib.hid (lt10 HLT.out HE.out hm)
          have HVM : Hid (valD (l.take (k + 1)) = m) := Lib.hid (by rw [HS.out, hd]; exact hm)
          clear w1 w2 hb HS hvv hd hm he9 hlt hk hn
          go_upto_region 5 with fail
          refine reg_plain (Stays [(gr, Obj.cells #[.int .u64 0, .int .u64 0] 25 (0, 0)), (gd, Obj.cells (fc (dig v)) 41 (0, 0))] w) (Turns [(gr, Obj.cells #[.int .u64 0, .int .u64 0] 25 (0, 0)), (gd, Obj.cells (fc (dig v)) 41 (0, 0))] w) (kdOf []) none0 (stays_good _ _) (S5.out) (holds0 _) ?_
          refine g_look rfl rfl ?_ (fun w' hC => ?_) ?_
          rotate_left
          · go_simp
            first | done | rfl
          simp only [Act.put, sa, sb, sc]
          refine g_look rfl rfl ?_ (fun w' hC => ?_) ?_
          rotate_left
          · go_simp
            first | done | rfl
          simp only [Act.put, sa, sb, sc]
          refine g_look rfl rfl ?_ (fun w' hC => ?_) ?_
          rotate_left
          · go_simp
            first | done | rfl
          simp only [Act.put, sa, sb, sc]
          refine g_look rfl rfl (.bool true) (fun w' hC => ?_) ?_
          · clear hC
            go_simp
            first | done | rfl | exact hki | (rw [HN.out]; exact hki) | (simpa [HN.out] using hki)
          simp only [Act.put, sa, sb, sc]
          refine g_end ?_
          intro w6 hC6 hh6
          have S6 : Hid (Stays [(gr, Obj.cells #[.int .u64 0, .int .u64 0] 25 (0, 0)), (gd, Obj.cells (fc (dig v)) 41 (0, 0))] w w6) := Lib.hid (stays_cons (stays_row hC6 (List.mem_cons_self ..)) (stays_cons (stays_row hC6 (List.mem_cons_of_mem _ (List.mem_cons_self ..))) (stays_nil (stays_below hC6))))
          clear S5
          clear hC6 hh6
          go_upto_region 7 with fail
          refine reg_plain (Stays [(gr, Obj.cells #[.int .u64 0, .int .u64 0] 25 (0, 0)), (gd, Obj.cells (fc (dig v)) 41 (0, 0))] w) (Turns [(gr, Obj.cells #[.int .u64 0, .int .u64 0] 25 (0, 0)), (gd, Obj.cells (fc (dig v)) 41 (0, 0))] w) (kdOf []) none0 (stays_good _ _) (S6.out) (holds0 _) ?_
          refine g_look rfl rfl ?_ (fun w' hC => ?_) ?_
          rotate_left
          · go_simp
            first | done | rfl
          simp only [Act.put, sa, sb, sc]
          refine g_look rfl rfl ?_ (fun w' hC => ?_) ?_
          rotate_left
          · go_simp
            first | done | rfl
          simp only [Act.put, sa, sb, sc]
          refine g_look rfl rfl (.int .u8 c) (fun w' hC => ?_) ?_
          · clear hC
            go_simp
            first | done | rfl | exact hbb | (rw [hbb]; done)
          simp only [Act.put, sa, sb, sc]
          refine g_look rfl rfl (.bool false) (fun w' hC => ?_) ?_
          · clear hC
            go_simp
            first | done | rfl | exact hd1 | (simpa using hd1)
          simp only [Act.put, sa, sb, sc]
          refine g_look rfl rfl ?_ (fun w' hC => ?_) ?_
          rotate_left
          · go_simp
            first | done | rfl
          simp only [Act.put, sa, sb, sc]
          first
          | (refine g_skip rfl ?_)
          | (refine g_look rfl rfl ?_ (fun w' hC => ?_) ?_
             rotate_left
             · go_simp
               first | done | rfl)
          simp only [Act.put, sa, sb, sc]
          first
          | (refine g_skip rfl ?_)
          | (refine g_look rfl rfl ?_ (fun w' hC => ?_) ?_
             rotate_left
             · go_simp
               first | done | rfl)
          simp only [Act.put, sa, sb, sc]
          first
          | (refine g_skip rfl ?_)
          | (refine g_look rfl rfl (.int .u8 c) (fun w' hC => ?_) ?_
             · clear hC
               go_simp
               first | done | rfl | exact hbb | (rw [hbb]; done))
          simp only [Act.put, sa, sb, sc]
          first
          | (refine g_skip rfl ?_)
          | (refine g_look rfl rfl (.bool false) (fun w' hC => ?_) ?_
             · clear hC
               go_simp
               first | done | rfl | exact hd2 | (simpa using hd2))
          simp only [Act.put, sa, sb, sc]
          refine g_look rfl rfl ?_ (fun w' hC => ?_) ?_
          rotate_left
          · go_simp
            first | done | rfl
          simp only [Act.put, sa, sb, sc]
          refine g_end ?_
          intro w7 hC7 hh7
          have S7 : Hid (Stays [(gr, Obj.cells #[.int .u64 0, .int .u64 0] 25 (0, 0)), (gd, Obj.cells (fc (dig v)) 41 (0, 0))] w w7) := Lib.hid (stays_cons (stays_row hC7 (List.mem_cons_self ..)) (stays_cons (stays_row hC7 (List.mem_cons_of_mem _ (List.mem_cons_self ..))) (stays_nil (stays_below hC7))))
          clear S6
          clear hC7 hh7
          go_upto_region 9 with fail
          refine reg (Stays [(gr, Obj.cells #[.int .u64 0, .int .u64 0] 25 (0, 0))] w) (Turns [(gr, Obj.cells #[.int .u64 0, .int .u64 0] 25 (0, 0))] w) (kdOf [(0, .touch), (2, .make (fun _ => callM (dg (v * 10)))), (9, .make (fun _ => callM (dg m))), (10, .touch)]) (Own.has none0 gd (Obj.cells (fc (dig v)) 41 (0, 0))) (stays_good _ _) (by kernel_rfl) (by kernel_rfl) (stays_drew (stays_cons (stays_row S7.out (List.mem_cons_self ..)) (stays_nil (stays_below S7.out)))) (holds_has (holds0 _) (stays_row (stays_drew S7.out) (List.mem_cons_of_mem _ (List.mem_cons_self ..))) (turns_cons (turns_head td.out) (turns_nil td.out.2))) ?_
          refine g_load_own 41 _ gd none 41 (fc (dig v)) (0, 0) _ rfl rfl rfl rfl (has_same _ _ _) (by kernel_rfl) Try.underlying41 rfl (info27 _) ?_
          simp only [Act.put, sa, sb, sc]
          refine g_look rfl rfl (dg 10) (fun w' hC => ?_) ?_
          · go_simp
            first | done | exact dg_ten
          simp only [Act.put, sa, sb, sc]
          refine g_call (stays_good _ _) (dg (v * 10)) rfl rfl (fun w' hC => ?_) ?_
          · clear hC
            go_simp
            refine (times_any _ v 10 HLT.out (by decide)).mono (fun e w2 h => ?_)
            obtain ⟨h1, h2⟩ := h
            exact gives h1 h2
          simp only [Act.put, sa, sb, sc]
          refine g_look rfl rfl ?_ (fun w' hC => ?_) ?_
          rotate_left
          · go_simp
            first | done | rfl
          simp only [Act.put, sa, sb, sc]
          refine g_look rfl rfl ?_ (fun w' hC => ?_) ?_
          rotate_left
          · go_simp
            first | done | rfl
          simp only [Act.put, sa, sb, sc]
          refine g_look rfl rfl (.int .u8 c) (fun w' hC => ?_) ?_
          · clear hC
            go_simp
            first | done | rfl | exact hbb | (rw [hbb]; done)
          simp only [Act.put, sa, sb, sc]
          refine g_look rfl rfl (.int .u8 (e : Int)) (fun w' hC => ?_) ?_
          · clear hC
            go_simp
            first | done | exact HW1.out | (rw [HW1.out]; done)
          simp only [Act.put, sa, sb, sc]
          refine g_look rfl rfl (.int .u64 (e : Int)) (fun w' hC => ?_) ?_
          · clear hC
            go_simp
            first | done | exact HW2.out | (rw [HW2.out]; done)
          simp only [Act.put, sa, sb, sc]
          refine g_look rfl rfl (dg e) (fun w' hC => ?_) ?_
          · go_simp
            first | done | exact dg_small HE.out
          simp only [Act.put, sa, sb, sc]
          refine g_call (stays_good _ _) (dg m) rfl rfl (fun w' hC => ?_) ?_
          · clear hC
            go_simp
            refine (plus_any _ (v * 10) e).mono (fun e w2 h => ?_)
            obtain ⟨h1, h2⟩ := h
            rw [HM.out] at h1
            exact gives h1 h2
          simp only [Act.put, sa, sb, sc]
          refine g_store gd (some 0) 41 41 _ _ (fc (dig v)) (fc (dig m)) rfl rfl rfl rfl rfl (own_new _ _ _ _) (by kernel_rfl) ((by first | exact fc_size _ | exact (fc_size _).trans (fc_size _).symm)) (info27 _) (fc_one _) ?_
          simp only [Act.put]
          refine g_end ?_
          intro w8 hC8 hh8
          have S8 : Hid (Stays [(gr, Obj.cells #[.int .u64 0, .int .u64 0] 25 (0, 0)), (gd, Obj.cells (fc (dig m)) 41 (0, 0))] w w8) := Lib.hid (stays_cons (stays_row hC8 (List.mem_cons_self ..)) (stays_cons ((hh8 _ _ _ (own_new _ _ _ _)).1) (stays_nil (stays_below hC8))))
          clear S7
          clear hC8 hh8
          obtain ⟨x8, hx8⟩ : ∃ x : Nat, dig m 8 = x := ⟨_, rfl⟩
          obtain ⟨x9, hx9⟩ : ∃ x : Nat, dig m 9 = x := ⟨_, rfl⟩
          have hov := over8 HM10.out
          rw [hx8, hx9] at hov
          have HX8 := Lib.hid hx8
          have HX9 := Lib.hid hx9
          clear hx8 hx9
          by_cases h8 : x8 = 0
          · by_cases h9 : x9 = 0
            · subst h8 h9
              have HM8 := Lib.hid (hov.1 ⟨rfl, rfl⟩)
              clear hov
              go_upto_region 10 with fail
              refine reg_plain (Stays [(gr, Obj.cells #[.int .u64 0, .int .u64 0] 25 (0, 0)), (gd, Obj.cells (fc (dig m)) 41 (0, 0))] w) (Turns [(gr, Obj.cells #[.int .u64 0, .int .u64 0] 25 (0, 0)), (gd, Obj.cells (fc (dig m)) 41 (0, 0))] w) (kdOf []) none0 (stays_good _ _) (S8.out) (holds0 _) ?_
              refine g_look rfl rfl (.pointer (some ⟨gd, 8, none⟩)) (fun w' hC => ?_) ?_
              · clear hC
                go_simp
                first | done | rfl | exact ⟨rfl, rfl⟩
              simp only [Act.put, sa, sb, sc]
              refine g_look rfl rfl (.int .u64 0) (fun w' hC => ?_) ?_
              · have c := Blk.cell (show Blk w' gd (dig m) from stays_row hC (List.mem_cons_of_mem _ (List.mem_cons_self ..))) (show 8 < 20 by decide)
                rw [HX8.out] at c
                clear hC
                go_simp
                first | done | rfl
              simp only [Act.put, sa, sb, sc]
              refine g_look rfl rfl (.bool false) (fun w' hC => ?_) ?_
              · clear hC
                go_simp
                first | done | rfl | exact hx8i | (simpa using hx8i)
              simp only [Act.put, sa, sb, sc]
              refine g_look rfl rfl ?_ (fun w' hC => ?_) ?_
              rotate_left
              · go_simp
                first | done | rfl
              simp only [Act.put, sa, sb, sc]
              first
              | (refine g_skip rfl ?_)
              | (refine g_look rfl rfl (.pointer (some ⟨gd, 9, none⟩)) (fun w' hC => ?_) ?_
                 · clear hC
                   go_simp
                   first | done | rfl | exact ⟨rfl, rfl⟩)
              simp only [Act.put, sa, sb, sc]
              first
              | (refine g_skip rfl ?_)
              | (refine g_look rfl rfl (.int .u64 0) (fun w' hC => ?_) ?_
                 · have c := Blk.cell (show Blk w' gd (dig m) from stays_row hC (List.mem_cons_of_mem _ (List.mem_cons_self ..))) (show 9 < 20 by decide)
                   rw [HX9.out] at c
                   clear hC
                   go_simp
                   first | done | rfl)
              simp only [Act.put, sa, sb, sc]
              first
              | (refine g_skip rfl ?_)
              | (refine g_look rfl rfl (.bool false) (fun w' hC => ?_) ?_
                 · clear hC
                   go_simp
                   first | done | rfl | exact hx9i | (simpa using hx9i))
              simp only [Act.put, sa, sb, sc]
              refine g_look rfl rfl ?_ (fun w' hC => ?_) ?_
              rotate_left
              · go_simp
                first | done | rfl
              simp only [Act.put, sa, sb, sc]
              refine g_end ?_
              intro w9 hC9 hh9
              have S9 : Hid (Stays [(gr, Obj.cells #[.int .u64 0, .int .u64 0] 25 (0, 0)), (gd, Obj.cells (fc (dig m)) 41 (0, 0))] w w9) := Lib.hid (stays_cons (stays_row hC9 (List.mem_cons_self ..)) (stays_cons (stays_row hC9 (List.mem_cons_of_mem _ (List.mem_cons_self ..))) (stays_nil (stays_below hC9))))
              clear S8
              clear hC9 hh9
              go_upto_region 6 with fail
              refine reg_plain (Stays [(gr, Obj.cells #[.int .u64 0, .int .u64 0] 25 (0, 0)), (gd, Obj.cells (fc (dig m)) 41 (0, 0))] w) (Turns [(gr, Obj.cells #[.int .u64 0, .int .u64 0] 25 (0, 0)), (gd, Obj.cells (fc (dig m)) 41 (0, 0))] w) (kdOf []) none0 (stays_good _ _) (S9.out) (holds0 _) ?_
              refine g_look rfl rfl ?_ (fun w' hC => ?_) ?_
              rotate_left
              · go_simp
                first | done | rfl
              simp only [Act.put, sa, sb, sc]
              refine g_look rfl rfl (.int .i64 ((k : Int) + 1)) (fun w' hC => ?_) ?_
              · clear hC
                go_simp
                first | done | exact HIN.out
              simp only [Act.put, sa, sb, sc]
              refine g_look rfl rfl ?_ (fun w' hC => ?_) ?_
              rotate_left
              · go_simp
                first | done | rfl
              simp only [Act.put, sa, sb, sc]
              refine g_end ?_
              intro w10 hC10 hh10
              have S10 : Hid (Stays [(gr, Obj.cells #[.int .u64 0, .int .u64 0] 25 (0, 0)), (gd, Obj.cells (fc (dig m)) 41 (0, 0))] w w10) := Lib.hid (stays_cons (stays_row hC10 (List.mem_cons_self ..)) (stays_cons (stays_row hC10 (List.mem_cons_of_mem _ (List.mem_cons_self ..))) (stays_nil (stays_below hC10))))
              clear S9
              clear hC10 hh10
              have S99 : Hid (Stays [(gr, Obj.cells #[.int .u64 0, .int .u64 0] 25 (0, 0)), (gd, Obj.cells (fc (dig m)) 41 (0, 0))] w w10) := Lib.hid (stays_cons (stays_row S10.out (List.mem_cons_self ..)) (stays_cons (stays_row S10.out (List.mem_cons_of_mem _ (List.mem_cons_self ..))) (stays_nil (stays_below S10.out))))
              rw [← HVM.out] at S99 HM8
              go_wp2_with fail
              go_roundw
              case rel => exact ⟨k + 1, rfl, HLE.out.1, HM8, S99⟩
              case measure => exact HLE.out.2
            · subst h8
              have hx9i := ne_cast h9
              have HOV : Hid (¬ m < 65536 ^ 8) := Lib.hid (fun h => h9 (hov.2 h).2)
              clear hov
              go_upto_region 10 with fail
              refine reg_plain (Stays [(gr, Obj.cells #[.int .u64 0, .int .u64 0] 25 (0, 0)), (gd, Obj.cells (fc (dig m)) 41 (0, 0))] w) (Turns [(gr, Obj.cells #[.int .u64 0, .int .u64 0] 25 (0, 0)), (gd, Obj.cells (fc (dig m)) 41 (0, 0))] w) (kdOf []) none0 (stays_good _ _) (S8.out) (holds0 _) ?_
              refine g_look rfl rfl (.pointer (some ⟨gd, 8, none⟩)) (fun w' hC => ?_) ?_
              · clear hC
                go_simp
                first | done | rfl | exact ⟨rfl, rfl⟩
              simp only [Act.put, sa, sb, sc]
              refine g_look rfl rfl (.int .u64 0) (fun w' hC => ?_) ?_
              · have c := Blk.cell (show Blk w' gd (dig m) from stays_row hC (List.mem_cons_of_mem _ (List.mem_cons_self ..))) (show 8 < 20 by decide)
                rw [HX8.out] at c
                clear hC
                go_simp
                first | done | rfl
              simp only [Act.put, sa, sb, sc]
              refine g_look rfl rfl (.bool false) (fun w' hC => ?_) ?_
              · clear hC
                go_simp
                first | done | rfl | exact hx8i | (simpa using hx8i)
              simp only [Act.put, sa, sb, sc]
              refine g_look rfl rfl ?_ (fun w' hC => ?_) ?_
              rotate_left
              · go_simp
                first | done | rfl
              simp only [Act.put, sa, sb, sc]
              first
              | (refine g_skip rfl ?_)
              | (refine g_look rfl rfl (.pointer (some ⟨gd, 9, none⟩)) (fun w' hC => ?_) ?_
                 · clear hC
                   go_simp
                   first | done | rfl | exact ⟨rfl, rfl⟩)
              simp only [Act.put, sa, sb, sc]
              first
              | (refine g_skip rfl ?_)
              | (refine g_look rfl rfl (.int .u64 (x9 : Int)) (fun w' hC => ?_) ?_
                 · have c := Blk.cell (show Blk w' gd (dig m) from stays_row hC (List.mem_cons_of_mem _ (List.mem_cons_self ..))) (show 9 < 20 by decide)
                   rw [HX9.out] at c
                   clear hC
                   go_simp
                   first | done | rfl)
              simp only [Act.put, sa, sb, sc]
              first
              | (refine g_skip rfl ?_)
              | (refine g_look rfl rfl (.bool true) (fun w' hC => ?_) ?_
                 · clear hC
                   go_simp
                   first | done | rfl | exact hx9i | (simpa using hx9i))
              simp only [Act.put, sa, sb, sc]
              refine g_look rfl rfl ?_ (fun w' hC => ?_) ?_
              rotate_left
              · go_simp
                first | done | rfl
              simp only [Act.put, sa, sb, sc]
              refine g_end ?_
              intro w9 hC9 hh9
              have S9 : Hid (Stays [(gr, Obj.cells #[.int .u64 0, .int .u64 0] 25 (0, 0)), (gd, Obj.cells (fc (dig m)) 41 (0, 0))] w w9) := Lib.hid (stays_cons (stays_row hC9 (List.mem_cons_self ..)) (stays_cons (stays_row hC9 (List.mem_cons_of_mem _ (List.mem_cons_self ..))) (stays_nil (stays_below hC9))))
              clear S8
              clear hC9 hh9
              go_upto_region 11 with fail
              refine reg_plain (Stays [(gd, Obj.cells (fc (dig m)) 41 (0, 0))] w) (Turns [(gd, Obj.cells (fc (dig m)) 41 (0, 0))] w) (kdOf [(1, .touch)]) (Own.has none0 gr (Obj.cells #[.int .u64 0, .int .u64 0] 25 (0, 0))) (stays_good _ _) (stays_cons (stays_row S9.out (List.mem_cons_of_mem _ (List.mem_cons_self ..))) (stays_nil (stays_below S9.out))) (holds_has (holds0 _) (stays_row S9.out (List.mem_cons_self ..)) (turns_cons (turns_head td.out).symm (turns_nil tr.out.2))) ?_
              refine g_look rfl rfl ?_ (fun w' hC => ?_) ?_
              rotate_left
              · go_simp
                first | done | rfl
              simp only [Act.put, sa, sb, sc]
              refine g_store gr none 25 25 _ _ #[.int .u64 0, .int .u64 0] #[.int .u64 0, .int .u64 0] rfl rfl rfl rfl rfl (has_same _ _ _) (by kernel_rfl) (rfl) (rfl) (one25 _ _) ?_
              simp only [Act.put]
              refine g_look rfl rfl ?_ (fun w' hC => ?_) ?_
              rotate_left
              · go_simp
                first | done | rfl
              simp only [Act.put, sa, sb, sc]
              refine g_end ?_
              intro w10 hC10 hh10
              have S10 : Hid (Stays [(gr, Obj.cells #[.int .u64 0, .int .u64 0] 25 (0, 0)), (gd, Obj.cells (fc (dig m)) 41 (0, 0))] w w10) := Lib.hid (stays_cons ((hh10 _ _ _ (own_new _ _ _ _)).1) (stays_cons (stays_row hC10 (List.mem_cons_self ..)) (stays_nil (stays_below hC10))))
              clear S9
              clear hC10 hh10
              go_wp2_with fail
              refine bodyPost_ret (v := .tuple #[.agg #[.int .u64 0, .int .u64 0], .bool false]) (results_opt37 (stays_head S10.out) rfl) rfl ⟨congrArg Ending.returned (by rw [← HV.out, wide_no (fun h => HOV.out (Nat.lt_of_le_of_lt (HVM.out ▸ val_mono l (k + 1)) h))]), stays_below S10.out⟩
          · have hx8i := ne_cast h8
            have HOV : Hid (¬ m < 65536 ^ 8) := Lib.hid (fun h => h8 (hov.2 h).1)
            clear hov
            go_upto_region 10 with fail
            refine reg_plain (Stays [(gr, Obj.cells #[.int .u64 0, .int .u64 0] 25 (0, 0)), (gd, Obj.cells (fc (dig m)) 41 (0, 0))] w) (Turns [(gr, Obj.cells #[.int .u64 0, .int .u64 0] 25 (0, 0)), (gd, Obj.cells (fc (dig m)) 41 (0, 0))] w) (kdOf []) none0 (stays_good _ _) (S8.out) (holds0 _) ?_
            refine g_look rfl rfl (.pointer (some ⟨gd, 8, none⟩)) (fun w' hC => ?_) ?_
            · clear hC
              go_simp
              first | done | rfl | exact ⟨rfl, rfl⟩
            simp only [Act.put, sa, sb, sc]
            refine g_look rfl rfl (.int .u64 (x8 : Int)) (fun w' hC => ?_) ?_
            · have c := Blk.cell (show Blk w' gd (dig m) from stays_row hC (List.mem_cons_of_mem _ (List.mem_cons_self ..))) (show 8 < 20 by decide)
              rw [HX8.out] at c
              clear hC
              go_simp
              first | done | rfl
            simp only [Act.put, sa, sb, sc]
            refine g_look rfl rfl (.bool true) (fun w' hC => ?_) ?_
            · clear hC
              go_simp
              first | done | rfl | exact hx8i | (simpa using hx8i)
            simp only [Act.put, sa, sb, sc]
            refine g_look rfl rfl ?_ (fun w' hC => ?_) ?_
            rotate_left
            · go_simp
              first | done | rfl
            simp only [Act.put, sa, sb, sc]
            first
            | (refine g_skip rfl ?_)
            | (refine g_look rfl rfl (.pointer (some ⟨gd, 9, none⟩)) (fun w' hC => ?_) ?_
               · clear hC
                 go_simp
                 first | done | rfl | exact ⟨rfl, rfl⟩)
            simp only [Act.put, sa, sb, sc]
            first
            | (refine g_skip rfl ?_)
            | (refine g_look rfl rfl (.int .u64 (x9 : Int)) (fun w' hC => ?_) ?_
               · have c := Blk.cell (show Blk w' gd (dig m) from stays_row hC (List.mem_cons_of_mem _ (List.mem_cons_self ..))) (show 9 < 20 by decide)
                 rw [HX9.out] at c
                 clear hC
                 go_simp
                 first | done | rfl)
            simp only [Act.put, sa, sb, sc]
            first
            | (refine g_skip rfl ?_)
            | (refine g_look rfl rfl (.bool true) (fun w' hC => ?_) ?_
               · clear hC
                 go_simp
                 first | done | rfl | exact hx9i | (simpa using hx9i))
            simp only [Act.put, sa, sb, sc]
            refine g_look rfl rfl ?_ (fun w' hC => ?_) ?_
            rotate_left
            · go_simp
              first | done | rfl
            simp only [Act.put, sa, sb, sc]
            refine g_end ?_
            intro w9 hC9 hh9
            have S9 : Hid (Stays [(gr, Obj.cells #[.int .u64 0, .int .u64 0] 25 (0, 0)), (gd, Obj.cells (fc (dig m)) 41 (0, 0))] w w9) := Lib.hid (stays_cons (stays_row hC9 (List.mem_cons_self ..)) (stays_cons (stays_row hC9 (List.mem_cons_of_mem _ (List.mem_cons_self ..))) (stays_nil (stays_below hC9))))
            clear S8
            clear hC9 hh9
            go_upto_region 11 with fail
            refine reg_plain (Stays [(gd, Obj.cells (fc (dig m)) 41 (0, 0))] w) (Turns [(gd, Obj.cells (fc (dig m)) 41 (0, 0))] w) (kdOf [(1, .touch)]) (Own.has none0 gr (Obj.cells #[.int .u64 0, .int .u64 0] 25 (0, 0))) (stays_good _ _) (stays_cons (stays_row S9.out (List.mem_cons_of_mem _ (List.mem_cons_self ..))) (stays_nil (stays_below S9.out))) (holds_has (holds0 _) (stays_row S9.out (List.mem_cons_self ..)) (turns_cons (turns_head td.out).symm (turns_nil tr.out.2))) ?_
            refine g_look rfl rfl ?_ (fun w' hC => ?_) ?_
            rotate_left
            · go_simp
              first | done | rfl
            simp only [Act.put, sa, sb, sc]
            refine g_store gr none 25 25 _ _ #[.int .u64 0, .int .u64 0] #[.int .u64 0, .int .u64 0] rfl rfl rfl rfl rfl (has_same _ _ _) (by kernel_rfl) (rfl) (rfl) (one25 _ _) ?_
            simp only [Act.put]
            refine g_look rfl rfl ?_ (fun w' hC => ?_) ?_
            rotate_left
            · go_simp
              first | done | rfl
            simp only [Act.put, sa, sb, sc]
            refine g_end ?_
            intro w10 hC10 hh10
            have S10 : Hid (Stays [(gr, Obj.cells #[.int .u64 0, .int .u64 0] 25 (0, 0)), (gd, Obj.cells (fc (dig m)) 41 (0, 0))] w w10) := Lib.hid (stays_cons ((hh10 _ _ _ (own_new _ _ _ _)).1) (stays_cons (stays_row hC10 (List.mem_cons_self ..)) (stays_nil (stays_below hC10))))
            clear S9
            clear hC10 hh10
            go_wp2_with fail
            refine bodyPost_ret (v := .tuple #[.agg #[.int .u64 0, .int .u64 0], .bool false]) (results_opt37 (stays_head S10.out) rfl) rfl ⟨congrArg Ending.returned (by rw [← HV.out, wide_no (fun h => HOV.out (Nat.lt_of_le_of_lt (HVM.out ▸ val_mono l (k + 1)) h))]), stays_below S10.out⟩
        · obtain ⟨rfl, hki⟩ := end_k hk hlt
          rw [show l.take k = l by rw [← hn, List.take_length]] at HLT S5
          obtain ⟨v, hvv⟩ : ∃ v, valD l = v := ⟨_, rfl⟩
          rw [hvv] at HLT S5
          obtain ⟨a, b, ok, hab⟩ := wide_open v
          have HAB := Lib.hid hab
          have HVV := Lib.hid hvv
          have HL20 : Hid (v < 65536 ^ 20) := Lib.hid (Nat.lt_of_lt_of_le HLT.out (by decide))
          clear hab hvv hk hlt
          go_upto_region 5 with fail
          refine reg_plain (Stays [(gr, Obj.cells #[.int .u64 0, .int .u64 0] 25 (0, 0)), (gd, Obj.cells (fc (dig v)) 41 (0, 0))] w) (Turns [(gr, Obj.cells #[.int .u64 0, .int .u64 0] 25 (0, 0)), (gd, Obj.cells (fc (dig v)) 41 (0, 0))] w) (kdOf []) none0 (stays_good _ _) (S5.out) (holds0 _) ?_
          refine g_look rfl rfl ?_ (fun w' hC => ?_) ?_
          rotate_left
          · go_simp
            first | done | rfl
          simp only [Act.put, sa, sb, sc]
          refine g_look rfl rfl ?_ (fun w' hC => ?_) ?_
          rotate_left
          · go_simp
            first | done | rfl
          simp only [Act.put, sa, sb, sc]
          refine g_look rfl rfl ?_ (fun w' hC => ?_) ?_
          rotate_left
          · go_simp
            first | done | rfl
          simp only [Act.put, sa, sb, sc]
          refine g_look rfl rfl (.bool false) (fun w' hC => ?_) ?_
          · clear hC
            go_simp
            first | done | rfl | exact hki | (rw [HN.out]; exact hki) | (simpa [HN.out] using hki)
          simp only [Act.put, sa, sb, sc]
          refine g_end ?_
          intro w6 hC6 hh6
          have S6 : Hid (Stays [(gr, Obj.cells #[.int .u64 0, .int .u64 0] 25 (0, 0)), (gd, Obj.cells (fc (dig v)) 41 (0, 0))] w w6) := Lib.hid (stays_cons (stays_row hC6 (List.mem_cons_self ..)) (stays_cons (stays_row hC6 (List.mem_cons_of_mem _ (List.mem_cons_self ..))) (stays_nil (stays_below hC6))))
          clear S5
          clear hC6 hh6
          go_upto_region 12 with fail
          refine reg_plain (Stays [(gd, Obj.cells (fc (dig v)) 41 (0, 0))] w) (Turns [(gd, Obj.cells (fc (dig v)) 41 (0, 0))] w) (kdOf [(1, .make (fun _ => callM (.tuple #[.agg #[.int .u64 a, .int .u64 b], .bool ok]))), (4, .touch)]) (Own.has none0 gr (Obj.cells #[.int .u64 0, .int .u64 0] 25 (0, 0))) (stays_good _ _) (stays_cons (stays_row S6.out (List.mem_cons_of_mem _ (List.mem_cons_self ..))) (stays_nil (stays_below S6.out))) (holds_has (holds0 _) (stays_row S6.out (List.mem_cons_self ..)) (turns_cons (turns_head td.out).symm (turns_nil tr.out.2))) ?_
          (refine g_load 41 _ gd 41 (fc (dig v)) (0, 0) _ rfl rfl rfl rfl (fun w' hC => stays_row hC (List.mem_cons_self ..)) Try.underlying41 rfl (info27 _) ?_)
          simp only [Act.put, sa, sb, sc]
          refine g_call (stays_good _ _) (.tuple #[.agg #[.int .u64 a, .int .u64 b], .bool ok]) rfl rfl (fun w' hC => ?_) ?_
          · clear hC
            go_simp
            refine (wide_any _ v HL20.out).mono (fun e w2 h => ?_)
            obtain ⟨h1, h2⟩ := h
            rw [HAB.out] at h1
            exact gives h1 h2
          simp only [Act.put, sa, sb, sc]
          refine g_look rfl rfl ?_ (fun w' hC => ?_) ?_
          rotate_left
          · go_simp
            first | done | rfl
          simp only [Act.put, sa, sb, sc]
          refine g_look rfl rfl ?_ (fun w' hC => ?_) ?_
          rotate_left
          · go_simp
            first | done | rfl
          simp only [Act.put, sa, sb, sc]
          refine g_store gr none 25 25 _ _ #[.int .u64 0, .int .u64 0] #[.int .u64 a, .int .u64 b] rfl rfl rfl rfl rfl (has_same _ _ _) (by kernel_rfl) (rfl) (rfl) (one25 _ _) ?_
          simp only [Act.put]
          refine g_look rfl rfl ?_ (fun w' hC => ?_) ?_
          rotate_left
          · go_simp
            first | done | rfl
          simp only [Act.put, sa, sb, sc]
          refine g_end ?_
          intro w7 hC7 hh7
          have S7 : Hid (Stays [(gr, Obj.cells #[.int .u64 a, .int .u64 b] 25 (0, 0)), (gd, Obj.cells (fc (dig v)) 41 (0, 0))] w w7) := Lib.hid (stays_cons ((hh7 _ _ _ (own_new _ _ _ _)).1) (stays_cons (stays_row hC7 (List.mem_cons_self ..)) (stays_nil (stays_below hC7))))
          clear S6
          clear hC7 hh7
          go_wp2_with fail
          refine bodyPost_ret (v := .tuple #[.agg #[.int .u64 a, .int .u64 b], .bool ok]) (results_opt37 (stays_row S7.out (List.mem_cons_self ..)) rfl) rfl ⟨congrArg Ending.returned (by rw [← HV.out, HVV.out, HAB.out]), stays_below S7.out⟩
end Go.Proofs.Ythpdfacdjgkmpaa.Wi
