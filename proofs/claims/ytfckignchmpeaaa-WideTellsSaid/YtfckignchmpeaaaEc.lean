/- The document's number of a text, by a walk. -/
import Derived.Test.YtfckignchmpeaaaDy
namespace Go.Proofs.Ytfckignchmpeaaa.Wi
open Go.RowKit K

theorem dg_small {e : Nat} (h : e < 10) : Value.agg #[.int .u64 (e : Int), .int .u64 0, .int .u64 0, .int .u64 0, .int .u64 0, .int .u64 0, .int .u64 0, .int .u64 0, .int .u64 0, .int .u64 0, .int .u64 0, .int .u64 0, .int .u64 0, .int .u64 0, .int .u64 0, .int .u64 0, .int .u64 0, .int .u64 0, .int .u64 0, .int .u64 0] = dg e := by
  have : e = 0 ∨ e = 1 ∨ e = 2 ∨ e = 3 ∨ e = 4 ∨ e = 5 ∨ e = 6 ∨ e = 7 ∨ e = 8 ∨ e = 9 := by omega
  rcases this with rfl | rfl | rfl | rfl | rfl | rfl | rfl | rfl | rfl | rfl <;> rfl
theorem dg_ten : Value.agg #[.int .u64 10, .int .u64 0, .int .u64 0, .int .u64 0, .int .u64 0, .int .u64 0, .int .u64 0, .int .u64 0, .int .u64 0, .int .u64 0, .int .u64 0, .int .u64 0, .int .u64 0, .int .u64 0, .int .u64 0, .int .u64 0, .int .u64 0, .int .u64 0, .int .u64 0, .int .u64 0] = dg 10 := by kernel_rfl
theorem z20_zero : z20 = fc (dig 0) := by kernel_rfl
theorem over8 {m : Nat} (h : m < 65536 ^ 10) : (dig m 8 = 0 ∧ dig m 9 = 0) ↔ m < 65536 ^ 8 := by
  unfold dig
  have e9 : m / 65536 ^ 9 = m / 65536 ^ 8 / 65536 := by rw [show (65536 : Nat) ^ 9 = 65536 ^ 8 * 65536 from rfl, Nat.div_div_eq_div_mul]
  have h8 : m / 65536 ^ 8 < 65536 * 65536 := by
    refine Nat.div_lt_of_lt_mul ?_
    exact Nat.lt_of_lt_of_le h (by decide)
  have hz : m / 65536 ^ 8 = 0 ↔ m < 65536 ^ 8 := Nat.div_eq_zero_iff_lt (by decide)
  rw [e9, ← hz]
  generalize m / 65536 ^ 8 = q at *
  omega
theorem results_opt20 {W : World} {g : Nat} {x y : Value} {t : Bool} {tmps : Array Value} (h : W.heap[g]? = some (.cells #[x, y] 24 (0, 0))) (i24 : (Try.prog.info? 24).map (·.size) = some 2) (e4 : tmps.getD 2 undef = .pointer (some ⟨g, 0, none⟩) := by rfl) (e5 : tmps.getD 3 undef = .bool t := by rfl) :
    (results Try.f20 tmps).run Try.prog W = .ok (.tuple #[.agg #[x, y], .bool t]) W := by
  have h' := run_loadVar_row (P := Try.prog) W g 24 24 _ (0, 0) _ h Try.underlying24 rfl i24
  have e4' : tmps[2]?.getD undef = .pointer (some ⟨g, 0, none⟩) := by simpa using e4
  have e5' : tmps[3]?.getD undef = .bool t := by simpa using e5
  simp [results, Try.results20, e4', e5', asAddr, h']
attribute [local go_sem ↓] eqn24
attribute [local go_sem] lookTo stepTo Maker.step
attribute [local go_sem ↓] idx9 idx9_0
attribute [local irreducible] fc
def LoopR (s : ByteArray) (w wr : World) (gr gd : Nat) (k : Nat) : Prop := ∃ n : Nat, Lib.decFrom 0 (s.data.toList.take k) = some n ∧ n < 65536 ^ 8 ∧ Stays [(gr, Obj.cells #[.int .u64 0, .int .u64 0] 24 (0, 0)), (gd, Obj.cells (fc (dig n)) 27 (0, 0))] w wr
set_option maxHeartbeats 4000000 in
set_option maxRecDepth 100000 in
theorem rparse_any (w : World) (s : ByteArray) (hs : s.size ≤ maxLen) : Calls Try.prog 20 #[.string s] w (Ret w (parseV s)) := by
  obtain ⟨V, hV⟩ : ∃ V, parseV s = V := ⟨_, rfl⟩
  rw [hV]
  have HV := Lib.hid hV
  have HSZ := Lib.hid hs
  clear hV hs
  have S0 : Hid (Stays [] w w) := Lib.hid (stays_nil (Below.refl _ _))
  go_enter Try.func20, Try.ntmps20
  go_upto_region 0 with fail
  refine reg_plain (Stays [] w) (Turns [] w) (kdOf [(0, .make (allocM (.cells #[.int .u64 0, .int .u64 0] 24)))]) none0 (stays_good _ _) (S0.out) (holds0 _) ?_
  refine g_alloc (stays_good _ _) (.cells #[.int .u64 0, .int .u64 0] 24) rfl rfl (fun w' hC => ?_) (fun gr tr nr => ?_)
  · clear hC
    go_simp
    first | done | rfl | exact ⟨rfl, rfl⟩
  clear nr
  replace tr := Lib.hid tr
  simp only [Act.put, List.setIfInBounds_toArray, List.set_cons_zero, List.set_cons_succ]
  refine g_look rfl rfl ?_ (fun w' hC => ?_) ?_
  rotate_left
  · go_simp
    first | done | rfl
  simp only [Act.put, List.setIfInBounds_toArray, List.set_cons_zero, List.set_cons_succ]
  refine g_end ?_
  intro w1 hC1 hh1
  have S1 : Hid (Stays [(gr, Obj.cells #[.int .u64 0, .int .u64 0] 24 (0, 0))] w w1) := Lib.hid (stays_cons ((hh1 _ _ _ (own_new _ _ _ _)).1) (stays_nil (stays_below hC1)))
  clear hC1 hh1
  go_upto_region 1 with fail
  refine reg_plain (Stays [(gr, Obj.cells #[.int .u64 0, .int .u64 0] 24 (0, 0))] w) (Turns [(gr, Obj.cells #[.int .u64 0, .int .u64 0] 24 (0, 0))] w) (kdOf [(0, .make (allocM (.cells z20 27)))]) none0 (stays_good _ _) (S1.out) (holds0 _) ?_
  refine g_alloc (stays_good _ _) (.cells z20 27) rfl rfl (fun w' hC => ?_) (fun gd td nd => ?_)
  · clear hC
    go_simp
    first | done | rfl | exact ⟨rfl, rfl⟩
  clear nd
  replace td := Lib.hid td
  simp only [Act.put, List.setIfInBounds_toArray, List.set_cons_zero, List.set_cons_succ]
  refine g_end ?_
  intro w2 hC2 hh2
  have S2 : Hid (Stays [(gr, Obj.cells #[.int .u64 0, .int .u64 0] 24 (0, 0)), (gd, Obj.cells z20 27 (0, 0))] w w2) := Lib.hid (stays_cons (stays_row hC2 (List.mem_cons_self ..)) (stays_cons ((hh2 _ _ _ (own_new _ _ _ _)).1) (stays_nil (stays_below hC2))))
  clear S1
  clear hC2 hh2
  rw [z20_zero] at S2
  go_upto_region 2 with fail
  go_cut [22] (fun t wx => Hid (Stays [(gr, Obj.cells #[.int .u64 0, .int .u64 0] 24 (0, 0)), (gd, Obj.cells (fc (dig 0)) 27 (0, 0))] w wx) ∧ ∃ b : Bool, t = .bool b ∧ Hid (b = true → parseV s = noV) ∧ Hid (b = false → s.size ≠ 0 ∧ ¬ (1 < s.size ∧ s.data.toList[0]? = some 48)))
  case first =>
    by_cases h0 : s.size = 0
    · have he : s.toList.isEmpty = true := by rw [emp_eq, h0]; rfl
      go_wp2_with fail
      go_meet
      exact ⟨S2, true, rfl, fun _ => parse_empty h0, (fun e => by cases e)⟩
    · have he : s.toList.isEmpty = false := by rw [emp_eq]; simp [h0]
      by_cases h1 : 45 < s.size
      · have h1i : (45 : Int) < (s.size : Int) := by omega
        go_wp2_with fail
        go_meet
        exact ⟨S2, true, rfl, fun _ => parse_long (by omega), (fun e => by cases e)⟩
      · have h1i : ¬ (45 : Int) < (s.size : Int) := by omega
        have hpos : 0 < s.size := by omega
        by_cases h2 : 1 < s.size
        · have h2i : (1 : Int) < (s.size : Int) := by omega
          have c0 := byteN_lt s 0
          obtain ⟨c, hc, hc0, hc1⟩ : ∃ c : Int, (byteN s 0 : Int) = c ∧ 0 ≤ c ∧ c < 256 := ⟨_, rfl, by omega, by omega⟩
          by_cases h3 : c = 48
          · go_wp2_with fail
            go_meet
            obtain ⟨b, hb, hbn⟩ := byteN_at hpos
            exact ⟨S2, true, rfl, fun _ => parse_lead h2 (by rw [hb]; exact congrArg some (UInt8.toNat_inj.1 (by show b.toNat = 48; omega))), (fun e => by cases e)⟩
          · have hb : (c == 48) = false := by simp [h3]
            go_wp2_with fail
            go_meet
            refine ⟨S2, false, rfl, (fun e => by cases e), fun _ => ⟨h0, ?_⟩⟩
            rintro ⟨_, e⟩
            apply h3
            rw [← hc, byteN, e]
            rfl
        · have h2i : ¬ (1 : Int) < (s.size : Int) := by omega
          go_wp2_with fail
          go_meet
          exact ⟨S2, false, rfl, (fun e => by cases e), fun _ => ⟨h0, fun e => h2 e.1⟩⟩
  case rest =>
    clear S2
    obtain ⟨S2, b, rfl, hyes, hno⟩ := hcut
    cases b with
    | true =>
      go_upto_region 3 with fail
      refine reg_plain (Stays [(gd, Obj.cells (fc (dig 0)) 27 (0, 0))] w) (Turns [(gd, Obj.cells (fc (dig 0)) 27 (0, 0))] w) (kdOf [(1, .touch)]) (Own.has none0 gr (Obj.cells #[.int .u64 0, .int .u64 0] 24 (0, 0))) (stays_good _ _) (stays_cons (stays_row S2.out (List.mem_cons_of_mem _ (List.mem_cons_self ..))) (stays_nil (stays_below S2.out))) (holds_has (holds0 _) (stays_row S2.out (List.mem_cons_self ..)) (turns_cons (turns_head td.out).symm (turns_nil tr.out.2))) ?_
      refine g_look rfl rfl ?_ (fun w' hC => ?_) ?_
      rotate_left
      · go_simp
        first | done | rfl
      simp only [Act.put, List.setIfInBounds_toArray, List.set_cons_zero, List.set_cons_succ]
      refine g_store gr none 24 24 _ _ #[.int .u64 0, .int .u64 0] #[.int .u64 0, .int .u64 0] rfl rfl rfl rfl rfl (has_same _ _ _) (by kernel_rfl) (rfl) (rfl) (one24 _ _) ?_
      simp only [Act.put]
      refine g_look rfl rfl ?_ (fun w' hC => ?_) ?_
      rotate_left
      · go_simp
        first | done | rfl
      simp only [Act.put, List.setIfInBounds_toArray, List.set_cons_zero, List.set_cons_succ]
      refine g_end ?_
      intro w3 hC3 hh3
      have S3 : Hid (Stays [(gr, Obj.cells #[.int .u64 0, .int .u64 0] 24 (0, 0)), (gd, Obj.cells (fc (dig 0)) 27 (0, 0))] w w3) := Lib.hid (stays_cons ((hh3 _ _ _ (own_new _ _ _ _)).1) (stays_cons (stays_row hC3 (List.mem_cons_self ..)) (stays_nil (stays_below hC3))))
      clear S2
      clear hC3 hh3
      go_wp2_with fail
      refine bodyPost_ret (v := noV) (results_opt20 (stays_head S3.out) rfl) rfl ⟨congrArg Ending.returned ?_, stays_below S3.out⟩
      rw [← HV.out, hyes.out (by simp)]
    | false =>
    obtain ⟨h0, HLp⟩ := hno.out (by simp)
    have HL := Lib.hid HLp
    clear hyes hno HLp
    go_wp2_with fail
    go_loopw [5] (fun c wr => ∃ k : Nat, c = .int .i64 k ∧ k ≤ s.size ∧ Hid (LoopR s w wr gr gd k)) (fun c _ => s.size - (intOf c).toNat)
    case atStart => exact ⟨0, rfl, by omega, 0, rfl, by decide, S2.out⟩
    case round =>
      obtain ⟨k, rfl, hk, hP⟩ := hrel
      obtain ⟨n, hn, hn2, hst⟩ := hP.out
      clear S2
      have S3 := Lib.hid hst
      have HN := Lib.hid hn
      have HN2 := Lib.hid hn2
      clear hP hn hn2 hst
      by_cases hlt : k < s.size
      · have hlti : (k : Int) < (s.size : Int) := by omega
        have hwk : wrap64 ((k : Int) + 1) = (k : Int) + 1 := by
          have := HSZ.out
          unfold maxLen at this
          simp only [wrap64]
          omega
        have HWK := Lib.hid hwk
        clear hwk
        obtain ⟨b, hb, hbn⟩ := byteN_at hlt
        have b1 := b.toNat_lt
        have HB := Lib.hid hb
        obtain ⟨c, hc, hc0, hc1⟩ : ∃ c : Int, (byteN s k : Int) = c ∧ 0 ≤ c ∧ c < 256 := ⟨_, rfl, by omega, by omega⟩
        have hcb : Hid (c = (b.toNat : Int)) := by show c = _; omega
        clear hbn b1 hb
        by_cases hbad : c < 48 ∨ 57 < c
        · rcases hbad with hbad | hbad
          · go_upto_region 8 with fail
            refine reg_plain (Stays [(gd, Obj.cells (fc (dig n)) 27 (0, 0))] w) (Turns [(gd, Obj.cells (fc (dig n)) 27 (0, 0))] w) (kdOf [(1, .touch)]) (Own.has none0 gr (Obj.cells #[.int .u64 0, .int .u64 0] 24 (0, 0))) (stays_good _ _) (stays_cons (stays_row S3.out (List.mem_cons_of_mem _ (List.mem_cons_self ..))) (stays_nil (stays_below S3.out))) (holds_has (holds0 _) (stays_row S3.out (List.mem_cons_self ..)) (turns_cons (turns_head td.out).symm (turns_nil tr.out.2))) ?_
            refine g_look rfl rfl ?_ (fun w' hC => ?_) ?_
            rotate_left
            · go_simp
              first | done | rfl
            simp only [Act.put, List.setIfInBounds_toArray, List.set_cons_zero, List.set_cons_succ]
            refine g_store gr none 24 24 _ _ #[.int .u64 0, .int .u64 0] #[.int .u64 0, .int .u64 0] rfl rfl rfl rfl rfl (has_same _ _ _) (by kernel_rfl) (rfl) (rfl) (one24 _ _) ?_
            simp only [Act.put]
            refine g_look rfl rfl ?_ (fun w' hC => ?_) ?_
            rotate_left
            · go_simp
              first | done | rfl
            simp only [Act.put, List.setIfInBounds_toArray, List.set_cons_zero, List.set_cons_succ]
            refine g_end ?_
            intro w4 hC4 hh4
            have S4 : Hid (Stays [(gr, Obj.cells #[.int .u64 0, .int .u64 0] 24 (0, 0)), (gd, Obj.cells (fc (dig n)) 27 (0, 0))] w w4) := Lib.hid (stays_cons ((hh4 _ _ _ (own_new _ _ _ _)).1) (stays_cons (stays_row hC4 (List.mem_cons_self ..)) (stays_nil (stays_below hC4))))
            clear S3
            clear hC4 hh4
            go_wp2_with fail
            refine bodyPost_ret (v := noV) (results_opt20 (stays_head S4.out) rfl) rfl ⟨congrArg Ending.returned ?_, stays_below S4.out⟩
            rw [← HV.out, parse_bad HB.out (by have := hcb.out; omega)]
          · go_upto_region 8 with fail
            refine reg_plain (Stays [(gd, Obj.cells (fc (dig n)) 27 (0, 0))] w) (Turns [(gd, Obj.cells (fc (dig n)) 27 (0, 0))] w) (kdOf [(1, .touch)]) (Own.has none0 gr (Obj.cells #[.int .u64 0, .int .u64 0] 24 (0, 0))) (stays_good _ _) (stays_cons (stays_row S3.out (List.mem_cons_of_mem _ (List.mem_cons_self ..))) (stays_nil (stays_below S3.out))) (holds_has (holds0 _) (stays_row S3.out (List.mem_cons_self ..)) (turns_cons (turns_head td.out).symm (turns_nil tr.out.2))) ?_
            refine g_look rfl rfl ?_ (fun w' hC => ?_) ?_
            rotate_left
            · go_simp
              first | done | rfl
            simp only [Act.put, List.setIfInBounds_toArray, List.set_cons_zero, List.set_cons_succ]
            refine g_store gr none 24 24 _ _ #[.int .u64 0, .int .u64 0] #[.int .u64 0, .int .u64 0] rfl rfl rfl rfl rfl (has_same _ _ _) (by kernel_rfl) (rfl) (rfl) (one24 _ _) ?_
            simp only [Act.put]
            refine g_look rfl rfl ?_ (fun w' hC => ?_) ?_
            rotate_left
            · go_simp
              first | done | rfl
            simp only [Act.put, List.setIfInBounds_toArray, List.set_cons_zero, List.set_cons_succ]
            refine g_end ?_
            intro w4 hC4 hh4
            have S4 : Hid (Stays [(gr, Obj.cells #[.int .u64 0, .int .u64 0] 24 (0, 0)), (gd, Obj.cells (fc (dig n)) 27 (0, 0))] w w4) := Lib.hid (stays_cons ((hh4 _ _ _ (own_new _ _ _ _)).1) (stays_cons (stays_row hC4 (List.mem_cons_self ..)) (stays_nil (stays_below hC4))))
            clear S3
            clear hC4 hh4
            go_wp2_with fail
            refine bodyPost_ret (v := noV) (results_opt20 (stays_head S4.out) rfl) rfl ⟨congrArg Ending.returned ?_, stays_below S4.out⟩
            rw [← HV.out, parse_bad HB.out (by have := hcb.out; omega)]
        · have hd1 : ¬ c < 48 := by omega
          have hd2 : ¬ 57 < c := by omega
          clear hbad
          obtain ⟨e, he, he9⟩ : ∃ e : Nat, b.toNat - 48 = e ∧ e < 10 := ⟨_, rfl, by have := hcb.out; omega⟩
          obtain ⟨d, hd, hd0, hd9⟩ : ∃ d : Int, c - 48 = d ∧ 0 ≤ d ∧ d ≤ 9 := ⟨_, rfl, by omega, by omega⟩
          have hde : d = (e : Int) := by have := hcb.out; omega
          have we : IntKind.u8.wrap (c - 48) = (e : Int) := by rw [hd, hde]; simp [IntKind.wrap, IntKind.signed, IntKind.bits]; omega
          have we2 : IntKind.u64.wrap (e : Int) = (e : Int) := wu_small (by omega) (by omega)
          have HN3 := Lib.hid (dec_next HN.out HB.out (by have := hcb.out; omega) (by have := hcb.out; omega))
          rw [he] at HN3
          obtain ⟨m, hm⟩ : ∃ m : Nat, n * 10 + e = m := ⟨_, rfl⟩
          rw [hm] at HN3
          have HM := Lib.hid hm
          have HE := Lib.hid he9
          have hm10 : m < 65536 ^ 10 := by
            have h1 : n < 340282366920938463463374607431768211456 := HN2.out
            exact Nat.lt_of_lt_of_le (show m < 3402823669209384634633746074317682114560 by omega) (by decide)
          have HM10 := Lib.hid hm10
          clear hm hm10 he hde hd hd0 hd9
          go_upto_region 9 with fail
          refine reg (Stays [(gr, Obj.cells #[.int .u64 0, .int .u64 0] 24 (0, 0))] w) (Turns [(gr, Obj.cells #[.int .u64 0, .int .u64 0] 24 (0, 0))] w) (kdOf [(0, .touch), (2, .make (callM (dg (n * 10)))), (9, .make (callM (dg m))), (10, .touch)]) (Own.has none0 gd (Obj.cells (fc (dig n)) 27 (0, 0))) (stays_good _ _) (by kernel_rfl) (by kernel_rfl) (stays_drew (stays_cons (stays_row S3.out (List.mem_cons_self ..)) (stays_nil (stays_below S3.out)))) (holds_has (holds0 _) (stays_row (stays_drew S3.out) (List.mem_cons_of_mem _ (List.mem_cons_self ..))) (turns_cons (turns_head td.out) (turns_nil td.out.2))) ?_
          refine g_load_own 27 _ gd none 27 (fc (dig n)) (0, 0) _ rfl rfl rfl rfl (has_same _ _ _) (by kernel_rfl) Try.underlying27 rfl (info27 _) ?_
          simp only [Act.put, List.setIfInBounds_toArray, List.set_cons_zero, List.set_cons_succ]
          refine g_look rfl rfl (dg 10) (fun w' hC => ?_) ?_
          · go_simp
            first | done | exact dg_ten
          simp only [Act.put, List.setIfInBounds_toArray, List.set_cons_zero, List.set_cons_succ]
          refine g_call (stays_good _ _) (dg (n * 10)) rfl rfl (fun w' hC => ?_) ?_
          · clear hC
            go_simp
            refine (times_any _ n 10 HN2.out (by decide)).mono (fun e w2 h => ?_)
            obtain ⟨h1, h2⟩ := h
            exact gives h1 h2
          simp only [Act.put, List.setIfInBounds_toArray, List.set_cons_zero, List.set_cons_succ]
          refine g_look rfl rfl ?_ (fun w' hC => ?_) ?_
          rotate_left
          · go_simp
            first | done | rfl
          simp only [Act.put, List.setIfInBounds_toArray, List.set_cons_zero, List.set_cons_succ]
          refine g_look rfl rfl ?_ (fun w' hC => ?_) ?_
          rotate_left
          · go_simp
            first | done | rfl
          simp only [Act.put, List.setIfInBounds_toArray, List.set_cons_zero, List.set_cons_succ]
          refine g_look rfl rfl ?_ (fun w' hC => ?_) ?_
          rotate_left
          · go_simp
            first | done | rfl
          simp only [Act.put, List.setIfInBounds_toArray, List.set_cons_zero, List.set_cons_succ]
          refine g_look rfl rfl ?_ (fun w' hC => ?_) ?_
          rotate_left
          · go_simp
            first | done | rfl
          simp only [Act.put, List.setIfInBounds_toArray, List.set_cons_zero, List.set_cons_succ]
          refine g_look rfl rfl ?_ (fun w' hC => ?_) ?_
          rotate_left
          · go_simp
            first | done | rfl
          simp only [Act.put, List.setIfInBounds_toArray, List.set_cons_zero, List.set_cons_succ]
          refine g_look rfl rfl (dg e) (fun w' hC => ?_) ?_
          · go_simp
            first | done | exact dg_small HE.out
          simp only [Act.put, List.setIfInBounds_toArray, List.set_cons_zero, List.set_cons_succ]
          refine g_call (stays_good _ _) (dg m) rfl rfl (fun w' hC => ?_) ?_
          · clear hC
            go_simp
            refine (plus_any _ (n * 10) e).mono (fun e w2 h => ?_)
            obtain ⟨h1, h2⟩ := h
            rw [HM.out] at h1
            exact gives h1 h2
          simp only [Act.put, List.setIfInBounds_toArray, List.set_cons_zero, List.set_cons_succ]
          refine g_store gd (some 0) 27 27 _ _ (fc (dig n)) (fc (dig m)) rfl rfl rfl rfl rfl (own_new _ _ _ _) (by kernel_rfl) ((by first | exact fc_size _ | exact (fc_size _).trans (fc_size _).symm)) (info27 _) (fc_one _) ?_
          simp only [Act.put]
          refine g_end ?_
          intro w4 hC4 hh4
          have S4 : Hid (Stays [(gr, Obj.cells #[.int .u64 0, .int .u64 0] 24 (0, 0)), (gd, Obj.cells (fc (dig m)) 27 (0, 0))] w w4) := Lib.hid (stays_cons (stays_row hC4 (List.mem_cons_self ..)) (stays_cons ((hh4 _ _ _ (own_new _ _ _ _)).1) (stays_nil (stays_below hC4))))
          clear S3
          clear hC4 hh4
          obtain ⟨x8, hx8⟩ : ∃ x : Nat, dig m 8 = x := ⟨_, rfl⟩
          obtain ⟨x9, hx9⟩ : ∃ x : Nat, dig m 9 = x := ⟨_, rfl⟩
          have hov := over8 HM10.out
          rw [hx8, hx9] at hov
          have HX8 := Lib.hid hx8
          have HX9 := Lib.hid hx9
          clear hx8 hx9
          by_cases h8 : x8 = 0
          · by_cases h9 : x9 = 0
            · subst h8 h9
              have HM8 := Lib.hid (hov.1 ⟨rfl, rfl⟩)
              clear hov
              go_upto_region 10 with fail
              refine reg_plain (Stays [(gr, Obj.cells #[.int .u64 0, .int .u64 0] 24 (0, 0)), (gd, Obj.cells (fc (dig m)) 27 (0, 0))] w) (Turns [(gr, Obj.cells #[.int .u64 0, .int .u64 0] 24 (0, 0)), (gd, Obj.cells (fc (dig m)) 27 (0, 0))] w) (kdOf []) none0 (stays_good _ _) (S4.out) (holds0 _) ?_
              refine g_look rfl rfl ?_ (fun w' hC => ?_) ?_
              rotate_left
              · go_simp
                first | done | rfl
              simp only [Act.put, List.setIfInBounds_toArray, List.set_cons_zero, List.set_cons_succ]
              refine g_look rfl rfl ?_ (fun w' hC => ?_) ?_
              rotate_left
              · have c := Blk.cell (show Blk w' gd (dig m) from stays_head (stays_tail hC)) (show 8 < 20 by decide)
                rw [HX8.out] at c
                clear hC
                go_simp
                first | done | rfl
              simp only [Act.put, List.setIfInBounds_toArray, List.set_cons_zero, List.set_cons_succ]
              refine g_look rfl rfl (.bool false) (fun w' hC => ?_) ?_
              · go_simp
                first | done | rfl | omega | (simp; omega)
              simp only [Act.put, List.setIfInBounds_toArray, List.set_cons_zero, List.set_cons_succ]
              refine g_look rfl rfl ?_ (fun w' hC => ?_) ?_
              rotate_left
              · go_simp
                first | done | rfl
              simp only [Act.put, List.setIfInBounds_toArray, List.set_cons_zero, List.set_cons_succ]
              first
              | (refine g_skip rfl ?_)
              | (refine g_look rfl rfl ?_ (fun w' hC => ?_) ?_
                 rotate_left
                 · go_simp
                   first | done | rfl)
              simp only [Act.put, List.setIfInBounds_toArray, List.set_cons_zero, List.set_cons_succ]
              first
              | (refine g_skip rfl ?_)
              | (refine g_look rfl rfl ?_ (fun w' hC => ?_) ?_
                 rotate_left
                 · have c := Blk.cell (show Blk w' gd (dig m) from stays_head (stays_tail hC)) (show 9 < 20 by decide)
                   rw [HX9.out] at c
                   clear hC
                   go_simp
                   first | done | rfl)
              simp only [Act.put, List.setIfInBounds_toArray, List.set_cons_zero, List.set_cons_succ]
              first
              | (refine g_skip rfl ?_)
              | (refine g_look rfl rfl (.bool false) (fun w' hC => ?_) ?_
                 · go_simp
                   first | done | rfl | omega | (simp; omega))
              simp only [Act.put, List.setIfInBounds_toArray, List.set_cons_zero, List.set_cons_succ]
              refine g_look rfl rfl ?_ (fun w' hC => ?_) ?_
              rotate_left
              · go_simp
                first | done | rfl
              simp only [Act.put, List.setIfInBounds_toArray, List.set_cons_zero, List.set_cons_succ]
              refine g_end ?_
              intro w5 hC5 hh5
              have S5 : Hid (Stays [(gr, Obj.cells #[.int .u64 0, .int .u64 0] 24 (0, 0)), (gd, Obj.cells (fc (dig m)) 27 (0, 0))] w w5) := Lib.hid (stays_cons (stays_row hC5 (List.mem_cons_self ..)) (stays_cons (stays_row hC5 (List.mem_cons_of_mem _ (List.mem_cons_self ..))) (stays_nil (stays_below hC5))))
              clear S4
              clear hC5 hh5
              go_wp2_with fail
              go_roundw
              case rel => exact ⟨k + 1, by rw [HWK.out]; rfl, by omega, m, HN3.out, HM8.out, S5.out⟩
              case measure =>
                rw [HWK.out]
                show s.size - ((k : Int) + 1).toNat < s.size - (k : Int).toNat
                omega
            · subst h8
              have HM8 := Lib.hid (show 340282366920938463463374607431768211456 ≤ m from Nat.le_of_not_lt (fun h => h9 (hov.2 h).2))
              have e9 : ((x9 : Int) == 0) = false := by simp; omega
              have e9b : decide (x9 = 0) = false := by simp; omega
              clear hov
              go_upto_region 10 with fail
              refine reg_plain (Stays [(gr, Obj.cells #[.int .u64 0, .int .u64 0] 24 (0, 0)), (gd, Obj.cells (fc (dig m)) 27 (0, 0))] w) (Turns [(gr, Obj.cells #[.int .u64 0, .int .u64 0] 24 (0, 0)), (gd, Obj.cells (fc (dig m)) 27 (0, 0))] w) (kdOf []) none0 (stays_good _ _) (S4.out) (holds0 _) ?_
              refine g_look rfl rfl ?_ (fun w' hC => ?_) ?_
              rotate_left
              · go_simp
                first | done | rfl
              simp only [Act.put, List.setIfInBounds_toArray, List.set_cons_zero, List.set_cons_succ]
              refine g_look rfl rfl ?_ (fun w' hC => ?_) ?_
              rotate_left
              · have c := Blk.cell (show Blk w' gd (dig m) from stays_head (stays_tail hC)) (show 8 < 20 by decide)
                rw [HX8.out] at c
                clear hC
                go_simp
                first | done | rfl
              simp only [Act.put, List.setIfInBounds_toArray, List.set_cons_zero, List.set_cons_succ]
              refine g_look rfl rfl (.bool false) (fun w' hC => ?_) ?_
              · go_simp
                first | done | rfl | omega | (simp; omega)
              simp only [Act.put, List.setIfInBounds_toArray, List.set_cons_zero, List.set_cons_succ]
              refine g_look rfl rfl ?_ (fun w' hC => ?_) ?_
              rotate_left
              · go_simp
                first | done | rfl
              simp only [Act.put, List.setIfInBounds_toArray, List.set_cons_zero, List.set_cons_succ]
              first
              | (refine g_skip rfl ?_)
              | (refine g_look rfl rfl ?_ (fun w' hC => ?_) ?_
                 rotate_left
                 · go_simp
                   first | done | rfl)
              simp only [Act.put, List.setIfInBounds_toArray, List.set_cons_zero, List.set_cons_succ]
              first
              | (refine g_skip rfl ?_)
              | (refine g_look rfl rfl ?_ (fun w' hC => ?_) ?_
                 rotate_left
                 · have c := Blk.cell (show Blk w' gd (dig m) from stays_head (stays_tail hC)) (show 9 < 20 by decide)
                   rw [HX9.out] at c
                   clear hC
                   go_simp
                   first | done | rfl)
              simp only [Act.put, List.setIfInBounds_toArray, List.set_cons_zero, List.set_cons_succ]
              first
              | (refine g_skip rfl ?_)
              | (refine g_look rfl rfl (.bool true) (fun w' hC => ?_) ?_
                 · go_simp
                   first | done | rfl | omega | (simp; omega))
              simp only [Act.put, List.setIfInBounds_toArray, List.set_cons_zero, List.set_cons_succ]
              refine g_look rfl rfl ?_ (fun w' hC => ?_) ?_
              rotate_left
              · go_simp
                first | done | rfl
              simp only [Act.put, List.setIfInBounds_toArray, List.set_cons_zero, List.set_cons_succ]
              refine g_end ?_
              intro w5 hC5 hh5
              have S5 : Hid (Stays [(gr, Obj.cells #[.int .u64 0, .int .u64 0] 24 (0, 0)), (gd, Obj.cells (fc (dig m)) 27 (0, 0))] w w5) := Lib.hid (stays_cons (stays_row hC5 (List.mem_cons_self ..)) (stays_cons (stays_row hC5 (List.mem_cons_of_mem _ (List.mem_cons_self ..))) (stays_nil (stays_below hC5))))
              clear S4
              clear hC5 hh5
              go_upto_region 11 with fail
              refine reg_plain (Stays [(gd, Obj.cells (fc (dig m)) 27 (0, 0))] w) (Turns [(gd, Obj.cells (fc (dig m)) 27 (0, 0))] w) (kdOf [(1, .touch)]) (Own.has none0 gr (Obj.cells #[.int .u64 0, .int .u64 0] 24 (0, 0))) (stays_good _ _) (stays_cons (stays_row S5.out (List.mem_cons_of_mem _ (List.mem_cons_self ..))) (stays_nil (stays_below S5.out))) (holds_has (holds0 _) (stays_row S5.out (List.mem_cons_self ..)) (turns_cons (turns_head td.out).symm (turns_nil tr.out.2))) ?_
              refine g_look rfl rfl ?_ (fun w' hC => ?_) ?_
              rotate_left
              · go_simp
                first | done | rfl
              simp only [Act.put, List.setIfInBounds_toArray, List.set_cons_zero, List.set_cons_succ]
              refine g_store gr none 24 24 _ _ #[.int .u64 0, .int .u64 0] #[.int .u64 0, .int .u64 0] rfl rfl rfl rfl rfl (has_same _ _ _) (by kernel_rfl) (rfl) (rfl) (one24 _ _) ?_
              simp only [Act.put]
              refine g_look rfl rfl ?_ (fun w' hC => ?_) ?_
              rotate_left
              · go_simp
                first | done | rfl
              simp only [Act.put, List.setIfInBounds_toArray, List.set_cons_zero, List.set_cons_succ]
              refine g_end ?_
              intro w6 hC6 hh6
              have S6 : Hid (Stays [(gr, Obj.cells #[.int .u64 0, .int .u64 0] 24 (0, 0)), (gd, Obj.cells (fc (dig m)) 27 (0, 0))] w w6) := Lib.hid (stays_cons ((hh6 _ _ _ (own_new _ _ _ _)).1) (stays_cons (stays_row hC6 (List.mem_cons_self ..)) (stays_nil (stays_below hC6))))
              clear S5
              clear hC6 hh6
              go_wp2_with fail
              refine bodyPost_ret (v := noV) (results_opt20 (stays_head S6.out) rfl) rfl ⟨congrArg Ending.returned ?_, stays_below S6.out⟩
              rw [← HV.out, parse_over HN3.out HM8.out]
          · have HM8 := Lib.hid (show 340282366920938463463374607431768211456 ≤ m from Nat.le_of_not_lt (fun h => h8 (hov.2 h).1))
            have e8 : ((x8 : Int) == 0) = false := by simp; omega
            have e8b : decide (x8 = 0) = false := by simp; omega
            clear hov
            go_upto_region 10 with fail
            refine reg_plain (Stays [(gr, Obj.cells #[.int .u64 0, .int .u64 0] 24 (0, 0)), (gd, Obj.cells (fc (dig m)) 27 (0, 0))] w) (Turns [(gr, Obj.cells #[.int .u64 0, .int .u64 0] 24 (0, 0)), (gd, Obj.cells (fc (dig m)) 27 (0, 0))] w) (kdOf []) none0 (stays_good _ _) (S4.out) (holds0 _) ?_
            refine g_look rfl rfl ?_ (fun w' hC => ?_) ?_
            rotate_left
            · go_simp
              first | done | rfl
            simp only [Act.put, List.setIfInBounds_toArray, List.set_cons_zero, List.set_cons_succ]
            refine g_look rfl rfl ?_ (fun w' hC => ?_) ?_
            rotate_left
            · have c := Blk.cell (show Blk w' gd (dig m) from stays_head (stays_tail hC)) (show 8 < 20 by decide)
              rw [HX8.out] at c
              clear hC
              go_simp
              first | done | rfl
            simp only [Act.put, List.setIfInBounds_toArray, List.set_cons_zero, List.set_cons_succ]
            refine g_look rfl rfl (.bool true) (fun w' hC => ?_) ?_
            · go_simp
              first | done | rfl | omega | (simp; omega)
            simp only [Act.put, List.setIfInBounds_toArray, List.set_cons_zero, List.set_cons_succ]
            refine g_look rfl rfl ?_ (fun w' hC => ?_) ?_
            rotate_left
            · go_simp
              first | done | rfl
            simp only [Act.put, List.setIfInBounds_toArray, List.set_cons_zero, List.set_cons_succ]
            first
            | (refine g_skip rfl ?_)
            | (refine g_look rfl rfl ?_ (fun w' hC => ?_) ?_
               rotate_left
               · go_simp
                 first | done | rfl)
            simp only [Act.put, List.setIfInBounds_toArray, List.set_cons_zero, List.set_cons_succ]
            first
            | (refine g_skip rfl ?_)
            | (refine g_look rfl rfl ?_ (fun w' hC => ?_) ?_
               rotate_left
               · have c := Blk.cell (show Blk w' gd (dig m) from stays_head (stays_tail hC)) (show 9 < 20 by decide)
                 rw [HX9.out] at c
                 clear hC
                 go_simp
                 first | done | rfl)
            simp only [Act.put, List.setIfInBounds_toArray, List.set_cons_zero, List.set_cons_succ]
            first
            | (refine g_skip rfl ?_)
            | (refine g_look rfl rfl (.bool true) (fun w' hC => ?_) ?_
               · go_simp
                 first | done | rfl | omega | (simp; omega))
            simp only [Act.put, List.setIfInBounds_toArray, List.set_cons_zero, List.set_cons_succ]
            refine g_look rfl rfl ?_ (fun w' hC => ?_) ?_
            rotate_left
            · go_simp
              first | done | rfl
            simp only [Act.put, List.setIfInBounds_toArray, List.set_cons_zero, List.set_cons_succ]
            refine g_end ?_
            intro w5 hC5 hh5
            have S5 : Hid (Stays [(gr, Obj.cells #[.int .u64 0, .int .u64 0] 24 (0, 0)), (gd, Obj.cells (fc (dig m)) 27 (0, 0))] w w5) := Lib.hid (stays_cons (stays_row hC5 (List.mem_cons_self ..)) (stays_cons (stays_row hC5 (List.mem_cons_of_mem _ (List.mem_cons_self ..))) (stays_nil (stays_below hC5))))
            clear S4
            clear hC5 hh5
            go_upto_region 11 with fail
            refine reg_plain (Stays [(gd, Obj.cells (fc (dig m)) 27 (0, 0))] w) (Turns [(gd, Obj.cells (fc (dig m)) 27 (0, 0))] w) (kdOf [(1, .touch)]) (Own.has none0 gr (Obj.cells #[.int .u64 0, .int .u64 0] 24 (0, 0))) (stays_good _ _) (stays_cons (stays_row S5.out (List.mem_cons_of_mem _ (List.mem_cons_self ..))) (stays_nil (stays_below S5.out))) (holds_has (holds0 _) (stays_row S5.out (List.mem_cons_self ..)) (turns_cons (turns_head td.out).symm (turns_nil tr.out.2))) ?_
            refine g_look rfl rfl ?_ (fun w' hC => ?_) ?_
            rotate_left
            · go_simp
              first | done | rfl
            simp only [Act.put, List.setIfInBounds_toArray, List.set_cons_zero, List.set_cons_succ]
            refine g_store gr none 24 24 _ _ #[.int .u64 0, .int .u64 0] #[.int .u64 0, .int .u64 0] rfl rfl rfl rfl rfl (has_same _ _ _) (by kernel_rfl) (rfl) (rfl) (one24 _ _) ?_
            simp only [Act.put]
            refine g_look rfl rfl ?_ (fun w' hC => ?_) ?_
            rotate_left
            · go_simp
              first | done | rfl
            simp only [Act.put, List.setIfInBounds_toArray, List.set_cons_zero, List.set_cons_succ]
            refine g_end ?_
            intro w6 hC6 hh6
            have S6 : Hid (Stays [(gr, Obj.cells #[.int .u64 0, .int .u64 0] 24 (0, 0)), (gd, Obj.cells (fc (dig m)) 27 (0, 0))] w w6) := Lib.hid (stays_cons ((hh6 _ _ _ (own_new _ _ _ _)).1) (stays_cons (stays_row hC6 (List.mem_cons_self ..)) (stays_nil (stays_below hC6))))
            clear S5
            clear hC6 hh6
            go_wp2_with fail
            refine bodyPost_ret (v := noV) (results_opt20 (stays_head S6.out) rfl) rfl ⟨congrArg Ending.returned ?_, stays_below S6.out⟩
            rw [← HV.out, parse_over HN3.out HM8.out]
      · obtain rfl : k = s.size := by omega
        have hw := wide_nat HN2.out
        obtain ⟨q1, q2, hq⟩ : ∃ q1 q2 : Int, wideV n = .tuple #[.agg #[.int .u64 q1, .int .u64 q2], .bool true] := ⟨_, _, hw⟩
        have HQ := Lib.hid hq
        clear hw hq
        go_upto_region 12 with fail
        refine reg_plain (Stays [(gd, Obj.cells (fc (dig n)) 27 (0, 0))] w) (Turns [(gd, Obj.cells (fc (dig n)) 27 (0, 0))] w) (kdOf [(1, .make (callM (.tuple #[.agg #[.int .u64 q1, .int .u64 q2], .bool true]))), (4, .touch)]) (Own.has none0 gr (Obj.cells #[.int .u64 0, .int .u64 0] 24 (0, 0))) (stays_good _ _) (stays_cons (stays_row S3.out (List.mem_cons_of_mem _ (List.mem_cons_self ..))) (stays_nil (stays_below S3.out))) (holds_has (holds0 _) (stays_row S3.out (List.mem_cons_self ..)) (turns_cons (turns_head td.out).symm (turns_nil tr.out.2))) ?_
        (refine g_load 27 _ gd 27 (fc (dig n)) (0, 0) _ rfl rfl rfl rfl (fun w' hC => stays_row hC (List.mem_cons_self ..)) Try.underlying27 rfl (info27 _) ?_)
        simp only [Act.put, List.setIfInBounds_toArray, List.set_cons_zero, List.set_cons_succ]
        refine g_call (stays_good _ _) (.tuple #[.agg #[.int .u64 q1, .int .u64 q2], .bool true]) rfl rfl (fun w' hC => ?_) ?_
        · clear hC
          go_simp
          refine (wide_any _ n (Nat.lt_of_lt_of_le HN2.out (by decide))).mono (fun e w2 h => ?_)
          obtain ⟨h1, h2⟩ := h
          rw [HQ.out] at h1
          exact gives h1 h2
        simp only [Act.put, List.setIfInBounds_toArray, List.set_cons_zero, List.set_cons_succ]
        refine g_look rfl rfl ?_ (fun w' hC => ?_) ?_
        rotate_left
        · go_simp
          first | done | rfl
        simp only [Act.put, List.setIfInBounds_toArray, List.set_cons_zero, List.set_cons_succ]
        refine g_look rfl rfl ?_ (fun w' hC => ?_) ?_
        rotate_left
        · go_simp
          first | done | rfl
        simp only [Act.put, List.setIfInBounds_toArray, List.set_cons_zero, List.set_cons_succ]
        refine g_store gr none 24 24 _ _ #[.int .u64 0, .int .u64 0] #[.int .u64 q1, .int .u64 q2] rfl rfl rfl rfl rfl (has_same _ _ _) (by kernel_rfl) (rfl) (rfl) (one24 _ _) ?_
        simp only [Act.put]
        refine g_look rfl rfl ?_ (fun w' hC => ?_) ?_
        rotate_left
        · go_simp
          first | done | rfl
        simp only [Act.put, List.setIfInBounds_toArray, List.set_cons_zero, List.set_cons_succ]
        refine g_end ?_
        intro w4 hC4 hh4
        have S4 : Hid (Stays [(gr, Obj.cells #[.int .u64 q1, .int .u64 q2] 24 (0, 0)), (gd, Obj.cells (fc (dig n)) 27 (0, 0))] w w4) := Lib.hid (stays_cons ((hh4 _ _ _ (own_new _ _ _ _)).1) (stays_cons (stays_row hC4 (List.mem_cons_self ..)) (stays_nil (stays_below hC4))))
        clear S3
        clear hC4 hh4
        go_wp2_with fail
        refine bodyPost_ret (v := .tuple #[.agg #[.int .u64 q1, .int .u64 q2], .bool true]) (results_opt20 (stays_head S4.out) rfl) rfl ⟨congrArg Ending.returned ?_, stays_below S4.out⟩
        have hn := HN.out
        rw [← len_eq, List.take_length] at hn
        rw [← HV.out, parse_done hn h0 HL.out, HQ.out]
end Go.Proofs.Ytfckignchmpeaaa.Wi
