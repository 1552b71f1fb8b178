/- The document's reading of an amount, by a walk. -/
import Derived.Test.YthpdfacdjgkmpaaEw
import Derived.Deep.DeepCutAuto
namespace Go.Proofs.Ythpdfacdjgkmpaa.Wi
open Go.RowKit K

attribute [local go_sem] lookTo stepTo Maker.step
attribute [local go_sem ↓] idxL st_size one_size st_list drop_st
theorem results_err9 {W : World} {g : Nat} {x y t : Value} {tmps : Array Value} (h : W.heap[g]? = some (.cells #[x, y] 25 (0, 0))) (i24 : (Try.prog.info? 25).map (·.size) = some 2 := by rfl) (e4 : tmps.getD 2 undef = .pointer (some ⟨g, 0, none⟩) := by rfl) (e5 : tmps.getD 3 undef = t := by rfl) :
    (results Try.f9 tmps).run Try.prog W = .ok (.tuple #[.agg #[x, y], t]) W := by
  have h' := run_loadVar_row (P := Try.prog) W g 25 25 _ (0, 0) _ h Try.underlying25 rfl i24
  have e4' : tmps[2]?.getD undef = .pointer (some ⟨g, 0, none⟩) := by simpa using e4
  have e5' : tmps[3]?.getD undef = t := by simpa using e5
  simp [results, Try.results9, e4', e5', asAddr, h']
theorem nread_nil (w : World) : NRead w (.slice none 0 0) [] := ⟨none, 0, rfl, by simp, by unfold maxLen; omega, fun _ => rfl, fun j d hj => by simp at hj⟩
theorem stays_then {rs : List (Nat × Obj)} {w w1 w2 : World} (h : Stays rs w w1) (hb : Below w1.heap.size w1 w2) : Stays rs w w2 := ⟨fun p hp => blk_below (h.1 p hp) hb, b_then h.2 hb⟩
/-- What stands of the number. -/
def Num (wr : World) (v : Value) (X n : Nat) : Prop := ∃ ds, NRead wr v ds ∧ valN ds = X ∧ (∀ d ∈ ds, d ≤ 9) ∧ ds.length ≤ n
theorem num_below {w w' : World} {v : Value} {X n : Nat} (h : Num w v X n) (hb : Below w.heap.size w w') : Num w' v X n := by
  obtain ⟨ds, h1, h2, h3, h4⟩ := h
  exact ⟨ds, nread_below h1 hb, h2, h3, h4⟩
theorem num_times {w : World} {v : Value} {X n : Nat} (k p : Nat) (h : Num w v X n) (hn : n ≤ 999) (hk : k ≤ 10) (hp : p ≤ 9) : Calls Try.prog 35 #[v, .int .i64 (k : Int), .int .i64 (p : Int)] w (fun e w' => ∃ v', e = .returned v' ∧ Num w' v' (X * k + p) (n + 1) ∧ Below w.heap.size w w') := by
  obtain ⟨ds, h1, h2, h3, h4⟩ := h
  obtain ⟨m1, m2, m3⟩ := mul_facts ds k p h3 hk hp
  exact (ntimes_any w v ds k p h1 h3 (by omega) hk hp).mono fun e w' ⟨v', he, hr, hb⟩ => ⟨v', he, ⟨_, hr, by rw [m1, h2], m2, by omega⟩, hb⟩
theorem count_facts {k cnt bh pt n : Nat} (hn : n ≤ 300) (hk : k < n) (hc : cnt ≤ k) (hb : bh ≤ cnt) (hp : pt ≤ 1) : wrap64 ((k : Int) + 1) = (k : Int) + 1 ∧ wrap64 ((cnt : Int) + 1) = (cnt : Int) + 1 ∧ wrap64 ((bh : Int) + (pt : Int)) = ((bh + pt : Nat) : Int) ∧ wrap64 ((pt : Int) + 1) = (pt : Int) + 1 :=
  ⟨wrap_small (by omega) (by omega), wrap_small (by omega) (by omega), by rw [wrap_small (by omega) (by omega)]; simp, wrap_small (by omega) (by omega)⟩
theorem c_facts {c : UInt8} (h : isD c = true) : ∃ d : Nat, c.toNat - 48 = d ∧ d ≤ 9 ∧ IntKind.u8.wrap ((c.toNat : Int) - 48) = (d : Int) ∧ wrap64 (d : Int) = (d : Int) ∧ ¬ (c.toNat : Int) = 46 := by
  obtain ⟨d, h1, h2, h3, _⟩ := x_facts h
  have h4 := (isD_iff c).1 h
  exact ⟨d, h1, h2, h3, wrap_small (by omega) (by omega), by omega⟩
theorem num_mono {w : World} {v : Value} {X n m : Nat} (h : Num w v X n) (hm : n ≤ m) : Num w v X m := by
  obtain ⟨ds, h1, h2, h3, h4⟩ := h
  exact ⟨ds, h1, h2, h3, by omega⟩
theorem min_more {cnt : Nat} (h : cnt + 1 ≤ 28) : min cnt 28 + 1 ≤ min (cnt + 1) 28 := by omega
theorem min_same {cnt : Nat} : min cnt 28 ≤ min (cnt + 1) 28 := by omega
theorem small_min {cnt : Nat} : min cnt 28 ≤ 999 := by omega
theorem le28 {cnt : Nat} (h : cnt + 1 ≤ 28) : (cnt : Int) + 1 ≤ 28 := by omega
theorem gt28 {cnt : Nat} (h : ¬ cnt + 1 ≤ 28) : ¬ (cnt : Int) + 1 ≤ 28 := by omega
theorem lt_cast {a b : Nat} (h : a < b) : (a : Int) < (b : Int) := Int.ofNat_lt.2 h
theorem tens_facts {t tt : Int} {bh : Nat} (h0 : -99 ≤ t) (h1 : t ≤ 99) (h2 : bh ≤ 28) (ht : 9 + t - (bh : Int) = tt) : wrap64 (t + 9) = t + 9 ∧ wrap64 (t + 9 - (bh : Int)) = tt ∧ -200 ≤ tt ∧ tt ≤ 200 :=
  ⟨wrap_small (by omega) (by omega), by rw [wrap_small (by omega) (by omega)]; omega, by omega, by omega⟩
theorem inc_small {i : Nat} (h : i ≤ 1000) : wrap64 ((i : Int) + 1) = (i : Int) + 1 := wrap_small (by omega) (by omega)
theorem dec_small {i : Nat} (h : i ≤ 1000) : wrap64 (-(i : Int) - 1) = -((i + 1 : Nat) : Int) := by rw [wrap_small (by omega) (by omega)]; omega
theorem up_round {i : Nat} {tt : Int} (h : (i : Int) < tt) : i + 1 ≤ tt.toNat ∧ tt.toNat - ((i : Int) + 1).toNat < tt.toNat - (i : Int).toNat := by omega
theorem up_stop {i : Nat} {tt : Int} (h : ¬ (i : Int) < tt) (h2 : i ≤ tt.toNat) : i = tt.toNat := by omega
theorem dn_round {m : Nat} {tt : Int} (h : tt < -(m : Int)) : m + 1 ≤ (-tt).toNat ∧ (-tt).toNat - (-(-((m + 1 : Nat) : Int))).toNat < (-tt).toNat - (-(-(m : Int))).toNat := by omega
theorem dn_stop {m : Nat} {tt : Int} (h : ¬ tt < -(m : Int)) (h2 : m ≤ (-tt).toNat) : m = (-tt).toNat := by omega
theorem take28 {D : List UInt8} {cnt : Nat} (h : D.length = cnt) (h2 : ¬ 28 < cnt) : D.take 28 = D := List.take_of_length_le (by omega)
theorem up_eq {X e : Nat} : byUp X e = X / 10 ^ e + (if X % 10 ^ e = 0 then 0 else 1) := rfl
/-- What is scaled, in the order of the document. -/
theorem scaled_doc (v : Nat) (tt : Int) (z : Nat) : byUp (v * 2 ^ z * 10 ^ tt.toNat) (-tt).toNat = scaled v tt z := by
  unfold scaled
  split
  · rename_i h
    rw [show tt.toNat = 0 by omega, Nat.pow_zero, Nat.mul_one]
  · rename_i h
    rw [show (-tt).toNat = 0 by omega, byUp, Nat.pow_zero, Nat.div_one, Nat.mod_one, if_pos rfl, Nat.add_zero, Nat.mul_right_comm]
theorem wide_yes (X : Nat) : ∃ (a b : Int) (ok : Bool), wideV X = .tuple #[.agg #[.int .u64 a, .int .u64 b], .bool ok] ∧ U a ∧ U b ∧ (ok = true → wval a b = (X : Int)) ∧ (ok = false → Most < (X : Int)) := by
  unfold wideV
  split
  · rename_i h
    have e4 : (65536 : Nat) ^ 4 = 18446744073709551616 := by decide
    have e8 : (65536 : Nat) ^ 8 = 340282366920938463463374607431768211456 := by decide
    rw [e8] at h
    rw [e4]
    refine ⟨_, _, true, rfl, by unfold U; omega, by unfold U; omega, fun _ => by unfold wval; omega, fun h => by cases h⟩
  · rename_i h
    have e8 : (65536 : Nat) ^ 8 = 340282366920938463463374607431768211456 := by decide
    rw [e8] at h
    exact ⟨0, 0, false, rfl, u_zero, u_zero, (fun h => by cases h), fun _ => by unfold Most; omega⟩
theorem dec_lead (X : Nat) : 1 < (Lib.decDigits X).length → (Lib.decDigits X).head? ≠ some 48 := by
  induction X using Nat.strongRecOn with
  | _ X ih =>
    intro h1 h2
    by_cases h : X < 10
    · rw [Lib.decDigits_one h] at h1; simp at h1
    · rw [dec_up h] at h1 h2
      cases hd : Lib.decDigits (X / 10) with
      | nil => exact (dec_all (X / 10)).2.2 hd
      | cons a t =>
        have h3 := (dec_all (X / 10)).2.1
        rw [hd] at h2 h3
        have ha : a = 48 := by simpa using h2
        subst ha
        cases t with
        | nil =>
          have : valD [48] = 0 := rfl
          rw [this] at h3
          omega
        | cons b t => exact ih (X / 10) (by omega) (by rw [hd]; simp) (by rw [hd]; rfl)
theorem num_cut {w : World} {g o c X n : Nat} {ds : List Nat} (h : Num w (.slice (some ⟨g, o + 1, none⟩) ds.length (c - 1)) X n) (hc : ds.length + 1 ≤ c) (h0 : ∀ ds', NRead w (.slice (some ⟨g, o + 1, none⟩) ds.length (c - 1)) ds' → ds'.length = ds.length) : Num w (.slice (if c = 1 then some ⟨g, o, none⟩ else some ⟨g, o + 1, none⟩) ds.length (c - 1)) X n := by
  by_cases h1 : c = 1
  · rw [if_pos h1]
    obtain ⟨ds', hr, h2, h3, h4⟩ := h
    have hl := h0 ds' hr
    have hd : ds' = [] := List.eq_nil_of_length_eq_zero (by omega)
    subst hd
    refine ⟨[], ⟨_, _, by rw [← hl], by simp, ?_, fun h => (by cases h), fun j d hj => by simp at hj⟩, h2, h3, h4⟩
    unfold maxLen; omega
  · rw [if_neg h1]; exact h
theorem nread_len {w : World} {p : Option Addr} {n c : Nat} {ds : List Nat} (h : NRead w (.slice p n c) ds) : ds.length = n := by
  obtain ⟨p', c', h1, _⟩ := h
  injection h1 with _ h2 _
  exact h2.symm
theorem valN_lt : ∀ ds : List Nat, (∀ d ∈ ds, d ≤ 9) → valN ds < 10 ^ ds.length
  | [], _ => by decide
  | d :: ds, h => by
    have h1 := valN_lt ds (fun x hx => h x (List.mem_cons_of_mem _ hx))
    have h2 := h d (List.mem_cons_self ..)
    rw [valN, List.length_cons, Nat.pow_succ]
    omega
theorem dl_len {ds : List Nat} (h : ∀ d ∈ ds, d ≤ 9) (hl : ds.length ≤ 301) : (Lib.decDigits (valN ds)).length ≤ maxLen := by
  rw [Lib.decDigits_length]
  have h1 := valN_lt ds h
  have h2 := ndig_le ds.length (valN ds) (Nat.lt_of_lt_of_le h1 (Nat.pow_le_pow_right (by decide) (Nat.le_succ _)))
  unfold maxLen
  omega
theorem not_46 {c : UInt8} (h : ¬ c = 46) : ¬ (c.toNat : Int) = 46 := fun e => h (UInt8.toNat_inj.1 (by show c.toNat = 46; omega))
set_option maxHeartbeats 4000000 in
set_option maxRecDepth 100000 in
theorem dparse_any (w : World) (l : List UInt8) (hl : l.length ≤ 300) : Calls Try.prog 9 #[.string ⟨l.toArray⟩] w (Ret w (parseV l)) := by
  obtain ⟨V, hV⟩ : ∃ V, parseV l = V := ⟨_, rfl⟩
  rw [hV]
  obtain ⟨n, hn⟩ : ∃ n, l.length = n := ⟨_, rfl⟩
  have HV := Lib.hid hV
  have HN3 : Hid (n ≤ 300) := Lib.hid (by omega)
  have HN := Lib.hid hn
  clear hV hl hn
  have S0 : Hid (Stays [] w w) := Lib.hid (stays_nil (Below.refl _ _))
  go_enter Try.func9, Try.ntmps9
  go_upto_region 0 with fail
  refine reg_plain (Stays [] w) (Turns [] w) (kdOf [(0, .make (fun _ => allocM (.cells #[.int .u64 0, .int .u64 0] 25)))]) none0 (stays_good _ _) (S0.out) (holds0 _) ?_
  refine g_alloc (stays_good _ _) (.cells #[.int .u64 0, .int .u64 0] 25) rfl rfl (fun w' hC => ?_) (fun gr tr nr => ?_)
  · clear hC
    go_simp
    first | done | rfl | exact ⟨rfl, rfl⟩
  clear nr
  replace tr := Lib.hid tr
  simp only [Act.put, sa, sb, sc]
  refine g_look rfl rfl ?_ (fun w' hC => ?_) ?_
  rotate_left
  · go_simp
    first | done | rfl
  simp only [Act.put, sa, sb, sc]
  refine g_end ?_
  intro w1 hC1 hh1
  have S1 : Hid (Stays [(gr, Obj.cells #[.int .u64 0, .int .u64 0] 25 (0, 0))] w w1) := Lib.hid (stays_cons ((hh1 _ _ _ (own_new _ _ _ _)).1) (stays_nil (stays_below hC1)))
  clear hC1 hh1
  by_cases hne : l = []
  · subst hne
    go_upto_region 2 with fail
    refine reg_plain (Stays [] w) (Turns [] w) (kdOf [(1, .touch)]) (Own.has none0 gr (Obj.cells #[.int .u64 0, .int .u64 0] 25 (0, 0))) (stays_good _ _) (stays_nil (stays_below S1.out)) (holds_has (holds0 _) (stays_row S1.out (List.mem_cons_self ..)) (turns_nil tr.out.2)) ?_
    refine g_look rfl rfl ?_ (fun w' hC => ?_) ?_
    rotate_left
    · go_simp
      first | done | rfl
    simp only [Act.put, sa, sb, sc]
    refine g_store gr none 25 25 _ _ #[.int .u64 0, .int .u64 0] #[.int .u64 0, .int .u64 0] rfl rfl rfl rfl rfl (has_same _ _ _) (by kernel_rfl) (rfl) (rfl) (one25 _ _) ?_
    simp only [Act.put]
    refine g_look rfl rfl ?_ (fun w' hC => ?_) ?_
    rotate_left
    · go_simp
      first | done | rfl
    simp only [Act.put, sa, sb, sc]
    refine g_end ?_
    intro w2 hC2 hh2
    have S2 : Hid (Stays [(gr, Obj.cells #[.int .u64 0, .int .u64 0] 25 (0, 0))] w w2) := Lib.hid (stays_cons ((hh2 _ _ _ (own_new _ _ _ _)).1) (stays_nil (stays_below hC2)))
    clear S1
    clear hC2 hh2
    go_wp2_with fail
    refine bodyPost_ret (v := .tuple #[.agg #[.int .u64 0, .int .u64 0], .int .i64 10]) (results_err9 (stays_head S2.out)) rfl ⟨congrArg Ending.returned (by rw [← HV.out]; rfl), stays_below S2.out⟩
  · have hne2 : (l == []) = false := beq_eq_false_iff_ne.2 hne
    have HNE := Lib.hid hne
    clear hne
    
    go_upto_region 3 with fail
    refine reg_plain (Stays [(gr, Obj.cells #[.int .u64 0, .int .u64 0] 25 (0, 0))] w) (Turns [(gr, Obj.cells #[.int .u64 0, .int .u64 0] 25 (0, 0))] w) (kdOf []) none0 (stays_good _ _) (S1.out) (holds0 _) ?_
    refine g_look rfl rfl ?_ (fun w' hC => ?_) ?_
    rotate_left
    · go_simp
      first | done | rfl
    simp only [Act.put, sa, sb, sc]
    refine g_end ?_
    intro w2 hC2 hh2
    have S2 : Hid (Stays [(gr, Obj.cells #[.int .u64 0, .int .u64 0] 25 (0, 0))] w w2) := Lib.hid (stays_cons (stays_row hC2 (List.mem_cons_self ..)) (stays_nil (stays_below hC2)))
    clear S1
    clear hC2 hh2
    go_upto_region 4 with fail
    refine reg_plain (Stays [(gr, Obj.cells #[.int .u64 0, .int .u64 0] 25 (0, 0))] w) (Turns [(gr, Obj.cells #[.int .u64 0, .int .u64 0] 25 (0, 0))] w) (kdOf []) none0 (stays_good _ _) (S2.out) (holds0 _) ?_
    refine g_look rfl rfl ?_ (fun w' hC => ?_) ?_
    rotate_left
    · go_simp
      first | done | rfl
    simp only [Act.put, sa, sb, sc]
    refine g_look rfl rfl ?_ (fun w' hC => ?_) ?_
    rotate_left
    · go_simp
      first | done | rfl
    simp only [Act.put, sa, sb, sc]
    refine g_look rfl rfl ?_ (fun w' hC => ?_) ?_
    rotate_left
    · go_simp
      first | done | rfl
    simp only [Act.put, sa, sb, sc]
    refine g_look rfl rfl ?_ (fun w' hC => ?_) ?_
    rotate_left
    · go_simp
      first | done | rfl
    simp only [Act.put, sa, sb, sc]
    refine g_end ?_
    intro w3 hC3 hh3
    have S3 : Hid (Stays [(gr, Obj.cells #[.int .u64 0, .int .u64 0] 25 (0, 0))] w w3) := Lib.hid (stays_cons (stays_row hC3 (List.mem_cons_self ..)) (stays_nil (stays_below hC3)))
    clear S2
    clear hC3 hh3
    rename_i K hK
    refine hK _ _ ?_
    clear hK K
    apply wp_seq_k; intro _ _
    go_cut [4, 5, 6, 7, 8] (fun s4 s5 s6 s7 s8 wx => ∃ (k cnt bh : Nat) (WD P : List UInt8), s5 = .int .i64 (k : Int) ∧ s7 = .int .i64 (cnt : Int) ∧ s8 = .int .i64 (bh : Int) ∧ Hid (k ≤ n ∧ parseV l = parseW WD P (l.drop k) ∧ bh = P.length ∧ (WD ++ P).length = cnt ∧ WD.length + P.length = cnt ∧ cnt ≤ 300) ∧ Hid (Num wx s4 (valD ((WD ++ P).take 28)) 28) ∧ Hid (Stays [(gr, Obj.cells #[.int .u64 0, .int .u64 0] 25 (0, 0))] w wx))
    case first =>
      have HNU0 : Hid (Num w3 (.slice none 0 0) 0 0) := Lib.hid ⟨[], nread_nil _, rfl, by simp, by simp⟩
      go_wp2_with fail
      go_loopw [4, 5, 6, 7, 8] (fun s4 s5 s6 s7 s8 wr => ∃ (k pt cnt bh : Nat) (D : List UInt8), s5 = .int .i64 (k : Int) ∧ s6 = .int .i64 (pt : Int) ∧ s7 = .int .i64 (cnt : Int) ∧ s8 = .int .i64 (bh : Int) ∧ Hid (At l k pt cnt bh D) ∧ Hid (Num wr s4 (valD (D.take 28)) (min cnt 28)) ∧ Hid (Stays [(gr, Obj.cells #[.int .u64 0, .int .u64 0] 25 (0, 0))] w wr)) (fun _ s5 _ _ _ _ => n - (intOf s5).toNat)
      case atStart => exact ⟨0, 0, 0, 0, [], rfl, rfl, rfl, rfl, Lib.hid (at_zero l), HNU0, S3⟩
      case round =>
        obtain ⟨k, pt, cnt, bh, D, rfl, rfl, rfl, rfl, HA, HNU, S50⟩ := hrel
        clear S3 HNU0
        obtain ⟨a1, a2, a3, a4, a5, a6⟩ := at_facts HA.out
        have HA1 := Lib.hid a1
        have HA6 := Lib.hid a6
        have HKN : Hid (k ≤ n) := Lib.hid (by rw [← HN.out]; exact a2)
        have HC3 : Hid (cnt ≤ 300) := Lib.hid (Nat.le_trans a3 (Nat.le_trans HKN.out HN3.out))
        have HP1 : Hid (¬ pt = 0 → pt = 1) := Lib.hid (fun h => by omega)
        by_cases hlt : k < n
        · obtain ⟨c, hc⟩ : ∃ c, l[k]? = some c := ⟨_, List.getElem?_eq_getElem (by rw [HN.out]; exact hlt)⟩
          obtain ⟨f1, f2, f3, f4⟩ := count_facts HN3.out hlt a3 a4 a5
          have F1 := Lib.hid f1
          have F2 := Lib.hid f2
          have F3 := Lib.hid f3
          have F4 := Lib.hid f4
          have HLE := Lib.hid (round_end hlt)
          have HC := Lib.hid hc
          have hbl : byteL l k = c.toNat := byteL_at hc
          have hki := lt_cast hlt
          have hkl : k < l.length := by rw [HN.out]; exact hlt
          have hln : l.length = n := HN.out
          clear f1 f2 f3 f4 a1 a2 a3 a4 a5 a6 hc
          cases hd : isD c with
          | true =>
            obtain ⟨d, d1, d2, d3, d4, d5⟩ := c_facts hd
            have HD := Lib.hid hd
            have HD1 := Lib.hid d1
            have HD2 := Lib.hid d2
            have HAT := Lib.hid (at_digit HA.out HC.out hd)
            obtain ⟨vm1, vm2⟩ := val_more (c := c) HA1.out
            have VM1 := Lib.hid vm1
            have VM2 := Lib.hid vm2
            clear d1 d2 vm1 vm2
            go_upto_region 6 with fail
            refine (digit_same _ c).mono ?_
            rintro e w9 ⟨rfl, rfl⟩
            simp only [hd]
            go_upto_region 6 with fail
            go_upto_region 10 with fail
            simp only [F2.out, F3.out]
            by_cases h28 : cnt + 1 ≤ 28
            · have h28i := le28 h28
              go_upto_region 11 with fail
              have NT : Calls Try.prog 35 #[u4, .int .i64 10, .int .i64 (d : Int)] w9 _ := num_times 10 d HNU.out small_min (by decide) HD2.out
              go_upto_region 12 with fail
              refine NT.mono ?_
              rintro e w10 ⟨v9, rfl, hn9, hb9⟩
              have HNX : Hid (Num w10 v9 (valD ((D ++ [c]).take 28)) (min (cnt + 1) 28)) := Lib.hid (by rw [VM1.out h28, HD1.out]; exact num_mono hn9 (min_more h28))
              have S60 : Hid (Stays [(gr, Obj.cells #[.int .u64 0, .int .u64 0] 25 (0, 0))] w w10) := Lib.hid (stays_then S50.out hb9)
              clear hn9 hb9 NT S50 HNU
              go_wp2_with fail
              rw [F1.out]
              go_roundw
              case rel => exact ⟨k + 1, pt, cnt + 1, bh + pt, D ++ [c], rfl, rfl, rfl, rfl, HAT, HNX, S60⟩
              case measure => exact HLE.out.2
            · have h28i := gt28 h28
              have HNX : Hid (Num w9 u4 (valD ((D ++ [c]).take 28)) (min (cnt + 1) 28)) := Lib.hid (by rw [VM2.out h28]; exact num_mono HNU.out min_same)
              go_wp2_with fail
              rw [F1.out]
              go_roundw
              case rel => exact ⟨k + 1, pt, cnt + 1, bh + pt, D ++ [c], rfl, rfl, rfl, rfl, HAT, HNX, S50⟩
              case measure => exact HLE.out.2
          | false =>
            by_cases h46 : c = 46
            · subst h46
              by_cases hp : pt = 0
              · subst hp
                have HAT := Lib.hid (at_point HA.out HC.out rfl)
                go_upto_region 6 with fail
                refine (digit_same _ 46).mono ?_
                rintro e w9 ⟨rfl, rfl⟩
                simp only [hd]
                go_wp2_with fail
                rw [F1.out]
                go_roundw
                case rel => exact ⟨k + 1, 1, cnt, bh, D, rfl, rfl, rfl, rfl, HAT, HNU, S50⟩
                case measure => exact HLE.out.2
              · have hpi : ¬ (pt : Int) = 0 := ne_cast hp
                obtain ⟨WD, P, e1, e2, e3, e4, e5⟩ := at_end HA.out HNE.out (.inr ⟨46, HC.out, hd, fun _ => HP1.out hp⟩)
                have HK : Hid (k ≤ n ∧ parseV l = parseW WD P (l.drop k) ∧ bh = P.length ∧ (WD ++ P).length = cnt ∧ WD.length + P.length = cnt ∧ cnt ≤ 300) := Lib.hid ⟨HKN.out, e1, e3, e4, e5, HC3.out⟩
                have HNF : Hid (Num wr u4 (valD ((WD ++ P).take 28)) 28) := Lib.hid (by rw [← e2]; exact num_mono HNU.out (Nat.min_le_right _ _))
                clear e1 e2 e3 e4 e5
                go_upto_region 6 with fail
                refine (digit_same _ 46).mono ?_
                rintro e w9 ⟨rfl, rfl⟩
                simp only [hd]
                go_wp2_with fail
                go_meet
                exact ⟨k, cnt, bh, WD, P, rfl, rfl, rfl, HK, HNF, S50⟩
            · have h46i := not_46 h46
              obtain ⟨WD, P, e1, e2, e3, e4, e5⟩ := at_end HA.out HNE.out (.inr ⟨c, HC.out, hd, fun h => absurd h h46⟩)
              have HK : Hid (k ≤ n ∧ parseV l = parseW WD P (l.drop k) ∧ bh = P.length ∧ (WD ++ P).length = cnt ∧ WD.length + P.length = cnt ∧ cnt ≤ 300) := Lib.hid ⟨HKN.out, e1, e3, e4, e5, HC3.out⟩
              have HNF : Hid (Num wr u4 (valD ((WD ++ P).take 28)) 28) := Lib.hid (by rw [← e2]; exact num_mono HNU.out (Nat.min_le_right _ _))
              clear e1 e2 e3 e4 e5
              go_upto_region 6 with fail
              refine (digit_same _ c).mono ?_
              rintro e w9 ⟨rfl, rfl⟩
              simp only [hd]
              go_wp2_with fail
              go_meet
              exact ⟨k, cnt, bh, WD, P, rfl, rfl, rfl, HK, HNF, S50⟩
        · obtain ⟨hke, hki⟩ := end_k (show k ≤ n by rw [← HN.out]; exact a2) hlt
          have hln : l.length = n := HN.out
          obtain ⟨WD, P, e1, e2, e3, e4, e5⟩ := at_end HA.out HNE.out (.inl (hke.trans HN.out.symm))
          have HK : Hid (k ≤ n ∧ parseV l = parseW WD P (l.drop k) ∧ bh = P.length ∧ (WD ++ P).length = cnt ∧ WD.length + P.length = cnt ∧ cnt ≤ 300) := Lib.hid ⟨HKN.out, e1, e3, e4, e5, HC3.out⟩
          have HNF : Hid (Num wr u4 (valD ((WD ++ P).take 28)) 28) := Lib.hid (by rw [← e2]; exact num_mono HNU.out (Nat.min_le_right _ _))
          clear e1 e2 e3 e4 e5
          clear a1 a2 a3 a4 a5 a6
          go_wp2_with fail
          go_meet
          exact ⟨k, cnt, bh, WD, P, by rw [hke], rfl, rfl, HK, HNF, S50⟩
    case rest =>
      obtain ⟨k, cnt, bh, WD, P, rfl, rfl, rfl, HK, HNF, S70⟩ := hcut
      clear S3
      have hkl : k ≤ l.length := by rw [HN.out]; exact HK.out.1
      have hkli : (k : Int) ≤ (l.length : Int) := Int.ofNat_le.2 hkl
      have HSL : Hid ((l.drop k).length ≤ maxLen) := Lib.hid (by rw [List.length_drop]; have := HN3.out; rw [← HN.out] at this; unfold maxLen; omega)
      clear hne2
      go_upto_region 14 with fail
      refine (rscale_any _ (l.drop k) HSL.out).mono ?_
      rintro e w71 ⟨rfl, hb71⟩
      replace HNF := Lib.hid (num_below HNF.out hb71)
      have S71 : Hid (Stays [(gr, Obj.cells #[.int .u64 0, .int .u64 0] 25 (0, 0))] w w71) := Lib.hid (stays_then S70.out hb71)
      clear S70 hb71 hkl hkli
      rcases scale_open (l.drop k) with ⟨_, t, z, _, hsp, ht0, ht1, hz, hzt⟩ | ⟨_, _, _, _, hsp⟩
      · rw [rscale_some hsp]
        have HSP := Lib.hid hsp
        clear hsp
        by_cases hc0 : cnt = 0
        · have hci : (cnt : Int) = 0 := by rw [hc0]; rfl
          have HC0 : Hid (WD ++ P = []) := Lib.hid (List.eq_nil_of_length_eq_zero (HK.out.2.2.2.1.trans hc0))
          clear hc0
          go_upto_region 15 with fail
          refine reg_plain (Stays [] w) (Turns [] w) (kdOf [(1, .touch)]) (Own.has none0 gr (Obj.cells #[.int .u64 0, .int .u64 0] 25 (0, 0))) (stays_good _ _) (stays_nil (stays_below S71.out)) (holds_has (holds0 _) (stays_row S71.out (List.mem_cons_self ..)) (turns_nil tr.out.2)) ?_
          refine g_look rfl rfl ?_ (fun w' hC => ?_) ?_
          rotate_left
          · go_simp
            first | done | rfl
          simp only [Act.put, sa, sb, sc]
          refine g_store gr none 25 25 _ _ #[.int .u64 0, .int .u64 0] #[.int .u64 0, .int .u64 0] rfl rfl rfl rfl rfl (has_same _ _ _) (by kernel_rfl) (rfl) (rfl) (one25 _ _) ?_
          simp only [Act.put]
          refine g_look rfl rfl ?_ (fun w' hC => ?_) ?_
          rotate_left
          · go_simp
            first | done | rfl
          simp only [Act.put, sa, sb, sc]
          refine g_end ?_
          intro w72 hC72 hh72
          have S72 : Hid (Stays [(gr, Obj.cells #[.int .u64 0, .int .u64 0] 25 (0, 0))] w w72) := Lib.hid (stays_cons ((hh72 _ _ _ (own_new _ _ _ _)).1) (stays_nil (stays_below hC72)))
          clear S71
          clear hC72 hh72
          go_wp2_with fail
          refine bodyPost_ret (v := .tuple #[.agg #[.int .u64 0, .int .u64 0], .int .i64 11]) (results_err9 (stays_head S72.out)) rfl ⟨congrArg Ending.returned (by rw [← HV.out, HK.out.2.1, parseW, HSP.out]; simp only []; rw [if_pos HC0.out]; rfl), stays_below S72.out⟩
        · have hci : ¬ (cnt : Int) = 0 := ne_cast hc0
          have hcq : ((cnt : Int) == 0) = false := beq_eq_false_iff_ne.2 hci
          have HC0 : Hid (¬ WD ++ P = []) := Lib.hid (fun h => hc0 (by rw [← HK.out.2.2.2.1, h]; rfl))
          clear hc0
          by_cases hc28 : 28 < cnt
          · have h28i : (28 : Int) < (cnt : Int) := Int.ofNat_lt.2 hc28
            have H28 : Hid (28 < WD.length + P.length) := Lib.hid (by rw [HK.out.2.2.2.2.1]; exact hc28)
            clear hc28
            go_upto_region 17 with fail
            refine reg_plain (Stays [] w) (Turns [] w) (kdOf [(1, .touch)]) (Own.has none0 gr (Obj.cells #[.int .u64 0, .int .u64 0] 25 (0, 0))) (stays_good _ _) (stays_nil (stays_below S71.out)) (holds_has (holds0 _) (stays_row S71.out (List.mem_cons_self ..)) (turns_nil tr.out.2)) ?_
            refine g_look rfl rfl ?_ (fun w' hC => ?_) ?_
            rotate_left
            · go_simp
              first | done | rfl
            simp only [Act.put, sa, sb, sc]
            refine g_store gr none 25 25 _ _ #[.int .u64 0, .int .u64 0] #[.int .u64 0, .int .u64 0] rfl rfl rfl rfl rfl (has_same _ _ _) (by kernel_rfl) (rfl) (rfl) (one25 _ _) ?_
            simp only [Act.put]
            refine g_look rfl rfl ?_ (fun w' hC => ?_) ?_
            rotate_left
            · go_simp
              first | done | rfl
            simp only [Act.put, sa, sb, sc]
            refine g_end ?_
            intro w72 hC72 hh72
            have S72 : Hid (Stays [(gr, Obj.cells #[.int .u64 0, .int .u64 0] 25 (0, 0))] w w72) := Lib.hid (stays_cons ((hh72 _ _ _ (own_new _ _ _ _)).1) (stays_nil (stays_below hC72)))
            clear S71
            clear hC72 hh72
            go_wp2_with fail
            refine bodyPost_ret (v := .tuple #[.agg #[.int .u64 0, .int .u64 0], .int .i64 12]) (results_err9 (stays_head S72.out)) rfl ⟨congrArg Ending.returned (by rw [← HV.out, HK.out.2.1, parseW, HSP.out]; simp only []; rw [if_neg HC0.out, if_pos H28.out]; rfl), stays_below S72.out⟩
          · have h28i : ¬ (28 : Int) < (cnt : Int) := fun h => hc28 (Int.ofNat_lt.1 h)
            obtain ⟨tt, htt⟩ : ∃ tt : Int, 9 + t - (bh : Int) = tt := ⟨_, rfl⟩
            have hbh : bh ≤ 28 := by have := HK.out; omega
            obtain ⟨g1, g2, g3, g4⟩ := tens_facts ht0 ht1 hbh htt
            obtain ⟨X0, hX0⟩ : ∃ X, valD (WD ++ P) = X := ⟨_, rfl⟩
            have HPW : Hid (V = if ((scaled X0 tt z : Nat) : Int) ≤ Most then .tuple #[wn (scaled X0 tt z : Nat), .int .i64 0] else errV 15) := Lib.hid (by
              rw [← HV.out, HK.out.2.1, parseW, HSP.out]
              simp only []
              rw [if_neg HC0.out, if_neg (by rw [HK.out.2.2.2.2.1]; exact hc28), hX0, ← htt, HK.out.2.2.1])
            rw [take28 HK.out.2.2.2.1 hc28, hX0] at HNF
            have G1 := Lib.hid g1
            have G2 := Lib.hid g2
            have HZ := Lib.hid hz
            have HT := Lib.hid (show -200 ≤ tt ∧ tt ≤ 200 from ⟨g3, g4⟩)
            clear g1 g2 g3 g4 hX0 htt hbh hc28 HK HC0 HSP HSL HV hzt hz ht0 ht1
            go_upto_region 19 with fail
            simp only [G1.out, G2.out]
            go_wp2_with fail
            go_loopw [4, 12] (fun s4 s12 wr => ∃ (i : Nat), s12 = .int .i64 (i : Int) ∧ i ≤ z ∧ Hid (Num wr s4 (X0 * 2 ^ i) (28 + i)) ∧ Hid (Stays [(gr, Obj.cells #[.int .u64 0, .int .u64 0] 25 (0, 0))] w wr)) (fun _ s12 _ => z - (intOf s12).toNat)
            case atStart => exact ⟨0, rfl, Nat.zero_le _, Lib.hid (by rw [Nat.pow_zero, Nat.mul_one]; exact HNF.out), S71⟩
            case round =>
              obtain ⟨i, rfl, hi, HN2, S72⟩ := hrel
              clear HNF S71
              by_cases hlt : i < z
              · have hlti := lt_cast hlt
                have HW := Lib.hid (inc_small (i := i) (by have := HZ.out; omega))
                have HLE := Lib.hid (round_end hlt)
                have HI9 : Hid (28 + i ≤ 999) := Lib.hid (by have := HZ.out; omega)
                clear hi
                go_upto_region 21 with fail
                have NT : Calls Try.prog 35 #[u4, .int .i64 2, .int .i64 0] wr _ := num_times 2 0 HN2.out HI9.out (by decide) (by decide)
                refine NT.mono ?_
                rintro e w10 ⟨v9, rfl, hn9, hb9⟩
                have HNX : Hid (Num w10 v9 (X0 * 2 ^ (i + 1)) (28 + (i + 1))) := Lib.hid (by rw [Nat.pow_succ, ← Nat.mul_assoc]; exact hn9)
                have S73 : Hid (Stays [(gr, Obj.cells #[.int .u64 0, .int .u64 0] 25 (0, 0))] w w10) := Lib.hid (stays_then S72.out hb9)
                clear hn9 hb9 NT S72 HN2
                go_wp2_with fail
                rw [HW.out]
                go_roundw
                case rel => exact ⟨i + 1, rfl, HLE.out.1, HNX, S73⟩
                case measure => exact HLE.out.2
              · obtain ⟨rfl, hlti⟩ := end_k hi hlt
                clear hi hlt
                obtain ⟨X2, hX2⟩ : ∃ X, X0 * 2 ^ i = X := ⟨_, rfl⟩
                rw [hX2] at HN2
                have HX2 := Lib.hid hX2
                clear hX2
                go_wp2_with fail
                go_loopw [4, 13] (fun s4 s13 wr => ∃ (j : Nat), s13 = .int .i64 (j : Int) ∧ j ≤ tt.toNat ∧ Hid (Num wr s4 (X2 * 10 ^ j) (88 + j)) ∧ Hid (Stays [(gr, Obj.cells #[.int .u64 0, .int .u64 0] 25 (0, 0))] w wr)) (fun _ s13 _ => tt.toNat - (intOf s13).toNat)
                case atStart => exact ⟨0, rfl, Nat.zero_le _, Lib.hid (by rw [Nat.pow_zero, Nat.mul_one]; exact num_mono HN2.out (by have := HZ.out; omega)), S72⟩
                case round =>
                  obtain ⟨j, rfl, hj, HN3', S74⟩ := hrel
                  clear HN2 S72
                  by_cases hlj : (j : Int) < tt
                  · have HW := Lib.hid (inc_small (i := j) (by have := HT.out; omega))
                    have HLE := Lib.hid (up_round hlj)
                    have HI9 : Hid (88 + j ≤ 999) := Lib.hid (by have := HT.out; omega)
                    clear hj
                    go_upto_region 25 with fail
                    have NT : Calls Try.prog 35 #[u4, .int .i64 10, .int .i64 0] wr _ := num_times 10 0 HN3'.out HI9.out (by decide) (by decide)
                    refine NT.mono ?_
                    rintro e w10 ⟨v9, rfl, hn9, hb9⟩
                    have HNX : Hid (Num w10 v9 (X2 * 10 ^ (j + 1)) (88 + (j + 1))) := Lib.hid (by rw [Nat.pow_succ, ← Nat.mul_assoc]; exact hn9)
                    have S75 : Hid (Stays [(gr, Obj.cells #[.int .u64 0, .int .u64 0] 25 (0, 0))] w w10) := Lib.hid (stays_then S74.out hb9)
                    clear hn9 hb9 NT S74 HN3'
                    go_wp2_with fail
                    rw [HW.out]
                    go_roundw
                    case rel => exact ⟨j + 1, rfl, HLE.out.1, HNX, S75⟩
                    case measure => exact HLE.out.2
                  · have hje := up_stop hlj hj
                    rw [hje] at HN3'
                    obtain ⟨X3, hX3⟩ : ∃ X, X2 * 10 ^ tt.toNat = X := ⟨_, rfl⟩
                    rw [hX3] at HN3'
                    have HX3 : Hid (byUp X3 (-tt).toNat = scaled X0 tt i) := Lib.hid (by rw [← hX3, ← HX2.out]; exact scaled_doc X0 tt i)
                    have HN4 : Hid (Num wr u4 X3 300) := Lib.hid (num_mono HN3'.out (by have := HT.out; omega))
                    clear hX3 hje hj HX2 HN3'
                    go_wp2_with fail
                    go_loopw [4, 14, 15] (fun s4 s14 s15 wr => ∃ (m : Nat) (up : Bool), s15 = .int .i64 (-(m : Int)) ∧ s14 = .bool up ∧ m ≤ (-tt).toNat ∧ Hid (up = decide (X3 % 10 ^ m ≠ 0)) ∧ Hid (Num wr s4 (X3 / 10 ^ m) 300) ∧ Hid (Stays [(gr, Obj.cells #[.int .u64 0, .int .u64 0] 25 (0, 0))] w wr)) (fun _ _ s15 _ => (-tt).toNat - (-(intOf s15)).toNat)
                    case atStart => exact ⟨0, false, rfl, rfl, Nat.zero_le _, Lib.hid (by rw [Nat.pow_zero, Nat.mod_one]; rfl), Lib.hid (by rw [Nat.pow_zero, Nat.div_one]; exact HN4.out), S74⟩
                    case round =>
                      obtain ⟨m, up, rfl, rfl, hm, HUP, HN5, S76⟩ := hrel
                      clear HN4 S74
                      by_cases hlm : tt < -(m : Int)
                      · have HW := Lib.hid (dec_small (i := m) (by have := HT.out; omega))
                        have HLE := Lib.hid (dn_round hlm)
                        clear hm
                        obtain ⟨ds, h1, h2, h3, h4⟩ := HN5.out
                        obtain ⟨p, c, hv, hlc, _, _, h5⟩ := id h1
                        clear HN5
                        cases ds with
                        | nil =>
                          subst hv
                          obtain ⟨e1, e2⟩ := none_step h2
                          have HNX : Hid (Num wr (.slice p 0 c) (X3 / 10 ^ (m + 1)) 300) := Lib.hid ⟨[], h1, e1, h3, h4⟩
                          have HUX : Hid (up = decide (X3 % 10 ^ (m + 1) ≠ 0)) := Lib.hid (by rw [e2]; exact HUP.out)
                          clear h1 h2 h3 h4 h5 e1 e2 hlc
                          go_wp2_with fail
                          rw [HW.out]
                          go_roundw
                          case rel => exact ⟨m + 1, up, rfl, rfl, HLE.out.1, HUX, HNX, S76⟩
                          case measure => exact HLE.out.2
                        | cons d ds1 =>
                          obtain ⟨g, o, hp, _⟩ := h5 0 d rfl
                          subst hp hv
                          obtain ⟨h6, h7, h8, hcell⟩ := nread_drop h1
                          obtain ⟨e1, e2⟩ := drop_step h2 (h3 d (List.mem_cons_self ..))
                          have hl1 : (0 : Int) < (ds1.length : Int) + 1 := by omega
                          have hl2 : ds1.length + 1 ≤ c := hlc
                          have HNX : Hid (Num wr (.slice (if c = 1 then some ⟨g, o, none⟩ else some ⟨g, o + 1, none⟩) ds1.length (c - 1)) (X3 / 10 ^ (m + 1)) 300) := Lib.hid (num_cut ⟨ds1, h6, e1, fun x hx => h3 x (List.mem_cons_of_mem _ hx), by simp at h4; omega⟩ hl2 (fun ds' hd' => nread_len hd'))
                          have HUX : Hid (decide (X3 % 10 ^ (m + 1) ≠ 0) = (up || decide (0 < d))) := Lib.hid (by rw [HUP.out]; exact e2)
                          clear h1 h2 h3 h4 h5 h6 h7 h8 e1 e2 hlc HUP
                          cases up with
                          | true =>
                            go_wp2_with fail
                            rw [HW.out]
                            go_roundw
                            case rel => exact ⟨m + 1, true, rfl, rfl, HLE.out.1, Lib.hid (by rw [HUX.out]; rfl), HNX, S76⟩
                            case measure => exact HLE.out.2
                          | false =>
                            go_wp2_with fail
                            rw [HW.out]
                            go_roundw
                            case rel => exact ⟨m + 1, decide (0 < d), rfl, rfl, HLE.out.1, Lib.hid (by rw [HUX.out]; rfl), HNX, S76⟩
                            case measure => exact HLE.out.2
                      · have hme := dn_stop hlm hm
                        rw [hme] at HUP HN5
                        obtain ⟨E, hE⟩ : ∃ E, (-tt).toNat = E := ⟨_, rfl⟩
                        rw [hE] at HUP HN5 HX3
                        clear hme hm hE
                        cases up with
                        | true =>
                          have hx : ¬ X3 % 10 ^ E = 0 := of_decide_eq_true HUP.out.symm
                          have HNN : Hid (X3 / 10 ^ E * 1 + 1 = scaled X0 tt i) := Lib.hid (by rw [← HX3.out, byUp, if_neg hx, Nat.mul_one])
                          have NT : Calls Try.prog 35 #[u4, .int .i64 1, .int .i64 1] wr _ := num_times 1 1 HN5.out (by decide) (by decide) (by decide)
                          clear hx HX3 HUP
                          go_upto_region 36 with fail
                          refine NT.mono ?_
                          rintro e w10 ⟨v9, rfl, hn9, hb9⟩
                          have HN6 : Hid (Num w10 v9 (scaled X0 tt i) 301) := Lib.hid (by rw [← HNN.out]; exact hn9)
                          have S80 : Hid (Stays [(gr, Obj.cells #[.int .u64 0, .int .u64 0] 25 (0, 0))] w w10) := Lib.hid (stays_then S76.out hb9)
                          clear hn9 hb9 NT S76 HN5
                          go_upto_region 36 with fail
                          obtain ⟨ds, r1, r2, r3, r4⟩ := HN6.out
                          obtain ⟨NN, hNN⟩ : ∃ NN, scaled X0 tt i = NN := ⟨_, rfl⟩
                          rw [hNN] at HPW r2
                          obtain ⟨dl, hdl⟩ : ∃ dl, Lib.decDigits (valN ds) = dl := ⟨_, rfl⟩
                          have HTX : Hid (ntextL ds = dl) := Lib.hid ((ntext_dec ds r3).2.trans hdl)
                          obtain ⟨q1, q2, q3⟩ := dec_all (valN ds)
                          have q4 := dec_lead (valN ds)
                          have q5 := dl_len r3 r4
                          rw [hdl] at q1 q2 q3 q4 q5
                          rw [r2] at q2
                          obtain ⟨a3, b3, ok3, hwd, ua, ub, hy, hno⟩ := wide_yes NN
                          have HPX : Hid (wideV (valD dl) = .tuple #[.agg #[.int .u64 a3, .int .u64 b3], .bool ok3]) := Lib.hid (by rw [q2]; exact hwd)
                          have HR := Lib.hid r1
                          have HD9 := Lib.hid r3
                          have HDL : Hid (ds.length ≤ 1000) := Lib.hid (by omega)
                          have HQ1 := Lib.hid q1
                          have HQ3 := Lib.hid q3
                          have HQ4 := Lib.hid q4
                          have HQ5 := Lib.hid q5
                          have HUA := Lib.hid ua
                          have HUB := Lib.hid ub
                          have HY := Lib.hid hy
                          have HNO := Lib.hid hno
                          have HBW : Hid (Below w.heap.size w w10) := Lib.hid (stays_below S80.out)
                          have S90 : Hid (Stays [(gr, Obj.cells #[.int .u64 0, .int .u64 0] 25 (0, 0))] w10 w10) := Lib.hid (stays_cons (stays_head S80.out) (stays_nil (Below.refl _ _)))
                          clear r1 r2 r3 r4 q1 q2 q3 q4 q5 hwd ua ub hy hno hNN hdl S80 HN6
                          refine reg_plain (Stays [(gr, Obj.cells #[.int .u64 0, .int .u64 0] 25 (0, 0))] w10) (Turns [(gr, Obj.cells #[.int .u64 0, .int .u64 0] 25 (0, 0))] w10) (kdOf [(1, .make (fun _ => callM (.string ⟨dl.toArray⟩))), (2, .make (fun _ => callM (.tuple #[.agg #[.int .u64 a3, .int .u64 b3], .bool ok3]))), (6, .make (fun _ => allocM (.cells #[.int .u64 0, .int .u64 0] 25))), (7, .touch)]) none0 (stays_good _ _) (S90.out) (holds0 _) ?_
                          refine g_look rfl rfl ?_ (fun w' hC => ?_) ?_
                          rotate_left
                          · go_simp
                            first | done | rfl
                          simp only [Act.put, sa, sb, sc]
                          refine g_call (stays_good _ _) (.string ⟨dl.toArray⟩) rfl rfl (fun w' hC => ?_) ?_
                          · go_simp
                            refine (ntext_any _ _ ds (nread_below HR.out (stays_below hC)) HD9.out HDL.out).mono (fun e w2 h => ?_)
                            obtain ⟨h1, h2⟩ := h
                            rw [HTX.out] at h1
                            exact gives h1 h2
                          simp only [Act.put, sa, sb, sc]
                          refine g_call (stays_good _ _) (.tuple #[.agg #[.int .u64 a3, .int .u64 b3], .bool ok3]) rfl rfl (fun w' hC => ?_) ?_
                          · clear hC
                            go_simp
                            refine (rparse_any _ dl HQ3.out HQ1.out HQ4.out HQ5.out).mono (fun e w2 h => ?_)
                            obtain ⟨h1, h2⟩ := h
                            rw [HPX.out] at h1
                            exact gives h1 h2
                          simp only [Act.put, sa, sb, sc]
                          refine g_look rfl rfl ?_ (fun w' hC => ?_) ?_
                          rotate_left
                          · go_simp
                            first | done | rfl
                          simp only [Act.put, sa, sb, sc]
                          refine g_look rfl rfl ?_ (fun w' hC => ?_) ?_
                          rotate_left
                          · go_simp
                            first | done | rfl
                          simp only [Act.put, sa, sb, sc]
                          refine g_look rfl rfl ?_ (fun w' hC => ?_) ?_
                          rotate_left
                          · go_simp
                            first | done | rfl
                          simp only [Act.put, sa, sb, sc]
                          refine g_alloc (stays_good _ _) (.cells #[.int .u64 0, .int .u64 0] 25) rfl rfl (fun w' hC => ?_) (fun ga ta na => ?_)
                          · clear hC
                            go_simp
                            first | done | rfl | exact ⟨rfl, rfl⟩
                          clear na
                          replace ta := Lib.hid ta
                          simp only [Act.put, sa, sb, sc]
                          refine g_store ga (some 6) 25 25 _ _ #[.int .u64 0, .int .u64 0] #[.int .u64 a3, .int .u64 b3] rfl rfl rfl rfl rfl (own_new _ _ _ _) (by kernel_rfl) (rfl) (rfl) (one25 _ _) ?_
                          simp only [Act.put]
                          refine g_look rfl rfl ?_ (fun w' hC => ?_) ?_
                          rotate_left
                          · go_simp
                            first | done | rfl
                          simp only [Act.put, sa, sb, sc]
                          refine g_end ?_
                          intro w91 hC91 hh91
                          have S91 : Hid (Stays [(gr, Obj.cells #[.int .u64 0, .int .u64 0] 25 (0, 0)), (ga, Obj.cells #[.int .u64 a3, .int .u64 b3] 25 (0, 0))] w10 w91) := Lib.hid (stays_cons (stays_row hC91 (List.mem_cons_self ..)) (stays_cons ((hh91 _ _ _ (own_new _ _ _ _)).1) (stays_nil (stays_below hC91))))
                          clear S90
                          clear hC91 hh91
                          have S95 : Hid (Stays [(gr, Obj.cells #[.int .u64 0, .int .u64 0] 25 (0, 0)), (ga, Obj.cells #[.int .u64 a3, .int .u64 b3] 25 (0, 0))] w w91) := Lib.hid ⟨S91.out.1, b_then HBW.out S91.out.2⟩
                          clear S91
                          cases ok3 with
                          | false =>
                            have HNN := Lib.hid (HNO.out rfl)
                            go_upto_region 37 with fail
                            refine reg_plain (Stays [(gr, Obj.cells #[.int .u64 0, .int .u64 0] 25 (0, 0)), (ga, Obj.cells #[.int .u64 a3, .int .u64 b3] 25 (0, 0))] w) (Turns [(gr, Obj.cells #[.int .u64 0, .int .u64 0] 25 (0, 0)), (ga, Obj.cells #[.int .u64 a3, .int .u64 b3] 25 (0, 0))] w) (kdOf []) none0 (stays_good _ _) (S95.out) (holds0 _) ?_
                            refine g_look rfl rfl ?_ (fun w' hC => ?_) ?_
                            rotate_left
                            · go_simp
                              first | done | rfl
                            simp only [Act.put, sa, sb, sc]
                            refine g_look rfl rfl ?_ (fun w' hC => ?_) ?_
                            rotate_left
                            · go_simp
                              first | done | rfl
                            simp only [Act.put, sa, sb, sc]
                            refine g_look rfl rfl ?_ (fun w' hC => ?_) ?_
                            rotate_left
                            · go_simp
                              first | done | rfl
                            simp only [Act.put, sa, sb, sc]
                            first | (refine g_skip rfl ?_) | (refine g_load 25 _ ga 25 #[.int .u64 a3, .int .u64 b3] (0, 0) _ rfl rfl rfl rfl (fun w' hC => stays_row hC (List.mem_cons_of_mem _ (List.mem_cons_self ..))) Try.underlying25 rfl (rfl) ?_)
                            simp only [Act.put, sa, sb, sc]
                            refine g_skip rfl ?_
                            simp only [Act.put, sa, sb, sc]
                            first
                            | (refine g_skip rfl ?_)
                            | (refine g_look rfl rfl ?_ (fun w' hC => ?_) ?_
                               rotate_left
                               · go_simp
                                 first | done | rfl)
                            simp only [Act.put, sa, sb, sc]
                            refine g_look rfl rfl ?_ (fun w' hC => ?_) ?_
                            rotate_left
                            · go_simp
                              first | done | rfl
                            simp only [Act.put, sa, sb, sc]
                            refine g_end ?_
                            intro w96 hC96 hh96
                            have S96 : Hid (Stays [(gr, Obj.cells #[.int .u64 0, .int .u64 0] 25 (0, 0)), (ga, Obj.cells #[.int .u64 a3, .int .u64 b3] 25 (0, 0))] w w96) := Lib.hid (stays_cons (stays_row hC96 (List.mem_cons_self ..)) (stays_cons (stays_row hC96 (List.mem_cons_of_mem _ (List.mem_cons_self ..))) (stays_nil (stays_below hC96))))
                            clear S95
                            clear hC96 hh96
                            go_upto_region 38 with fail
                            refine reg_plain (Stays [(ga, Obj.cells #[.int .u64 a3, .int .u64 b3] 25 (0, 0))] w) (Turns [(ga, Obj.cells #[.int .u64 a3, .int .u64 b3] 25 (0, 0))] w) (kdOf [(1, .touch)]) (Own.has none0 gr (Obj.cells #[.int .u64 0, .int .u64 0] 25 (0, 0))) (stays_good _ _) (stays_cons (stays_row S96.out (List.mem_cons_of_mem _ (List.mem_cons_self ..))) (stays_nil (stays_below S96.out))) (holds_has (holds0 _) (stays_row S96.out (List.mem_cons_self ..)) (turns_cons (turns_head ta.out).symm (turns_nil tr.out.2))) ?_
                            refine g_look rfl rfl ?_ (fun w' hC => ?_) ?_
                            rotate_left
                            · go_simp
                              first | done | rfl
                            simp only [Act.put, sa, sb, sc]
                            refine g_store gr none 25 25 _ _ #[.int .u64 0, .int .u64 0] #[.int .u64 0, .int .u64 0] rfl rfl rfl rfl rfl (has_same _ _ _) (by kernel_rfl) (rfl) (rfl) (one25 _ _) ?_
                            simp only [Act.put]
                            refine g_look rfl rfl ?_ (fun w' hC => ?_) ?_
                            rotate_left
                            · go_simp
                              first | done | rfl
                            simp only [Act.put, sa, sb, sc]
                            refine g_end ?_
                            intro w97 hC97 hh97
                            have S97 : Hid (Stays [(gr, Obj.cells #[.int .u64 0, .int .u64 0] 25 (0, 0)), (ga, Obj.cells #[.int .u64 a3, .int .u64 b3] 25 (0, 0))] w w97) := Lib.hid (stays_cons ((hh97 _ _ _ (own_new _ _ _ _)).1) (stays_cons (stays_row hC97 (List.mem_cons_self ..)) (stays_nil (stays_below hC97))))
                            clear S96
                            clear hC97 hh97
                            go_wp2_with fail
                            refine bodyPost_ret (v := .tuple #[.agg #[.int .u64 0, .int .u64 0], .int .i64 15]) (results_err9 (stays_head S97.out)) rfl ⟨congrArg Ending.returned (by rw [HPW.out, if_neg (no_le HNN.out)]; rfl), stays_below S97.out⟩
                          | true =>
                            have HYY := Lib.hid (HY.out rfl)
                            by_cases hf : wval a3 b3 ≤ Most
                            · have HF : Hid (decide (wval a3 b3 ≤ Most) = true) := Lib.hid (decide_eq_true hf)
                              clear hf
                              go_upto_region 37 with fail
                              refine reg_plain (Stays [(gr, Obj.cells #[.int .u64 0, .int .u64 0] 25 (0, 0)), (ga, Obj.cells #[.int .u64 a3, .int .u64 b3] 25 (0, 0))] w) (Turns [(gr, Obj.cells #[.int .u64 0, .int .u64 0] 25 (0, 0)), (ga, Obj.cells #[.int .u64 a3, .int .u64 b3] 25 (0, 0))] w) (kdOf [(4, .make (fun _ => callM (.bool true)))]) none0 (stays_good _ _) (S95.out) (holds0 _) ?_
                              refine g_look rfl rfl ?_ (fun w' hC => ?_) ?_
                              rotate_left
                              · go_simp
                                first | done | rfl
                              simp only [Act.put, sa, sb, sc]
                              refine g_look rfl rfl ?_ (fun w' hC => ?_) ?_
                              rotate_left
                              · go_simp
                                first | done | rfl
                              simp only [Act.put, sa, sb, sc]
                              refine g_look rfl rfl ?_ (fun w' hC => ?_) ?_
                              rotate_left
                              · go_simp
                                first | done | rfl
                              simp only [Act.put, sa, sb, sc]
                              first | (refine g_skip rfl ?_) | (refine g_load 25 _ ga 25 #[.int .u64 a3, .int .u64 b3] (0, 0) _ rfl rfl rfl rfl (fun w' hC => stays_row hC (List.mem_cons_of_mem _ (List.mem_cons_self ..))) Try.underlying25 rfl (rfl) ?_)
                              simp only [Act.put, sa, sb, sc]
                              refine g_call (stays_good _ _) (.bool true) rfl rfl (fun w' hC => ?_) ?_
                              · clear hC
                                go_simp
                                refine (dfits_any _ a3 b3 HUA.out HUB.out).mono (fun e w2 h => ?_)
                                obtain ⟨h1, h2⟩ := h
                                rw [HF.out] at h1
                                exact gives h1 h2
                              simp only [Act.put, sa, sb, sc]
                              first
                              | (refine g_skip rfl ?_)
                              | (refine g_look rfl rfl ?_ (fun w' hC => ?_) ?_
                                 rotate_left
                                 · go_simp
                                   first | done | rfl)
                              simp only [Act.put, sa, sb, sc]
                              refine g_look rfl rfl ?_ (fun w' hC => ?_) ?_
                              rotate_left
                              · go_simp
                                first | done | rfl
                              simp only [Act.put, sa, sb, sc]
                              refine g_end ?_
                              intro w96 hC96 hh96
                              have S96 : Hid (Stays [(gr, Obj.cells #[.int .u64 0, .int .u64 0] 25 (0, 0)), (ga, Obj.cells #[.int .u64 a3, .int .u64 b3] 25 (0, 0))] w w96) := Lib.hid (stays_cons (stays_row hC96 (List.mem_cons_self ..)) (stays_cons (stays_row hC96 (List.mem_cons_of_mem _ (List.mem_cons_self ..))) (stays_nil (stays_below hC96))))
                              clear S95
                              clear hC96 hh96
                              go_upto_region 39 with fail
                              refine reg_plain (Stays [(ga, Obj.cells #[.int .u64 a3, .int .u64 b3] 25 (0, 0))] w) (Turns [(ga, Obj.cells #[.int .u64 a3, .int .u64 b3] 25 (0, 0))] w) (kdOf [(1, .touch)]) (Own.has none0 gr (Obj.cells #[.int .u64 0, .int .u64 0] 25 (0, 0))) (stays_good _ _) (stays_cons (stays_row S96.out (List.mem_cons_of_mem _ (List.mem_cons_self ..))) (stays_nil (stays_below S96.out))) (holds_has (holds0 _) (stays_row S96.out (List.mem_cons_self ..)) (turns_cons (turns_head ta.out).symm (turns_nil tr.out.2))) ?_
                              (refine g_load 25 _ ga 25 #[.int .u64 a3, .int .u64 b3] (0, 0) _ rfl rfl rfl rfl (fun w' hC => stays_row hC (List.mem_cons_self ..)) Try.underlying25 rfl (rfl) ?_)
                              simp only [Act.put, sa, sb, sc]
                              refine g_store gr none 25 25 _ _ #[.int .u64 0, .int .u64 0] #[.int .u64 a3, .int .u64 b3] rfl rfl rfl rfl rfl (has_same _ _ _) (by kernel_rfl) (rfl) (rfl) (one25 _ _) ?_
                              simp only [Act.put]
                              refine g_look rfl rfl ?_ (fun w' hC => ?_) ?_
                              rotate_left
                              · go_simp
                                first | done | rfl
                              simp only [Act.put, sa, sb, sc]
                              refine g_end ?_
                              intro w97 hC97 hh97
                              have S97 : Hid (Stays [(gr, Obj.cells #[.int .u64 a3, .int .u64 b3] 25 (0, 0)), (ga, Obj.cells #[.int .u64 a3, .int .u64 b3] 25 (0, 0))] w w97) := Lib.hid (stays_cons ((hh97 _ _ _ (own_new _ _ _ _)).1) (stays_cons (stays_row hC97 (List.mem_cons_self ..)) (stays_nil (stays_below hC97))))
                              clear S96
                              clear hC97 hh97
                              go_wp2_with fail
                              refine bodyPost_ret (v := .tuple #[.agg #[.int .u64 a3, .int .u64 b3], .int .i64 0]) (results_err9 (stays_row S97.out (List.mem_cons_self ..))) rfl ⟨congrArg Ending.returned (by rw [HPW.out, if_pos (by have := of_decide_eq_true HF.out; rw [← HYY.out]; exact this), ← wval_wn HUA.out HUB.out HYY.out]; rfl), stays_below S97.out⟩
                            · have HF : Hid (decide (wval a3 b3 ≤ Most) = false) := Lib.hid (decide_eq_false hf)
                              clear hf
                              go_upto_region 37 with fail
                              refine reg_plain (Stays [(gr, Obj.cells #[.int .u64 0, .int .u64 0] 25 (0, 0)), (ga, Obj.cells #[.int .u64 a3, .int .u64 b3] 25 (0, 0))] w) (Turns [(gr, Obj.cells #[.int .u64 0, .int .u64 0] 25 (0, 0)), (ga, Obj.cells #[.int .u64 a3, .int .u64 b3] 25 (0, 0))] w) (kdOf [(4, .make (fun _ => callM (.bool false)))]) none0 (stays_good _ _) (S95.out) (holds0 _) ?_
                              refine g_look rfl rfl ?_ (fun w' hC => ?_) ?_
                              rotate_left
                              · go_simp
                                first | done | rfl
                              simp only [Act.put, sa, sb, sc]
                              refine g_look rfl rfl ?_ (fun w' hC => ?_) ?_
                              rotate_left
                              · go_simp
                                first | done | rfl
                              simp only [Act.put, sa, sb, sc]
                              refine g_look rfl rfl ?_ (fun w' hC => ?_) ?_
                              rotate_left
                              · go_simp
                                first | done | rfl
                              simp only [Act.put, sa, sb, sc]
                              first | (refine g_skip rfl ?_) | (refine g_load 25 _ ga 25 #[.int .u64 a3, .int .u64 b3] (0, 0) _ rfl rfl rfl rfl (fun w' hC => stays_row hC (List.mem_cons_of_mem _ (List.mem_cons_self ..))) Try.underlying25 rfl (rfl) ?_)
                              simp only [Act.put, sa, sb, sc]
                              refine g_call (stays_good _ _) (.bool false) rfl rfl (fun w' hC => ?_) ?_
                              · clear hC
                                go_simp
                                refine (dfits_any _ a3 b3 HUA.out HUB.out).mono (fun e w2 h => ?_)
                                obtain ⟨h1, h2⟩ := h
                                rw [HF.out] at h1
                                exact gives h1 h2
                              simp only [Act.put, sa, sb, sc]
                              first
                              | (refine g_skip rfl ?_)
                              | (refine g_look rfl rfl ?_ (fun w' hC => ?_) ?_
                                 rotate_left
                                 · go_simp
                                   first | done | rfl)
                              simp only [Act.put, sa, sb, sc]
                              refine g_look rfl rfl ?_ (fun w' hC => ?_) ?_
                              rotate_left
                              · go_simp
                                first | done | rfl
                              simp only [Act.put, sa, sb, sc]
                              refine g_end ?_
                              intro w96 hC96 hh96
                              have S96 : Hid (Stays [(gr, Obj.cells #[.int .u64 0, .int .u64 0] 25 (0, 0)), (ga, Obj.cells #[.int .u64 a3, .int .u64 b3] 25 (0, 0))] w w96) := Lib.hid (stays_cons (stays_row hC96 (List.mem_cons_self ..)) (stays_cons (stays_row hC96 (List.mem_cons_of_mem _ (List.mem_cons_self ..))) (stays_nil (stays_below hC96))))
                              clear S95
                              clear hC96 hh96
                              go_upto_region 38 with fail
                              refine reg_plain (Stays [(ga, Obj.cells #[.int .u64 a3, .int .u64 b3] 25 (0, 0))] w) (Turns [(ga, Obj.cells #[.int .u64 a3, .int .u64 b3] 25 (0, 0))] w) (kdOf [(1, .touch)]) (Own.has none0 gr (Obj.cells #[.int .u64 0, .int .u64 0] 25 (0, 0))) (stays_good _ _) (stays_cons (stays_row S96.out (List.mem_cons_of_mem _ (List.mem_cons_self ..))) (stays_nil (stays_below S96.out))) (holds_has (holds0 _) (stays_row S96.out (List.mem_cons_self ..)) (turns_cons (turns_head ta.out).symm (turns_nil tr.out.2))) ?_
                              refine g_look rfl rfl ?_ (fun w' hC => ?_) ?_
                              rotate_left
                              · go_simp
                                first | done | rfl
                              simp only [Act.put, sa, sb, sc]
                              refine g_store gr none 25 25 _ _ #[.int .u64 0, .int .u64 0] #[.int .u64 0, .int .u64 0] rfl rfl rfl rfl rfl (has_same _ _ _) (by kernel_rfl) (rfl) (rfl) (one25 _ _) ?_
                              simp only [Act.put]
                              refine g_look rfl rfl ?_ (fun w' hC => ?_) ?_
                              rotate_left
                              · go_simp
                                first | done | rfl
                              simp only [Act.put, sa, sb, sc]
                              refine g_end ?_
                              intro w97 hC97 hh97
                              have S97 : Hid (Stays [(gr, Obj.cells #[.int .u64 0, .int .u64 0] 25 (0, 0)), (ga, Obj.cells #[.int .u64 a3, .int .u64 b3] 25 (0, 0))] w w97) := Lib.hid (stays_cons ((hh97 _ _ _ (own_new _ _ _ _)).1) (stays_cons (stays_row hC97 (List.mem_cons_self ..)) (stays_nil (stays_below hC97))))
                              clear S96
                              clear hC97 hh97
                              go_wp2_with fail
                              refine bodyPost_ret (v := .tuple #[.agg #[.int .u64 0, .int .u64 0], .int .i64 15]) (results_err9 (stays_head S97.out)) rfl ⟨congrArg Ending.returned (by rw [HPW.out, if_neg (by have := of_decide_eq_false HF.out; rw [← HYY.out]; exact this)]; rfl), stays_below S97.out⟩
                        | false =>
                          have hx : X3 % 10 ^ E = 0 := Decidable.byContradiction fun h => by
                            have h2 : false = true := HUP.out.trans (decide_eq_true h)
                            cases h2
                          have HN6 : Hid (Num wr u4 (scaled X0 tt i) 301) := Lib.hid (by rw [← HX3.out, byUp, if_pos hx, Nat.add_zero]; exact num_mono HN5.out (by decide))
                          have S80 := S76
                          clear hx HX3 HUP S76 HN5
                          go_upto_region 36 with fail
                          obtain ⟨ds, r1, r2, r3, r4⟩ := HN6.out
                          obtain ⟨NN, hNN⟩ : ∃ NN, scaled X0 tt i = NN := ⟨_, rfl⟩
                          rw [hNN] at HPW r2
                          obtain ⟨dl, hdl⟩ : ∃ dl, Lib.decDigits (valN ds) = dl := ⟨_, rfl⟩
                          have HTX : Hid (ntextL ds = dl) := Lib.hid ((ntext_dec ds r3).2.trans hdl)
                          obtain ⟨q1, q2, q3⟩ := dec_all (valN ds)
                          have q4 := dec_lead (valN ds)
                          have q5 := dl_len r3 r4
                          rw [hdl] at q1 q2 q3 q4 q5
                          rw [r2] at q2
                          obtain ⟨a3, b3, ok3, hwd, ua, ub, hy, hno⟩ := wide_yes NN
                          have HPX : Hid (wideV (valD dl) = .tuple #[.agg #[.int .u64 a3, .int .u64 b3], .bool ok3]) := Lib.hid (by rw [q2]; exact hwd)
                          have HR := Lib.hid r1
                          have HD9 := Lib.hid r3
                          have HDL : Hid (ds.length ≤ 1000) := Lib.hid (by omega)
                          have HQ1 := Lib.hid q1
                          have HQ3 := Lib.hid q3
                          have HQ4 := Lib.hid q4
                          have HQ5 := Lib.hid q5
                          have HUA := Lib.hid ua
                          have HUB := Lib.hid ub
                          have HY := Lib.hid hy
                          have HNO := Lib.hid hno
                          have HBW : Hid (Below w.heap.size w wr) := Lib.hid (stays_below S80.out)
                          have S90 : Hid (Stays [(gr, Obj.cells #[.int .u64 0, .int .u64 0] 25 (0, 0))] wr wr) := Lib.hid (stays_cons (stays_head S80.out) (stays_nil (Below.refl _ _)))
                          clear r1 r2 r3 r4 q1 q2 q3 q4 q5 hwd ua ub hy hno hNN hdl S80 HN6
                          refine reg_plain (Stays [(gr, Obj.cells #[.int .u64 0, .int .u64 0] 25 (0, 0))] wr) (Turns [(gr, Obj.cells #[.int .u64 0, .int .u64 0] 25 (0, 0))] wr) (kdOf [(1, .make (fun _ => callM (.string ⟨dl.toArray⟩))), (2, .make (fun _ => callM (.tuple #[.agg #[.int .u64 a3, .int .u64 b3], .bool ok3]))), (6, .make (fun _ => allocM (.cells #[.int .u64 0, .int .u64 0] 25))), (7, .touch)]) none0 (stays_good _ _) (S90.out) (holds0 _) ?_
                          refine g_look rfl rfl ?_ (fun w' hC => ?_) ?_
                          rotate_left
                          · go_simp
                            first | done | rfl
                          simp only [Act.put, sa, sb, sc]
                          refine g_call (stays_good _ _) (.string ⟨dl.toArray⟩) rfl rfl (fun w' hC => ?_) ?_
                          · go_simp
                            refine (ntext_any _ _ ds (nread_below HR.out (stays_below hC)) HD9.out HDL.out).mono (fun e w2 h => ?_)
                            obtain ⟨h1, h2⟩ := h
                            rw [HTX.out] at h1
                            exact gives h1 h2
                          simp only [Act.put, sa, sb, sc]
                          refine g_call (stays_good _ _) (.tuple #[.agg #[.int .u64 a3, .int .u64 b3], .bool ok3]) rfl rfl (fun w' hC => ?_) ?_
                          · clear hC
                            go_simp
                            refine (rparse_any _ dl HQ3.out HQ1.out HQ4.out HQ5.out).mono (fun e w2 h => ?_)
                            obtain ⟨h1, h2⟩ := h
                            rw [HPX.out] at h1
                            exact gives h1 h2
                          simp only [Act.put, sa, sb, sc]
                          refine g_look rfl rfl ?_ (fun w' hC => ?_) ?_
                          rotate_left
                          · go_simp
                            first | done | rfl
                          simp only [Act.put, sa, sb, sc]
                          refine g_look rfl rfl ?_ (fun w' hC => ?_) ?_
                          rotate_left
                          · go_simp
                            first | done | rfl
                          simp only [Act.put, sa, sb, sc]
                          refine g_look rfl rfl ?_ (fun w' hC => ?_) ?_
                          rotate_left
                          · go_simp
                            first | done | rfl
                          simp only [Act.put, sa, sb, sc]
                          refine g_alloc (stays_good _ _) (.cells #[.int .u64 0, .int .u64 0] 25) rfl rfl (fun w' hC => ?_) (fun ga ta na => ?_)
                          · clear hC
                            go_simp
                            first | done | rfl | exact ⟨rfl, rfl⟩
                          clear na
                          replace ta := Lib.hid ta
                          simp only [Act.put, sa, sb, sc]
                          refine g_store ga (some 6) 25 25 _ _ #[.int .u64 0, .int .u64 0] #[.int .u64 a3, .int .u64 b3] rfl rfl rfl rfl rfl (own_new _ _ _ _) (by kernel_rfl) (rfl) (rfl) (one25 _ _) ?_
                          simp only [Act.put]
                          refine g_look rfl rfl ?_ (fun w' hC => ?_) ?_
                          rotate_left
                          · go_simp
                            first | done | rfl
                          simp only [Act.put, sa, sb, sc]
                          refine g_end ?_
                          intro w91 hC91 hh91
                          have S91 : Hid (Stays [(gr, Obj.cells #[.int .u64 0, .int .u64 0] 25 (0, 0)), (ga, Obj.cells #[.int .u64 a3, .int .u64 b3] 25 (0, 0))] wr w91) := Lib.hid (stays_cons (stays_row hC91 (List.mem_cons_self ..)) (stays_cons ((hh91 _ _ _ (own_new _ _ _ _)).1) (stays_nil (stays_below hC91))))
                          clear S90
                          clear hC91 hh91
                          have S95 : Hid (Stays [(gr, Obj.cells #[.int .u64 0, .int .u64 0] 25 (0, 0)), (ga, Obj.cells #[.int .u64 a3, .int .u64 b3] 25 (0, 0))] w w91) := Lib.hid ⟨S91.out.1, b_then HBW.out S91.out.2⟩
                          clear S91
                          cases ok3 with
                          | false =>
                            have HNN := Lib.hid (HNO.out rfl)
                            go_upto_region 37 with fail
                            refine reg_plain (Stays [(gr, Obj.cells #[.int .u64 0, .int .u64 0] 25 (0, 0)), (ga, Obj.cells #[.int .u64 a3, .int .u64 b3] 25 (0, 0))] w) (Turns [(gr, Obj.cells #[.int .u64 0, .int .u64 0] 25 (0, 0)), (ga, Obj.cells #[.int .u64 a3, .int .u64 b3] 25 (0, 0))] w) (kdOf []) none0 (stays_good _ _) (S95.out) (holds0 _) ?_
                            refine g_look rfl rfl ?_ (fun w' hC => ?_) ?_
                            rotate_left
                            · go_simp
                              first | done | rfl
                            simp only [Act.put, sa, sb, sc]
                            refine g_look rfl rfl ?_ (fun w' hC => ?_) ?_
                            rotate_left
                            · go_simp
                              first | done | rfl
                            simp only [Act.put, sa, sb, sc]
                            refine g_look rfl rfl ?_ (fun w' hC => ?_) ?_
                            rotate_left
                            · go_simp
                              first | done | rfl
                            simp only [Act.put, sa, sb, sc]
                            first | (refine g_skip rfl ?_) | (refine g_load 25 _ ga 25 #[.int .u64 a3, .int .u64 b3] (0, 0) _ rfl rfl rfl rfl (fun w' hC => stays_row hC (List.mem_cons_of_mem _ (List.mem_cons_self ..))) Try.underlying25 rfl (rfl) ?_)
                            simp only [Act.put, sa, sb, sc]
                            refine g_skip rfl ?_
                            simp only [Act.put, sa, sb, sc]
                            first
                            | (refine g_skip rfl ?_)
                            | (refine g_look rfl rfl ?_ (fun w' hC => ?_) ?_
                               rotate_left
                               · go_simp
                                 first | done | rfl)
                            simp only [Act.put, sa, sb, sc]
                            refine g_look rfl rfl ?_ (fun w' hC => ?_) ?_
                            rotate_left
                            · go_simp
                              first | done | rfl
                            simp only [Act.put, sa, sb, sc]
                            refine g_end ?_
                            intro w96 hC96 hh96
                            have S96 : Hid (Stays [(gr, Obj.cells #[.int .u64 0, .int .u64 0] 25 (0, 0)), (ga, Obj.cells #[.int .u64 a3, .int .u64 b3] 25 (0, 0))] w w96) := Lib.hid (stays_cons (stays_row hC96 (List.mem_cons_self ..)) (stays_cons (stays_row hC96 (List.mem_cons_of_mem _ (List.mem_cons_self ..))) (stays_nil (stays_below hC96))))
                            clear S95
                            clear hC96 hh96
                            go_upto_region 38 with fail
                            refine reg_plain (Stays [(ga, Obj.cells #[.int .u64 a3, .int .u64 b3] 25 (0, 0))] w) (Turns [(ga, Obj.cells #[.int .u64 a3, .int .u64 b3] 25 (0, 0))] w) (kdOf [(1, .touch)]) (Own.has none0 gr (Obj.cells #[.int .u64 0, .int .u64 0] 25 (0, 0))) (stays_good _ _) (stays_cons (stays_row S96.out (List.mem_cons_of_mem _ (List.mem_cons_self ..))) (stays_nil (stays_below S96.out))) (holds_has (holds0 _) (stays_row S96.out (List.mem_cons_self ..)) (turns_cons (turns_head ta.out).symm (turns_nil tr.out.2))) ?_
                            refine g_look rfl rfl ?_ (fun w' hC => ?_) ?_
                            rotate_left
                            · go_simp
                              first | done | rfl
                            simp only [Act.put, sa, sb, sc]
                            refine g_store gr none 25 25 _ _ #[.int .u64 0, .int .u64 0] #[.int .u64 0, .int .u64 0] rfl rfl rfl rfl rfl (has_same _ _ _) (by kernel_rfl) (rfl) (rfl) (one25 _ _) ?_
                            simp only [Act.put]
                            refine g_look rfl rfl ?_ (fun w' hC => ?_) ?_
                            rotate_left
                            · go_simp
                              first | done | rfl
                            simp only [Act.put, sa, sb, sc]
                            refine g_end ?_
                            intro w97 hC97 hh97
                            have S97 : Hid (Stays [(gr, Obj.cells #[.int .u64 0, .int .u64 0] 25 (0, 0)), (ga, Obj.cells #[.int .u64 a3, .int .u64 b3] 25 (0, 0))] w w97) := Lib.hid (stays_cons ((hh97 _ _ _ (own_new _ _ _ _)).1) (stays_cons (stays_row hC97 (List.mem_cons_self ..)) (stays_nil (stays_below hC97))))
                            clear S96
                            clear hC97 hh97
                            go_wp2_with fail
                            refine bodyPost_ret (v := .tuple #[.agg #[.int .u64 0, .int .u64 0], .int .i64 15]) (results_err9 (stays_head S97.out)) rfl ⟨congrArg Ending.returned (by rw [HPW.out, if_neg (no_le HNN.out)]; rfl), stays_below S97.out⟩
                          | true =>
                            have HYY := Lib.hid (HY.out rfl)
                            by_cases hf : wval a3 b3 ≤ Most
                            · have HF : Hid (decide (wval a3 b3 ≤ Most) = true) := Lib.hid (decide_eq_true hf)
                              clear hf
                              go_upto_region 37 with fail
                              refine reg_plain (Stays [(gr, Obj.cells #[.int .u64 0, .int .u64 0] 25 (0, 0)), (ga, Obj.cells #[.int .u64 a3, .int .u64 b3] 25 (0, 0))] w) (Turns [(gr, Obj.cells #[.int .u64 0, .int .u64 0] 25 (0, 0)), (ga, Obj.cells #[.int .u64 a3, .int .u64 b3] 25 (0, 0))] w) (kdOf [(4, .make (fun _ => callM (.bool true)))]) none0 (stays_good _ _) (S95.out) (holds0 _) ?_
                              refine g_look rfl rfl ?_ (fun w' hC => ?_) ?_
                              rotate_left
                              · go_simp
                                first | done | rfl
                              simp only [Act.put, sa, sb, sc]
                              refine g_look rfl rfl ?_ (fun w' hC => ?_) ?_
                              rotate_left
                              · go_simp
                                first | done | rfl
                              simp only [Act.put, sa, sb, sc]
                              refine g_look rfl rfl ?_ (fun w' hC => ?_) ?_
                              rotate_left
                              · go_simp
                                first | done | rfl
                              simp only [Act.put, sa, sb, sc]
                              first | (refine g_skip rfl ?_) | (refine g_load 25 _ ga 25 #[.int .u64 a3, .int .u64 b3] (0, 0) _ rfl rfl rfl rfl (fun w' hC => stays_row hC (List.mem_cons_of_mem _ (List.mem_cons_self ..))) Try.underlying25 rfl (rfl) ?_)
                              simp only [Act.put, sa, sb, sc]
                              refine g_call (stays_good _ _) (.bool true) rfl rfl (fun w' hC => ?_) ?_
                              · clear hC
                                go_simp
                                refine (dfits_any _ a3 b3 HUA.out HUB.out).mono (fun e w2 h => ?_)
                                obtain ⟨h1, h2⟩ := h
                                rw [HF.out] at h1
                                exact gives h1 h2
                              simp only [Act.put, sa, sb, sc]
                              first
                              | (refine g_skip rfl ?_)
                              | (refine g_look rfl rfl ?_ (fun w' hC => ?_) ?_
                                 rotate_left
                                 · go_simp
                                   first | done | rfl)
                              simp only [Act.put, sa, sb, sc]
                              refine g_look rfl rfl ?_ (fun w' hC => ?_) ?_
                              rotate_left
                              · go_simp
                                first | done | rfl
                              simp only [Act.put, sa, sb, sc]
                              refine g_end ?_
                              intro w96 hC96 hh96
                              have S96 : Hid (Stays [(gr, Obj.cells #[.int .u64 0, .int .u64 0] 25 (0, 0)), (ga, Obj.cells #[.int .u64 a3, .int .u64 b3] 25 (0, 0))] w w96) := Lib.hid (stays_cons (stays_row hC96 (List.mem_cons_self ..)) (stays_cons (stays_row hC96 (List.mem_cons_of_mem _ (List.mem_cons_self ..))) (stays_nil (stays_below hC96))))
                              clear S95
                              clear hC96 hh96
                              go_upto_region 39 with fail
                              refine reg_plain (Stays [(ga, Obj.cells #[.int .u64 a3, .int .u64 b3] 25 (0, 0))] w) (Turns [(ga, Obj.cells #[.int .u64 a3, .int .u64 b3] 25 (0, 0))] w) (kdOf [(1, .touch)]) (Own.has none0 gr (Obj.cells #[.int .u64 0, .int .u64 0] 25 (0, 0))) (stays_good _ _) (stays_cons (stays_row S96.out (List.mem_cons_of_mem _ (List.mem_cons_self ..))) (stays_nil (stays_below S96.out))) (holds_has (holds0 _) (stays_row S96.out (List.mem_cons_self ..)) (turns_cons (turns_head ta.out).symm (turns_nil tr.out.2))) ?_
                              (refine g_load 25 _ ga 25 #[.int .u64 a3, .int .u64 b3] (0, 0) _ rfl rfl rfl rfl (fun w' hC => stays_row hC (List.mem_cons_self ..)) Try.underlying25 rfl (rfl) ?_)
                              simp only [Act.put, sa, sb, sc]
                              refine g_store gr none 25 25 _ _ #[.int .u64 0, .int .u64 0] #[.int .u64 a3, .int .u64 b3] rfl rfl rfl rfl rfl (has_same _ _ _) (by kernel_rfl) (rfl) (rfl) (one25 _ _) ?_
                              simp only [Act.put]
                              refine g_look rfl rfl ?_ (fun w' hC => ?_) ?_
                              rotate_left
                              · go_simp
                                first | done | rfl
                              simp only [Act.put, sa, sb, sc]
                              refine g_end ?_
                              intro w97 hC97 hh97
                              have S97 : Hid (Stays [(gr, Obj.cells #[.int .u64 a3, .int .u64 b3] 25 (0, 0)), (ga, Obj.cells #[.int .u64 a3, .int .u64 b3] 25 (0, 0))] w w97) := Lib.hid (stays_cons ((hh97 _ _ _ (own_new _ _ _ _)).1) (stays_cons (stays_row hC97 (List.mem_cons_self ..)) (stays_nil (stays_below hC97))))
                              clear S96
                              clear hC97 hh97
                              go_wp2_with fail
                              refine bodyPost_ret (v := .tuple #[.agg #[.int .u64 a3, .int .u64 b3], .int .i64 0]) (results_err9 (stays_row S97.out (List.mem_cons_self ..))) rfl ⟨congrArg Ending.returned (by rw [HPW.out, if_pos (by have := of_decide_eq_true HF.out; rw [← HYY.out]; exact this), ← wval_wn HUA.out HUB.out HYY.out]; rfl), stays_below S97.out⟩
                            · have HF : Hid (decide (wval a3 b3 ≤ Most) = false) := Lib.hid (decide_eq_false hf)
                              clear hf
                              go_upto_region 37 with fail
                              refine reg_plain (Stays [(gr, Obj.cells #[.int .u64 0, .int .u64 0] 25 (0, 0)), (ga, Obj.cells #[.int .u64 a3, .int .u64 b3] 25 (0, 0))] w) (Turns [(gr, Obj.cells #[.int .u64 0, .int .u64 0] 25 (0, 0)), (ga, Obj.cells #[.int .u64 a3, .int .u64 b3] 25 (0, 0))] w) (kdOf [(4, .make (fun _ => callM (.bool false)))]) none0 (stays_good _ _) (S95.out) (holds0 _) ?_
                              refine g_look rfl rfl ?_ (fun w' hC => ?_) ?_
                              rotate_left
                              · go_simp
                                first | done | rfl
                              simp only [Act.put, sa, sb, sc]
                              refine g_look rfl rfl ?_ (fun w' hC => ?_) ?_
                              rotate_left
                              · go_simp
                                first | done | rfl
                              simp only [Act.put, sa, sb, sc]
                              refine g_look rfl rfl ?_ (fun w' hC => ?_) ?_
                              rotate_left
                              · go_simp
                                first | done | rfl
                              simp only [Act.put, sa, sb, sc]
                              first | (refine g_skip rfl ?_) | (refine g_load 25 _ ga 25 #[.int .u64 a3, .int .u64 b3] (0, 0) _ rfl rfl rfl rfl (fun w' hC => stays_row hC (List.mem_cons_of_mem _ (List.mem_cons_self ..))) Try.underlying25 rfl (rfl) ?_)
                              simp only [Act.put, sa, sb, sc]
                              refine g_call (stays_good _ _) (.bool false) rfl rfl (fun w' hC => ?_) ?_
                              · clear hC
                                go_simp
                                refine (dfits_any _ a3 b3 HUA.out HUB.out).mono (fun e w2 h => ?_)
                                obtain ⟨h1, h2⟩ := h
                                rw [HF.out] at h1
                                exact gives h1 h2
                              simp only [Act.put, sa, sb, sc]
                              first
                              | (refine g_skip rfl ?_)
                              | (refine g_look rfl rfl ?_ (fun w' hC => ?_) ?_
                                 rotate_left
                                 · go_simp
                                   first | done | rfl)
                              simp only [Act.put, sa, sb, sc]
                              refine g_look rfl rfl ?_ (fun w' hC => ?_) ?_
                              rotate_left
                              · go_simp
                                first | done | rfl
                              simp only [Act.put, sa, sb, sc]
                              refine g_end ?_
                              intro w96 hC96 hh96
                              have S96 : Hid (Stays [(gr, Obj.cells #[.int .u64 0, .int .u64 0] 25 (0, 0)), (ga, Obj.cells #[.int .u64 a3, .int .u64 b3] 25 (0, 0))] w w96) := Lib.hid (stays_cons (stays_row hC96 (List.mem_cons_self ..)) (stays_cons (stays_row hC96 (List.mem_cons_of_mem _ (List.mem_cons_self ..))) (stays_nil (stays_below hC96))))
                              clear S95
                              clear hC96 hh96
                              go_upto_region 38 with fail
                              refine reg_plain (Stays [(ga, Obj.cells #[.int .u64 a3, .int .u64 b3] 25 (0, 0))] w) (Turns [(ga, Obj.cells #[.int .u64 a3, .int .u64 b3] 25 (0, 0))] w) (kdOf [(1, .touch)]) (Own.has none0 gr (Obj.cells #[.int .u64 0, .int .u64 0] 25 (0, 0))) (stays_good _ _) (stays_cons (stays_row S96.out (List.mem_cons_of_mem _ (List.mem_cons_self ..))) (stays_nil (stays_below S96.out))) (holds_has (holds0 _) (stays_row S96.out (List.mem_cons_self ..)) (turns_cons (turns_head ta.out).symm (turns_nil tr.out.2))) ?_
                              refine g_look rfl rfl ?_ (fun w' hC => ?_) ?_
                              rotate_left
                              · go_simp
                                first | done | rfl
                              simp only [Act.put, sa, sb, sc]
                              refine g_store gr none 25 25 _ _ #[.int .u64 0, .int .u64 0] #[.int .u64 0, .int .u64 0] rfl rfl rfl rfl rfl (has_same _ _ _) (by kernel_rfl) (rfl) (rfl) (one25 _ _) ?_
                              simp only [Act.put]
                              refine g_look rfl rfl ?_ (fun w' hC => ?_) ?_
                              rotate_left
                              · go_simp
                                first | done | rfl
                              simp only [Act.put, sa, sb, sc]
                              refine g_end ?_
                              intro w97 hC97 hh97
                              have S97 : Hid (Stays [(gr, Obj.cells #[.int .u64 0, .int .u64 0] 25 (0, 0)), (ga, Obj.cells #[.int .u64 a3, .int .u64 b3] 25 (0, 0))] w w97) := Lib.hid (stays_cons ((hh97 _ _ _ (own_new _ _ _ _)).1) (stays_cons (stays_row hC97 (List.mem_cons_self ..)) (stays_nil (stays_below hC97))))
                              clear S96
                              clear hC97 hh97
                              go_wp2_with fail
                              refine bodyPost_ret (v := .tuple #[.agg #[.int .u64 0, .int .u64 0], .int .i64 15]) (results_err9 (stays_head S97.out)) rfl ⟨congrArg Ending.returned (by rw [HPW.out, if_neg (by have := of_decide_eq_false HF.out; rw [← HYY.out]; exact this)]; rfl), stays_below S97.out⟩
      · rw [rscale_none hsp]
        have HSP := Lib.hid hsp
        clear hsp
        go_upto_region 15 with fail
        refine reg_plain (Stays [] w) (Turns [] w) (kdOf [(1, .touch)]) (Own.has none0 gr (Obj.cells #[.int .u64 0, .int .u64 0] 25 (0, 0))) (stays_good _ _) (stays_nil (stays_below S71.out)) (holds_has (holds0 _) (stays_row S71.out (List.mem_cons_self ..)) (turns_nil tr.out.2)) ?_
        refine g_look rfl rfl ?_ (fun w' hC => ?_) ?_
        rotate_left
        · go_simp
          first | done | rfl
        simp only [Act.put, sa, sb, sc]
        refine g_store gr none 25 25 _ _ #[.int .u64 0, .int .u64 0] #[.int .u64 0, .int .u64 0] rfl rfl rfl rfl rfl (has_same _ _ _) (by kernel_rfl) (rfl) (rfl) (one25 _ _) ?_
        simp only [Act.put]
        refine g_look rfl rfl ?_ (fun w' hC => ?_) ?_
        rotate_left
        · go_simp
          first | done | rfl
        simp only [Act.put, sa, sb, sc]
        refine g_end ?_
        intro w72 hC72 hh72
        have S72 : Hid (Stays [(gr, Obj.cells #[.int .u64 0, .int .u64 0] 25 (0, 0))] w w72) := Lib.hid (stays_cons ((hh72 _ _ _ (own_new _ _ _ _)).1) (stays_nil (stays_below hC72)))
        clear S71
        clear hC72 hh72
        go_wp2_with fail
        refine bodyPost_ret (v := .tuple #[.agg #[.int .u64 0, .int .u64 0], .int .i64 11]) (results_err9 (stays_head S72.out)) rfl ⟨congrArg Ending.returned (by rw [← HV.out, HK.out.2.1, parseW, HSP.out]; rfl), stays_below S72.out⟩
end Go.Proofs.Ythpdfacdjgkmpaa.Wi
