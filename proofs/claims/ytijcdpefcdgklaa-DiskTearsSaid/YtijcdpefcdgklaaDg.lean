/- DiskTears: a walk. -/
import Derived.Test.YtijcdpefcdgklaaDf
import Derived.Lib.PathFns
import Derived.Laws.Concat
namespace Go.Proofs.Ytijcdpefcdgklaa.Di
open Go.RowKit K

attribute [local go_sem ↓] eq22 eq22n eq37 eq37n eq25 ne25
attribute [local go_sem] lookTo stepTo Maker.step
theorem i64_and1 (n : Int) : bits .and .i64 n 1 = n % 2 := by
  have h1 : (BitVec.ofInt 64 1).toNat = 2 ^ 1 - 1 := by decide
  have key : (BitVec.ofInt 64 n &&& BitVec.ofInt 64 1).toNat = (n % ((2 ^ 64 : Nat) : Int)).toNat % 2 ^ 1 := by
    rw [BitVec.toNat_and, BitVec.toNat_ofInt, h1, Nat.and_two_pow_sub_one_eq_mod]
  show IntKind.i64.wrap ((BitVec.ofInt 64 n &&& BitVec.ofInt 64 1).toNat : Nat) = n % 2
  rw [key, IntKind.wrap_i64]
  omega
/-- An image: a copy that is not empty. -/
def imgM (l : List UInt8) : Maker := ⟨Nat × Nat × Array Value, fun x => .slice (some ⟨x.1, 0, none⟩) l.length x.2.1, fun x => [(x.1, .cells x.2.2 5 (0, 0))], fun x => l.length ≤ x.2.1 ∧ x.2.2.toList.take l.length = bys l⟩
theorem img_step {w w' : World} {l : List UInt8} {f : FuncId} {args : Array Value} (hl : l ≠ []) (h : Calls Try.prog f args w' (CloneTo w' l)) (hC : Stays [] w w') : Calls Try.prog f args w' (Gives (Made (imgM l) (Stays [] w) w')) := by
  refine h.mono fun e w2 ⟨v, he, ho, hb⟩ => ?_
  refine ⟨v, he, ?_⟩
  obtain ⟨_, h1 | ⟨g, cap, cur, rfl, hbg, hg, hc, _, _, ht⟩⟩ := ho
  · exact absurd (List.length_eq_zero_iff.1 h1.2) hl
  · refine ⟨(g, cap, cur), rfl, ⟨hc, by simpa using ht⟩, (stays_good _ _).below _ _ hC hb, hb, fun p hp => ?_⟩
    obtain rfl := List.mem_singleton.1 hp
    exact ⟨hbg, hg⟩
theorem g_conv {ops : Array Oper} {C : World → Prop} {T : Nat → Prop} {kd : Nat → Kind} {Q : Act → Own → Prop} {k : Nat} {o : Oper} {rest : List Oper} {a : Act} {own : Own} (g : Nat) (last : Option Nat) (cur : Array Value) (l : List UInt8) (cap : Nat) (x : Operand) (hop : o.op = .convert 22 9 x) (hw : Region.wanted o (yielded ops a.tmps) = true) (hk : kd k = .touch) (hx : a.eval x = .slice (some ⟨g, 0, none⟩) l.length cap)
    (ho : own g = some (last, .cells cur 5 (0, 0))) (hc : cur.toList.take l.length = bys l) (hwt : last.all (fun m => o.after.any (fun e => Region.binds .any e && e.on == m)) = true)
    (hr : wpG Try.prog ops C T kd Q (k + 1) rest (a.put o.dst (.string ⟨l.toArray⟩)) (own.ext k [(g, .cells cur 5 (0, 0))])) : wpG Try.prog ops C T kd Q k (o :: rest) a own := by
  refine g_touch g last _ (.cells cur 5 (0, 0)) (.string ⟨l.toArray⟩) x hw hk (by unfold addrOf; rw [hop]) (by rw [hx]; rfl) ho hwt (fun w _ _ hb => ?_) hr
  refine ⟨.value (.string ⟨l.toArray⟩), w, ?_, Or.inl ⟨_, rfl⟩, rfl, hb, gb_refl _ _⟩
  refine lookTo_run (look_conv hop hx (fun j u hj => ?_))
  have e1 : (⟨g, 0, none⟩ : Addr).add j = ⟨g, j, none⟩ := by unfold Addr.add; split <;> simp_all
  rw [e1, cell_of_row _ _ _ _ _ _ hb]
  rw [← hc, List.getElem?_take] at hj
  split at hj
  · simpa using hj
  · cases hj
theorem look_part {o : Oper} {a : Act} {w w0 : World} {x : Operand} {l : List UInt8} {n cap cap' : Nat} {p : Option Addr} (ho : o.op = .convert 22 9 x) (hx : a.eval x = .slice p n cap) (hr : Reads w0 (.slice p l.length cap') l) (hb : Below w0.heap.size w0 w) (hn : n ≤ l.length) (hp : p = none → cap = 0) : lookTo w (.string ⟨(l.take n).toArray⟩) ((execOp a.eval o).run Try.prog w) := by
  rcases hr with ⟨e, rfl⟩ | ⟨ad, c, e, _, _, hc⟩
  · injection e with e _ _
    subst e
    obtain rfl := hp rfl
    obtain rfl : n = 0 := by simpa using hn
    unfold execOp
    simp only [ho, hx, Sem.run_bind, run_convert_bytes_string (P := Try.prog) w 22 9 5 none 0 0 Try.underlying22 Try.underlying5 Try.underlying9]
    exact ⟨rfl, rfl⟩
  · injection e with e _ _
    subst e
    refine look_conv (l := l.take n) (cap := cap) ho (by rw [hx, List.length_take, Nat.min_eq_left hn]) (fun j u hj => ?_)
    have hj' : (bys l)[j]? = some u := by
      unfold bys at hj ⊢
      rw [List.map_take, List.getElem?_take] at hj
      split at hj
      · exact hj
      · cases hj
    have := hc j u hj'
    rw [hb.cell (cell_lt this)]
    exact this
theorem read_nil {w : World} {p : Option Addr} {n c : Nat} {l : List UInt8} (h : Reads w (.slice p n c) l) : p = none → c = 0 := by
  rintro rfl
  rcases h with ⟨h, _⟩ | ⟨a, _, h, _⟩
  · injection h
  · cases h
theorem cut_string {l : List UInt8} {n m : Nat} (h : m = l.length) : (⟨l.toArray⟩ : ByteArray).extract n m = ⟨(l.drop n).toArray⟩ := by
  subst h
  have := Lib.Pa.extract_from (⟨l.toArray⟩ : ByteArray) n
  have hs : (⟨l.toArray⟩ : ByteArray).size = l.length := by show l.toArray.size = _; simp
  rw [hs] at this
  rw [this]
theorem over_string {img l : List UInt8} {c : Nat} : (⟨(l.take c).toArray⟩ : ByteArray) ++ ⟨(img.drop c).toArray⟩ = ⟨(over img l c).toArray⟩ := ByteArray.mk_append_mk _ _
theorem over_string_all {img l : List UInt8} : (⟨l.toArray⟩ : ByteArray) ++ ⟨(img.drop l.length).toArray⟩ = ⟨(over img l l.length).toArray⟩ := by
  rw [← over_string, List.take_length]
/-- What a write leaves, told whole. -/
theorem wrote_at {w w' : World} {base : Nat} {d : Dk} {slot : Int} {l : List UInt8} {e : Ending} {wv v : Value} (h : Wrote w base d slot l e w' wv v) {k : Nat} {t : Bool} (hk : d.cut l.length = k) (ht : d.goes l.length = t) :
    At w' base { d with a := if slot = 0 then over d.a l k else d.a, b := if slot = 0 then d.b else over d.b l k, left := if 0 < d.left then d.left - k else d.left, down := t, wr := d.wr + k, wv := wv, vs := d.vs ++ [v] } := by
  have := h.at_
  rw [wrote_eq d slot l wv v hk ht rfl rfl] at this
  exact this
theorem wrote_fr {w w' : World} {base B : Nat} {d : Dk} {slot : Int} {l : List UInt8} {e : Ending} {wv v : Value} (h : Wrote w base d slot l e w' wv v) (ha : At w base d) (hB : B ≤ base) : Fr (fun k => B ≤ k) w w' :=
  h.fr.mono (fun k hk => by
    have q0 := ha.bg
    have q1 := ha.b0
    have q2 := ha.b1
    rcases hk with e | e | e
    · omega
    · split at e <;> omega
    · obtain ⟨_, _, hc⟩ := own_block ha.own e
      omega)
theorem at_far {w : World} {base : Nat} {d : Dk} (ha : At w base d) {k : Nat} (hk : k < base) : k ≠ d.g ∧ k ≠ d.s0 ∧ k ≠ d.s1 ∧ d.wv.ownBlock ≠ some k := by
  have q0 := ha.bg
  have q1 := ha.b0
  have q2 := ha.b1
  refine ⟨by omega, by omega, by omega, fun e => ?_⟩
  obtain ⟨_, _, hc⟩ := own_block ha.own e
  omega
set_option maxHeartbeats 8000000 in
set_option maxRecDepth 100000 in
theorem tears_short (w : World) (va vb : Value) (la lb : List UInt8) (x n : Int) (ha : Reads w va la) (hb : Reads w vb lb) (hla : la.length ≤ 60) (hlb : lb.length ≤ 60) (r1 : -9223372036854775808 ≤ n) (r2 : n ≤ 9223372036854775807) : Calls Try.prog 3 #[va, vb, .agg #[.int .i64 x, .int .i64 n]] w (fun e w' => e = .returned (.bool true) ∧ Below w.heap.size w w') := by
  obtain ⟨pa, ca, rfl, hca⟩ := read_shape ha
  obtain ⟨pb, cb, rfl, hcb⟩ := read_shape hb
  have PN0 : Hid (pb = none → cb = 0) := Lib.hid (read_nil hb)
  have RA := Lib.hid ha
  have RB := Lib.hid hb
  have LA := Lib.hid hla
  have LB := Lib.hid hlb
  have HR : Hid (-9223372036854775808 ≤ n ∧ n ≤ 9223372036854775807) := Lib.hid ⟨r1, r2⟩
  have HCB := Lib.hid hcb
  have i1 : ¬ (60 : Int) < (la.length : Int) := by omega
  have i2 : ¬ (60 : Int) < (lb.length : Int) := by omega
  have hx := i64_and1 x
  obtain ⟨kk, hkk, hk01⟩ : ∃ kk, x % 2 = kk ∧ (kk = 0 ∨ kk = 1) := ⟨_, rfl, by omega⟩
  rw [hkk] at hx
  have HX := Lib.hid hx
  have HK := Lib.hid hk01
  clear ha hb hla hlb r1 r2 hca hcb hx hkk hk01
  have S0 : Hid (Stays [] w w) := Lib.hid (stays_nil (Below.refl _ _))
  go_enter Try.func3, Try.ntmps3
  go_upto_region 0 with fail
  refine reg_plain (Stays [] w) (Turns [] w) (kdOf [(0, .make (fun _ => allocM (.cells #[.int .i64 x, .int .i64 n] 23)))]) none0 (stays_good _ _) (S0.out) (holds0 _) ?_
  refine g_alloc (stays_good _ _) (.cells #[.int .i64 x, .int .i64 n] 23) rfl rfl (fun w' hC => ?_) (fun gW tW nW => ?_)
  · clear hC
    go_simp
    first | done | rfl | exact ⟨rfl, rfl⟩
  clear nW
  replace tW := Lib.hid tW
  simp only [Act.put, List.setIfInBounds_toArray, List.set_cons_zero, List.set_cons_succ]
  refine g_look rfl rfl ?_ (fun w' hC => ?_) ?_
  rotate_left
  · go_simp
    first | done | rfl
  simp only [Act.put, List.setIfInBounds_toArray, List.set_cons_zero, List.set_cons_succ]
  refine g_end ?_
  intro w1 hC1 hh1
  have S1 : Hid (Stays [(gW, Obj.cells #[.int .i64 x, .int .i64 n] 23 (0, 0))] w w1) := Lib.hid (stays_cons ((hh1 _ _ _ (own_new _ _ _ _)).1) (stays_nil (stays_below hC1)))
  clear hC1 hh1
  go_upto_region 1 with fail
  refine reg_plain (Stays [(gW, Obj.cells #[.int .i64 x, .int .i64 n] 23 (0, 0))] w) (Turns [(gW, Obj.cells #[.int .i64 x, .int .i64 n] 23 (0, 0))] w) (kdOf [(0, .make (fun _ => callM (.bool true)))]) none0 (stays_good _ _) (S1.out) (holds0 _) ?_
  refine g_call (stays_good _ _) (.bool true) rfl rfl (fun w' hC => ?_) ?_
  · clear hC
    go_simp
    refine (first_any _).mono (fun e w2 h => ?_)
    obtain ⟨h1, h2⟩ := h
    exact gives h1 h2
  simp only [Act.put, List.setIfInBounds_toArray, List.set_cons_zero, List.set_cons_succ]
  refine g_look rfl rfl ?_ (fun w' hC => ?_) ?_
  rotate_left
  · go_simp
    first | done | rfl
  simp only [Act.put, List.setIfInBounds_toArray, List.set_cons_zero, List.set_cons_succ]
  refine g_end ?_
  intro w2 hC2 hh2
  have S2 : Hid (Stays [(gW, Obj.cells #[.int .i64 x, .int .i64 n] 23 (0, 0))] w w2) := Lib.hid (stays_cons (stays_row hC2 (List.mem_cons_self ..)) (stays_nil (stays_below hC2)))
  clear S1
  clear hC2 hh2
  go_upto_region 3 with fail
  refine reg (Stays [(gW, Obj.cells #[.int .i64 x, .int .i64 n] 23 (0, 0))] w) (Turns [(gW, Obj.cells #[.int .i64 x, .int .i64 n] 23 (0, 0))] w) (kdOf []) none0 (stays_good _ _) (by kernel_rfl) (by kernel_rfl) (stays_drew (S2.out)) (holds0 _) ?_
  refine g_look rfl rfl ?_ (fun w' hC => ?_) ?_
  rotate_left
  · go_simp
    first | done | rfl
  simp only [Act.put, List.setIfInBounds_toArray, List.set_cons_zero, List.set_cons_succ]
  refine g_look rfl rfl ?_ (fun w' hC => ?_) ?_
  rotate_left
  · have c := stays_head hC
    have c0 : w'.cell? ⟨gW, 0, none⟩ = some (.int .i64 x) := (cell_of_row _ _ _ _ _ _ c).trans rfl
    have c1 : w'.cell? ⟨gW, 1, none⟩ = some (.int .i64 n) := (cell_of_row _ _ _ _ _ _ c).trans rfl
    clear hC c
    go_simp
    first | done | rfl
  simp only [Act.put, List.setIfInBounds_toArray, List.set_cons_zero, List.set_cons_succ]
  refine g_look rfl rfl ?_ (fun w' hC => ?_) ?_
  rotate_left
  · go_simp
    first | done | rfl
  simp only [Act.put, List.setIfInBounds_toArray, List.set_cons_zero, List.set_cons_succ]
  refine g_look rfl rfl ?_ (fun w' hC => ?_) ?_
  rotate_left
  · have c := stays_head hC
    have c0 : w'.cell? ⟨gW, 0, none⟩ = some (.int .i64 x) := (cell_of_row _ _ _ _ _ _ c).trans rfl
    have c1 : w'.cell? ⟨gW, 1, none⟩ = some (.int .i64 n) := (cell_of_row _ _ _ _ _ _ c).trans rfl
    clear hC c
    go_simp
    first | done | rfl
  simp only [Act.put, List.setIfInBounds_toArray, List.set_cons_zero, List.set_cons_succ]
  refine g_look rfl rfl ?_ (fun w' hC => ?_) ?_
  rotate_left
  · go_simp
    first | done | rfl
  simp only [Act.put, List.setIfInBounds_toArray, List.set_cons_zero, List.set_cons_succ]
  refine g_look rfl rfl ?_ (fun w' hC => ?_) ?_
  rotate_left
  · go_simp
    first | done | rfl
  simp only [Act.put, List.setIfInBounds_toArray, List.set_cons_zero, List.set_cons_succ]
  refine g_end ?_
  intro w3 hC3 hh3
  have S3 : Hid (Stays [(gW, Obj.cells #[.int .i64 x, .int .i64 n] 23 (0, 0))] w w3) := Lib.hid (stays_cons (stays_row hC3 (List.mem_cons_self ..)) (stays_nil (stays_below hC3)))
  clear S2
  clear hC3 hh3
  have A0 := Lib.hid (stays_below S3.out)
  clear S3
  go_wp2_with fail
  refine (new_any w3 64 (by decide) (by decide)).mono ?_
  rintro e w4 ⟨g, s0, s1, rfl, hA, hb⟩
  have A4 := Lib.hid hA
  have FF4 := Lib.hid (Fr.of_below (S := fun k => w3.heap.size ≤ k) hb)
  have VA := Lib.hid (reads_below RA.out A0.out)
  have VB := Lib.hid (reads_below RB.out A0.out)
  have YA : Hid (la ≠ [] → ∀ k, (Value.slice pa la.length ca).ownBlock = some k → k < w3.heap.size) := Lib.hid (fun h0 k hk => reads_lt VA.out h0 hk)
  have YB : Hid (lb ≠ [] → ∀ k, (Value.slice pb lb.length cb).ownBlock = some k → k < w3.heap.size) := Lib.hid (fun h0 k hk => reads_lt VB.out h0 hk)
  clear hA hb RA RB
  obtain ⟨I, hI⟩ : ∃ I, over (zs 64) la la.length = I := ⟨_, rfl⟩
  have HI := Lib.hid hI
  have LI : Hid (I.length = 64) := Lib.hid (by rw [← hI, over_len (Nat.le_refl _) (by have := LA.out; simp [zs]; omega)]; simp [zs])
  have NI : Hid (I ≠ []) := Lib.hid (by intro e; have := LI.out; rw [e] at this; cases this)
  clear hI
  have ex : bits .and .i64 x 1 = kk := HX.out
  rcases HK.out with rfl | rfl
  · clear HX HK
    go_wp2_with fail
    clear ex
    refine (write_ok 0 _ la A4.out rfl (Or.inl rfl) (reads_fr FF4.out VA.out (fun h0 k hk e => absurd (YA.out h0 k hk) (Nat.not_lt.2 e))) (by have := LA.out; show la.length ≤ 64; omega) (by have := LA.out; omega) (fun h0 k hk => at_far A4.out (YA.out h0 k hk)) (show 0 ≤ 1000 by decide) (by have := A4.out.bg; have := blk_lt A4.out.row; simp only at *; omega) (by show (0 : Int) ≤ 0 ∧ (0 : Int) < 4611686018427387904; decide) (by show (-1 : Int) ≤ -1 ∧ (-1 : Int) ≤ 9223372036854775807; decide)).mono ?_
    rintro e w5 ⟨wv5, v5, hW⟩
    have FF5 := Lib.hid (FF4.out.trans (wrote_fr hW A4.out (Nat.le_refl _)))
    obtain rfl := hW.ret
    have A5 : Hid (At w5 w3.heap.size ⟨g, s0, s1, 64, I, zs 64, -1, false, 0 + (la.length : Int), wv5, [v5]⟩) := Lib.hid (by
      have h := wrote_at hW (k := la.length) (t := false) (by rw [Dk.cut, if_neg (by simp)]) (by simp [Dk.goes])
      rw [← HI.out]
      exact h)
    clear hW
    simp only [Dk.goes]
    go_wp2_with fail
    refine (write_ok 1 _ la A5.out rfl (Or.inr rfl) (reads_fr FF5.out VA.out (fun h0 k hk e => absurd (YA.out h0 k hk) (Nat.not_lt.2 e))) (by have := LA.out; show la.length ≤ 64; omega) (by have := LA.out; omega) (fun h0 k hk => at_far A5.out (YA.out h0 k hk)) (show 1 ≤ 1000 by decide) (by have := A5.out.bg; have := blk_lt A5.out.row; simp only at *; omega) (by have := LA.out; show (0 : Int) ≤ 0 + (la.length : Int) ∧ 0 + (la.length : Int) < 4611686018427387904; omega) (by show (-1 : Int) ≤ -1 ∧ (-1 : Int) ≤ 9223372036854775807; decide)).mono ?_
    rintro e w6 ⟨wv6, v6, hW⟩
    have FF6 := Lib.hid (FF5.out.trans (wrote_fr hW A5.out (Nat.le_refl _)))
    obtain rfl := hW.ret
    have A6 : Hid (At w6 w3.heap.size ⟨g, s0, s1, 64, I, I, -1, false, 0 + (la.length : Int) + (la.length : Int), wv6, [v5] ++ [v6]⟩) := Lib.hid (by
      have h := wrote_at hW (k := la.length) (t := false) (by rw [Dk.cut, if_neg (by simp)]) (by simp [Dk.goes])
      rw [← HI.out] at h ⊢
      exact h)
    clear hW
    simp only [Dk.goes]
    go_upto_region 10 with fail
    have S21 : Hid (Stays [] w6 w6) := Lib.hid (stays_nil (Below.refl _ _))
    refine reg (Stays [] w6) (Turns [] w6) (kdOf [(2, .make (fun _ => imgM I)), (3, .touch), (7, .make (fun _ => imgM I)), (8, .touch)]) none0 (stays_good _ _) (by kernel_rfl) (by kernel_rfl) (stays_drew (S21.out)) (holds0 _) ?_
    refine g_look rfl rfl ?_ (fun w' hC => ?_) ?_
    rotate_left
    · go_simp
      first | done | rfl
    simp only [Act.put, List.setIfInBounds_toArray, List.set_cons_zero, List.set_cons_succ]
    refine g_look rfl rfl ?_ (fun w' hC => ?_) ?_
    rotate_left
    · go_simp
      first | done | rfl
    simp only [Act.put, List.setIfInBounds_toArray, List.set_cons_zero, List.set_cons_succ]
    refine g_make _ (imgM I) rfl rfl rfl (fun w' hC => ?_) (fun xp px fx => ?_)
    · go_simp
      exact img_step NI.out (image_any 0 (A6.out.below (stays_below hC))) hC
    obtain ⟨gip, cip, cup⟩ := xp
    have Pp := Lib.hid px
    clear px fx
    simp only [Act.put, imgM, List.setIfInBounds_toArray, List.set_cons_zero, List.set_cons_succ]
    refine g_conv gip (some 2) cup I cip _ rfl rfl rfl rfl (own_new _ _ _ _) Pp.out.2 (by kernel_rfl) ?_
    simp only [Act.put, List.setIfInBounds_toArray, List.set_cons_zero, List.set_cons_succ]
    refine g_look rfl rfl ?_ (fun w' hC => ?_) ?_
    rotate_left
    · go_simp
      first | done | rfl
    simp only [Act.put, List.setIfInBounds_toArray, List.set_cons_zero, List.set_cons_succ]
    refine g_look rfl rfl ?_ (fun w' hC => ?_) ?_
    rotate_left
    · go_simp
      first | done | rfl
    simp only [Act.put, List.setIfInBounds_toArray, List.set_cons_zero, List.set_cons_succ]
    refine g_look rfl rfl ?_ (fun w' hC => ?_) ?_
    rotate_left
    · go_simp
      first | done | rfl
    simp only [Act.put, List.setIfInBounds_toArray, List.set_cons_zero, List.set_cons_succ]
    refine g_make _ (imgM I) rfl rfl rfl (fun w' hC => ?_) (fun xq px fx => ?_)
    · go_simp
      exact img_step NI.out (image_any 1 (A6.out.below (stays_below hC))) hC
    obtain ⟨giq, ciq, cuq⟩ := xq
    have Pq := Lib.hid px
    clear px fx
    simp only [Act.put, imgM, List.setIfInBounds_toArray, List.set_cons_zero, List.set_cons_succ]
    refine g_conv giq (some 7) cuq I ciq _ rfl rfl rfl rfl (own_new _ _ _ _) Pq.out.2 (by kernel_rfl) ?_
    simp only [Act.put, List.setIfInBounds_toArray, List.set_cons_zero, List.set_cons_succ]
    refine g_look rfl rfl ?_ (fun w' hC => ?_) ?_
    rotate_left
    · go_simp
      first | done | rfl
    simp only [Act.put, List.setIfInBounds_toArray, List.set_cons_zero, List.set_cons_succ]
    refine g_look rfl rfl ?_ (fun w' hC => ?_) ?_
    rotate_left
    · go_simp
      first | done | rfl
    simp only [Act.put, List.setIfInBounds_toArray, List.set_cons_zero, List.set_cons_succ]
    refine g_end ?_
    intro w22 hC22 hh22
    have S22 : Hid (Stays [] w6 w22) := Lib.hid (stays_nil (stays_below hC22))
    clear S21
    clear hC22 hh22
    have A7 := Lib.hid (A6.out.below (stays_below S22.out))
    have FF7 := Lib.hid (FF6.out.trans (Fr.of_below (stays_below S22.out)))
    clear S22
    go_wp2_with fail
    refine (arm_any n A7.out).mono ?_
    rintro e w8 ⟨rfl, hA, hf⟩
    have FF8 := Lib.hid (FF7.out.trans (hf.mono (fun k h => by have h' : k = g := h; have := A4.out.bg; simp only at this; omega)))
    have A8 := Lib.hid hA
    clear hA hf
    have PN : Hid (pb = none → cb = 0) := PN0
    by_cases hn : n < 0
    · have hL : (if n < -1 then -1 else n) = -1 := by split <;> omega
      have t1 : ¬ 0 ≤ n := by omega
      have t2 : n < 0 := hn
      clear hn
      have A8' : Hid (At w8 w3.heap.size ⟨g, s0, s1, 64, I, I, -1, false, 0 + (la.length : Int) + (la.length : Int), wv6, [v5] ++ [v6]⟩) := Lib.hid (by
        have h := A8.out
        simp only [hL] at h
        exact h)
      clear A8
      go_wp2_with fail
      refine (write_ok 0 _ lb A8'.out rfl (Or.inl rfl) (reads_fr FF8.out VB.out (fun h0 k hk e => absurd (YB.out h0 k hk) (Nat.not_lt.2 e))) (by have := LB.out; show lb.length ≤ 64; omega) (by have := LB.out; omega) (fun h0 k hk => at_far A8'.out (YB.out h0 k hk)) (show 2 ≤ 1000 by decide) (by have := A8'.out.bg; have := blk_lt A8'.out.row; simp only at *; omega) (by have := LA.out; show (0 : Int) ≤ 0 + (la.length : Int) + (la.length : Int) ∧ 0 + (la.length : Int) + (la.length : Int) < 4611686018427387904; omega) (by have := HR.out; show (-1 : Int) ≤ -1 ∧ -1 ≤ 9223372036854775807; omega)).mono ?_
      rintro e w9 ⟨wv9, v9, hW⟩
      have FF9 := Lib.hid (FF8.out.trans (wrote_fr hW A8'.out (Nat.le_refl _)))
      obtain rfl := hW.ret
      have ht : Dk.goes ⟨g, s0, s1, 64, I, I, -1, false, 0 + (la.length : Int) + (la.length : Int), wv6, [v5] ++ [v6]⟩ lb.length = false := by simp [Dk.goes]
      obtain ⟨left9, wr9, hA9⟩ : ∃ left9 wr9, At w9 w3.heap.size ⟨g, s0, s1, 64, over I lb lb.length, I, left9, false, wr9, wv9, [v5] ++ [v6] ++ [v9]⟩ := ⟨_, _, wrote_at hW (k := lb.length) (t := false) (by rw [Dk.cut, if_neg (by simp)]) ht⟩
      have A9 := Lib.hid hA9
      clear hW hA9 A8'
      rw [ht]
      have LO : Hid (over I lb lb.length ≠ []) := Lib.hid (by intro e; have h := congrArg List.length e; rw [over_len (by first | exact Nat.le_refl _ | omega) (by have := LI.out; have := LB.out; omega), LI.out] at h; cases h)
      clear ht
      go_upto_region 16 with fail
      have q1 : lb.length ≤ cb := by have := HCB.out; omega
      have q2 : lb.length ≤ I.length := by have := LI.out; have := LB.out; omega
      have q3 : ¬ 9223372036854775807 < lb.length + (I.length - lb.length) := by have := LI.out; have := LB.out; omega
      have q5 : ¬ 9223372036854775807 < I.length := by have := LI.out; omega
      have q4 : ¬ 9223372036854775807 < min lb.length lb.length + (I.length - lb.length) := by have := LI.out; have := LB.out; omega
      have S41 : Hid (Stays [] w9 w9) := Lib.hid (stays_nil (Below.refl _ _))
      refine reg (Stays [] w9) (Turns [] w9) (kdOf [(13, .make (fun _ => callM (.bool false))), (21, .make (fun _ => imgM (over I lb lb.length))), (22, .touch), (37, .make (fun _ => imgM I)), (38, .touch)]) none0 (stays_good _ _) (by kernel_rfl) (by kernel_rfl) (stays_drew (S41.out)) (holds0 _) ?_
      refine g_look rfl rfl ?_ (fun w' hC => ?_) ?_
      rotate_left
      · go_simp
        first | done | rfl
      simp only [Act.put, List.setIfInBounds_toArray, List.set_cons_zero, List.set_cons_succ]
      refine g_look rfl rfl ?_ (fun w' hC => ?_) ?_
      rotate_left
      · go_simp
        first | done | rfl
      simp only [Act.put, List.setIfInBounds_toArray, List.set_cons_zero, List.set_cons_succ]
      refine g_look rfl rfl ?_ (fun w' hC => ?_) ?_
      rotate_left
      · go_simp
        first | done | rfl
      simp only [Act.put, List.setIfInBounds_toArray, List.set_cons_zero, List.set_cons_succ]
      refine g_look rfl rfl ?_ (fun w' hC => ?_) ?_
      rotate_left
      · go_simp
        first | done | rfl
      simp only [Act.put, List.setIfInBounds_toArray, List.set_cons_zero, List.set_cons_succ]
      refine g_look rfl rfl ?_ (fun w' hC => ?_) ?_
      rotate_left
      · go_simp
        first | done | rfl
      simp only [Act.put, List.setIfInBounds_toArray, List.set_cons_zero, List.set_cons_succ]
      first
      | (refine g_skip rfl ?_)
      | (refine g_look rfl rfl ?_ (fun w' hC => ?_) ?_
         rotate_left
         · go_simp
           first | done | rfl)
      simp only [Act.put, List.setIfInBounds_toArray, List.set_cons_zero, List.set_cons_succ]
      first
      | (refine g_skip rfl ?_)
      | (refine g_look rfl rfl ?_ (fun w' hC => ?_) ?_
         rotate_left
         · go_simp
           first | done | rfl)
      simp only [Act.put, List.setIfInBounds_toArray, List.set_cons_zero, List.set_cons_succ]
      first
      | (refine g_skip rfl ?_)
      | (refine g_look rfl rfl ?_ (fun w' hC => ?_) ?_
         rotate_left
         · go_simp
           first | done | rfl)
      simp only [Act.put, List.setIfInBounds_toArray, List.set_cons_zero, List.set_cons_succ]
      first
      | (refine g_skip rfl ?_)
      | (refine g_look rfl rfl ?_ (fun w' hC => ?_) ?_
         rotate_left
         · go_simp
           first | done | rfl)
      simp only [Act.put, List.setIfInBounds_toArray, List.set_cons_zero, List.set_cons_succ]
      refine g_look rfl rfl ?_ (fun w' hC => ?_) ?_
      rotate_left
      · go_simp
        first | done | rfl
      simp only [Act.put, List.setIfInBounds_toArray, List.set_cons_zero, List.set_cons_succ]
      refine g_look rfl rfl ?_ (fun w' hC => ?_) ?_
      rotate_left
      · go_simp
        first | done | rfl
      simp only [Act.put, List.setIfInBounds_toArray, List.set_cons_zero, List.set_cons_succ]
      refine g_look rfl rfl ?_ (fun w' hC => ?_) ?_
      rotate_left
      · go_simp
        first | done | rfl
      simp only [Act.put, List.setIfInBounds_toArray, List.set_cons_zero, List.set_cons_succ]
      first
      | (refine g_skip rfl ?_)
      | (refine g_look rfl rfl ?_ (fun w' hC => ?_) ?_
         rotate_left
         · go_simp
           first | done | rfl)
      simp only [Act.put, List.setIfInBounds_toArray, List.set_cons_zero, List.set_cons_succ]
      refine g_call (stays_good _ _) (.bool false) rfl rfl (fun w' hC => ?_) ?_
      · go_simp
        refine (same_below (down_any (A9.out.below (stays_below hC)))).mono (fun e w2 h => ?_)
        obtain ⟨h1, h2⟩ := h
        exact gives h1 h2
      simp only [Act.put, List.setIfInBounds_toArray, List.set_cons_zero, List.set_cons_succ]
      first
      | (refine g_skip rfl ?_)
      | (refine g_look rfl rfl ?_ (fun w' hC => ?_) ?_
         rotate_left
         · go_simp
           first | done | rfl)
      simp only [Act.put, List.setIfInBounds_toArray, List.set_cons_zero, List.set_cons_succ]
      first
      | (refine g_skip rfl ?_)
      | (refine g_look rfl rfl ?_ (fun w' hC => ?_) ?_
         rotate_left
         · go_simp
           first | done | rfl)
      simp only [Act.put, List.setIfInBounds_toArray, List.set_cons_zero, List.set_cons_succ]
      first
      | (refine g_skip rfl ?_)
      | (refine g_look rfl rfl ?_ (fun w' hC => ?_) ?_
         rotate_left
         · go_simp
           first | done | rfl)
      simp only [Act.put, List.setIfInBounds_toArray, List.set_cons_zero, List.set_cons_succ]
      refine g_look rfl rfl ?_ (fun w' hC => ?_) ?_
      rotate_left
      · go_simp
        first | done | rfl
      simp only [Act.put, List.setIfInBounds_toArray, List.set_cons_zero, List.set_cons_succ]
      refine g_look rfl rfl ?_ (fun w' hC => ?_) ?_
      rotate_left
      · go_simp
        first | done | rfl
      simp only [Act.put, List.setIfInBounds_toArray, List.set_cons_zero, List.set_cons_succ]
      first
      | (refine g_skip rfl ?_)
      | (refine g_look rfl rfl ?_ (fun w' hC => ?_) ?_
         rotate_left
         · go_simp
           first | done | rfl)
      simp only [Act.put, List.setIfInBounds_toArray, List.set_cons_zero, List.set_cons_succ]
      first
      | (refine g_skip rfl ?_)
      | (refine g_look rfl rfl ?_ (fun w' hC => ?_) ?_
         rotate_left
         · go_simp
           first | done | rfl)
      simp only [Act.put, List.setIfInBounds_toArray, List.set_cons_zero, List.set_cons_succ]
      refine g_make _ (imgM (over I lb lb.length)) rfl rfl rfl (fun w' hC => ?_) (fun xp px fx => ?_)
      · go_simp
        exact img_step LO.out (image_any 0 (A9.out.below (stays_below hC))) hC
      obtain ⟨gip, cip, cup⟩ := xp
      have Pp := Lib.hid px
      clear px fx
      simp only [Act.put, imgM, List.setIfInBounds_toArray, List.set_cons_zero, List.set_cons_succ]
      refine g_conv gip (some 21) cup (over I lb lb.length) cip _ rfl rfl rfl rfl (own_new _ _ _ _) Pp.out.2 (by kernel_rfl) ?_
      simp only [Act.put, List.setIfInBounds_toArray, List.set_cons_zero, List.set_cons_succ]
      first
      | (refine g_skip rfl ?_)
      | (refine g_look rfl rfl ?_ (fun w' hC => ?_) ?_
         rotate_left
         · go_simp
           first | done | rfl)
      simp only [Act.put, List.setIfInBounds_toArray, List.set_cons_zero, List.set_cons_succ]
      first
      | (refine g_skip rfl ?_)
      | (refine g_look rfl rfl ?_ (fun w' hC => ?_) ?_
         rotate_left
         · go_simp
           first | done | rfl)
      simp only [Act.put, List.setIfInBounds_toArray, List.set_cons_zero, List.set_cons_succ]
      first
      | (refine g_skip rfl ?_)
      | (refine g_look rfl rfl ?_ (fun w' hC => ?_) ?_
         rotate_left
         · go_simp
           first | done | rfl)
      simp only [Act.put, List.setIfInBounds_toArray, List.set_cons_zero, List.set_cons_succ]
      first
      | (refine g_skip rfl ?_)
      | (refine g_look rfl rfl (.string ⟨(lb.take lb.length).toArray⟩) (fun w' hC => ?_) ?_
         · exact look_part rfl rfl (reads_fr FF9.out VB.out (fun h0 k hk e => absurd (YB.out h0 k hk) (Nat.not_lt.2 e))) (stays_below hC) (by first | exact Nat.le_refl _ | omega) PN.out)
      simp only [Act.put, List.setIfInBounds_toArray, List.set_cons_zero, List.set_cons_succ]
      first
      | (refine g_skip rfl ?_)
      | (refine g_look rfl rfl ?_ (fun w' hC => ?_) ?_
         rotate_left
         · go_simp
           first | done | rfl)
      simp only [Act.put, List.setIfInBounds_toArray, List.set_cons_zero, List.set_cons_succ]
      first
      | (refine g_skip rfl ?_)
      | (refine g_look rfl rfl ?_ (fun w' hC => ?_) ?_
         rotate_left
         · go_simp
           first | done | rfl)
      simp only [Act.put, List.setIfInBounds_toArray, List.set_cons_zero, List.set_cons_succ]
      first
      | (refine g_skip rfl ?_)
      | (refine g_look rfl rfl (.string ⟨(I.drop lb.length).toArray⟩) (fun w' hC => ?_) ?_
         · clear hC
           go_simp
           first | done | exact cut_string LI.out.symm | (rw [cut_string (by first | exact LI.out.symm | simp)]))
      simp only [Act.put, List.setIfInBounds_toArray, List.set_cons_zero, List.set_cons_succ]
      first
      | (refine g_skip rfl ?_)
      | (refine g_look rfl rfl (.string ⟨(over I lb lb.length).toArray⟩) (fun w' hC => ?_) ?_
         · clear hC
           go_simp
           first | done | exact over_string | exact over_string_all)
      simp only [Act.put, List.setIfInBounds_toArray, List.set_cons_zero, List.set_cons_succ]
      first
      | (refine g_skip rfl ?_)
      | (refine g_look rfl rfl ?_ (fun w' hC => ?_) ?_
         rotate_left
         · go_simp
           first | done | rfl)
      simp only [Act.put, List.setIfInBounds_toArray, List.set_cons_zero, List.set_cons_succ]
      refine g_look rfl rfl ?_ (fun w' hC => ?_) ?_
      rotate_left
      · go_simp
        first | done | rfl
      simp only [Act.put, List.setIfInBounds_toArray, List.set_cons_zero, List.set_cons_succ]
      refine g_look rfl rfl ?_ (fun w' hC => ?_) ?_
      rotate_left
      · go_simp
        first | done | rfl
      simp only [Act.put, List.setIfInBounds_toArray, List.set_cons_zero, List.set_cons_succ]
      first
      | (refine g_skip rfl ?_)
      | (refine g_look rfl rfl ?_ (fun w' hC => ?_) ?_
         rotate_left
         · go_simp
           first | done | rfl)
      simp only [Act.put, List.setIfInBounds_toArray, List.set_cons_zero, List.set_cons_succ]
      first
      | (refine g_skip rfl ?_)
      | (refine g_look rfl rfl ?_ (fun w' hC => ?_) ?_
         rotate_left
         · go_simp
           first | done | rfl)
      simp only [Act.put, List.setIfInBounds_toArray, List.set_cons_zero, List.set_cons_succ]
      first
      | (refine g_skip rfl ?_)
      | (refine g_look rfl rfl ?_ (fun w' hC => ?_) ?_
         rotate_left
         · go_simp
           first | done | rfl)
      simp only [Act.put, List.setIfInBounds_toArray, List.set_cons_zero, List.set_cons_succ]
      refine g_make _ (imgM I) rfl rfl rfl (fun w' hC => ?_) (fun xq px fx => ?_)
      · go_simp
        exact img_step NI.out (image_any 1 (A9.out.below (stays_below hC))) hC
      obtain ⟨giq, ciq, cuq⟩ := xq
      have Pq := Lib.hid px
      clear px fx
      simp only [Act.put, imgM, List.setIfInBounds_toArray, List.set_cons_zero, List.set_cons_succ]
      refine g_conv giq (some 37) cuq I ciq _ rfl rfl rfl rfl (own_new _ _ _ _) Pq.out.2 (by kernel_rfl) ?_
      simp only [Act.put, List.setIfInBounds_toArray, List.set_cons_zero, List.set_cons_succ]
      first
      | (refine g_skip rfl ?_)
      | (refine g_look rfl rfl ?_ (fun w' hC => ?_) ?_
         rotate_left
         · go_simp
           first | done | rfl)
      simp only [Act.put, List.setIfInBounds_toArray, List.set_cons_zero, List.set_cons_succ]
      first
      | (refine g_skip rfl ?_)
      | (refine g_look rfl rfl ?_ (fun w' hC => ?_) ?_
         rotate_left
         · go_simp
           first | done | rfl)
      simp only [Act.put, List.setIfInBounds_toArray, List.set_cons_zero, List.set_cons_succ]
      refine g_look rfl rfl ?_ (fun w' hC => ?_) ?_
      rotate_left
      · go_simp
        first | done | rfl
      simp only [Act.put, List.setIfInBounds_toArray, List.set_cons_zero, List.set_cons_succ]
      refine g_look rfl rfl ?_ (fun w' hC => ?_) ?_
      rotate_left
      · go_simp
        first | done | rfl
      simp only [Act.put, List.setIfInBounds_toArray, List.set_cons_zero, List.set_cons_succ]
      refine g_end ?_
      intro w42 hC42 hh42
      have S42 : Hid (Stays [] w9 w42) := Lib.hid (stays_nil (stays_below hC42))
      clear S41
      clear hC42 hh42
      go_wp2_with fail
      refine bodyPost_ret (v := .bool true) (by simp [results, Try.results3, go_sem]) rfl ⟨rfl, ?_⟩
      exact ((FF9.out.trans (Fr.of_below (stays_below S42.out))).belowOf (w0 := w3) (Below.refl _ _) (fun _ h => h) |> fun h => b_then A0.out h)
    · by_cases hm : n < (lb.length : Int)
      · obtain ⟨m, rfl⟩ := Int.eq_ofNat_of_zero_le (show 0 ≤ n by omega)
        have hL : (if (m : Int) < -1 then -1 else (m : Int)) = (m : Int) := by rw [if_neg (by omega)]
        have t1 : (0 : Int) ≤ (m : Int) := by omega
        have hmN : m < lb.length := by omega
        have t2 : (m : Int) < (lb.length : Int) := by omega
        have t3 : (m : Int) ≤ (lb.length : Int) := by omega
        have A8' : Hid (At w8 w3.heap.size ⟨g, s0, s1, 64, I, I, (m : Int), false, 0 + (la.length : Int) + (la.length : Int), wv6, [v5] ++ [v6]⟩) := Lib.hid (by
          have h := A8.out
          simp only [hL] at h
          exact h)
        clear A8
        go_wp2_with fail
        refine (write_ok 0 _ lb A8'.out rfl (Or.inl rfl) (reads_fr FF8.out VB.out (fun h0 k hk e => absurd (YB.out h0 k hk) (Nat.not_lt.2 e))) (by have := LB.out; show lb.length ≤ 64; omega) (by have := LB.out; omega) (fun h0 k hk => at_far A8'.out (YB.out h0 k hk)) (show 2 ≤ 1000 by decide) (by have := A8'.out.bg; have := blk_lt A8'.out.row; simp only at *; omega) (by have := LA.out; show (0 : Int) ≤ 0 + (la.length : Int) + (la.length : Int) ∧ 0 + (la.length : Int) + (la.length : Int) < 4611686018427387904; omega) (by have := HR.out; show (-1 : Int) ≤ (m : Int) ∧ (m : Int) ≤ 9223372036854775807; omega)).mono ?_
        rintro e w9 ⟨wv9, v9, hW⟩
        have FF9 := Lib.hid (FF8.out.trans (wrote_fr hW A8'.out (Nat.le_refl _)))
        obtain rfl := hW.ret
        have ht : Dk.goes ⟨g, s0, s1, 64, I, I, (m : Int), false, 0 + (la.length : Int) + (la.length : Int), wv6, [v5] ++ [v6]⟩ lb.length = true := by simp [Dk.goes]; omega
        obtain ⟨left9, wr9, hA9⟩ : ∃ left9 wr9, At w9 w3.heap.size ⟨g, s0, s1, 64, over I lb m, I, left9, true, wr9, wv9, [v5] ++ [v6] ++ [v9]⟩ := ⟨_, _, wrote_at hW (k := m) (t := true) (by rw [Dk.cut, if_pos ⟨by simp, by simp; omega⟩]; rfl) ht⟩
        have A9 := Lib.hid hA9
        clear hW hA9 A8'
        rw [ht]
        have LO : Hid (over I lb m ≠ []) := Lib.hid (by intro e; have h := congrArg List.length e; rw [over_len (by first | exact Nat.le_refl _ | omega) (by have := LI.out; have := LB.out; omega), LI.out] at h; cases h)
        clear ht
        go_upto_region 16 with fail
        have q1 : m ≤ cb := by have := HCB.out; omega
        have q2 : m ≤ I.length := by have := LI.out; have := LB.out; omega
        have q3 : ¬ 9223372036854775807 < m + (I.length - m) := by have := LI.out; have := LB.out; omega
        have q5 : ¬ 9223372036854775807 < I.length := by have := LI.out; omega
        have q4 : ¬ 9223372036854775807 < min m lb.length + (I.length - m) := by have := LI.out; have := LB.out; omega
        have S41 : Hid (Stays [] w9 w9) := Lib.hid (stays_nil (Below.refl _ _))
        refine reg (Stays [] w9) (Turns [] w9) (kdOf [(13, .make (fun _ => callM (.bool true))), (21, .make (fun _ => imgM (over I lb m))), (22, .touch), (37, .make (fun _ => imgM I)), (38, .touch)]) none0 (stays_good _ _) (by kernel_rfl) (by kernel_rfl) (stays_drew (S41.out)) (holds0 _) ?_
        refine g_look rfl rfl ?_ (fun w' hC => ?_) ?_
        rotate_left
        · go_simp
          first | done | rfl
        simp only [Act.put, List.setIfInBounds_toArray, List.set_cons_zero, List.set_cons_succ]
        refine g_look rfl rfl ?_ (fun w' hC => ?_) ?_
        rotate_left
        · go_simp
          first | done | rfl
        simp only [Act.put, List.setIfInBounds_toArray, List.set_cons_zero, List.set_cons_succ]
        refine g_look rfl rfl ?_ (fun w' hC => ?_) ?_
        rotate_left
        · go_simp
          first | done | rfl
        simp only [Act.put, List.setIfInBounds_toArray, List.set_cons_zero, List.set_cons_succ]
        refine g_look rfl rfl ?_ (fun w' hC => ?_) ?_
        rotate_left
        · go_simp
          first | done | rfl
        simp only [Act.put, List.setIfInBounds_toArray, List.set_cons_zero, List.set_cons_succ]
        refine g_look rfl rfl ?_ (fun w' hC => ?_) ?_
        rotate_left
        · go_simp
          first | done | rfl
        simp only [Act.put, List.setIfInBounds_toArray, List.set_cons_zero, List.set_cons_succ]
        first
        | (refine g_skip rfl ?_)
        | (refine g_look rfl rfl ?_ (fun w' hC => ?_) ?_
           rotate_left
           · go_simp
             first | done | rfl)
        simp only [Act.put, List.setIfInBounds_toArray, List.set_cons_zero, List.set_cons_succ]
        first
        | (refine g_skip rfl ?_)
        | (refine g_look rfl rfl ?_ (fun w' hC => ?_) ?_
           rotate_left
           · go_simp
             first | done | rfl)
        simp only [Act.put, List.setIfInBounds_toArray, List.set_cons_zero, List.set_cons_succ]
        first
        | (refine g_skip rfl ?_)
        | (refine g_look rfl rfl ?_ (fun w' hC => ?_) ?_
           rotate_left
           · go_simp
             first | done | rfl)
        simp only [Act.put, List.setIfInBounds_toArray, List.set_cons_zero, List.set_cons_succ]
        first
        | (refine g_skip rfl ?_)
        | (refine g_look rfl rfl ?_ (fun w' hC => ?_) ?_
           rotate_left
           · go_simp
             first | done | rfl)
        simp only [Act.put, List.setIfInBounds_toArray, List.set_cons_zero, List.set_cons_succ]
        refine g_look rfl rfl ?_ (fun w' hC => ?_) ?_
        rotate_left
        · go_simp
          first | done | rfl
        simp only [Act.put, List.setIfInBounds_toArray, List.set_cons_zero, List.set_cons_succ]
        refine g_look rfl rfl ?_ (fun w' hC => ?_) ?_
        rotate_left
        · go_simp
          first | done | rfl
        simp only [Act.put, List.setIfInBounds_toArray, List.set_cons_zero, List.set_cons_succ]
        refine g_look rfl rfl ?_ (fun w' hC => ?_) ?_
        rotate_left
        · go_simp
          first | done | rfl
        simp only [Act.put, List.setIfInBounds_toArray, List.set_cons_zero, List.set_cons_succ]
        first
        | (refine g_skip rfl ?_)
        | (refine g_look rfl rfl ?_ (fun w' hC => ?_) ?_
           rotate_left
           · go_simp
             first | done | rfl)
        simp only [Act.put, List.setIfInBounds_toArray, List.set_cons_zero, List.set_cons_succ]
        refine g_call (stays_good _ _) (.bool true) rfl rfl (fun w' hC => ?_) ?_
        · go_simp
          refine (same_below (down_any (A9.out.below (stays_below hC)))).mono (fun e w2 h => ?_)
          obtain ⟨h1, h2⟩ := h
          exact gives h1 h2
        simp only [Act.put, List.setIfInBounds_toArray, List.set_cons_zero, List.set_cons_succ]
        first
        | (refine g_skip rfl ?_)
        | (refine g_look rfl rfl ?_ (fun w' hC => ?_) ?_
           rotate_left
           · go_simp
             first | done | rfl)
        simp only [Act.put, List.setIfInBounds_toArray, List.set_cons_zero, List.set_cons_succ]
        first
        | (refine g_skip rfl ?_)
        | (refine g_look rfl rfl ?_ (fun w' hC => ?_) ?_
           rotate_left
           · go_simp
             first | done | rfl)
        simp only [Act.put, List.setIfInBounds_toArray, List.set_cons_zero, List.set_cons_succ]
        first
        | (refine g_skip rfl ?_)
        | (refine g_look rfl rfl ?_ (fun w' hC => ?_) ?_
           rotate_left
           · go_simp
             first | done | rfl)
        simp only [Act.put, List.setIfInBounds_toArray, List.set_cons_zero, List.set_cons_succ]
        refine g_look rfl rfl ?_ (fun w' hC => ?_) ?_
        rotate_left
        · go_simp
          first | done | rfl
        simp only [Act.put, List.setIfInBounds_toArray, List.set_cons_zero, List.set_cons_succ]
        refine g_look rfl rfl ?_ (fun w' hC => ?_) ?_
        rotate_left
        · go_simp
          first | done | rfl
        simp only [Act.put, List.setIfInBounds_toArray, List.set_cons_zero, List.set_cons_succ]
        first
        | (refine g_skip rfl ?_)
        | (refine g_look rfl rfl ?_ (fun w' hC => ?_) ?_
           rotate_left
           · go_simp
             first | done | rfl)
        simp only [Act.put, List.setIfInBounds_toArray, List.set_cons_zero, List.set_cons_succ]
        first
        | (refine g_skip rfl ?_)
        | (refine g_look rfl rfl ?_ (fun w' hC => ?_) ?_
           rotate_left
           · go_simp
             first | done | rfl)
        simp only [Act.put, List.setIfInBounds_toArray, List.set_cons_zero, List.set_cons_succ]
        refine g_make _ (imgM (over I lb m)) rfl rfl rfl (fun w' hC => ?_) (fun xp px fx => ?_)
        · go_simp
          exact img_step LO.out (image_any 0 (A9.out.below (stays_below hC))) hC
        obtain ⟨gip, cip, cup⟩ := xp
        have Pp := Lib.hid px
        clear px fx
        simp only [Act.put, imgM, List.setIfInBounds_toArray, List.set_cons_zero, List.set_cons_succ]
        refine g_conv gip (some 21) cup (over I lb m) cip _ rfl rfl rfl rfl (own_new _ _ _ _) Pp.out.2 (by kernel_rfl) ?_
        simp only [Act.put, List.setIfInBounds_toArray, List.set_cons_zero, List.set_cons_succ]
        first
        | (refine g_skip rfl ?_)
        | (refine g_look rfl rfl ?_ (fun w' hC => ?_) ?_
           rotate_left
           · go_simp
             first | done | rfl)
        simp only [Act.put, List.setIfInBounds_toArray, List.set_cons_zero, List.set_cons_succ]
        first
        | (refine g_skip rfl ?_)
        | (refine g_look rfl rfl ?_ (fun w' hC => ?_) ?_
           rotate_left
           · go_simp
             first | done | rfl)
        simp only [Act.put, List.setIfInBounds_toArray, List.set_cons_zero, List.set_cons_succ]
        first
        | (refine g_skip rfl ?_)
        | (refine g_look rfl rfl ?_ (fun w' hC => ?_) ?_
           rotate_left
           · go_simp
             first | done | rfl)
        simp only [Act.put, List.setIfInBounds_toArray, List.set_cons_zero, List.set_cons_succ]
        first
        | (refine g_skip rfl ?_)
        | (refine g_look rfl rfl (.string ⟨(lb.take m).toArray⟩) (fun w' hC => ?_) ?_
           · exact look_part rfl rfl (reads_fr FF9.out VB.out (fun h0 k hk e => absurd (YB.out h0 k hk) (Nat.not_lt.2 e))) (stays_below hC) (by first | exact Nat.le_refl _ | omega) PN.out)
        simp only [Act.put, List.setIfInBounds_toArray, List.set_cons_zero, List.set_cons_succ]
        first
        | (refine g_skip rfl ?_)
        | (refine g_look rfl rfl ?_ (fun w' hC => ?_) ?_
           rotate_left
           · go_simp
             first | done | rfl)
        simp only [Act.put, List.setIfInBounds_toArray, List.set_cons_zero, List.set_cons_succ]
        first
        | (refine g_skip rfl ?_)
        | (refine g_look rfl rfl ?_ (fun w' hC => ?_) ?_
           rotate_left
           · go_simp
             first | done | rfl)
        simp only [Act.put, List.setIfInBounds_toArray, List.set_cons_zero, List.set_cons_succ]
        first
        | (refine g_skip rfl ?_)
        | (refine g_look rfl rfl (.string ⟨(I.drop m).toArray⟩) (fun w' hC => ?_) ?_
           · clear hC
             go_simp
             first | done | exact cut_string LI.out.symm | (rw [cut_string (by first | exact LI.out.symm | simp)]))
        simp only [Act.put, List.setIfInBounds_toArray, List.set_cons_zero, List.set_cons_succ]
        first
        | (refine g_skip rfl ?_)
        | (refine g_look rfl rfl (.string ⟨(over I lb m).toArray⟩) (fun w' hC => ?_) ?_
           · clear hC
             go_simp
             first | done | exact over_string | exact over_string_all)
        simp only [Act.put, List.setIfInBounds_toArray, List.set_cons_zero, List.set_cons_succ]
        first
        | (refine g_skip rfl ?_)
        | (refine g_look rfl rfl ?_ (fun w' hC => ?_) ?_
           rotate_left
           · go_simp
             first | done | rfl)
        simp only [Act.put, List.setIfInBounds_toArray, List.set_cons_zero, List.set_cons_succ]
        refine g_look rfl rfl ?_ (fun w' hC => ?_) ?_
        rotate_left
        · go_simp
          first | done | rfl
        simp only [Act.put, List.setIfInBounds_toArray, List.set_cons_zero, List.set_cons_succ]
        refine g_look rfl rfl ?_ (fun w' hC => ?_) ?_
        rotate_left
        · go_simp
          first | done | rfl
        simp only [Act.put, List.setIfInBounds_toArray, List.set_cons_zero, List.set_cons_succ]
        first
        | (refine g_skip rfl ?_)
        | (refine g_look rfl rfl ?_ (fun w' hC => ?_) ?_
           rotate_left
           · go_simp
             first | done | rfl)
        simp only [Act.put, List.setIfInBounds_toArray, List.set_cons_zero, List.set_cons_succ]
        first
        | (refine g_skip rfl ?_)
        | (refine g_look rfl rfl ?_ (fun w' hC => ?_) ?_
           rotate_left
           · go_simp
             first | done | rfl)
        simp only [Act.put, List.setIfInBounds_toArray, List.set_cons_zero, List.set_cons_succ]
        first
        | (refine g_skip rfl ?_)
        | (refine g_look rfl rfl ?_ (fun w' hC => ?_) ?_
           rotate_left
           · go_simp
             first | done | rfl)
        simp only [Act.put, List.setIfInBounds_toArray, List.set_cons_zero, List.set_cons_succ]
        refine g_make _ (imgM I) rfl rfl rfl (fun w' hC => ?_) (fun xq px fx => ?_)
        · go_simp
          exact img_step NI.out (image_any 1 (A9.out.below (stays_below hC))) hC
        obtain ⟨giq, ciq, cuq⟩ := xq
        have Pq := Lib.hid px
        clear px fx
        simp only [Act.put, imgM, List.setIfInBounds_toArray, List.set_cons_zero, List.set_cons_succ]
        refine g_conv giq (some 37) cuq I ciq _ rfl rfl rfl rfl (own_new _ _ _ _) Pq.out.2 (by kernel_rfl) ?_
        simp only [Act.put, List.setIfInBounds_toArray, List.set_cons_zero, List.set_cons_succ]
        first
        | (refine g_skip rfl ?_)
        | (refine g_look rfl rfl ?_ (fun w' hC => ?_) ?_
           rotate_left
           · go_simp
             first | done | rfl)
        simp only [Act.put, List.setIfInBounds_toArray, List.set_cons_zero, List.set_cons_succ]
        first
        | (refine g_skip rfl ?_)
        | (refine g_look rfl rfl ?_ (fun w' hC => ?_) ?_
           rotate_left
           · go_simp
             first | done | rfl)
        simp only [Act.put, List.setIfInBounds_toArray, List.set_cons_zero, List.set_cons_succ]
        refine g_look rfl rfl ?_ (fun w' hC => ?_) ?_
        rotate_left
        · go_simp
          first | done | rfl
        simp only [Act.put, List.setIfInBounds_toArray, List.set_cons_zero, List.set_cons_succ]
        refine g_look rfl rfl ?_ (fun w' hC => ?_) ?_
        rotate_left
        · go_simp
          first | done | rfl
        simp only [Act.put, List.setIfInBounds_toArray, List.set_cons_zero, List.set_cons_succ]
        refine g_end ?_
        intro w42 hC42 hh42
        have S42 : Hid (Stays [] w9 w42) := Lib.hid (stays_nil (stays_below hC42))
        clear S41
        clear hC42 hh42
        go_wp2_with fail
        refine bodyPost_ret (v := .bool true) (by simp [results, Try.results3, go_sem]) rfl ⟨rfl, ?_⟩
        exact ((FF9.out.trans (Fr.of_below (stays_below S42.out))).belowOf (w0 := w3) (Below.refl _ _) (fun _ h => h) |> fun h => b_then A0.out h)
      · by_cases he : n = (lb.length : Int)
        · obtain ⟨m, rfl⟩ := Int.eq_ofNat_of_zero_le (show 0 ≤ n by omega)
          have hL : (if (m : Int) < -1 then -1 else (m : Int)) = (m : Int) := by rw [if_neg (by omega)]
          have t1 : (0 : Int) ≤ (m : Int) := by omega
          obtain rfl : m = lb.length := by omega
          have t2 : ¬ (lb.length : Int) < (lb.length : Int) := by omega
          have A8' : Hid (At w8 w3.heap.size ⟨g, s0, s1, 64, I, I, (lb.length : Int), false, 0 + (la.length : Int) + (la.length : Int), wv6, [v5] ++ [v6]⟩) := Lib.hid (by
            have h := A8.out
            simp only [hL] at h
            exact h)
          clear A8
          go_wp2_with fail
          refine (write_ok 0 _ lb A8'.out rfl (Or.inl rfl) (reads_fr FF8.out VB.out (fun h0 k hk e => absurd (YB.out h0 k hk) (Nat.not_lt.2 e))) (by have := LB.out; show lb.length ≤ 64; omega) (by have := LB.out; omega) (fun h0 k hk => at_far A8'.out (YB.out h0 k hk)) (show 2 ≤ 1000 by decide) (by have := A8'.out.bg; have := blk_lt A8'.out.row; simp only at *; omega) (by have := LA.out; show (0 : Int) ≤ 0 + (la.length : Int) + (la.length : Int) ∧ 0 + (la.length : Int) + (la.length : Int) < 4611686018427387904; omega) (by have := HR.out; show (-1 : Int) ≤ (lb.length : Int) ∧ (lb.length : Int) ≤ 9223372036854775807; omega)).mono ?_
          rintro e w9 ⟨wv9, v9, hW⟩
          have FF9 := Lib.hid (FF8.out.trans (wrote_fr hW A8'.out (Nat.le_refl _)))
          obtain rfl := hW.ret
          have ht : Dk.goes ⟨g, s0, s1, 64, I, I, (lb.length : Int), false, 0 + (la.length : Int) + (la.length : Int), wv6, [v5] ++ [v6]⟩ lb.length = true := by simp [Dk.goes]
          obtain ⟨left9, wr9, hA9⟩ : ∃ left9 wr9, At w9 w3.heap.size ⟨g, s0, s1, 64, over I lb lb.length, I, left9, true, wr9, wv9, [v5] ++ [v6] ++ [v9]⟩ := ⟨_, _, wrote_at hW (k := lb.length) (t := true) (by rw [Dk.cut, if_pos ⟨by simp, by simp⟩]; rfl) ht⟩
          have A9 := Lib.hid hA9
          clear hW hA9 A8'
          rw [ht]
          have LO : Hid (over I lb lb.length ≠ []) := Lib.hid (by intro e; have h := congrArg List.length e; rw [over_len (by first | exact Nat.le_refl _ | omega) (by have := LI.out; have := LB.out; omega), LI.out] at h; cases h)
          clear ht
          go_upto_region 16 with fail
          have q1 : lb.length ≤ cb := by have := HCB.out; omega
          have q2 : lb.length ≤ I.length := by have := LI.out; have := LB.out; omega
          have q3 : ¬ 9223372036854775807 < lb.length + (I.length - lb.length) := by have := LI.out; have := LB.out; omega
          have q5 : ¬ 9223372036854775807 < I.length := by have := LI.out; omega
          have q4 : ¬ 9223372036854775807 < min lb.length lb.length + (I.length - lb.length) := by have := LI.out; have := LB.out; omega
          have S41 : Hid (Stays [] w9 w9) := Lib.hid (stays_nil (Below.refl _ _))
          refine reg (Stays [] w9) (Turns [] w9) (kdOf [(13, .make (fun _ => callM (.bool true))), (21, .make (fun _ => imgM (over I lb lb.length))), (22, .touch), (37, .make (fun _ => imgM I)), (38, .touch)]) none0 (stays_good _ _) (by kernel_rfl) (by kernel_rfl) (stays_drew (S41.out)) (holds0 _) ?_
          refine g_look rfl rfl ?_ (fun w' hC => ?_) ?_
          rotate_left
          · go_simp
            first | done | rfl
          simp only [Act.put, List.setIfInBounds_toArray, List.set_cons_zero, List.set_cons_succ]
          refine g_look rfl rfl ?_ (fun w' hC => ?_) ?_
          rotate_left
          · go_simp
            first | done | rfl
          simp only [Act.put, List.setIfInBounds_toArray, List.set_cons_zero, List.set_cons_succ]
          refine g_look rfl rfl ?_ (fun w' hC => ?_) ?_
          rotate_left
          · go_simp
            first | done | rfl
          simp only [Act.put, List.setIfInBounds_toArray, List.set_cons_zero, List.set_cons_succ]
          refine g_look rfl rfl ?_ (fun w' hC => ?_) ?_
          rotate_left
          · go_simp
            first | done | rfl
          simp only [Act.put, List.setIfInBounds_toArray, List.set_cons_zero, List.set_cons_succ]
          refine g_look rfl rfl ?_ (fun w' hC => ?_) ?_
          rotate_left
          · go_simp
            first | done | rfl
          simp only [Act.put, List.setIfInBounds_toArray, List.set_cons_zero, List.set_cons_succ]
          first
          | (refine g_skip rfl ?_)
          | (refine g_look rfl rfl ?_ (fun w' hC => ?_) ?_
             rotate_left
             · go_simp
               first | done | rfl)
          simp only [Act.put, List.setIfInBounds_toArray, List.set_cons_zero, List.set_cons_succ]
          first
          | (refine g_skip rfl ?_)
          | (refine g_look rfl rfl ?_ (fun w' hC => ?_) ?_
             rotate_left
             · go_simp
               first | done | rfl)
          simp only [Act.put, List.setIfInBounds_toArray, List.set_cons_zero, List.set_cons_succ]
          first
          | (refine g_skip rfl ?_)
          | (refine g_look rfl rfl ?_ (fun w' hC => ?_) ?_
             rotate_left
             · go_simp
               first | done | rfl)
          simp only [Act.put, List.setIfInBounds_toArray, List.set_cons_zero, List.set_cons_succ]
          first
          | (refine g_skip rfl ?_)
          | (refine g_look rfl rfl ?_ (fun w' hC => ?_) ?_
             rotate_left
             · go_simp
               first | done | rfl)
          simp only [Act.put, List.setIfInBounds_toArray, List.set_cons_zero, List.set_cons_succ]
          refine g_look rfl rfl ?_ (fun w' hC => ?_) ?_
          rotate_left
          · go_simp
            first | done | rfl
          simp only [Act.put, List.setIfInBounds_toArray, List.set_cons_zero, List.set_cons_succ]
          refine g_look rfl rfl ?_ (fun w' hC => ?_) ?_
          rotate_left
          · go_simp
            first | done | rfl
          simp only [Act.put, List.setIfInBounds_toArray, List.set_cons_zero, List.set_cons_succ]
          refine g_look rfl rfl ?_ (fun w' hC => ?_) ?_
          rotate_left
          · go_simp
            first | done | rfl
          simp only [Act.put, List.setIfInBounds_toArray, List.set_cons_zero, List.set_cons_succ]
          first
          | (refine g_skip rfl ?_)
          | (refine g_look rfl rfl ?_ (fun w' hC => ?_) ?_
             rotate_left
             · go_simp
               first | done | rfl)
          simp only [Act.put, List.setIfInBounds_toArray, List.set_cons_zero, List.set_cons_succ]
          refine g_call (stays_good _ _) (.bool true) rfl rfl (fun w' hC => ?_) ?_
          · go_simp
            refine (same_below (down_any (A9.out.below (stays_below hC)))).mono (fun e w2 h => ?_)
            obtain ⟨h1, h2⟩ := h
            exact gives h1 h2
          simp only [Act.put, List.setIfInBounds_toArray, List.set_cons_zero, List.set_cons_succ]
          first
          | (refine g_skip rfl ?_)
          | (refine g_look rfl rfl ?_ (fun w' hC => ?_) ?_
             rotate_left
             · go_simp
               first | done | rfl)
          simp only [Act.put, List.setIfInBounds_toArray, List.set_cons_zero, List.set_cons_succ]
          first
          | (refine g_skip rfl ?_)
          | (refine g_look rfl rfl ?_ (fun w' hC => ?_) ?_
             rotate_left
             · go_simp
               first | done | rfl)
          simp only [Act.put, List.setIfInBounds_toArray, List.set_cons_zero, List.set_cons_succ]
          first
          | (refine g_skip rfl ?_)
          | (refine g_look rfl rfl ?_ (fun w' hC => ?_) ?_
             rotate_left
             · go_simp
               first | done | rfl)
          simp only [Act.put, List.setIfInBounds_toArray, List.set_cons_zero, List.set_cons_succ]
          refine g_look rfl rfl ?_ (fun w' hC => ?_) ?_
          rotate_left
          · go_simp
            first | done | rfl
          simp only [Act.put, List.setIfInBounds_toArray, List.set_cons_zero, List.set_cons_succ]
          refine g_look rfl rfl ?_ (fun w' hC => ?_) ?_
          rotate_left
          · go_simp
            first | done | rfl
          simp only [Act.put, List.setIfInBounds_toArray, List.set_cons_zero, List.set_cons_succ]
          first
          | (refine g_skip rfl ?_)
          | (refine g_look rfl rfl ?_ (fun w' hC => ?_) ?_
             rotate_left
             · go_simp
               first | done | rfl)
          simp only [Act.put, List.setIfInBounds_toArray, List.set_cons_zero, List.set_cons_succ]
          first
          | (refine g_skip rfl ?_)
          | (refine g_look rfl rfl ?_ (fun w' hC => ?_) ?_
             rotate_left
             · go_simp
               first | done | rfl)
          simp only [Act.put, List.setIfInBounds_toArray, List.set_cons_zero, List.set_cons_succ]
          refine g_make _ (imgM (over I lb lb.length)) rfl rfl rfl (fun w' hC => ?_) (fun xp px fx => ?_)
          · go_simp
            exact img_step LO.out (image_any 0 (A9.out.below (stays_below hC))) hC
          obtain ⟨gip, cip, cup⟩ := xp
          have Pp := Lib.hid px
          clear px fx
          simp only [Act.put, imgM, List.setIfInBounds_toArray, List.set_cons_zero, List.set_cons_succ]
          refine g_conv gip (some 21) cup (over I lb lb.length) cip _ rfl rfl rfl rfl (own_new _ _ _ _) Pp.out.2 (by kernel_rfl) ?_
          simp only [Act.put, List.setIfInBounds_toArray, List.set_cons_zero, List.set_cons_succ]
          first
          | (refine g_skip rfl ?_)
          | (refine g_look rfl rfl ?_ (fun w' hC => ?_) ?_
             rotate_left
             · go_simp
               first | done | rfl)
          simp only [Act.put, List.setIfInBounds_toArray, List.set_cons_zero, List.set_cons_succ]
          first
          | (refine g_skip rfl ?_)
          | (refine g_look rfl rfl ?_ (fun w' hC => ?_) ?_
             rotate_left
             · go_simp
               first | done | rfl)
          simp only [Act.put, List.setIfInBounds_toArray, List.set_cons_zero, List.set_cons_succ]
          first
          | (refine g_skip rfl ?_)
          | (refine g_look rfl rfl ?_ (fun w' hC => ?_) ?_
             rotate_left
             · go_simp
               first | done | rfl)
          simp only [Act.put, List.setIfInBounds_toArray, List.set_cons_zero, List.set_cons_succ]
          first
          | (refine g_skip rfl ?_)
          | (refine g_look rfl rfl (.string ⟨(lb.take lb.length).toArray⟩) (fun w' hC => ?_) ?_
             · exact look_part rfl rfl (reads_fr FF9.out VB.out (fun h0 k hk e => absurd (YB.out h0 k hk) (Nat.not_lt.2 e))) (stays_below hC) (by first | exact Nat.le_refl _ | omega) PN.out)
          simp only [Act.put, List.setIfInBounds_toArray, List.set_cons_zero, List.set_cons_succ]
          first
          | (refine g_skip rfl ?_)
          | (refine g_look rfl rfl ?_ (fun w' hC => ?_) ?_
             rotate_left
             · go_simp
               first | done | rfl)
          simp only [Act.put, List.setIfInBounds_toArray, List.set_cons_zero, List.set_cons_succ]
          first
          | (refine g_skip rfl ?_)
          | (refine g_look rfl rfl ?_ (fun w' hC => ?_) ?_
             rotate_left
             · go_simp
               first | done | rfl)
          simp only [Act.put, List.setIfInBounds_toArray, List.set_cons_zero, List.set_cons_succ]
          first
          | (refine g_skip rfl ?_)
          | (refine g_look rfl rfl (.string ⟨(I.drop lb.length).toArray⟩) (fun w' hC => ?_) ?_
             · clear hC
               go_simp
               first | done | exact cut_string LI.out.symm | (rw [cut_string (by first | exact LI.out.symm | simp)]))
          simp only [Act.put, List.setIfInBounds_toArray, List.set_cons_zero, List.set_cons_succ]
          first
          | (refine g_skip rfl ?_)
          | (refine g_look rfl rfl (.string ⟨(over I lb lb.length).toArray⟩) (fun w' hC => ?_) ?_
             · clear hC
               go_simp
               first | done | exact over_string | exact over_string_all)
          simp only [Act.put, List.setIfInBounds_toArray, List.set_cons_zero, List.set_cons_succ]
          first
          | (refine g_skip rfl ?_)
          | (refine g_look rfl rfl ?_ (fun w' hC => ?_) ?_
             rotate_left
             · go_simp
               first | done | rfl)
          simp only [Act.put, List.setIfInBounds_toArray, List.set_cons_zero, List.set_cons_succ]
          refine g_look rfl rfl ?_ (fun w' hC => ?_) ?_
          rotate_left
          · go_simp
            first | done | rfl
          simp only [Act.put, List.setIfInBounds_toArray, List.set_cons_zero, List.set_cons_succ]
          refine g_look rfl rfl ?_ (fun w' hC => ?_) ?_
          rotate_left
          · go_simp
            first | done | rfl
          simp only [Act.put, List.setIfInBounds_toArray, List.set_cons_zero, List.set_cons_succ]
          first
          | (refine g_skip rfl ?_)
          | (refine g_look rfl rfl ?_ (fun w' hC => ?_) ?_
             rotate_left
             · go_simp
               first | done | rfl)
          simp only [Act.put, List.setIfInBounds_toArray, List.set_cons_zero, List.set_cons_succ]
          first
          | (refine g_skip rfl ?_)
          | (refine g_look rfl rfl ?_ (fun w' hC => ?_) ?_
             rotate_left
             · go_simp
               first | done | rfl)
          simp only [Act.put, List.setIfInBounds_toArray, List.set_cons_zero, List.set_cons_succ]
          first
          | (refine g_skip rfl ?_)
          | (refine g_look rfl rfl ?_ (fun w' hC => ?_) ?_
             rotate_left
             · go_simp
               first | done | rfl)
          simp only [Act.put, List.setIfInBounds_toArray, List.set_cons_zero, List.set_cons_succ]
          refine g_make _ (imgM I) rfl rfl rfl (fun w' hC => ?_) (fun xq px fx => ?_)
          · go_simp
            exact img_step NI.out (image_any 1 (A9.out.below (stays_below hC))) hC
          obtain ⟨giq, ciq, cuq⟩ := xq
          have Pq := Lib.hid px
          clear px fx
          simp only [Act.put, imgM, List.setIfInBounds_toArray, List.set_cons_zero, List.set_cons_succ]
          refine g_conv giq (some 37) cuq I ciq _ rfl rfl rfl rfl (own_new _ _ _ _) Pq.out.2 (by kernel_rfl) ?_
          simp only [Act.put, List.setIfInBounds_toArray, List.set_cons_zero, List.set_cons_succ]
          first
          | (refine g_skip rfl ?_)
          | (refine g_look rfl rfl ?_ (fun w' hC => ?_) ?_
             rotate_left
             · go_simp
               first | done | rfl)
          simp only [Act.put, List.setIfInBounds_toArray, List.set_cons_zero, List.set_cons_succ]
          first
          | (refine g_skip rfl ?_)
          | (refine g_look rfl rfl ?_ (fun w' hC => ?_) ?_
             rotate_left
             · go_simp
               first | done | rfl)
          simp only [Act.put, List.setIfInBounds_toArray, List.set_cons_zero, List.set_cons_succ]
          refine g_look rfl rfl ?_ (fun w' hC => ?_) ?_
          rotate_left
          · go_simp
            first | done | rfl
          simp only [Act.put, List.setIfInBounds_toArray, List.set_cons_zero, List.set_cons_succ]
          refine g_look rfl rfl ?_ (fun w' hC => ?_) ?_
          rotate_left
          · go_simp
            first | done | rfl
          simp only [Act.put, List.setIfInBounds_toArray, List.set_cons_zero, List.set_cons_succ]
          refine g_end ?_
          intro w42 hC42 hh42
          have S42 : Hid (Stays [] w9 w42) := Lib.hid (stays_nil (stays_below hC42))
          clear S41
          clear hC42 hh42
          go_wp2_with fail
          refine bodyPost_ret (v := .bool true) (by simp [results, Try.results3, go_sem]) rfl ⟨rfl, ?_⟩
          exact ((FF9.out.trans (Fr.of_below (stays_below S42.out))).belowOf (w0 := w3) (Below.refl _ _) (fun _ h => h) |> fun h => b_then A0.out h)
        · obtain ⟨m, rfl⟩ := Int.eq_ofNat_of_zero_le (show 0 ≤ n by omega)
          have hL : (if (m : Int) < -1 then -1 else (m : Int)) = (m : Int) := by rw [if_neg (by omega)]
          have t1 : (0 : Int) ≤ (m : Int) := by omega
          have hmN : lb.length < m := by omega
          have t2 : ¬ (m : Int) < (lb.length : Int) := by omega
          have t3 : ¬ (m : Int) ≤ (lb.length : Int) := by omega
          have t4 : ¬ m ≤ lb.length := by omega
          have A8' : Hid (At w8 w3.heap.size ⟨g, s0, s1, 64, I, I, (m : Int), false, 0 + (la.length : Int) + (la.length : Int), wv6, [v5] ++ [v6]⟩) := Lib.hid (by
            have h := A8.out
            simp only [hL] at h
            exact h)
          clear A8
          go_wp2_with fail
          refine (write_ok 0 _ lb A8'.out rfl (Or.inl rfl) (reads_fr FF8.out VB.out (fun h0 k hk e => absurd (YB.out h0 k hk) (Nat.not_lt.2 e))) (by have := LB.out; show lb.length ≤ 64; omega) (by have := LB.out; omega) (fun h0 k hk => at_far A8'.out (YB.out h0 k hk)) (show 2 ≤ 1000 by decide) (by have := A8'.out.bg; have := blk_lt A8'.out.row; simp only at *; omega) (by have := LA.out; show (0 : Int) ≤ 0 + (la.length : Int) + (la.length : Int) ∧ 0 + (la.length : Int) + (la.length : Int) < 4611686018427387904; omega) (by have := HR.out; show (-1 : Int) ≤ (m : Int) ∧ (m : Int) ≤ 9223372036854775807; omega)).mono ?_
          rintro e w9 ⟨wv9, v9, hW⟩
          have FF9 := Lib.hid (FF8.out.trans (wrote_fr hW A8'.out (Nat.le_refl _)))
          obtain rfl := hW.ret
          have ht : Dk.goes ⟨g, s0, s1, 64, I, I, (m : Int), false, 0 + (la.length : Int) + (la.length : Int), wv6, [v5] ++ [v6]⟩ lb.length = false := by simp [Dk.goes]; omega
          obtain ⟨left9, wr9, hA9⟩ : ∃ left9 wr9, At w9 w3.heap.size ⟨g, s0, s1, 64, over I lb lb.length, I, left9, false, wr9, wv9, [v5] ++ [v6] ++ [v9]⟩ := ⟨_, _, wrote_at hW (k := lb.length) (t := false) (by rw [Dk.cut, if_neg (by simp; omega)]) ht⟩
          have A9 := Lib.hid hA9
          clear hW hA9 A8'
          rw [ht]
          have LO : Hid (over I lb lb.length ≠ []) := Lib.hid (by intro e; have h := congrArg List.length e; rw [over_len (by first | exact Nat.le_refl _ | omega) (by have := LI.out; have := LB.out; omega), LI.out] at h; cases h)
          clear ht
          go_upto_region 16 with fail
          have q1 : lb.length ≤ cb := by have := HCB.out; omega
          have q2 : lb.length ≤ I.length := by have := LI.out; have := LB.out; omega
          have q3 : ¬ 9223372036854775807 < lb.length + (I.length - lb.length) := by have := LI.out; have := LB.out; omega
          have q5 : ¬ 9223372036854775807 < I.length := by have := LI.out; omega
          have q4 : ¬ 9223372036854775807 < min lb.length lb.length + (I.length - lb.length) := by have := LI.out; have := LB.out; omega
          have S41 : Hid (Stays [] w9 w9) := Lib.hid (stays_nil (Below.refl _ _))
          refine reg (Stays [] w9) (Turns [] w9) (kdOf [(13, .make (fun _ => callM (.bool false))), (21, .make (fun _ => imgM (over I lb lb.length))), (22, .touch), (37, .make (fun _ => imgM I)), (38, .touch)]) none0 (stays_good _ _) (by kernel_rfl) (by kernel_rfl) (stays_drew (S41.out)) (holds0 _) ?_
          refine g_look rfl rfl ?_ (fun w' hC => ?_) ?_
          rotate_left
          · go_simp
            first | done | rfl
          simp only [Act.put, List.setIfInBounds_toArray, List.set_cons_zero, List.set_cons_succ]
          refine g_look rfl rfl ?_ (fun w' hC => ?_) ?_
          rotate_left
          · go_simp
            first | done | rfl
          simp only [Act.put, List.setIfInBounds_toArray, List.set_cons_zero, List.set_cons_succ]
          refine g_look rfl rfl ?_ (fun w' hC => ?_) ?_
          rotate_left
          · go_simp
            first | done | rfl
          simp only [Act.put, List.setIfInBounds_toArray, List.set_cons_zero, List.set_cons_succ]
          refine g_look rfl rfl ?_ (fun w' hC => ?_) ?_
          rotate_left
          · go_simp
            first | done | rfl
          simp only [Act.put, List.setIfInBounds_toArray, List.set_cons_zero, List.set_cons_succ]
          refine g_look rfl rfl ?_ (fun w' hC => ?_) ?_
          rotate_left
          · go_simp
            first | done | rfl
          simp only [Act.put, List.setIfInBounds_toArray, List.set_cons_zero, List.set_cons_succ]
          first
          | (refine g_skip rfl ?_)
          | (refine g_look rfl rfl ?_ (fun w' hC => ?_) ?_
             rotate_left
             · go_simp
               first | done | rfl)
          simp only [Act.put, List.setIfInBounds_toArray, List.set_cons_zero, List.set_cons_succ]
          first
          | (refine g_skip rfl ?_)
          | (refine g_look rfl rfl ?_ (fun w' hC => ?_) ?_
             rotate_left
             · go_simp
               first | done | rfl)
          simp only [Act.put, List.setIfInBounds_toArray, List.set_cons_zero, List.set_cons_succ]
          first
          | (refine g_skip rfl ?_)
          | (refine g_look rfl rfl ?_ (fun w' hC => ?_) ?_
             rotate_left
             · go_simp
               first | done | rfl)
          simp only [Act.put, List.setIfInBounds_toArray, List.set_cons_zero, List.set_cons_succ]
          first
          | (refine g_skip rfl ?_)
          | (refine g_look rfl rfl ?_ (fun w' hC => ?_) ?_
             rotate_left
             · go_simp
               first | done | rfl)
          simp only [Act.put, List.setIfInBounds_toArray, List.set_cons_zero, List.set_cons_succ]
          refine g_look rfl rfl ?_ (fun w' hC => ?_) ?_
          rotate_left
          · go_simp
            first | done | rfl
          simp only [Act.put, List.setIfInBounds_toArray, List.set_cons_zero, List.set_cons_succ]
          refine g_look rfl rfl ?_ (fun w' hC => ?_) ?_
          rotate_left
          · go_simp
            first | done | rfl
          simp only [Act.put, List.setIfInBounds_toArray, List.set_cons_zero, List.set_cons_succ]
          refine g_look rfl rfl ?_ (fun w' hC => ?_) ?_
          rotate_left
          · go_simp
            first | done | rfl
          simp only [Act.put, List.setIfInBounds_toArray, List.set_cons_zero, List.set_cons_succ]
          first
          | (refine g_skip rfl ?_)
          | (refine g_look rfl rfl ?_ (fun w' hC => ?_) ?_
             rotate_left
             · go_simp
               first | done | rfl)
          simp only [Act.put, List.setIfInBounds_toArray, List.set_cons_zero, List.set_cons_succ]
          refine g_call (stays_good _ _) (.bool false) rfl rfl (fun w' hC => ?_) ?_
          · go_simp
            refine (same_below (down_any (A9.out.below (stays_below hC)))).mono (fun e w2 h => ?_)
            obtain ⟨h1, h2⟩ := h
            exact gives h1 h2
          simp only [Act.put, List.setIfInBounds_toArray, List.set_cons_zero, List.set_cons_succ]
          first
          | (refine g_skip rfl ?_)
          | (refine g_look rfl rfl ?_ (fun w' hC => ?_) ?_
             rotate_left
             · go_simp
               first | done | rfl)
          simp only [Act.put, List.setIfInBounds_toArray, List.set_cons_zero, List.set_cons_succ]
          first
          | (refine g_skip rfl ?_)
          | (refine g_look rfl rfl ?_ (fun w' hC => ?_) ?_
             rotate_left
             · go_simp
               first | done | rfl)
          simp only [Act.put, List.setIfInBounds_toArray, List.set_cons_zero, List.set_cons_succ]
          first
          | (refine g_skip rfl ?_)
          | (refine g_look rfl rfl ?_ (fun w' hC => ?_) ?_
             rotate_left
             · go_simp
               first | done | rfl)
          simp only [Act.put, List.setIfInBounds_toArray, List.set_cons_zero, List.set_cons_succ]
          refine g_look rfl rfl ?_ (fun w' hC => ?_) ?_
          rotate_left
          · go_simp
            first | done | rfl
          simp only [Act.put, List.setIfInBounds_toArray, List.set_cons_zero, List.set_cons_succ]
          refine g_look rfl rfl ?_ (fun w' hC => ?_) ?_
          rotate_left
          · go_simp
            first | done | rfl
          simp only [Act.put, List.setIfInBounds_toArray, List.set_cons_zero, List.set_cons_succ]
          first
          | (refine g_skip rfl ?_)
          | (refine g_look rfl rfl ?_ (fun w' hC => ?_) ?_
             rotate_left
             · go_simp
               first | done | rfl)
          simp only [Act.put, List.setIfInBounds_toArray, List.set_cons_zero, List.set_cons_succ]
          first
          | (refine g_skip rfl ?_)
          | (refine g_look rfl rfl ?_ (fun w' hC => ?_) ?_
             rotate_left
             · go_simp
               first | done | rfl)
          simp only [Act.put, List.setIfInBounds_toArray, List.set_cons_zero, List.set_cons_succ]
          refine g_make _ (imgM (over I lb lb.length)) rfl rfl rfl (fun w' hC => ?_) (fun xp px fx => ?_)
          · go_simp
            exact img_step LO.out (image_any 0 (A9.out.below (stays_below hC))) hC
          obtain ⟨gip, cip, cup⟩ := xp
          have Pp := Lib.hid px
          clear px fx
          simp only [Act.put, imgM, List.setIfInBounds_toArray, List.set_cons_zero, List.set_cons_succ]
          refine g_conv gip (some 21) cup (over I lb lb.length) cip _ rfl rfl rfl rfl (own_new _ _ _ _) Pp.out.2 (by kernel_rfl) ?_
          simp only [Act.put, List.setIfInBounds_toArray, List.set_cons_zero, List.set_cons_succ]
          first
          | (refine g_skip rfl ?_)
          | (refine g_look rfl rfl ?_ (fun w' hC => ?_) ?_
             rotate_left
             · go_simp
               first | done | rfl)
          simp only [Act.put, List.setIfInBounds_toArray, List.set_cons_zero, List.set_cons_succ]
          first
          | (refine g_skip rfl ?_)
          | (refine g_look rfl rfl ?_ (fun w' hC => ?_) ?_
             rotate_left
             · go_simp
               first | done | rfl)
          simp only [Act.put, List.setIfInBounds_toArray, List.set_cons_zero, List.set_cons_succ]
          first
          | (refine g_skip rfl ?_)
          | (refine g_look rfl rfl ?_ (fun w' hC => ?_) ?_
             rotate_left
             · go_simp
               first | done | rfl)
          simp only [Act.put, List.setIfInBounds_toArray, List.set_cons_zero, List.set_cons_succ]
          first
          | (refine g_skip rfl ?_)
          | (refine g_look rfl rfl (.string ⟨(lb.take lb.length).toArray⟩) (fun w' hC => ?_) ?_
             · exact look_part rfl rfl (reads_fr FF9.out VB.out (fun h0 k hk e => absurd (YB.out h0 k hk) (Nat.not_lt.2 e))) (stays_below hC) (by first | exact Nat.le_refl _ | omega) PN.out)
          simp only [Act.put, List.setIfInBounds_toArray, List.set_cons_zero, List.set_cons_succ]
          first
          | (refine g_skip rfl ?_)
          | (refine g_look rfl rfl ?_ (fun w' hC => ?_) ?_
             rotate_left
             · go_simp
               first | done | rfl)
          simp only [Act.put, List.setIfInBounds_toArray, List.set_cons_zero, List.set_cons_succ]
          first
          | (refine g_skip rfl ?_)
          | (refine g_look rfl rfl ?_ (fun w' hC => ?_) ?_
             rotate_left
             · go_simp
               first | done | rfl)
          simp only [Act.put, List.setIfInBounds_toArray, List.set_cons_zero, List.set_cons_succ]
          first
          | (refine g_skip rfl ?_)
          | (refine g_look rfl rfl (.string ⟨(I.drop lb.length).toArray⟩) (fun w' hC => ?_) ?_
             · clear hC
               go_simp
               first | done | exact cut_string LI.out.symm | (rw [cut_string (by first | exact LI.out.symm | simp)]))
          simp only [Act.put, List.setIfInBounds_toArray, List.set_cons_zero, List.set_cons_succ]
          first
          | (refine g_skip rfl ?_)
          | (refine g_look rfl rfl (.string ⟨(over I lb lb.length).toArray⟩) (fun w' hC => ?_) ?_
             · clear hC
               go_simp
               first | done | exact over_string | exact over_string_all)
          simp only [Act.put, List.setIfInBounds_toArray, List.set_cons_zero, List.set_cons_succ]
          first
          | (refine g_skip rfl ?_)
          | (refine g_look rfl rfl ?_ (fun w' hC => ?_) ?_
             rotate_left
             · go_simp
               first | done | rfl)
          simp only [Act.put, List.setIfInBounds_toArray, List.set_cons_zero, List.set_cons_succ]
          refine g_look rfl rfl ?_ (fun w' hC => ?_) ?_
          rotate_left
          · go_simp
            first | done | rfl
          simp only [Act.put, List.setIfInBounds_toArray, List.set_cons_zero, List.set_cons_succ]
          refine g_look rfl rfl ?_ (fun w' hC => ?_) ?_
          rotate_left
          · go_simp
            first | done | rfl
          simp only [Act.put, List.setIfInBounds_toArray, List.set_cons_zero, List.set_cons_succ]
          first
          | (refine g_skip rfl ?_)
          | (refine g_look rfl rfl ?_ (fun w' hC => ?_) ?_
             rotate_left
             · go_simp
               first | done | rfl)
          simp only [Act.put, List.setIfInBounds_toArray, List.set_cons_zero, List.set_cons_succ]
          first
          | (refine g_skip rfl ?_)
          | (refine g_look rfl rfl ?_ (fun w' hC => ?_) ?_
             rotate_left
             · go_simp
               first | done | rfl)
          simp only [Act.put, List.setIfInBounds_toArray, List.set_cons_zero, List.set_cons_succ]
          first
          | (refine g_skip rfl ?_)
          | (refine g_look rfl rfl ?_ (fun w' hC => ?_) ?_
             rotate_left
             · go_simp
               first | done | rfl)
          simp only [Act.put, List.setIfInBounds_toArray, List.set_cons_zero, List.set_cons_succ]
          refine g_make _ (imgM I) rfl rfl rfl (fun w' hC => ?_) (fun xq px fx => ?_)
          · go_simp
            exact img_step NI.out (image_any 1 (A9.out.below (stays_below hC))) hC
          obtain ⟨giq, ciq, cuq⟩ := xq
          have Pq := Lib.hid px
          clear px fx
          simp only [Act.put, imgM, List.setIfInBounds_toArray, List.set_cons_zero, List.set_cons_succ]
          refine g_conv giq (some 37) cuq I ciq _ rfl rfl rfl rfl (own_new _ _ _ _) Pq.out.2 (by kernel_rfl) ?_
          simp only [Act.put, List.setIfInBounds_toArray, List.set_cons_zero, List.set_cons_succ]
          first
          | (refine g_skip rfl ?_)
          | (refine g_look rfl rfl ?_ (fun w' hC => ?_) ?_
             rotate_left
             · go_simp
               first | done | rfl)
          simp only [Act.put, List.setIfInBounds_toArray, List.set_cons_zero, List.set_cons_succ]
          first
          | (refine g_skip rfl ?_)
          | (refine g_look rfl rfl ?_ (fun w' hC => ?_) ?_
             rotate_left
             · go_simp
               first | done | rfl)
          simp only [Act.put, List.setIfInBounds_toArray, List.set_cons_zero, List.set_cons_succ]
          refine g_look rfl rfl ?_ (fun w' hC => ?_) ?_
          rotate_left
          · go_simp
            first | done | rfl
          simp only [Act.put, List.setIfInBounds_toArray, List.set_cons_zero, List.set_cons_succ]
          refine g_look rfl rfl ?_ (fun w' hC => ?_) ?_
          rotate_left
          · go_simp
            first | done | rfl
          simp only [Act.put, List.setIfInBounds_toArray, List.set_cons_zero, List.set_cons_succ]
          refine g_end ?_
          intro w42 hC42 hh42
          have S42 : Hid (Stays [] w9 w42) := Lib.hid (stays_nil (stays_below hC42))
          clear S41
          clear hC42 hh42
          go_wp2_with fail
          refine bodyPost_ret (v := .bool true) (by simp [results, Try.results3, go_sem]) rfl ⟨rfl, ?_⟩
          exact ((FF9.out.trans (Fr.of_below (stays_below S42.out))).belowOf (w0 := w3) (Below.refl _ _) (fun _ h => h) |> fun h => b_then A0.out h)
  · clear HX HK
    go_wp2_with fail
    clear ex
    refine (write_ok 1 _ la A4.out rfl (Or.inr rfl) (reads_fr FF4.out VA.out (fun h0 k hk e => absurd (YA.out h0 k hk) (Nat.not_lt.2 e))) (by have := LA.out; show la.length ≤ 64; omega) (by have := LA.out; omega) (fun h0 k hk => at_far A4.out (YA.out h0 k hk)) (show 0 ≤ 1000 by decide) (by have := A4.out.bg; have := blk_lt A4.out.row; simp only at *; omega) (by show (0 : Int) ≤ 0 ∧ (0 : Int) < 4611686018427387904; decide) (by show (-1 : Int) ≤ -1 ∧ (-1 : Int) ≤ 9223372036854775807; decide)).mono ?_
    rintro e w5 ⟨wv5, v5, hW⟩
    have FF5 := Lib.hid (FF4.out.trans (wrote_fr hW A4.out (Nat.le_refl _)))
    obtain rfl := hW.ret
    have A5 : Hid (At w5 w3.heap.size ⟨g, s0, s1, 64, zs 64, I, -1, false, 0 + (la.length : Int), wv5, [v5]⟩) := Lib.hid (by
      have h := wrote_at hW (k := la.length) (t := false) (by rw [Dk.cut, if_neg (by simp)]) (by simp [Dk.goes])
      rw [← HI.out]
      exact h)
    clear hW
    simp only [Dk.goes]
    go_wp2_with fail
    refine (write_ok 0 _ la A5.out rfl (Or.inl rfl) (reads_fr FF5.out VA.out (fun h0 k hk e => absurd (YA.out h0 k hk) (Nat.not_lt.2 e))) (by have := LA.out; show la.length ≤ 64; omega) (by have := LA.out; omega) (fun h0 k hk => at_far A5.out (YA.out h0 k hk)) (show 1 ≤ 1000 by decide) (by have := A5.out.bg; have := blk_lt A5.out.row; simp only at *; omega) (by have := LA.out; show (0 : Int) ≤ 0 + (la.length : Int) ∧ 0 + (la.length : Int) < 4611686018427387904; omega) (by show (-1 : Int) ≤ -1 ∧ (-1 : Int) ≤ 9223372036854775807; decide)).mono ?_
    rintro e w6 ⟨wv6, v6, hW⟩
    have FF6 := Lib.hid (FF5.out.trans (wrote_fr hW A5.out (Nat.le_refl _)))
    obtain rfl := hW.ret
    have A6 : Hid (At w6 w3.heap.size ⟨g, s0, s1, 64, I, I, -1, false, 0 + (la.length : Int) + (la.length : Int), wv6, [v5] ++ [v6]⟩) := Lib.hid (by
      have h := wrote_at hW (k := la.length) (t := false) (by rw [Dk.cut, if_neg (by simp)]) (by simp [Dk.goes])
      rw [← HI.out] at h ⊢
      exact h)
    clear hW
    simp only [Dk.goes]
    go_upto_region 10 with fail
    have S21 : Hid (Stays [] w6 w6) := Lib.hid (stays_nil (Below.refl _ _))
    refine reg (Stays [] w6) (Turns [] w6) (kdOf [(2, .make (fun _ => imgM I)), (3, .touch), (7, .make (fun _ => imgM I)), (8, .touch)]) none0 (stays_good _ _) (by kernel_rfl) (by kernel_rfl) (stays_drew (S21.out)) (holds0 _) ?_
    refine g_look rfl rfl ?_ (fun w' hC => ?_) ?_
    rotate_left
    · go_simp
      first | done | rfl
    simp only [Act.put, List.setIfInBounds_toArray, List.set_cons_zero, List.set_cons_succ]
    refine g_look rfl rfl ?_ (fun w' hC => ?_) ?_
    rotate_left
    · go_simp
      first | done | rfl
    simp only [Act.put, List.setIfInBounds_toArray, List.set_cons_zero, List.set_cons_succ]
    refine g_make _ (imgM I) rfl rfl rfl (fun w' hC => ?_) (fun xp px fx => ?_)
    · go_simp
      exact img_step NI.out (image_any 1 (A6.out.below (stays_below hC))) hC
    obtain ⟨gip, cip, cup⟩ := xp
    have Pp := Lib.hid px
    clear px fx
    simp only [Act.put, imgM, List.setIfInBounds_toArray, List.set_cons_zero, List.set_cons_succ]
    refine g_conv gip (some 2) cup I cip _ rfl rfl rfl rfl (own_new _ _ _ _) Pp.out.2 (by kernel_rfl) ?_
    simp only [Act.put, List.setIfInBounds_toArray, List.set_cons_zero, List.set_cons_succ]
    refine g_look rfl rfl ?_ (fun w' hC => ?_) ?_
    rotate_left
    · go_simp
      first | done | rfl
    simp only [Act.put, List.setIfInBounds_toArray, List.set_cons_zero, List.set_cons_succ]
    refine g_look rfl rfl ?_ (fun w' hC => ?_) ?_
    rotate_left
    · go_simp
      first | done | rfl
    simp only [Act.put, List.setIfInBounds_toArray, List.set_cons_zero, List.set_cons_succ]
    refine g_look rfl rfl ?_ (fun w' hC => ?_) ?_
    rotate_left
    · go_simp
      first | done | rfl
    simp only [Act.put, List.setIfInBounds_toArray, List.set_cons_zero, List.set_cons_succ]
    refine g_make _ (imgM I) rfl rfl rfl (fun w' hC => ?_) (fun xq px fx => ?_)
    · go_simp
      exact img_step NI.out (image_any 0 (A6.out.below (stays_below hC))) hC
    obtain ⟨giq, ciq, cuq⟩ := xq
    have Pq := Lib.hid px
    clear px fx
    simp only [Act.put, imgM, List.setIfInBounds_toArray, List.set_cons_zero, List.set_cons_succ]
    refine g_conv giq (some 7) cuq I ciq _ rfl rfl rfl rfl (own_new _ _ _ _) Pq.out.2 (by kernel_rfl) ?_
    simp only [Act.put, List.setIfInBounds_toArray, List.set_cons_zero, List.set_cons_succ]
    refine g_look rfl rfl ?_ (fun w' hC => ?_) ?_
    rotate_left
    · go_simp
      first | done | rfl
    simp only [Act.put, List.setIfInBounds_toArray, List.set_cons_zero, List.set_cons_succ]
    refine g_look rfl rfl ?_ (fun w' hC => ?_) ?_
    rotate_left
    · go_simp
      first | done | rfl
    simp only [Act.put, List.setIfInBounds_toArray, List.set_cons_zero, List.set_cons_succ]
    refine g_end ?_
    intro w22 hC22 hh22
    have S22 : Hid (Stays [] w6 w22) := Lib.hid (stays_nil (stays_below hC22))
    clear S21
    clear hC22 hh22
    have A7 := Lib.hid (A6.out.below (stays_below S22.out))
    have FF7 := Lib.hid (FF6.out.trans (Fr.of_below (stays_below S22.out)))
    clear S22
    go_wp2_with fail
    refine (arm_any n A7.out).mono ?_
    rintro e w8 ⟨rfl, hA, hf⟩
    have FF8 := Lib.hid (FF7.out.trans (hf.mono (fun k h => by have h' : k = g := h; have := A4.out.bg; simp only at this; omega)))
    have A8 := Lib.hid hA
    clear hA hf
    have PN : Hid (pb = none → cb = 0) := PN0
    by_cases hn : n < 0
    · have hL : (if n < -1 then -1 else n) = -1 := by split <;> omega
      have t1 : ¬ 0 ≤ n := by omega
      have t2 : n < 0 := hn
      clear hn
      have A8' : Hid (At w8 w3.heap.size ⟨g, s0, s1, 64, I, I, -1, false, 0 + (la.length : Int) + (la.length : Int), wv6, [v5] ++ [v6]⟩) := Lib.hid (by
        have h := A8.out
        simp only [hL] at h
        exact h)
      clear A8
      go_wp2_with fail
      refine (write_ok 1 _ lb A8'.out rfl (Or.inr rfl) (reads_fr FF8.out VB.out (fun h0 k hk e => absurd (YB.out h0 k hk) (Nat.not_lt.2 e))) (by have := LB.out; show lb.length ≤ 64; omega) (by have := LB.out; omega) (fun h0 k hk => at_far A8'.out (YB.out h0 k hk)) (show 2 ≤ 1000 by decide) (by have := A8'.out.bg; have := blk_lt A8'.out.row; simp only at *; omega) (by have := LA.out; show (0 : Int) ≤ 0 + (la.length : Int) + (la.length : Int) ∧ 0 + (la.length : Int) + (la.length : Int) < 4611686018427387904; omega) (by have := HR.out; show (-1 : Int) ≤ -1 ∧ -1 ≤ 9223372036854775807; omega)).mono ?_
      rintro e w9 ⟨wv9, v9, hW⟩
      have FF9 := Lib.hid (FF8.out.trans (wrote_fr hW A8'.out (Nat.le_refl _)))
      obtain rfl := hW.ret
      have ht : Dk.goes ⟨g, s0, s1, 64, I, I, -1, false, 0 + (la.length : Int) + (la.length : Int), wv6, [v5] ++ [v6]⟩ lb.length = false := by simp [Dk.goes]
      obtain ⟨left9, wr9, hA9⟩ : ∃ left9 wr9, At w9 w3.heap.size ⟨g, s0, s1, 64, I, over I lb lb.length, left9, false, wr9, wv9, [v5] ++ [v6] ++ [v9]⟩ := ⟨_, _, wrote_at hW (k := lb.length) (t := false) (by rw [Dk.cut, if_neg (by simp)]) ht⟩
      have A9 := Lib.hid hA9
      clear hW hA9 A8'
      rw [ht]
      have LO : Hid (over I lb lb.length ≠ []) := Lib.hid (by intro e; have h := congrArg List.length e; rw [over_len (by first | exact Nat.le_refl _ | omega) (by have := LI.out; have := LB.out; omega), LI.out] at h; cases h)
      clear ht
      go_upto_region 16 with fail
      have q1 : lb.length ≤ cb := by have := HCB.out; omega
      have q2 : lb.length ≤ I.length := by have := LI.out; have := LB.out; omega
      have q3 : ¬ 9223372036854775807 < lb.length + (I.length - lb.length) := by have := LI.out; have := LB.out; omega
      have q5 : ¬ 9223372036854775807 < I.length := by have := LI.out; omega
      have q4 : ¬ 9223372036854775807 < min lb.length lb.length + (I.length - lb.length) := by have := LI.out; have := LB.out; omega
      have S41 : Hid (Stays [] w9 w9) := Lib.hid (stays_nil (Below.refl _ _))
      refine reg (Stays [] w9) (Turns [] w9) (kdOf [(13, .make (fun _ => callM (.bool false))), (21, .make (fun _ => imgM (over I lb lb.length))), (22, .touch), (37, .make (fun _ => imgM I)), (38, .touch)]) none0 (stays_good _ _) (by kernel_rfl) (by kernel_rfl) (stays_drew (S41.out)) (holds0 _) ?_
      refine g_look rfl rfl ?_ (fun w' hC => ?_) ?_
      rotate_left
      · go_simp
        first | done | rfl
      simp only [Act.put, List.setIfInBounds_toArray, List.set_cons_zero, List.set_cons_succ]
      refine g_look rfl rfl ?_ (fun w' hC => ?_) ?_
      rotate_left
      · go_simp
        first | done | rfl
      simp only [Act.put, List.setIfInBounds_toArray, List.set_cons_zero, List.set_cons_succ]
      refine g_look rfl rfl ?_ (fun w' hC => ?_) ?_
      rotate_left
      · go_simp
        first | done | rfl
      simp only [Act.put, List.setIfInBounds_toArray, List.set_cons_zero, List.set_cons_succ]
      refine g_look rfl rfl ?_ (fun w' hC => ?_) ?_
      rotate_left
      · go_simp
        first | done | rfl
      simp only [Act.put, List.setIfInBounds_toArray, List.set_cons_zero, List.set_cons_succ]
      refine g_look rfl rfl ?_ (fun w' hC => ?_) ?_
      rotate_left
      · go_simp
        first | done | rfl
      simp only [Act.put, List.setIfInBounds_toArray, List.set_cons_zero, List.set_cons_succ]
      first
      | (refine g_skip rfl ?_)
      | (refine g_look rfl rfl ?_ (fun w' hC => ?_) ?_
         rotate_left
         · go_simp
           first | done | rfl)
      simp only [Act.put, List.setIfInBounds_toArray, List.set_cons_zero, List.set_cons_succ]
      first
      | (refine g_skip rfl ?_)
      | (refine g_look rfl rfl ?_ (fun w' hC => ?_) ?_
         rotate_left
         · go_simp
           first | done | rfl)
      simp only [Act.put, List.setIfInBounds_toArray, List.set_cons_zero, List.set_cons_succ]
      first
      | (refine g_skip rfl ?_)
      | (refine g_look rfl rfl ?_ (fun w' hC => ?_) ?_
         rotate_left
         · go_simp
           first | done | rfl)
      simp only [Act.put, List.setIfInBounds_toArray, List.set_cons_zero, List.set_cons_succ]
      first
      | (refine g_skip rfl ?_)
      | (refine g_look rfl rfl ?_ (fun w' hC => ?_) ?_
         rotate_left
         · go_simp
           first | done | rfl)
      simp only [Act.put, List.setIfInBounds_toArray, List.set_cons_zero, List.set_cons_succ]
      refine g_look rfl rfl ?_ (fun w' hC => ?_) ?_
      rotate_left
      · go_simp
        first | done | rfl
      simp only [Act.put, List.setIfInBounds_toArray, List.set_cons_zero, List.set_cons_succ]
      refine g_look rfl rfl ?_ (fun w' hC => ?_) ?_
      rotate_left
      · go_simp
        first | done | rfl
      simp only [Act.put, List.setIfInBounds_toArray, List.set_cons_zero, List.set_cons_succ]
      refine g_look rfl rfl ?_ (fun w' hC => ?_) ?_
      rotate_left
      · go_simp
        first | done | rfl
      simp only [Act.put, List.setIfInBounds_toArray, List.set_cons_zero, List.set_cons_succ]
      first
      | (refine g_skip rfl ?_)
      | (refine g_look rfl rfl ?_ (fun w' hC => ?_) ?_
         rotate_left
         · go_simp
           first | done | rfl)
      simp only [Act.put, List.setIfInBounds_toArray, List.set_cons_zero, List.set_cons_succ]
      refine g_call (stays_good _ _) (.bool false) rfl rfl (fun w' hC => ?_) ?_
      · go_simp
        refine (same_below (down_any (A9.out.below (stays_below hC)))).mono (fun e w2 h => ?_)
        obtain ⟨h1, h2⟩ := h
        exact gives h1 h2
      simp only [Act.put, List.setIfInBounds_toArray, List.set_cons_zero, List.set_cons_succ]
      first
      | (refine g_skip rfl ?_)
      | (refine g_look rfl rfl ?_ (fun w' hC => ?_) ?_
         rotate_left
         · go_simp
           first | done | rfl)
      simp only [Act.put, List.setIfInBounds_toArray, List.set_cons_zero, List.set_cons_succ]
      first
      | (refine g_skip rfl ?_)
      | (refine g_look rfl rfl ?_ (fun w' hC => ?_) ?_
         rotate_left
         · go_simp
           first | done | rfl)
      simp only [Act.put, List.setIfInBounds_toArray, List.set_cons_zero, List.set_cons_succ]
      first
      | (refine g_skip rfl ?_)
      | (refine g_look rfl rfl ?_ (fun w' hC => ?_) ?_
         rotate_left
         · go_simp
           first | done | rfl)
      simp only [Act.put, List.setIfInBounds_toArray, List.set_cons_zero, List.set_cons_succ]
      refine g_look rfl rfl ?_ (fun w' hC => ?_) ?_
      rotate_left
      · go_simp
        first | done | rfl
      simp only [Act.put, List.setIfInBounds_toArray, List.set_cons_zero, List.set_cons_succ]
      refine g_look rfl rfl ?_ (fun w' hC => ?_) ?_
      rotate_left
      · go_simp
        first | done | rfl
      simp only [Act.put, List.setIfInBounds_toArray, List.set_cons_zero, List.set_cons_succ]
      first
      | (refine g_skip rfl ?_)
      | (refine g_look rfl rfl ?_ (fun w' hC => ?_) ?_
         rotate_left
         · go_simp
           first | done | rfl)
      simp only [Act.put, List.setIfInBounds_toArray, List.set_cons_zero, List.set_cons_succ]
      first
      | (refine g_skip rfl ?_)
      | (refine g_look rfl rfl ?_ (fun w' hC => ?_) ?_
         rotate_left
         · go_simp
           first | done | rfl)
      simp only [Act.put, List.setIfInBounds_toArray, List.set_cons_zero, List.set_cons_succ]
      refine g_make _ (imgM (over I lb lb.length)) rfl rfl rfl (fun w' hC => ?_) (fun xp px fx => ?_)
      · go_simp
        exact img_step LO.out (image_any 1 (A9.out.below (stays_below hC))) hC
      obtain ⟨gip, cip, cup⟩ := xp
      have Pp := Lib.hid px
      clear px fx
      simp only [Act.put, imgM, List.setIfInBounds_toArray, List.set_cons_zero, List.set_cons_succ]
      refine g_conv gip (some 21) cup (over I lb lb.length) cip _ rfl rfl rfl rfl (own_new _ _ _ _) Pp.out.2 (by kernel_rfl) ?_
      simp only [Act.put, List.setIfInBounds_toArray, List.set_cons_zero, List.set_cons_succ]
      first
      | (refine g_skip rfl ?_)
      | (refine g_look rfl rfl ?_ (fun w' hC => ?_) ?_
         rotate_left
         · go_simp
           first | done | rfl)
      simp only [Act.put, List.setIfInBounds_toArray, List.set_cons_zero, List.set_cons_succ]
      first
      | (refine g_skip rfl ?_)
      | (refine g_look rfl rfl ?_ (fun w' hC => ?_) ?_
         rotate_left
         · go_simp
           first | done | rfl)
      simp only [Act.put, List.setIfInBounds_toArray, List.set_cons_zero, List.set_cons_succ]
      first
      | (refine g_skip rfl ?_)
      | (refine g_look rfl rfl ?_ (fun w' hC => ?_) ?_
         rotate_left
         · go_simp
           first | done | rfl)
      simp only [Act.put, List.setIfInBounds_toArray, List.set_cons_zero, List.set_cons_succ]
      first
      | (refine g_skip rfl ?_)
      | (refine g_look rfl rfl (.string ⟨(lb.take lb.length).toArray⟩) (fun w' hC => ?_) ?_
         · exact look_part rfl rfl (reads_fr FF9.out VB.out (fun h0 k hk e => absurd (YB.out h0 k hk) (Nat.not_lt.2 e))) (stays_below hC) (by first | exact Nat.le_refl _ | omega) PN.out)
      simp only [Act.put, List.setIfInBounds_toArray, List.set_cons_zero, List.set_cons_succ]
      first
      | (refine g_skip rfl ?_)
      | (refine g_look rfl rfl ?_ (fun w' hC => ?_) ?_
         rotate_left
         · go_simp
           first | done | rfl)
      simp only [Act.put, List.setIfInBounds_toArray, List.set_cons_zero, List.set_cons_succ]
      first
      | (refine g_skip rfl ?_)
      | (refine g_look rfl rfl ?_ (fun w' hC => ?_) ?_
         rotate_left
         · go_simp
           first | done | rfl)
      simp only [Act.put, List.setIfInBounds_toArray, List.set_cons_zero, List.set_cons_succ]
      first
      | (refine g_skip rfl ?_)
      | (refine g_look rfl rfl (.string ⟨(I.drop lb.length).toArray⟩) (fun w' hC => ?_) ?_
         · clear hC
           go_simp
           first | done | exact cut_string LI.out.symm | (rw [cut_string (by first | exact LI.out.symm | simp)]))
      simp only [Act.put, List.setIfInBounds_toArray, List.set_cons_zero, List.set_cons_succ]
      first
      | (refine g_skip rfl ?_)
      | (refine g_look rfl rfl (.string ⟨(over I lb lb.length).toArray⟩) (fun w' hC => ?_) ?_
         · clear hC
           go_simp
           first | done | exact over_string | exact over_string_all)
      simp only [Act.put, List.setIfInBounds_toArray, List.set_cons_zero, List.set_cons_succ]
      first
      | (refine g_skip rfl ?_)
      | (refine g_look rfl rfl ?_ (fun w' hC => ?_) ?_
         rotate_left
         · go_simp
           first | done | rfl)
      simp only [Act.put, List.setIfInBounds_toArray, List.set_cons_zero, List.set_cons_succ]
      refine g_look rfl rfl ?_ (fun w' hC => ?_) ?_
      rotate_left
      · go_simp
        first | done | rfl
      simp only [Act.put, List.setIfInBounds_toArray, List.set_cons_zero, List.set_cons_succ]
      refine g_look rfl rfl ?_ (fun w' hC => ?_) ?_
      rotate_left
      · go_simp
        first | done | rfl
      simp only [Act.put, List.setIfInBounds_toArray, List.set_cons_zero, List.set_cons_succ]
      first
      | (refine g_skip rfl ?_)
      | (refine g_look rfl rfl ?_ (fun w' hC => ?_) ?_
         rotate_left
         · go_simp
           first | done | rfl)
      simp only [Act.put, List.setIfInBounds_toArray, List.set_cons_zero, List.set_cons_succ]
      first
      | (refine g_skip rfl ?_)
      | (refine g_look rfl rfl ?_ (fun w' hC => ?_) ?_
         rotate_left
         · go_simp
           first | done | rfl)
      simp only [Act.put, List.setIfInBounds_toArray, List.set_cons_zero, List.set_cons_succ]
      first
      | (refine g_skip rfl ?_)
      | (refine g_look rfl rfl ?_ (fun w' hC => ?_) ?_
         rotate_left
         · go_simp
           first | done | rfl)
      simp only [Act.put, List.setIfInBounds_toArray, List.set_cons_zero, List.set_cons_succ]
      refine g_make _ (imgM I) rfl rfl rfl (fun w' hC => ?_) (fun xq px fx => ?_)
      · go_simp
        exact img_step NI.out (image_any 0 (A9.out.below (stays_below hC))) hC
      obtain ⟨giq, ciq, cuq⟩ := xq
      have Pq := Lib.hid px
      clear px fx
      simp only [Act.put, imgM, List.setIfInBounds_toArray, List.set_cons_zero, List.set_cons_succ]
      refine g_conv giq (some 37) cuq I ciq _ rfl rfl rfl rfl (own_new _ _ _ _) Pq.out.2 (by kernel_rfl) ?_
      simp only [Act.put, List.setIfInBounds_toArray, List.set_cons_zero, List.set_cons_succ]
      first
      | (refine g_skip rfl ?_)
      | (refine g_look rfl rfl ?_ (fun w' hC => ?_) ?_
         rotate_left
         · go_simp
           first | done | rfl)
      simp only [Act.put, List.setIfInBounds_toArray, List.set_cons_zero, List.set_cons_succ]
      first
      | (refine g_skip rfl ?_)
      | (refine g_look rfl rfl ?_ (fun w' hC => ?_) ?_
         rotate_left
         · go_simp
           first | done | rfl)
      simp only [Act.put, List.setIfInBounds_toArray, List.set_cons_zero, List.set_cons_succ]
      refine g_look rfl rfl ?_ (fun w' hC => ?_) ?_
      rotate_left
      · go_simp
        first | done | rfl
      simp only [Act.put, List.setIfInBounds_toArray, List.set_cons_zero, List.set_cons_succ]
      refine g_look rfl rfl ?_ (fun w' hC => ?_) ?_
      rotate_left
      · go_simp
        first | done | rfl
      simp only [Act.put, List.setIfInBounds_toArray, List.set_cons_zero, List.set_cons_succ]
      refine g_end ?_
      intro w42 hC42 hh42
      have S42 : Hid (Stays [] w9 w42) := Lib.hid (stays_nil (stays_below hC42))
      clear S41
      clear hC42 hh42
      go_wp2_with fail
      refine bodyPost_ret (v := .bool true) (by simp [results, Try.results3, go_sem]) rfl ⟨rfl, ?_⟩
      exact ((FF9.out.trans (Fr.of_below (stays_below S42.out))).belowOf (w0 := w3) (Below.refl _ _) (fun _ h => h) |> fun h => b_then A0.out h)
    · by_cases hm : n < (lb.length : Int)
      · obtain ⟨m, rfl⟩ := Int.eq_ofNat_of_zero_le (show 0 ≤ n by omega)
        have hL : (if (m : Int) < -1 then -1 else (m : Int)) = (m : Int) := by rw [if_neg (by omega)]
        have t1 : (0 : Int) ≤ (m : Int) := by omega
        have hmN : m < lb.length := by omega
        have t2 : (m : Int) < (lb.length : Int) := by omega
        have t3 : (m : Int) ≤ (lb.length : Int) := by omega
        have A8' : Hid (At w8 w3.heap.size ⟨g, s0, s1, 64, I, I, (m : Int), false, 0 + (la.length : Int) + (la.length : Int), wv6, [v5] ++ [v6]⟩) := Lib.hid (by
          have h := A8.out
          simp only [hL] at h
          exact h)
        clear A8
        go_wp2_with fail
        refine (write_ok 1 _ lb A8'.out rfl (Or.inr rfl) (reads_fr FF8.out VB.out (fun h0 k hk e => absurd (YB.out h0 k hk) (Nat.not_lt.2 e))) (by have := LB.out; show lb.length ≤ 64; omega) (by have := LB.out; omega) (fun h0 k hk => at_far A8'.out (YB.out h0 k hk)) (show 2 ≤ 1000 by decide) (by have := A8'.out.bg; have := blk_lt A8'.out.row; simp only at *; omega) (by have := LA.out; show (0 : Int) ≤ 0 + (la.length : Int) + (la.length : Int) ∧ 0 + (la.length : Int) + (la.length : Int) < 4611686018427387904; omega) (by have := HR.out; show (-1 : Int) ≤ (m : Int) ∧ (m : Int) ≤ 9223372036854775807; omega)).mono ?_
        rintro e w9 ⟨wv9, v9, hW⟩
        have FF9 := Lib.hid (FF8.out.trans (wrote_fr hW A8'.out (Nat.le_refl _)))
        obtain rfl := hW.ret
        have ht : Dk.goes ⟨g, s0, s1, 64, I, I, (m : Int), false, 0 + (la.length : Int) + (la.length : Int), wv6, [v5] ++ [v6]⟩ lb.length = true := by simp [Dk.goes]; omega
        obtain ⟨left9, wr9, hA9⟩ : ∃ left9 wr9, At w9 w3.heap.size ⟨g, s0, s1, 64, I, over I lb m, left9, true, wr9, wv9, [v5] ++ [v6] ++ [v9]⟩ := ⟨_, _, wrote_at hW (k := m) (t := true) (by rw [Dk.cut, if_pos ⟨by simp, by simp; omega⟩]; rfl) ht⟩
        have A9 := Lib.hid hA9
        clear hW hA9 A8'
        rw [ht]
        have LO : Hid (over I lb m ≠ []) := Lib.hid (by intro e; have h := congrArg List.length e; rw [over_len (by first | exact Nat.le_refl _ | omega) (by have := LI.out; have := LB.out; omega), LI.out] at h; cases h)
        clear ht
        go_upto_region 16 with fail
        have q1 : m ≤ cb := by have := HCB.out; omega
        have q2 : m ≤ I.length := by have := LI.out; have := LB.out; omega
        have q3 : ¬ 9223372036854775807 < m + (I.length - m) := by have := LI.out; have := LB.out; omega
        have q5 : ¬ 9223372036854775807 < I.length := by have := LI.out; omega
        have q4 : ¬ 9223372036854775807 < min m lb.length + (I.length - m) := by have := LI.out; have := LB.out; omega
        have S41 : Hid (Stays [] w9 w9) := Lib.hid (stays_nil (Below.refl _ _))
        refine reg (Stays [] w9) (Turns [] w9) (kdOf [(13, .make (fun _ => callM (.bool true))), (21, .make (fun _ => imgM (over I lb m))), (22, .touch), (37, .make (fun _ => imgM I)), (38, .touch)]) none0 (stays_good _ _) (by kernel_rfl) (by kernel_rfl) (stays_drew (S41.out)) (holds0 _) ?_
        refine g_look rfl rfl ?_ (fun w' hC => ?_) ?_
        rotate_left
        · go_simp
          first | done | rfl
        simp only [Act.put, List.setIfInBounds_toArray, List.set_cons_zero, List.set_cons_succ]
        refine g_look rfl rfl ?_ (fun w' hC => ?_) ?_
        rotate_left
        · go_simp
          first | done | rfl
        simp only [Act.put, List.setIfInBounds_toArray, List.set_cons_zero, List.set_cons_succ]
        refine g_look rfl rfl ?_ (fun w' hC => ?_) ?_
        rotate_left
        · go_simp
          first | done | rfl
        simp only [Act.put, List.setIfInBounds_toArray, List.set_cons_zero, List.set_cons_succ]
        refine g_look rfl rfl ?_ (fun w' hC => ?_) ?_
        rotate_left
        · go_simp
          first | done | rfl
        simp only [Act.put, List.setIfInBounds_toArray, List.set_cons_zero, List.set_cons_succ]
        refine g_look rfl rfl ?_ (fun w' hC => ?_) ?_
        rotate_left
        · go_simp
          first | done | rfl
        simp only [Act.put, List.setIfInBounds_toArray, List.set_cons_zero, List.set_cons_succ]
        first
        | (refine g_skip rfl ?_)
        | (refine g_look rfl rfl ?_ (fun w' hC => ?_) ?_
           rotate_left
           · go_simp
             first | done | rfl)
        simp only [Act.put, List.setIfInBounds_toArray, List.set_cons_zero, List.set_cons_succ]
        first
        | (refine g_skip rfl ?_)
        | (refine g_look rfl rfl ?_ (fun w' hC => ?_) ?_
           rotate_left
           · go_simp
             first | done | rfl)
        simp only [Act.put, List.setIfInBounds_toArray, List.set_cons_zero, List.set_cons_succ]
        first
        | (refine g_skip rfl ?_)
        | (refine g_look rfl rfl ?_ (fun w' hC => ?_) ?_
           rotate_left
           · go_simp
             first | done | rfl)
        simp only [Act.put, List.setIfInBounds_toArray, List.set_cons_zero, List.set_cons_succ]
        first
        | (refine g_skip rfl ?_)
        | (refine g_look rfl rfl ?_ (fun w' hC => ?_) ?_
           rotate_left
           · go_simp
             first | done | rfl)
        simp only [Act.put, List.setIfInBounds_toArray, List.set_cons_zero, List.set_cons_succ]
        refine g_look rfl rfl ?_ (fun w' hC => ?_) ?_
        rotate_left
        · go_simp
          first | done | rfl
        simp only [Act.put, List.setIfInBounds_toArray, List.set_cons_zero, List.set_cons_succ]
        refine g_look rfl rfl ?_ (fun w' hC => ?_) ?_
        rotate_left
        · go_simp
          first | done | rfl
        simp only [Act.put, List.setIfInBounds_toArray, List.set_cons_zero, List.set_cons_succ]
        refine g_look rfl rfl ?_ (fun w' hC => ?_) ?_
        rotate_left
        · go_simp
          first | done | rfl
        simp only [Act.put, List.setIfInBounds_toArray, List.set_cons_zero, List.set_cons_succ]
        first
        | (refine g_skip rfl ?_)
        | (refine g_look rfl rfl ?_ (fun w' hC => ?_) ?_
           rotate_left
           · go_simp
             first | done | rfl)
        simp only [Act.put, List.setIfInBounds_toArray, List.set_cons_zero, List.set_cons_succ]
        refine g_call (stays_good _ _) (.bool true) rfl rfl (fun w' hC => ?_) ?_
        · go_simp
          refine (same_below (down_any (A9.out.below (stays_below hC)))).mono (fun e w2 h => ?_)
          obtain ⟨h1, h2⟩ := h
          exact gives h1 h2
        simp only [Act.put, List.setIfInBounds_toArray, List.set_cons_zero, List.set_cons_succ]
        first
        | (refine g_skip rfl ?_)
        | (refine g_look rfl rfl ?_ (fun w' hC => ?_) ?_
           rotate_left
           · go_simp
             first | done | rfl)
        simp only [Act.put, List.setIfInBounds_toArray, List.set_cons_zero, List.set_cons_succ]
        first
        | (refine g_skip rfl ?_)
        | (refine g_look rfl rfl ?_ (fun w' hC => ?_) ?_
           rotate_left
           · go_simp
             first | done | rfl)
        simp only [Act.put, List.setIfInBounds_toArray, List.set_cons_zero, List.set_cons_succ]
        first
        | (refine g_skip rfl ?_)
        | (refine g_look rfl rfl ?_ (fun w' hC => ?_) ?_
           rotate_left
           · go_simp
             first | done | rfl)
        simp only [Act.put, List.setIfInBounds_toArray, List.set_cons_zero, List.set_cons_succ]
        refine g_look rfl rfl ?_ (fun w' hC => ?_) ?_
        rotate_left
        · go_simp
          first | done | rfl
        simp only [Act.put, List.setIfInBounds_toArray, List.set_cons_zero, List.set_cons_succ]
        refine g_look rfl rfl ?_ (fun w' hC => ?_) ?_
        rotate_left
        · go_simp
          first | done | rfl
        simp only [Act.put, List.setIfInBounds_toArray, List.set_cons_zero, List.set_cons_succ]
        first
        | (refine g_skip rfl ?_)
        | (refine g_look rfl rfl ?_ (fun w' hC => ?_) ?_
           rotate_left
           · go_simp
             first | done | rfl)
        simp only [Act.put, List.setIfInBounds_toArray, List.set_cons_zero, List.set_cons_succ]
        first
        | (refine g_skip rfl ?_)
        | (refine g_look rfl rfl ?_ (fun w' hC => ?_) ?_
           rotate_left
           · go_simp
             first | done | rfl)
        simp only [Act.put, List.setIfInBounds_toArray, List.set_cons_zero, List.set_cons_succ]
        refine g_make _ (imgM (over I lb m)) rfl rfl rfl (fun w' hC => ?_) (fun xp px fx => ?_)
        · go_simp
          exact img_step LO.out (image_any 1 (A9.out.below (stays_below hC))) hC
        obtain ⟨gip, cip, cup⟩ := xp
        have Pp := Lib.hid px
        clear px fx
        simp only [Act.put, imgM, List.setIfInBounds_toArray, List.set_cons_zero, List.set_cons_succ]
        refine g_conv gip (some 21) cup (over I lb m) cip _ rfl rfl rfl rfl (own_new _ _ _ _) Pp.out.2 (by kernel_rfl) ?_
        simp only [Act.put, List.setIfInBounds_toArray, List.set_cons_zero, List.set_cons_succ]
        first
        | (refine g_skip rfl ?_)
        | (refine g_look rfl rfl ?_ (fun w' hC => ?_) ?_
           rotate_left
           · go_simp
             first | done | rfl)
        simp only [Act.put, List.setIfInBounds_toArray, List.set_cons_zero, List.set_cons_succ]
        first
        | (refine g_skip rfl ?_)
        | (refine g_look rfl rfl ?_ (fun w' hC => ?_) ?_
           rotate_left
           · go_simp
             first | done | rfl)
        simp only [Act.put, List.setIfInBounds_toArray, List.set_cons_zero, List.set_cons_succ]
        first
        | (refine g_skip rfl ?_)
        | (refine g_look rfl rfl ?_ (fun w' hC => ?_) ?_
           rotate_left
           · go_simp
             first | done | rfl)
        simp only [Act.put, List.setIfInBounds_toArray, List.set_cons_zero, List.set_cons_succ]
        first
        | (refine g_skip rfl ?_)
        | (refine g_look rfl rfl (.string ⟨(lb.take m).toArray⟩) (fun w' hC => ?_) ?_
           · exact look_part rfl rfl (reads_fr FF9.out VB.out (fun h0 k hk e => absurd (YB.out h0 k hk) (Nat.not_lt.2 e))) (stays_below hC) (by first | exact Nat.le_refl _ | omega) PN.out)
        simp only [Act.put, List.setIfInBounds_toArray, List.set_cons_zero, List.set_cons_succ]
        first
        | (refine g_skip rfl ?_)
        | (refine g_look rfl rfl ?_ (fun w' hC => ?_) ?_
           rotate_left
           · go_simp
             first | done | rfl)
        simp only [Act.put, List.setIfInBounds_toArray, List.set_cons_zero, List.set_cons_succ]
        first
        | (refine g_skip rfl ?_)
        | (refine g_look rfl rfl ?_ (fun w' hC => ?_) ?_
           rotate_left
           · go_simp
             first | done | rfl)
        simp only [Act.put, List.setIfInBounds_toArray, List.set_cons_zero, List.set_cons_succ]
        first
        | (refine g_skip rfl ?_)
        | (refine g_look rfl rfl (.string ⟨(I.drop m).toArray⟩) (fun w' hC => ?_) ?_
           · clear hC
             go_simp
             first | done | exact cut_string LI.out.symm | (rw [cut_string (by first | exact LI.out.symm | simp)]))
        simp only [Act.put, List.setIfInBounds_toArray, List.set_cons_zero, List.set_cons_succ]
        first
        | (refine g_skip rfl ?_)
        | (refine g_look rfl rfl (.string ⟨(over I lb m).toArray⟩) (fun w' hC => ?_) ?_
           · clear hC
             go_simp
             first | done | exact over_string | exact over_string_all)
        simp only [Act.put, List.setIfInBounds_toArray, List.set_cons_zero, List.set_cons_succ]
        first
        | (refine g_skip rfl ?_)
        | (refine g_look rfl rfl ?_ (fun w' hC => ?_) ?_
           rotate_left
           · go_simp
             first | done | rfl)
        simp only [Act.put, List.setIfInBounds_toArray, List.set_cons_zero, List.set_cons_succ]
        refine g_look rfl rfl ?_ (fun w' hC => ?_) ?_
        rotate_left
        · go_simp
          first | done | rfl
        simp only [Act.put, List.setIfInBounds_toArray, List.set_cons_zero, List.set_cons_succ]
        refine g_look rfl rfl ?_ (fun w' hC => ?_) ?_
        rotate_left
        · go_simp
          first | done | rfl
        simp only [Act.put, List.setIfInBounds_toArray, List.set_cons_zero, List.set_cons_succ]
        first
        | (refine g_skip rfl ?_)
        | (refine g_look rfl rfl ?_ (fun w' hC => ?_) ?_
           rotate_left
           · go_simp
             first | done | rfl)
        simp only [Act.put, List.setIfInBounds_toArray, List.set_cons_zero, List.set_cons_succ]
        first
        | (refine g_skip rfl ?_)
        | (refine g_look rfl rfl ?_ (fun w' hC => ?_) ?_
           rotate_left
           · go_simp
             first | done | rfl)
        simp only [Act.put, List.setIfInBounds_toArray, List.set_cons_zero, List.set_cons_succ]
        first
        | (refine g_skip rfl ?_)
        | (refine g_look rfl rfl ?_ (fun w' hC => ?_) ?_
           rotate_left
           · go_simp
             first | done | rfl)
        simp only [Act.put, List.setIfInBounds_toArray, List.set_cons_zero, List.set_cons_succ]
        refine g_make _ (imgM I) rfl rfl rfl (fun w' hC => ?_) (fun xq px fx => ?_)
        · go_simp
          exact img_step NI.out (image_any 0 (A9.out.below (stays_below hC))) hC
        obtain ⟨giq, ciq, cuq⟩ := xq
        have Pq := Lib.hid px
        clear px fx
        simp only [Act.put, imgM, List.setIfInBounds_toArray, List.set_cons_zero, List.set_cons_succ]
        refine g_conv giq (some 37) cuq I ciq _ rfl rfl rfl rfl (own_new _ _ _ _) Pq.out.2 (by kernel_rfl) ?_
        simp only [Act.put, List.setIfInBounds_toArray, List.set_cons_zero, List.set_cons_succ]
        first
        | (refine g_skip rfl ?_)
        | (refine g_look rfl rfl ?_ (fun w' hC => ?_) ?_
           rotate_left
           · go_simp
             first | done | rfl)
        simp only [Act.put, List.setIfInBounds_toArray, List.set_cons_zero, List.set_cons_succ]
        first
        | (refine g_skip rfl ?_)
        | (refine g_look rfl rfl ?_ (fun w' hC => ?_) ?_
           rotate_left
           · go_simp
             first | done | rfl)
        simp only [Act.put, List.setIfInBounds_toArray, List.set_cons_zero, List.set_cons_succ]
        refine g_look rfl rfl ?_ (fun w' hC => ?_) ?_
        rotate_left
        · go_simp
          first | done | rfl
        simp only [Act.put, List.setIfInBounds_toArray, List.set_cons_zero, List.set_cons_succ]
        refine g_look rfl rfl ?_ (fun w' hC => ?_) ?_
        rotate_left
        · go_simp
          first | done | rfl
        simp only [Act.put, List.setIfInBounds_toArray, List.set_cons_zero, List.set_cons_succ]
        refine g_end ?_
        intro w42 hC42 hh42
        have S42 : Hid (Stays [] w9 w42) := Lib.hid (stays_nil (stays_below hC42))
        clear S41
        clear hC42 hh42
        go_wp2_with fail
        refine bodyPost_ret (v := .bool true) (by simp [results, Try.results3, go_sem]) rfl ⟨rfl, ?_⟩
        exact ((FF9.out.trans (Fr.of_below (stays_below S42.out))).belowOf (w0 := w3) (Below.refl _ _) (fun _ h => h) |> fun h => b_then A0.out h)
      · by_cases he : n = (lb.length : Int)
        · obtain ⟨m, rfl⟩ := Int.eq_ofNat_of_zero_le (show 0 ≤ n by omega)
          have hL : (if (m : Int) < -1 then -1 else (m : Int)) = (m : Int) := by rw [if_neg (by omega)]
          have t1 : (0 : Int) ≤ (m : Int) := by omega
          obtain rfl : m = lb.length := by omega
          have t2 : ¬ (lb.length : Int) < (lb.length : Int) := by omega
          have A8' : Hid (At w8 w3.heap.size ⟨g, s0, s1, 64, I, I, (lb.length : Int), false, 0 + (la.length : Int) + (la.length : Int), wv6, [v5] ++ [v6]⟩) := Lib.hid (by
            have h := A8.out
            simp only [hL] at h
            exact h)
          clear A8
          go_wp2_with fail
          refine (write_ok 1 _ lb A8'.out rfl (Or.inr rfl) (reads_fr FF8.out VB.out (fun h0 k hk e => absurd (YB.out h0 k hk) (Nat.not_lt.2 e))) (by have := LB.out; show lb.length ≤ 64; omega) (by have := LB.out; omega) (fun h0 k hk => at_far A8'.out (YB.out h0 k hk)) (show 2 ≤ 1000 by decide) (by have := A8'.out.bg; have := blk_lt A8'.out.row; simp only at *; omega) (by have := LA.out; show (0 : Int) ≤ 0 + (la.length : Int) + (la.length : Int) ∧ 0 + (la.length : Int) + (la.length : Int) < 4611686018427387904; omega) (by have := HR.out; show (-1 : Int) ≤ (lb.length : Int) ∧ (lb.length : Int) ≤ 9223372036854775807; omega)).mono ?_
          rintro e w9 ⟨wv9, v9, hW⟩
          have FF9 := Lib.hid (FF8.out.trans (wrote_fr hW A8'.out (Nat.le_refl _)))
          obtain rfl := hW.ret
          have ht : Dk.goes ⟨g, s0, s1, 64, I, I, (lb.length : Int), false, 0 + (la.length : Int) + (la.length : Int), wv6, [v5] ++ [v6]⟩ lb.length = true := by simp [Dk.goes]
          obtain ⟨left9, wr9, hA9⟩ : ∃ left9 wr9, At w9 w3.heap.size ⟨g, s0, s1, 64, I, over I lb lb.length, left9, true, wr9, wv9, [v5] ++ [v6] ++ [v9]⟩ := ⟨_, _, wrote_at hW (k := lb.length) (t := true) (by rw [Dk.cut, if_pos ⟨by simp, by simp⟩]; rfl) ht⟩
          have A9 := Lib.hid hA9
          clear hW hA9 A8'
          rw [ht]
          have LO : Hid (over I lb lb.length ≠ []) := Lib.hid (by intro e; have h := congrArg List.length e; rw [over_len (by first | exact Nat.le_refl _ | omega) (by have := LI.out; have := LB.out; omega), LI.out] at h; cases h)
          clear ht
          go_upto_region 16 with fail
          have q1 : lb.length ≤ cb := by have := HCB.out; omega
          have q2 : lb.length ≤ I.length := by have := LI.out; have := LB.out; omega
          have q3 : ¬ 9223372036854775807 < lb.length + (I.length - lb.length) := by have := LI.out; have := LB.out; omega
          have q5 : ¬ 9223372036854775807 < I.length := by have := LI.out; omega
          have q4 : ¬ 9223372036854775807 < min lb.length lb.length + (I.length - lb.length) := by have := LI.out; have := LB.out; omega
          have S41 : Hid (Stays [] w9 w9) := Lib.hid (stays_nil (Below.refl _ _))
          refine reg (Stays [] w9) (Turns [] w9) (kdOf [(13, .make (fun _ => callM (.bool true))), (21, .make (fun _ => imgM (over I lb lb.length))), (22, .touch), (37, .make (fun _ => imgM I)), (38, .touch)]) none0 (stays_good _ _) (by kernel_rfl) (by kernel_rfl) (stays_drew (S41.out)) (holds0 _) ?_
          refine g_look rfl rfl ?_ (fun w' hC => ?_) ?_
          rotate_left
          · go_simp
            first | done | rfl
          simp only [Act.put, List.setIfInBounds_toArray, List.set_cons_zero, List.set_cons_succ]
          refine g_look rfl rfl ?_ (fun w' hC => ?_) ?_
          rotate_left
          · go_simp
            first | done | rfl
          simp only [Act.put, List.setIfInBounds_toArray, List.set_cons_zero, List.set_cons_succ]
          refine g_look rfl rfl ?_ (fun w' hC => ?_) ?_
          rotate_left
          · go_simp
            first | done | rfl
          simp only [Act.put, List.setIfInBounds_toArray, List.set_cons_zero, List.set_cons_succ]
          refine g_look rfl rfl ?_ (fun w' hC => ?_) ?_
          rotate_left
          · go_simp
            first | done | rfl
          simp only [Act.put, List.setIfInBounds_toArray, List.set_cons_zero, List.set_cons_succ]
          refine g_look rfl rfl ?_ (fun w' hC => ?_) ?_
          rotate_left
          · go_simp
            first | done | rfl
          simp only [Act.put, List.setIfInBounds_toArray, List.set_cons_zero, List.set_cons_succ]
          first
          | (refine g_skip rfl ?_)
          | (refine g_look rfl rfl ?_ (fun w' hC => ?_) ?_
             rotate_left
             · go_simp
               first | done | rfl)
          simp only [Act.put, List.setIfInBounds_toArray, List.set_cons_zero, List.set_cons_succ]
          first
          | (refine g_skip rfl ?_)
          | (refine g_look rfl rfl ?_ (fun w' hC => ?_) ?_
             rotate_left
             · go_simp
               first | done | rfl)
          simp only [Act.put, List.setIfInBounds_toArray, List.set_cons_zero, List.set_cons_succ]
          first
          | (refine g_skip rfl ?_)
          | (refine g_look rfl rfl ?_ (fun w' hC => ?_) ?_
             rotate_left
             · go_simp
               first | done | rfl)
          simp only [Act.put, List.setIfInBounds_toArray, List.set_cons_zero, List.set_cons_succ]
          first
          | (refine g_skip rfl ?_)
          | (refine g_look rfl rfl ?_ (fun w' hC => ?_) ?_
             rotate_left
             · go_simp
               first | done | rfl)
          simp only [Act.put, List.setIfInBounds_toArray, List.set_cons_zero, List.set_cons_succ]
          refine g_look rfl rfl ?_ (fun w' hC => ?_) ?_
          rotate_left
          · go_simp
            first | done | rfl
          simp only [Act.put, List.setIfInBounds_toArray, List.set_cons_zero, List.set_cons_succ]
          refine g_look rfl rfl ?_ (fun w' hC => ?_) ?_
          rotate_left
          · go_simp
            first | done | rfl
          simp only [Act.put, List.setIfInBounds_toArray, List.set_cons_zero, List.set_cons_succ]
          refine g_look rfl rfl ?_ (fun w' hC => ?_) ?_
          rotate_left
          · go_simp
            first | done | rfl
          simp only [Act.put, List.setIfInBounds_toArray, List.set_cons_zero, List.set_cons_succ]
          first
          | (refine g_skip rfl ?_)
          | (refine g_look rfl rfl ?_ (fun w' hC => ?_) ?_
             rotate_left
             · go_simp
               first | done | rfl)
          simp only [Act.put, List.setIfInBounds_toArray, List.set_cons_zero, List.set_cons_succ]
          refine g_call (stays_good _ _) (.bool true) rfl rfl (fun w' hC => ?_) ?_
          · go_simp
            refine (same_below (down_any (A9.out.below (stays_below hC)))).mono (fun e w2 h => ?_)
            obtain ⟨h1, h2⟩ := h
            exact gives h1 h2
          simp only [Act.put, List.setIfInBounds_toArray, List.set_cons_zero, List.set_cons_succ]
          first
          | (refine g_skip rfl ?_)
          | (refine g_look rfl rfl ?_ (fun w' hC => ?_) ?_
             rotate_left
             · go_simp
               first | done | rfl)
          simp only [Act.put, List.setIfInBounds_toArray, List.set_cons_zero, List.set_cons_succ]
          first
          | (refine g_skip rfl ?_)
          | (refine g_look rfl rfl ?_ (fun w' hC => ?_) ?_
             rotate_left
             · go_simp
               first | done | rfl)
          simp only [Act.put, List.setIfInBounds_toArray, List.set_cons_zero, List.set_cons_succ]
          first
          | (refine g_skip rfl ?_)
          | (refine g_look rfl rfl ?_ (fun w' hC => ?_) ?_
             rotate_left
             · go_simp
               first | done | rfl)
          simp only [Act.put, List.setIfInBounds_toArray, List.set_cons_zero, List.set_cons_succ]
          refine g_look rfl rfl ?_ (fun w' hC => ?_) ?_
          rotate_left
          · go_simp
            first | done | rfl
          simp only [Act.put, List.setIfInBounds_toArray, List.set_cons_zero, List.set_cons_succ]
          refine g_look rfl rfl ?_ (fun w' hC => ?_) ?_
          rotate_left
          · go_simp
            first | done | rfl
          simp only [Act.put, List.setIfInBounds_toArray, List.set_cons_zero, List.set_cons_succ]
          first
          | (refine g_skip rfl ?_)
          | (refine g_look rfl rfl ?_ (fun w' hC => ?_) ?_
             rotate_left
             · go_simp
               first | done | rfl)
          simp only [Act.put, List.setIfInBounds_toArray, List.set_cons_zero, List.set_cons_succ]
          first
          | (refine g_skip rfl ?_)
          | (refine g_look rfl rfl ?_ (fun w' hC => ?_) ?_
             rotate_left
             · go_simp
               first | done | rfl)
          simp only [Act.put, List.setIfInBounds_toArray, List.set_cons_zero, List.set_cons_succ]
          refine g_make _ (imgM (over I lb lb.length)) rfl rfl rfl (fun w' hC => ?_) (fun xp px fx => ?_)
          · go_simp
            exact img_step LO.out (image_any 1 (A9.out.below (stays_below hC))) hC
          obtain ⟨gip, cip, cup⟩ := xp
          have Pp := Lib.hid px
          clear px fx
          simp only [Act.put, imgM, List.setIfInBounds_toArray, List.set_cons_zero, List.set_cons_succ]
          refine g_conv gip (some 21) cup (over I lb lb.length) cip _ rfl rfl rfl rfl (own_new _ _ _ _) Pp.out.2 (by kernel_rfl) ?_
          simp only [Act.put, List.setIfInBounds_toArray, List.set_cons_zero, List.set_cons_succ]
          first
          | (refine g_skip rfl ?_)
          | (refine g_look rfl rfl ?_ (fun w' hC => ?_) ?_
             rotate_left
             · go_simp
               first | done | rfl)
          simp only [Act.put, List.setIfInBounds_toArray, List.set_cons_zero, List.set_cons_succ]
          first
          | (refine g_skip rfl ?_)
          | (refine g_look rfl rfl ?_ (fun w' hC => ?_) ?_
             rotate_left
             · go_simp
               first | done | rfl)
          simp only [Act.put, List.setIfInBounds_toArray, List.set_cons_zero, List.set_cons_succ]
          first
          | (refine g_skip rfl ?_)
          | (refine g_look rfl rfl ?_ (fun w' hC => ?_) ?_
             rotate_left
             · go_simp
               first | done | rfl)
          simp only [Act.put, List.setIfInBounds_toArray, List.set_cons_zero, List.set_cons_succ]
          first
          | (refine g_skip rfl ?_)
          | (refine g_look rfl rfl (.string ⟨(lb.take lb.length).toArray⟩) (fun w' hC => ?_) ?_
             · exact look_part rfl rfl (reads_fr FF9.out VB.out (fun h0 k hk e => absurd (YB.out h0 k hk) (Nat.not_lt.2 e))) (stays_below hC) (by first | exact Nat.le_refl _ | omega) PN.out)
          simp only [Act.put, List.setIfInBounds_toArray, List.set_cons_zero, List.set_cons_succ]
          first
          | (refine g_skip rfl ?_)
          | (refine g_look rfl rfl ?_ (fun w' hC => ?_) ?_
             rotate_left
             · go_simp
               first | done | rfl)
          simp only [Act.put, List.setIfInBounds_toArray, List.set_cons_zero, List.set_cons_succ]
          first
          | (refine g_skip rfl ?_)
          | (refine g_look rfl rfl ?_ (fun w' hC => ?_) ?_
             rotate_left
             · go_simp
               first | done | rfl)
          simp only [Act.put, List.setIfInBounds_toArray, List.set_cons_zero, List.set_cons_succ]
          first
          | (refine g_skip rfl ?_)
          | (refine g_look rfl rfl (.string ⟨(I.drop lb.length).toArray⟩) (fun w' hC => ?_) ?_
             · clear hC
               go_simp
               first | done | exact cut_string LI.out.symm | (rw [cut_string (by first | exact LI.out.symm | simp)]))
          simp only [Act.put, List.setIfInBounds_toArray, List.set_cons_zero, List.set_cons_succ]
          first
          | (refine g_skip rfl ?_)
          | (refine g_look rfl rfl (.string ⟨(over I lb lb.length).toArray⟩) (fun w' hC => ?_) ?_
             · clear hC
               go_simp
               first | done | exact over_string | exact over_string_all)
          simp only [Act.put, List.setIfInBounds_toArray, List.set_cons_zero, List.set_cons_succ]
          first
          | (refine g_skip rfl ?_)
          | (refine g_look rfl rfl ?_ (fun w' hC => ?_) ?_
             rotate_left
             · go_simp
               first | done | rfl)
          simp only [Act.put, List.setIfInBounds_toArray, List.set_cons_zero, List.set_cons_succ]
          refine g_look rfl rfl ?_ (fun w' hC => ?_) ?_
          rotate_left
          · go_simp
            first | done | rfl
          simp only [Act.put, List.setIfInBounds_toArray, List.set_cons_zero, List.set_cons_succ]
          refine g_look rfl rfl ?_ (fun w' hC => ?_) ?_
          rotate_left
          · go_simp
            first | done | rfl
          simp only [Act.put, List.setIfInBounds_toArray, List.set_cons_zero, List.set_cons_succ]
          first
          | (refine g_skip rfl ?_)
          | (refine g_look rfl rfl ?_ (fun w' hC => ?_) ?_
             rotate_left
             · go_simp
               first | done | rfl)
          simp only [Act.put, List.setIfInBounds_toArray, List.set_cons_zero, List.set_cons_succ]
          first
          | (refine g_skip rfl ?_)
          | (refine g_look rfl rfl ?_ (fun w' hC => ?_) ?_
             rotate_left
             · go_simp
               first | done | rfl)
          simp only [Act.put, List.setIfInBounds_toArray, List.set_cons_zero, List.set_cons_succ]
          first
          | (refine g_skip rfl ?_)
          | (refine g_look rfl rfl ?_ (fun w' hC => ?_) ?_
             rotate_left
             · go_simp
               first | done | rfl)
          simp only [Act.put, List.setIfInBounds_toArray, List.set_cons_zero, List.set_cons_succ]
          refine g_make _ (imgM I) rfl rfl rfl (fun w' hC => ?_) (fun xq px fx => ?_)
          · go_simp
            exact img_step NI.out (image_any 0 (A9.out.below (stays_below hC))) hC
          obtain ⟨giq, ciq, cuq⟩ := xq
          have Pq := Lib.hid px
          clear px fx
          simp only [Act.put, imgM, List.setIfInBounds_toArray, List.set_cons_zero, List.set_cons_succ]
          refine g_conv giq (some 37) cuq I ciq _ rfl rfl rfl rfl (own_new _ _ _ _) Pq.out.2 (by kernel_rfl) ?_
          simp only [Act.put, List.setIfInBounds_toArray, List.set_cons_zero, List.set_cons_succ]
          first
          | (refine g_skip rfl ?_)
          | (refine g_look rfl rfl ?_ (fun w' hC => ?_) ?_
             rotate_left
             · go_simp
               first | done | rfl)
          simp only [Act.put, List.setIfInBounds_toArray, List.set_cons_zero, List.set_cons_succ]
          first
          | (refine g_skip rfl ?_)
          | (refine g_look rfl rfl ?_ (fun w' hC => ?_) ?_
             rotate_left
             · go_simp
               first | done | rfl)
          simp only [Act.put, List.setIfInBounds_toArray, List.set_cons_zero, List.set_cons_succ]
          refine g_look rfl rfl ?_ (fun w' hC => ?_) ?_
          rotate_left
          · go_simp
            first | done | rfl
          simp only [Act.put, List.setIfInBounds_toArray, List.set_cons_zero, List.set_cons_succ]
          refine g_look rfl rfl ?_ (fun w' hC => ?_) ?_
          rotate_left
          · go_simp
            first | done | rfl
          simp only [Act.put, List.setIfInBounds_toArray, List.set_cons_zero, List.set_cons_succ]
          refine g_end ?_
          intro w42 hC42 hh42
          have S42 : Hid (Stays [] w9 w42) := Lib.hid (stays_nil (stays_below hC42))
          clear S41
          clear hC42 hh42
          go_wp2_with fail
          refine bodyPost_ret (v := .bool true) (by simp [results, Try.results3, go_sem]) rfl ⟨rfl, ?_⟩
          exact ((FF9.out.trans (Fr.of_below (stays_below S42.out))).belowOf (w0 := w3) (Below.refl _ _) (fun _ h => h) |> fun h => b_then A0.out h)
        · obtain ⟨m, rfl⟩ := Int.eq_ofNat_of_zero_le (show 0 ≤ n by omega)
          have hL : (if (m : Int) < -1 then -1 else (m : Int)) = (m : Int) := by rw [if_neg (by omega)]
          have t1 : (0 : Int) ≤ (m : Int) := by omega
          have hmN : lb.length < m := by omega
          have t2 : ¬ (m : Int) < (lb.length : Int) := by omega
          have t3 : ¬ (m : Int) ≤ (lb.length : Int) := by omega
          have t4 : ¬ m ≤ lb.length := by omega
          have A8' : Hid (At w8 w3.heap.size ⟨g, s0, s1, 64, I, I, (m : Int), false, 0 + (la.length : Int) + (la.length : Int), wv6, [v5] ++ [v6]⟩) := Lib.hid (by
            have h := A8.out
            simp only [hL] at h
            exact h)
          clear A8
          go_wp2_with fail
          refine (write_ok 1 _ lb A8'.out rfl (Or.inr rfl) (reads_fr FF8.out VB.out (fun h0 k hk e => absurd (YB.out h0 k hk) (Nat.not_lt.2 e))) (by have := LB.out; show lb.length ≤ 64; omega) (by have := LB.out; omega) (fun h0 k hk => at_far A8'.out (YB.out h0 k hk)) (show 2 ≤ 1000 by decide) (by have := A8'.out.bg; have := blk_lt A8'.out.row; simp only at *; omega) (by have := LA.out; show (0 : Int) ≤ 0 + (la.length : Int) + (la.length : Int) ∧ 0 + (la.length : Int) + (la.length : Int) < 4611686018427387904; omega) (by have := HR.out; show (-1 : Int) ≤ (m : Int) ∧ (m : Int) ≤ 9223372036854775807; omega)).mono ?_
          rintro e w9 ⟨wv9, v9, hW⟩
          have FF9 := Lib.hid (FF8.out.trans (wrote_fr hW A8'.out (Nat.le_refl _)))
          obtain rfl := hW.ret
          have ht : Dk.goes ⟨g, s0, s1, 64, I, I, (m : Int), false, 0 + (la.length : Int) + (la.length : Int), wv6, [v5] ++ [v6]⟩ lb.length = false := by simp [Dk.goes]; omega
          obtain ⟨left9, wr9, hA9⟩ : ∃ left9 wr9, At w9 w3.heap.size ⟨g, s0, s1, 64, I, over I lb lb.length, left9, false, wr9, wv9, [v5] ++ [v6] ++ [v9]⟩ := ⟨_, _, wrote_at hW (k := lb.length) (t := false) (by rw [Dk.cut, if_neg (by simp; omega)]) ht⟩
          have A9 := Lib.hid hA9
          clear hW hA9 A8'
          rw [ht]
          have LO : Hid (over I lb lb.length ≠ []) := Lib.hid (by intro e; have h := congrArg List.length e; rw [over_len (by first | exact Nat.le_refl _ | omega) (by have := LI.out; have := LB.out; omega), LI.out] at h; cases h)
          clear ht
          go_upto_region 16 with fail
          have q1 : lb.length ≤ cb := by have := HCB.out; omega
          have q2 : lb.length ≤ I.length := by have := LI.out; have := LB.out; omega
          have q3 : ¬ 9223372036854775807 < lb.length + (I.length - lb.length) := by have := LI.out; have := LB.out; omega
          have q5 : ¬ 9223372036854775807 < I.length := by have := LI.out; omega
          have q4 : ¬ 9223372036854775807 < min lb.length lb.length + (I.length - lb.length) := by have := LI.out; have := LB.out; omega
          have S41 : Hid (Stays [] w9 w9) := Lib.hid (stays_nil (Below.refl _ _))
          refine reg (Stays [] w9) (Turns [] w9) (kdOf [(13, .make (fun _ => callM (.bool false))), (21, .make (fun _ => imgM (over I lb lb.length))), (22, .touch), (37, .make (fun _ => imgM I)), (38, .touch)]) none0 (stays_good _ _) (by kernel_rfl) (by kernel_rfl) (stays_drew (S41.out)) (holds0 _) ?_
          refine g_look rfl rfl ?_ (fun w' hC => ?_) ?_
          rotate_left
          · go_simp
            first | done | rfl
          simp only [Act.put, List.setIfInBounds_toArray, List.set_cons_zero, List.set_cons_succ]
          refine g_look rfl rfl ?_ (fun w' hC => ?_) ?_
          rotate_left
          · go_simp
            first | done | rfl
          simp only [Act.put, List.setIfInBounds_toArray, List.set_cons_zero, List.set_cons_succ]
          refine g_look rfl rfl ?_ (fun w' hC => ?_) ?_
          rotate_left
          · go_simp
            first | done | rfl
          simp only [Act.put, List.setIfInBounds_toArray, List.set_cons_zero, List.set_cons_succ]
          refine g_look rfl rfl ?_ (fun w' hC => ?_) ?_
          rotate_left
          · go_simp
            first | done | rfl
          simp only [Act.put, List.setIfInBounds_toArray, List.set_cons_zero, List.set_cons_succ]
          refine g_look rfl rfl ?_ (fun w' hC => ?_) ?_
          rotate_left
          · go_simp
            first | done | rfl
          simp only [Act.put, List.setIfInBounds_toArray, List.set_cons_zero, List.set_cons_succ]
          first
          | (refine g_skip rfl ?_)
          | (refine g_look rfl rfl ?_ (fun w' hC => ?_) ?_
             rotate_left
             · go_simp
               first | done | rfl)
          simp only [Act.put, List.setIfInBounds_toArray, List.set_cons_zero, List.set_cons_succ]
          first
          | (refine g_skip rfl ?_)
          | (refine g_look rfl rfl ?_ (fun w' hC => ?_) ?_
             rotate_left
             · go_simp
               first | done | rfl)
          simp only [Act.put, List.setIfInBounds_toArray, List.set_cons_zero, List.set_cons_succ]
          first
          | (refine g_skip rfl ?_)
          | (refine g_look rfl rfl ?_ (fun w' hC => ?_) ?_
             rotate_left
             · go_simp
               first | done | rfl)
          simp only [Act.put, List.setIfInBounds_toArray, List.set_cons_zero, List.set_cons_succ]
          first
          | (refine g_skip rfl ?_)
          | (refine g_look rfl rfl ?_ (fun w' hC => ?_) ?_
             rotate_left
             · go_simp
               first | done | rfl)
          simp only [Act.put, List.setIfInBounds_toArray, List.set_cons_zero, List.set_cons_succ]
          refine g_look rfl rfl ?_ (fun w' hC => ?_) ?_
          rotate_left
          · go_simp
            first | done | rfl
          simp only [Act.put, List.setIfInBounds_toArray, List.set_cons_zero, List.set_cons_succ]
          refine g_look rfl rfl ?_ (fun w' hC => ?_) ?_
          rotate_left
          · go_simp
            first | done | rfl
          simp only [Act.put, List.setIfInBounds_toArray, List.set_cons_zero, List.set_cons_succ]
          refine g_look rfl rfl ?_ (fun w' hC => ?_) ?_
          rotate_left
          · go_simp
            first | done | rfl
          simp only [Act.put, List.setIfInBounds_toArray, List.set_cons_zero, List.set_cons_succ]
          first
          | (refine g_skip rfl ?_)
          | (refine g_look rfl rfl ?_ (fun w' hC => ?_) ?_
             rotate_left
             · go_simp
               first | done | rfl)
          simp only [Act.put, List.setIfInBounds_toArray, List.set_cons_zero, List.set_cons_succ]
          refine g_call (stays_good _ _) (.bool false) rfl rfl (fun w' hC => ?_) ?_
          · go_simp
            refine (same_below (down_any (A9.out.below (stays_below hC)))).mono (fun e w2 h => ?_)
            obtain ⟨h1, h2⟩ := h
            exact gives h1 h2
          simp only [Act.put, List.setIfInBounds_toArray, List.set_cons_zero, List.set_cons_succ]
          first
          | (refine g_skip rfl ?_)
          | (refine g_look rfl rfl ?_ (fun w' hC => ?_) ?_
             rotate_left
             · go_simp
               first | done | rfl)
          simp only [Act.put, List.setIfInBounds_toArray, List.set_cons_zero, List.set_cons_succ]
          first
          | (refine g_skip rfl ?_)
          | (refine g_look rfl rfl ?_ (fun w' hC => ?_) ?_
             rotate_left
             · go_simp
               first | done | rfl)
          simp only [Act.put, List.setIfInBounds_toArray, List.set_cons_zero, List.set_cons_succ]
          first
          | (refine g_skip rfl ?_)
          | (refine g_look rfl rfl ?_ (fun w' hC => ?_) ?_
             rotate_left
             · go_simp
               first | done | rfl)
          simp only [Act.put, List.setIfInBounds_toArray, List.set_cons_zero, List.set_cons_succ]
          refine g_look rfl rfl ?_ (fun w' hC => ?_) ?_
          rotate_left
          · go_simp
            first | done | rfl
          simp only [Act.put, List.setIfInBounds_toArray, List.set_cons_zero, List.set_cons_succ]
          refine g_look rfl rfl ?_ (fun w' hC => ?_) ?_
          rotate_left
          · go_simp
            first | done | rfl
          simp only [Act.put, List.setIfInBounds_toArray, List.set_cons_zero, List.set_cons_succ]
          first
          | (refine g_skip rfl ?_)
          | (refine g_look rfl rfl ?_ (fun w' hC => ?_) ?_
             rotate_left
             · go_simp
               first | done | rfl)
          simp only [Act.put, List.setIfInBounds_toArray, List.set_cons_zero, List.set_cons_succ]
          first
          | (refine g_skip rfl ?_)
          | (refine g_look rfl rfl ?_ (fun w' hC => ?_) ?_
             rotate_left
             · go_simp
               first | done | rfl)
          simp only [Act.put, List.setIfInBounds_toArray, List.set_cons_zero, List.set_cons_succ]
          refine g_make _ (imgM (over I lb lb.length)) rfl rfl rfl (fun w' hC => ?_) (fun xp px fx => ?_)
          · go_simp
            exact img_step LO.out (image_any 1 (A9.out.below (stays_below hC))) hC
          obtain ⟨gip, cip, cup⟩ := xp
          have Pp := Lib.hid px
          clear px fx
          simp only [Act.put, imgM, List.setIfInBounds_toArray, List.set_cons_zero, List.set_cons_succ]
          refine g_conv gip (some 21) cup (over I lb lb.length) cip _ rfl rfl rfl rfl (own_new _ _ _ _) Pp.out.2 (by kernel_rfl) ?_
          simp only [Act.put, List.setIfInBounds_toArray, List.set_cons_zero, List.set_cons_succ]
          first
          | (refine g_skip rfl ?_)
          | (refine g_look rfl rfl ?_ (fun w' hC => ?_) ?_
             rotate_left
             · go_simp
               first | done | rfl)
          simp only [Act.put, List.setIfInBounds_toArray, List.set_cons_zero, List.set_cons_succ]
          first
          | (refine g_skip rfl ?_)
          | (refine g_look rfl rfl ?_ (fun w' hC => ?_) ?_
             rotate_left
             · go_simp
               first | done | rfl)
          simp only [Act.put, List.setIfInBounds_toArray, List.set_cons_zero, List.set_cons_succ]
          first
          | (refine g_skip rfl ?_)
          | (refine g_look rfl rfl ?_ (fun w' hC => ?_) ?_
             rotate_left
             · go_simp
               first | done | rfl)
          simp only [Act.put, List.setIfInBounds_toArray, List.set_cons_zero, List.set_cons_succ]
          first
          | (refine g_skip rfl ?_)
          | (refine g_look rfl rfl (.string ⟨(lb.take lb.length).toArray⟩) (fun w' hC => ?_) ?_
             · exact look_part rfl rfl (reads_fr FF9.out VB.out (fun h0 k hk e => absurd (YB.out h0 k hk) (Nat.not_lt.2 e))) (stays_below hC) (by first | exact Nat.le_refl _ | omega) PN.out)
          simp only [Act.put, List.setIfInBounds_toArray, List.set_cons_zero, List.set_cons_succ]
          first
          | (refine g_skip rfl ?_)
          | (refine g_look rfl rfl ?_ (fun w' hC => ?_) ?_
             rotate_left
             · go_simp
               first | done | rfl)
          simp only [Act.put, List.setIfInBounds_toArray, List.set_cons_zero, List.set_cons_succ]
          first
          | (refine g_skip rfl ?_)
          | (refine g_look rfl rfl ?_ (fun w' hC => ?_) ?_
             rotate_left
             · go_simp
               first | done | rfl)
          simp only [Act.put, List.setIfInBounds_toArray, List.set_cons_zero, List.set_cons_succ]
          first
          | (refine g_skip rfl ?_)
          | (refine g_look rfl rfl (.string ⟨(I.drop lb.length).toArray⟩) (fun w' hC => ?_) ?_
             · clear hC
               go_simp
               first | done | exact cut_string LI.out.symm | (rw [cut_string (by first | exact LI.out.symm | simp)]))
          simp only [Act.put, List.setIfInBounds_toArray, List.set_cons_zero, List.set_cons_succ]
          first
          | (refine g_skip rfl ?_)
          | (refine g_look rfl rfl (.string ⟨(over I lb lb.length).toArray⟩) (fun w' hC => ?_) ?_
             · clear hC
               go_simp
               first | done | exact over_string | exact over_string_all)
          simp only [Act.put, List.setIfInBounds_toArray, List.set_cons_zero, List.set_cons_succ]
          first
          | (refine g_skip rfl ?_)
          | (refine g_look rfl rfl ?_ (fun w' hC => ?_) ?_
             rotate_left
             · go_simp
               first | done | rfl)
          simp only [Act.put, List.setIfInBounds_toArray, List.set_cons_zero, List.set_cons_succ]
          refine g_look rfl rfl ?_ (fun w' hC => ?_) ?_
          rotate_left
          · go_simp
            first | done | rfl
          simp only [Act.put, List.setIfInBounds_toArray, List.set_cons_zero, List.set_cons_succ]
          refine g_look rfl rfl ?_ (fun w' hC => ?_) ?_
          rotate_left
          · go_simp
            first | done | rfl
          simp only [Act.put, List.setIfInBounds_toArray, List.set_cons_zero, List.set_cons_succ]
          first
          | (refine g_skip rfl ?_)
          | (refine g_look rfl rfl ?_ (fun w' hC => ?_) ?_
             rotate_left
             · go_simp
               first | done | rfl)
          simp only [Act.put, List.setIfInBounds_toArray, List.set_cons_zero, List.set_cons_succ]
          first
          | (refine g_skip rfl ?_)
          | (refine g_look rfl rfl ?_ (fun w' hC => ?_) ?_
             rotate_left
             · go_simp
               first | done | rfl)
          simp only [Act.put, List.setIfInBounds_toArray, List.set_cons_zero, List.set_cons_succ]
          first
          | (refine g_skip rfl ?_)
          | (refine g_look rfl rfl ?_ (fun w' hC => ?_) ?_
             rotate_left
             · go_simp
               first | done | rfl)
          simp only [Act.put, List.setIfInBounds_toArray, List.set_cons_zero, List.set_cons_succ]
          refine g_make _ (imgM I) rfl rfl rfl (fun w' hC => ?_) (fun xq px fx => ?_)
          · go_simp
            exact img_step NI.out (image_any 0 (A9.out.below (stays_below hC))) hC
          obtain ⟨giq, ciq, cuq⟩ := xq
          have Pq := Lib.hid px
          clear px fx
          simp only [Act.put, imgM, List.setIfInBounds_toArray, List.set_cons_zero, List.set_cons_succ]
          refine g_conv giq (some 37) cuq I ciq _ rfl rfl rfl rfl (own_new _ _ _ _) Pq.out.2 (by kernel_rfl) ?_
          simp only [Act.put, List.setIfInBounds_toArray, List.set_cons_zero, List.set_cons_succ]
          first
          | (refine g_skip rfl ?_)
          | (refine g_look rfl rfl ?_ (fun w' hC => ?_) ?_
             rotate_left
             · go_simp
               first | done | rfl)
          simp only [Act.put, List.setIfInBounds_toArray, List.set_cons_zero, List.set_cons_succ]
          first
          | (refine g_skip rfl ?_)
          | (refine g_look rfl rfl ?_ (fun w' hC => ?_) ?_
             rotate_left
             · go_simp
               first | done | rfl)
          simp only [Act.put, List.setIfInBounds_toArray, List.set_cons_zero, List.set_cons_succ]
          refine g_look rfl rfl ?_ (fun w' hC => ?_) ?_
          rotate_left
          · go_simp
            first | done | rfl
          simp only [Act.put, List.setIfInBounds_toArray, List.set_cons_zero, List.set_cons_succ]
          refine g_look rfl rfl ?_ (fun w' hC => ?_) ?_
          rotate_left
          · go_simp
            first | done | rfl
          simp only [Act.put, List.setIfInBounds_toArray, List.set_cons_zero, List.set_cons_succ]
          refine g_end ?_
          intro w42 hC42 hh42
          have S42 : Hid (Stays [] w9 w42) := Lib.hid (stays_nil (stays_below hC42))
          clear S41
          clear hC42 hh42
          go_wp2_with fail
          refine bodyPost_ret (v := .bool true) (by simp [results, Try.results3, go_sem]) rfl ⟨rfl, ?_⟩
          exact ((FF9.out.trans (Fr.of_below (stays_below S42.out))).belowOf (w0 := w3) (Below.refl _ _) (fun _ h => h) |> fun h => b_then A0.out h)
end Go.Proofs.Ytijcdpefcdgklaa.Di
