/- The document's text of a number, by a walk. -/
import Derived.Test.YthpdfacdjgkmpaaDe
import Derived.Test.YthpdfacdjgkmpaaOrd
import Derived.Lib.ItoaNum
import Derived.Laws.BytesString
import Derived.ChangeKeysEq
namespace Go.Proofs.Ythpdfacdjgkmpaa.Wi
open Go.RowKit K

def zB (f g : Nat → Nat) : Bool := (List.range 20).all fun i => f i == g i
theorem items27 (w : World) (f g : Nat → Nat) : ∀ is : List Nat, (∀ i ∈ is, i < 20) → (Op.eqItems 9999 23 1 (fc f) (fc g) is).run Try.prog w = .ok (is.all fun i => f i == g i) w
  | [], _ => by simp [Op.eqItems]
  | i :: is, h => by
    have hi := h i (by simp)
    have ih := items27 w f g is (fun j hj => h j (by simp [hj]))
    have e1 := fc_get f hi
    have e2 := fc_get g hi
    rw [Op.eqItems]
    simp [part, go_sem, e1, e2, Try.underlying23]
    rw [ih]
    by_cases e : f i = g i
    · have e2 : (f i == g i) = true := by simpa using e
      rw [if_pos (by rw [e]), e2]
      rfl
    · have e2 : (f i == g i) = false := by simpa using e
      rw [if_neg (by omega), e2]
      rfl
theorem eq27 (w : World) (f g : Nat → Nat) : (Op.equalIn 10000 41 (.agg (fc f)) (.agg (fc g))).run Try.prog w = .ok (zB f g) w := by
  rw [show (10000 : Nat) = 9999 + 1 from rfl, run_equalIn_array (P := Try.prog) (w := w) 9999 (fc f) (fc g) Try.underlying41 (show Try.prog.info? 23 = some _ from rfl)]
  exact items27 w f g _ (fun i hi => List.mem_range.1 hi)
theorem eq27z (w : World) (f : Nat → Nat) : (Op.equalIn 10000 41 (.agg (fc f)) (.agg #[.int .u64 0, .int .u64 0, .int .u64 0, .int .u64 0, .int .u64 0, .int .u64 0, .int .u64 0, .int .u64 0, .int .u64 0, .int .u64 0, .int .u64 0, .int .u64 0, .int .u64 0, .int .u64 0, .int .u64 0, .int .u64 0, .int .u64 0, .int .u64 0, .int .u64 0, .int .u64 0])).run Try.prog w = .ok (zB f (fun _ => 0)) w := by
  have := eq27 w f (fun _ => 0)
  rw [← zeros20] at this
  exact this
attribute [local go_sem ↓] eq27z
theorem zB_zero : zB (dig 0) (fun _ => 0) = true := by
  simp [zB, dig_zero]
theorem zB_ne {N : Nat} (h : N ≠ 0) (hN : N < 65536 ^ 20) : zB (dig N) (fun _ => 0) = false := by
  cases hz : zB (dig N) (fun _ => 0)
  · rfl
  · exfalso
    have hz' : ∀ i, i < 20 → dig N i = 0 := by simpa [zB] using hz
    have := mod_eq_of (N := N) (M := 0) (i := 20) (fun j hj => by rw [hz' j hj, dig_zero])
    rw [Nat.mod_eq_of_lt hN, Nat.zero_mod] at this
    exact h this
theorem wpList_load_27g {ops : Array Oper} {rest : List Oper} {o : Oper} {a : Act} {w : World} {Q : Exit → Act → World → Prop} (hw : Region.wanted o (yielded ops a.tmps) = true) (x : Operand) (ho : o.op = .load 41 x)
    (g : Nat) (f : Nat → Nat) (hx : a.eval x = .pointer (some ⟨g, 0, none⟩)) (hg : Blk w g f)
    (h : wpList Try.prog ops Q rest (a.put o.dst (.agg (fc f))) w) : wpList Try.prog ops Q (o :: rest) a w := by
  unfold wpList
  rw [if_pos hw]
  exact Or.inl (wp_load_row 41 x ho g hx 41 (fc f) (0, 0) _ hg Try.underlying41 rfl (info27 _) h)
theorem conv1 (w : World) (x : Int) : (convert 89 9 (.slice (some ⟨w.heap.size, 0, none⟩) 1 1)).run Try.prog (w.alloc (.cells #[.int .u8 x] 5)) = .ok (.string ⟨#[UInt8.ofNat x.toNat]⟩) (w.alloc (.cells #[.int .u8 x] 5)) := by
  rw [run_convert_bytes_string _ 89 9 5 _ _ _ rfl rfl rfl]
  have hb : (w.alloc (.cells #[.int .u8 x] 5)).heap[w.heap.size]? = some (.cells #[.int .u8 x] 5 (0, 0)) := blk_new rfl
  have hl := run_loadCells (P := Try.prog) (w := w.alloc (.cells #[.int .u8 x] 5)) ⟨w.heap.size, 0, none⟩ 1 (fun _ => .int .u8 x) (fun j hj => by
    obtain rfl : j = 0 := by omega
    exact (cell_of_row _ _ _ _ _ _ hb).trans rfl)
  have hm : ((List.range 1).map fun _ => Value.int .u8 x) = [x].map (Value.int .u8) := rfl
  rw [hm] at hl
  rw [run_bytesToString _ _ 1 1 _ hl]
  rfl
attribute [local go_sem ↓] conv1
def slen : Value → Nat
  | .string s => s.size
  | _ => 0
/-- The last k digits of a number, as a text. -/
def tl (X k : Nat) : ByteArray := ⟨((List.range k).map fun j => UInt8.ofNat (48 + X / 10 ^ (k - 1 - j) % 10)).toArray⟩
theorem tl_size (X k : Nat) : (tl X k).size = k := by simp [tl, ByteArray.size]
theorem tl_zero (X : Nat) : tl X 0 = ⟨#[]⟩ := rfl
theorem tl_ne {X k : Nat} (h : k ≠ 0) : (tl X k).toList.isEmpty = false := by
  rw [ByteArray.toList_eq]
  simp [tl]
  omega
theorem tl_step (X k : Nat) : tl X (k + 1) = ⟨#[UInt8.ofNat (48 + X / 10 ^ k % 10)] ++ (tl X k).data⟩ := by
  unfold tl
  rw [List.range_succ_eq_map, List.map_cons, List.map_map]
  congr 1
  have : (List.map ((fun j => UInt8.ofNat (48 + X / 10 ^ (k + 1 - 1 - j) % 10)) ∘ Nat.succ) (List.range k)) = List.map (fun j => UInt8.ofNat (48 + X / 10 ^ (k - 1 - j) % 10)) (List.range k) := by
    refine List.map_congr_left fun j hj => ?_
    show UInt8.ofNat (48 + X / 10 ^ (k + 1 - 1 - (j + 1)) % 10) = _
    rw [show k + 1 - 1 - (j + 1) = k - 1 - j by omega]
  rw [this]
  simp
theorem tl_up {X k D : Nat} {r : Int} (hr : ((D / 65536 ^ 0 % 10 : Nat) : Int) = r) (hD : X / 10 ^ k = D) : Value.string ((⟨#[UInt8.ofNat (48 + r).toNat]⟩ : ByteArray) ++ tl X k) = .string (tl X (k + 1)) := by
  rw [tl_step, hD]
  rw [Nat.pow_zero, Nat.div_one] at hr
  rw [show (48 + r).toNat = 48 + D % 10 by omega]
  exact congrArg Value.string (ByteArray.ext (by simp))
open Lib in
theorem tl_end {X k : Nat} (hk : k ≠ 0) (h1 : 1 < k → 10 ^ (k - 1) ≤ X) (h0 : X / 10 ^ k = 0) : tl X k = ⟨(decDigits X).toArray⟩ := by
  have hlt : X < 10 ^ k := by
    have := Nat.div_add_mod X (10 ^ k)
    rw [h0, Nat.mul_zero, Nat.zero_add] at this
    rw [← this]
    exact Nat.mod_lt _ (Nat.pow_pos (by omega))
  by_cases e : k = 1
  · subst e
    rw [decDigits_one (by simpa using hlt)]
    have : X % 10 = X := Nat.mod_eq_of_lt (by simpa using hlt)
    simp [tl, this]
  · obtain ⟨d, rfl⟩ : ∃ d, k = d + 1 := ⟨k - 1, by omega⟩
    have hn : nDigits X = d + 1 := nDigits_unique d X (h1 (by omega)) hlt
    unfold tl
    rw [decDigits_eq, hn]
    rfl
theorem tl_more {X k : Nat} (h0 : X / 10 ^ k ≠ 0) (hX : X < 340282366920938463463374607431768211456) (hk : k ≤ 39) : k < 39 := by
  by_cases h : k = 39
  · exfalso
    subst h
    exact h0 (Nat.div_eq_of_lt (Nat.lt_of_lt_of_le hX (by decide)))
  · omega
/-- The digits of D at place i of a division by ten: those from i on are the quotient's. -/
def tenD (D i j : Nat) : Nat := if j < i then dig D j else dig (D / 10) j
theorem ten_step (D i : Nat) : (D / 65536 ^ (i + 1) % 10 * 65536 + dig D i) / 10 = dig (D / 10) i ∧ (D / 65536 ^ (i + 1) % 10 * 65536 + dig D i) % 10 = D / 65536 ^ i % 10 := by
  have e0 : D / 65536 ^ (i + 1) = D / 65536 ^ i / 65536 := by rw [Nat.div_div_eq_div_mul, pow_step]
  have e1 : dig (D / 10) i = D / 65536 ^ i / 10 % 65536 := by
    unfold dig
    rw [Nat.div_div_eq_div_mul, Nat.div_div_eq_div_mul, Nat.mul_comm]
  have e2 : dig D i = D / 65536 ^ i % 65536 := rfl
  rw [e0, e1, e2]
  generalize D / 65536 ^ i = M
  omega
theorem ten_upd (D i : Nat) : ∀ j, j < 20 → (if j = i then dig (D / 10) i else tenD D (i + 1) j) = tenD D i j := by
  intro j _
  unfold tenD
  by_cases e : j = i
  · subst e
    rw [if_pos rfl, if_neg (by omega)]
  · rw [if_neg e]
    by_cases h : j < i
    · rw [if_pos (by omega), if_pos h]
    · rw [if_neg (by omega), if_neg h]
attribute [local irreducible] fc
set_option maxHeartbeats 4000000 in
set_option maxRecDepth 100000 in
theorem rtext_any (w : World) (h l : Nat) (hh : h < 65536 ^ 4) (hl : l < 65536 ^ 4) : Calls Try.prog 41 #[wv h l] w (Ret w (.string ⟨(Lib.decDigits (h * 65536 ^ 4 + l)).toArray⟩)) := by
  obtain ⟨X, hX⟩ : ∃ X, h * 65536 ^ 4 + l = X := ⟨_, rfl⟩
  have hX8 : X < 340282366920938463463374607431768211456 := by
    have h1 : h < 18446744073709551616 := hh
    have h2 : l < 18446744073709551616 := hl
    have h3 : h * 18446744073709551616 + l = X := hX
    omega
  have HX8 := Lib.hid hX8
  obtain ⟨V, hV⟩ : ∃ V : ByteArray, ⟨(Lib.decDigits X).toArray⟩ = V := ⟨_, rfl⟩
  rw [hX, hV]
  have HV := Lib.hid hV
  clear hV hX8
  unfold wv
  go_enter Try.func41, Try.ntmps41
  go_wp2_with fail
  refine (of_any _ h l hh hl).mono ?_
  rintro e w1 ⟨rfl, hb1⟩
  rw [hX]
  unfold dg
  go_wp2_with (refine wpList_store_blk rfl 41 _ _ rfl w1.heap.size 41 (fc (fun _ => 0)) _ rfl rfl (startZ w1) (by rw [fc_size, fc_size]) (info27 _) (fc_one _) ?_; intro w2 hw2 gw2)
  have HB := Lib.hid (b_grown1 (b_alloc (b_then (b_alloc (Below.refl _ w) _) hb1) _) gw2 (by have := hb1.size; simp at this; omega))
  obtain ⟨B, hB⟩ : ∃ B, w1.heap.size = B := ⟨_, rfl⟩
  have hBw : w.heap.size < B := by rw [← hB]; have := hb1.size; simp at this; omega
  rw [hB] at hw2
  rw [hB]
  have HW2 : Hid (Blk w2 B (dig X)) := hw2
  clear hw2 gw2 hb1 hB hX hh hl
  clear w1
  go_loopw [4, 5, 6] (fun s r i wr => ∃ k : Nat, k ≤ 39 ∧ s = .string (tl X k) ∧ Hid (1 < k → 10 ^ (k - 1) ≤ X) ∧ Hid (Blk wr B (dig (X / 10 ^ k))) ∧ Hid (Below w.heap.size w wr)) (fun s _ _ _ => 100 - slen s)
  case atStart => exact ⟨0, by omega, rfl, fun h => absurd h (by omega), by rw [Nat.pow_zero, Nat.div_one]; exact HW2, HB⟩
  case round =>
    obtain ⟨k, hk, rfl, hT, hb, hbel⟩ := hrel
    clear HW2 HB
    clear w2
    by_cases hz : k ≠ 0 ∧ X / 10 ^ k = 0
    · have hs := tl_ne (X := X) hz.1
      have hE := tl_end hz.1 hT.out hz.2
      rw [HV.out] at hE
      have HB := hb.out
      rw [hz.2] at HB
      have zz := zB_zero
      rw [hE] at hs ⊢
      go_wp2_with (refine wpList_load_27g rfl _ rfl B _ rfl HB ?_)
      refine bodyPost_ret (v := .string V) (by simp [results, Try.results41, go_sem]) rfl ⟨rfl, hbel.out⟩
    · have HB := hb.out
      by_cases hk0 : k = 0
      · have hs : (tl X k).toList.isEmpty = true := by rw [hk0, tl_zero, ByteArray.toList_eq]; rfl
        have hk39 : k < 39 := by omega
        have HT := Lib.hid (show 1 < k + 1 → 10 ^ (k + 1 - 1) ≤ X from fun h => absurd hk0 (by omega))
        obtain ⟨D, hD⟩ : ∃ D, X / 10 ^ k = D := ⟨_, rfl⟩
        rw [hD] at HB
        have HD := Lib.hid hD
        have D20 : D < 65536 ^ 20 := by rw [← hD]; exact Nat.lt_of_le_of_lt (Nat.div_le_self _ _) (Nat.lt_of_lt_of_le HX8.out (by decide))
        clear hk0
        have HD20 := Lib.hid D20
        clear D20 hD hz
        go_wp2_with fail
        go_loopw [5, 6] (fun r i wi => ∃ m : Nat, m ≤ 20 ∧ i = .int .i64 ((m : Int) - 1) ∧ r = .int .u64 ((D / 65536 ^ m % 10 : Nat) : Int) ∧ Hid (Blk wi B (tenD D m)) ∧ Hid (Below w.heap.size w wi)) (fun _ i _ => (intOf i + 1).toNat)
        case atStart => exact ⟨20, by omega, rfl, by rw [Nat.div_eq_of_lt HD20.out]; rfl, HB.congr (fun j hj => by unfold tenD; rw [if_pos hj]), hbel.out⟩
        case round =>
          obtain ⟨m, hm, rfl, rfl, ib, ibel⟩ := hrel
          clear HB hb hbel
          cases m with
          | zero =>
            have ib0 := Lib.hid (ib.out.congr (f' := dig (D / 10)) (fun j hj => by unfold tenD; rw [if_neg (by omega)]))
            clear ib
            obtain ⟨r, hr, r0, r1⟩ : ∃ r : Int, ((D / 65536 ^ 0 % 10 : Nat) : Int) = r ∧ 0 ≤ r ∧ r < 10 := ⟨_, rfl, by omega, by omega⟩
            rw [hr]
            have HR := Lib.hid hr
            have ew1 : IntKind.u8.wrap (48 + r) = 48 + r := by simp [IntKind.wrap, IntKind.signed, IntKind.bits]; omega
            have ew2 : IntKind.u64.wrap (48 + r) = 48 + r := wu_small (by omega) (by omega)
            clear hr
            have tsz := tl_size X k
            have tbig : ¬ 9223372036854775807 < 1 + k := by omega
            go_wp2_with fail
            go_roundw
            case rel => exact ⟨k + 1, by omega, tl_up HR.out HD.out, HT.out, by rw [Nat.pow_succ, ← Nat.div_div_eq_div_mul, HD.out]; exact blk_alloc ib0.out _, b_alloc ibel.out _⟩
            case measure =>
              rw [tl_up HR.out HD.out]
              simp [slen, tl_size]
              omega
          | succ q =>
            have c := ib.out.cell (show q < 20 by omega)
            rw [show tenD D (q + 1) q = dig D q by unfold tenD; rw [if_pos (by omega)]] at c
            have z := ib.out.free q
            have lt := ib.out.lt
            have b0 := dig_lt D q
            have hq1 : (0 : Int) ≤ (q : Int) := by omega
            have hq2 : (q : Int) < 20 := by omega
            have ts := ten_step D q
            obtain ⟨r, hr, r0, r1⟩ : ∃ r : Int, ((D / 65536 ^ (q + 1) % 10 : Nat) : Int) = r ∧ 0 ≤ r ∧ r < 10 := ⟨_, rfl, by omega, by omega⟩
            obtain ⟨a, ha, a0, a1⟩ : ∃ a : Int, ((dig D q : Nat) : Int) = a ∧ 0 ≤ a ∧ a < 65536 := ⟨_, rfl, by omega, by omega⟩
            have E1 := Lib.hid (show (r * 65536 + a) / 10 = ((dig (D / 10) q : Nat) : Int) by omega)
            have E2 := Lib.hid (show (r * 65536 + a) % 10 = ((D / 65536 ^ q % 10 : Nat) : Int) by omega)
            rw [ha] at c
            rw [hr]
            clear ha hr ts b0
            have w1 : IntKind.u64.wrap (r * 65536) = r * 65536 := wu_small (by omega) (by omega)
            have w2 : IntKind.u64.wrap (r * 65536 + a) = r * 65536 + a := wu_small (by omega) (by omega)
            have eq : ((q + 1 : Nat) : Int) - 1 = (q : Int) := by omega
            rw [eq]
            clear eq
            go_wp2_with fail
            rw [E1.out, E2.out]
            go_roundw
            case rel => exact ⟨q, by omega, rfl, rfl, (ib.out.set (dig (D / 10) q) (by omega)).congr (ten_upd D q), b_set ibel.out (show w.heap.size ≤ B by omega) _⟩
            case measure => simp [intOf]
      · have hz0 : X / 10 ^ k ≠ 0 := fun e => hz ⟨hk0, e⟩
        have hk39 : k < 39 := tl_more hz0 HX8.out hk
        have HT := Lib.hid (show 1 < k + 1 → 10 ^ (k + 1 - 1) ≤ X from fun _ => by
          rw [Nat.add_sub_cancel]
          by_cases hx : 10 ^ k ≤ X
          · exact hx
          · exact absurd (Nat.div_eq_of_lt (by omega)) hz0)
        obtain ⟨D, hD⟩ : ∃ D, X / 10 ^ k = D := ⟨_, rfl⟩
        rw [hD] at HB
        have HD := Lib.hid hD
        have D20 : D < 65536 ^ 20 := by rw [← hD]; exact Nat.lt_of_le_of_lt (Nat.div_le_self _ _) (Nat.lt_of_lt_of_le HX8.out (by decide))
        have zz := zB_ne (N := D) (by rw [← hD]; exact hz0) D20
        have hs := tl_ne (X := X) hk0
        clear hz0
        have HD20 := Lib.hid D20
        clear D20 hD hz
        go_wp2_with (refine wpList_load_27g rfl _ rfl B _ rfl HB ?_)
        go_loopw [5, 6] (fun r i wi => ∃ m : Nat, m ≤ 20 ∧ i = .int .i64 ((m : Int) - 1) ∧ r = .int .u64 ((D / 65536 ^ m % 10 : Nat) : Int) ∧ Hid (Blk wi B (tenD D m)) ∧ Hid (Below w.heap.size w wi)) (fun _ i _ => (intOf i + 1).toNat)
        case atStart => exact ⟨20, by omega, rfl, by rw [Nat.div_eq_of_lt HD20.out]; rfl, HB.congr (fun j hj => by unfold tenD; rw [if_pos hj]), hbel.out⟩
        case round =>
          obtain ⟨m, hm, rfl, rfl, ib, ibel⟩ := hrel
          clear HB hb hbel
          cases m with
          | zero =>
            have ib0 := Lib.hid (ib.out.congr (f' := dig (D / 10)) (fun j hj => by unfold tenD; rw [if_neg (by omega)]))
            clear ib
            obtain ⟨r, hr, r0, r1⟩ : ∃ r : Int, ((D / 65536 ^ 0 % 10 : Nat) : Int) = r ∧ 0 ≤ r ∧ r < 10 := ⟨_, rfl, by omega, by omega⟩
            rw [hr]
            have HR := Lib.hid hr
            have ew1 : IntKind.u8.wrap (48 + r) = 48 + r := by simp [IntKind.wrap, IntKind.signed, IntKind.bits]; omega
            have ew2 : IntKind.u64.wrap (48 + r) = 48 + r := wu_small (by omega) (by omega)
            clear hr
            have tsz := tl_size X k
            have tbig : ¬ 9223372036854775807 < 1 + k := by omega
            go_wp2_with fail
            go_roundw
            case rel => exact ⟨k + 1, by omega, tl_up HR.out HD.out, HT.out, by rw [Nat.pow_succ, ← Nat.div_div_eq_div_mul, HD.out]; exact blk_alloc ib0.out _, b_alloc ibel.out _⟩
            case measure =>
              rw [tl_up HR.out HD.out]
              simp [slen, tl_size]
              omega
          | succ q =>
            have c := ib.out.cell (show q < 20 by omega)
            rw [show tenD D (q + 1) q = dig D q by unfold tenD; rw [if_pos (by omega)]] at c
            have z := ib.out.free q
            have lt := ib.out.lt
            have b0 := dig_lt D q
            have hq1 : (0 : Int) ≤ (q : Int) := by omega
            have hq2 : (q : Int) < 20 := by omega
            have ts := ten_step D q
            obtain ⟨r, hr, r0, r1⟩ : ∃ r : Int, ((D / 65536 ^ (q + 1) % 10 : Nat) : Int) = r ∧ 0 ≤ r ∧ r < 10 := ⟨_, rfl, by omega, by omega⟩
            obtain ⟨a, ha, a0, a1⟩ : ∃ a : Int, ((dig D q : Nat) : Int) = a ∧ 0 ≤ a ∧ a < 65536 := ⟨_, rfl, by omega, by omega⟩
            have E1 := Lib.hid (show (r * 65536 + a) / 10 = ((dig (D / 10) q : Nat) : Int) by omega)
            have E2 := Lib.hid (show (r * 65536 + a) % 10 = ((D / 65536 ^ q % 10 : Nat) : Int) by omega)
            rw [ha] at c
            rw [hr]
            clear ha hr ts b0
            have w1 : IntKind.u64.wrap (r * 65536) = r * 65536 := wu_small (by omega) (by omega)
            have w2 : IntKind.u64.wrap (r * 65536 + a) = r * 65536 + a := wu_small (by omega) (by omega)
            have eq : ((q + 1 : Nat) : Int) - 1 = (q : Int) := by omega
            rw [eq]
            clear eq
            go_wp2_with fail
            rw [E1.out, E2.out]
            go_roundw
            case rel => exact ⟨q, by omega, rfl, rfl, (ib.out.set (dig (D / 10) q) (by omega)).congr (ten_upd D q), b_set ibel.out (show w.heap.size ≤ B by omega) _⟩
            case measure => simp [intOf]
end Go.Proofs.Ythpdfacdjgkmpaa.Wi
