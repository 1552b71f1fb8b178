/- The document's disks: what is written, by a walk. -/
import Derived.Test.YtijcdpefcdgklaaEe
import Derived.Lib.SlBytesConst
namespace Go.Proofs.Ytijcdpefcdgklaa.Di
open Go.RowKit K

theorem st_size (l : List UInt8) : (⟨l.toArray⟩ : ByteArray).size = l.length := by show l.toArray.size = _; simp
def strs (ls : List (List UInt8)) : List Value := ls.map fun l => .string ⟨l.toArray⟩
theorem strs_len (ls : List (List UInt8)) : (strs ls).length = ls.length := by simp [strs]
theorem strs_one {ls : List (List UInt8)} : ∀ u ∈ strs ls, u.oneCell' = true := by
  intro u hu
  obtain ⟨b, _, rfl⟩ := List.mem_map.1 hu
  rfl
theorem info9 : (Try.prog.info? 9).map (fun i => (i.zero, i.size, i.bytes)) = some (some (.string ⟨#[]⟩), 1, 16) := by kernel_rfl
theorem own_empty9 {w : World} {base : Nat} (hb : base ≤ w.heap.size) : (w.alloc (.cells #[] 9)).ownsRow base 9 1 (.slice (some ⟨w.heap.size, 0, none⟩) 0 0) 0 [] :=
  ⟨by simp, Or.inr ⟨_, 0, #[], rfl, hb, blk_new rfl, Nat.le_refl _, by unfold maxLen; omega, by simp, by simp⟩⟩
def rcut (left : Int) (len : Nat) : Nat := if 0 ≤ left ∧ left ≤ len then left.toNat else len
def rgoes (left : Int) (len : Nat) : Bool := decide (0 ≤ left ∧ left ≤ len)
def rleft (left : Int) (len : Nat) : Int := if 0 < left then left - rcut left len else left
/-- What the document's Write gives. -/
def RWrote (w : World) (a b l : List UInt8) (left wr : Int) (ls : List (List UInt8)) (slot : Int) (e : Ending) (w' : World) : Prop := ∃ (p : Option Addr) (c : Nat),
  e = .returned (.tuple #[rv ⟨(if slot = 0 then over a l (rcut left l.length) else a).toArray⟩ ⟨(if slot = 0 then b else over b l (rcut left l.length)).toArray⟩ (rleft left l.length) (rgoes left l.length) (wr + rcut left l.length) p (ls.length + 1) c, .int .i64 (if rgoes left l.length then 26 else 0)]) ∧
  w'.ownsRow w.heap.size 9 1 (.slice p (ls.length + 1) c) (ls.length + 1) (strs (ls ++ [l])) ∧ Below w.heap.size w w'
attribute [local go_sem ↓] st_size
attribute [local go_sem] lookTo stepTo Maker.step
theorem wpList_app_all {w : World} {ops : Array Oper} {rest : List Oper} {o : Oper} {a : Act} {Q : Exit → Act → World → Prop} (hgd : o.guard = none) (s x : Operand)
    (ho : o.op = .call { callee := .builtin .append, args := #[s, x], argTypes := #[42, 42] }) (hot : o.type = 42) (base base2 g0 n c : Nat) (p : Option Addr) (xs : List Value) (hs : a.eval s = .slice (some ⟨g0, 0, none⟩) 0 0) (hx : a.eval x = .slice p n c)
    (hown : w.ownsRow base 9 1 (.slice (some ⟨g0, 0, none⟩) 0 0) 0 []) (hsrc : w.ownsRow base2 9 1 (.slice p n c) n xs) (h1 : ∀ u ∈ xs, u.oneCell' = true) (hn : n ≤ 1000) (hbase : base ≤ w.heap.size)
    (h : ∀ g cap w', w'.ownsRow base 9 1 (.slice (some ⟨g, 0, none⟩) n cap) n xs → w.grownBy w' (some g0) → wpList Try.prog ops Q rest (a.put o.dst (.slice (some ⟨g, 0, none⟩) n cap)) w') : wpList Try.prog ops Q (o :: rest) a w := by
  by_cases h0 : n = 0
  · subst h0
    obtain rfl : xs = [] := List.eq_nil_of_length_eq_zero (by simpa using hsrc.1)
    have hr : (Builtin.append_ #[42, 42] o.type #[.slice (some ⟨g0, 0, none⟩) 0 0, .slice p 0 c]).run Try.prog w = .ok (.slice (some ⟨g0, 0, none⟩) 0 0) w := by
      have := Try.underlying42
      obtain ⟨i, hi, hz⟩ := Option.map_eq_some_iff.1 info9
      rw [hot]
      obtain ⟨_, h2 | ⟨g, cap, cur, hv, _, hg, _⟩⟩ := hown
      · cases h2.1
      · cases p with
        | none => simp [Builtin.append_, run_underlying this, sizeOf, typeInfo, hi, Builtin.lenOf, Builtin.firstCells, storeCells, loadCells, loadCellsFrom]
        | some q => simp [Builtin.append_, run_underlying this, sizeOf, typeInfo, hi, Builtin.lenOf, Builtin.firstCells, storeCells, loadCells, loadCellsFrom]
    exact wpList_app0 hgd s x 42 ho _ _ hs hx hr (h g0 0 w hown (gb_refl _ _))
  · obtain ⟨e1, h2 | ⟨g, cap, cur, hv, h3⟩⟩ := id hsrc
    · omega
    · injection hv with hv hc hc2
      subst hv hc2
      refine wpList_app w hgd s x 42 ho base 9 (.string ⟨#[]⟩) 1 16 Try.underlying42 info9 rfl (by decide) (.slice (some ⟨g0, 0, none⟩) 0 0) 0 [] hs ⟨g, 0, none⟩ n c xs hx e1 h1 (by omega) (by unfold maxLen; omega) (by omega) hown (fun j u hj => hsrc.cells (g := g) rfl j u hj) hbase ?_
      intro g2 cap2 w' hA
      rw [Nat.zero_add] at hA ⊢
      refine h g2 cap2 w' ?_ hA.grow
      have := hA.own
      rw [Nat.zero_add, List.nil_append] at this
      exact this
theorem unwrap64 {x : Int} (h : -9223372036854775808 ≤ x ∧ x ≤ 9223372036854775807) : wrap64 x = x := by
  simp only [wrap64]
  omega
theorem take_st {l : List UInt8} (n : Nat) : (⟨l.toArray⟩ : ByteArray).extract 0 n = ⟨(l.take n).toArray⟩ := by
  ext1
  simp
theorem drop_st {l : List UInt8} (n : Nat) : (⟨l.toArray⟩ : ByteArray).extract n l.length = ⟨(l.drop n).toArray⟩ := by
  ext1
  simp
  exact List.take_of_length_le (by simp)
theorem app_st {x y : List UInt8} : ((⟨x.toArray⟩ : ByteArray) ++ ⟨y.toArray⟩) = ⟨(x ++ y).toArray⟩ := by
  ext1
  simp
theorem info44 : (Try.prog.info? 44).map (·.size) = some 6 := by kernel_rfl
theorem lp_a {left L : Int} {k k0 n : Nat} (hn : left < 0) (hv : k0 = n) (hL : L = if 0 < left then left - k else left) (hk : k < k0) : (k : Int) < n ∧ ¬ L = 0 ∧ ¬ 0 < L ∧ L = (if 0 < left then left - ((k + 1 : Nat) : Int) else left) := by
  subst hL hv
  rw [if_neg (by omega), if_neg (by omega)]
  omega
theorem lp_b {left L : Int} {k k0 n : Nat} (hr : left ≤ 9223372036854775807) (h0 : (k0 : Int) ≤ left) (hv : k0 ≤ n) (hL : L = if 0 < left then left - k else left) (hk : k < k0) : (k : Int) < n ∧ ¬ L = 0 ∧ 0 < L ∧ L - 1 = (if 0 < left then left - ((k + 1 : Nat) : Int) else left) ∧ wrap64 (L - 1) = L - 1 := by
  subst hL
  rw [if_pos (by omega), if_pos (by omega)]
  exact ⟨by omega, by omega, by omega, by omega, unwrap64 (by omega)⟩
theorem lp_m {k k0 : Nat} (h : k < k0) : k + 1 ≤ k0 ∧ k0 - ((k : Int) + 1).toNat < k0 - (k : Int).toNat := ⟨h, by omega⟩
theorem lp_w {k k0 n : Nat} (h : k < k0) (h2 : k0 ≤ n) (h3 : n ≤ 262144) : wrap64 ((k : Int) + 1) = (k : Int) + 1 := unwrap64 (by omega)
theorem strs_snoc (ls : List (List UInt8)) (l : List UInt8) : strs ls ++ [.string ⟨l.toArray⟩] = strs (ls ++ [l]) := by simp [strs]
set_option maxHeartbeats 4000000 in
set_option maxRecDepth 100000 in
theorem rwrite_0a (w : World) (base : Nat) (a b l : List UInt8) (left nw : Int) (p : Option Addr) (c : Nat) (ls : List (List UInt8)) (hl : l.length ≤ a.length) (hab : b.length = a.length) (hm : a.length ≤ 262144) (hle : -1 ≤ left ∧ left ≤ 9223372036854775807) (hwr : 0 ≤ nw ∧ nw < 4611686018427387904) (hls : ls.length ≤ 999) (ho : w.ownsRow base 9 1 (.slice p ls.length c) ls.length (strs ls)) (hn : left < 0) : Calls Try.prog 20 #[rv ⟨a.toArray⟩ ⟨b.toArray⟩ left false nw p ls.length c, .int .i64 0, .string ⟨l.toArray⟩] w (RWrote w a b l left nw ls 0) := by
  have HO := Lib.hid ho
  have HL := Lib.hid hl
  have HAB := Lib.hid hab
  have HM := Lib.hid hm
  have HLE := Lib.hid hle
  have HWR := Lib.hid hwr
  have HLS := Lib.hid hls
  have HN := Lib.hid hn
  have i1 : ¬ (a.length : Int) < (l.length : Int) := by omega
  have i2 : ¬ a.length < l.length := by omega
  obtain ⟨k0, hk0⟩ : ∃ k0, rcut left l.length = k0 := ⟨_, rfl⟩
  have HK0 := Lib.hid hk0
  have HKL : Hid (k0 ≤ l.length) := Lib.hid (by subst hk0; unfold rcut; split <;> omega)
  have HKV : Hid (k0 = l.length) := Lib.hid (by subst hk0; unfold rcut; split <;> omega)
  have HG0 : Hid (rgoes left l.length = false) := Lib.hid (by unfold rgoes; simp; omega)
  have HL0 : Hid (rleft left l.length = left) := Lib.hid (by unfold rleft; split <;> omega)
  clear hl hab hm hle hwr hls ho hn hk0
  obtain ⟨Q, hQ⟩ : ∃ Q, RWrote w a b l left nw ls 0 = Q := ⟨_, rfl⟩
  have HQ := Lib.hid hQ
  rw [hQ]
  clear hQ
  unfold rv rvc
  go_enter Try.func20, Try.ntmps20
  go_upto_region 5 with fail
  refine wp_region_lit ?_
  refine wpList_plain rfl (fun K hK => ?_)
  go_simp
  refine hK _ _ ?_
  clear hK K
  refine wpList_plain rfl (fun K hK => ?_)
  go_simp
  refine hK _ _ ?_
  clear hK K
  refine wpList_plain rfl (fun K hK => ?_)
  go_simp
  refine hK _ _ ?_
  clear hK K
  have hG1 : (((w.alloc (Obj.cells #[Value.string { data := a.toArray }, Value.string { data := b.toArray }, Value.int IntKind.i64 left, Value.bool false, Value.int IntKind.i64 nw, Value.slice p ls.length c] 44)).alloc (Obj.cells #[Value.string { data := #[] }, Value.string { data := #[] }, Value.int IntKind.i64 0, Value.bool false, Value.int IntKind.i64 0, Value.slice none 0 0] 44)).alloc (Obj.cells #[] 9)).heap[w.heap.size]? = some (Obj.cells #[Value.string { data := a.toArray }, Value.string { data := b.toArray }, Value.int IntKind.i64 left, Value.bool false, Value.int IntKind.i64 nw, Value.slice p ls.length c] 44 (0, 0)) := blk_alloc (blk_alloc (blk_new rfl) _) _
  have hR1 : (((w.alloc (Obj.cells #[Value.string { data := a.toArray }, Value.string { data := b.toArray }, Value.int IntKind.i64 left, Value.bool false, Value.int IntKind.i64 nw, Value.slice p ls.length c] 44)).alloc (Obj.cells #[Value.string { data := #[] }, Value.string { data := #[] }, Value.int IntKind.i64 0, Value.bool false, Value.int IntKind.i64 0, Value.slice none 0 0] 44)).alloc (Obj.cells #[] 9)).heap[w.heap.size + 1]? = some (Obj.cells #[Value.string { data := #[] }, Value.string { data := #[] }, Value.int IntKind.i64 0, Value.bool false, Value.int IntKind.i64 0, Value.slice none 0 0] 44 (0, 0)) := blk_alloc (blk_new (by simp)) _
  have hB1 : Below w.heap.size w (((w.alloc (Obj.cells #[Value.string { data := a.toArray }, Value.string { data := b.toArray }, Value.int IntKind.i64 left, Value.bool false, Value.int IntKind.i64 nw, Value.slice p ls.length c] 44)).alloc (Obj.cells #[Value.string { data := #[] }, Value.string { data := #[] }, Value.int IntKind.i64 0, Value.bool false, Value.int IntKind.i64 0, Value.slice none 0 0] 44)).alloc (Obj.cells #[] 9)) := b_alloc (b_alloc (b_alloc (Below.refl _ _) _) _) _
  have hE1 : (((w.alloc (Obj.cells #[Value.string { data := a.toArray }, Value.string { data := b.toArray }, Value.int IntKind.i64 left, Value.bool false, Value.int IntKind.i64 nw, Value.slice p ls.length c] 44)).alloc (Obj.cells #[Value.string { data := #[] }, Value.string { data := #[] }, Value.int IntKind.i64 0, Value.bool false, Value.int IntKind.i64 0, Value.slice none 0 0] 44)).alloc (Obj.cells #[] 9)).ownsRow w.heap.size 9 1 (.slice (some ⟨w.heap.size + 1 + 1, 0, none⟩) 0 0) 0 [] := by
    have h := own_empty9 (w := (w.alloc (Obj.cells #[Value.string { data := a.toArray }, Value.string { data := b.toArray }, Value.int IntKind.i64 left, Value.bool false, Value.int IntKind.i64 nw, Value.slice p ls.length c] 44)).alloc (Obj.cells #[Value.string { data := #[] }, Value.string { data := #[] }, Value.int IntKind.i64 0, Value.bool false, Value.int IntKind.i64 0, Value.slice none 0 0] 44)) (base := w.heap.size) (by simp; try omega)
    simpa using h
  obtain ⟨G, hGG⟩ : ∃ G, w.heap.size = G := ⟨_, rfl⟩
  have HGG := Lib.hid hGG
  simp only [hGG] at hG1 hR1 hE1 ⊢
  clear hGG
  refine wpList_app_all rfl _ _ rfl rfl G base (G + 1 + 1) ls.length c p (strs ls) rfl rfl hE1 (own_below HO.out hB1) strs_one (by have := HLS.out; omega) (by have := hB1.size; have := HGG.out; omega) ?_
  intro g1 c1 w2 ho2 hg2
  have hG2 := blk_grown hG1 hg2 (by intro e; injection e; omega)
  have hR2 := blk_grown hR1 hg2 (by intro e; injection e; omega)
  have hB2 := b_row hB1 hg2 (by have := HGG.out; omega)
  have HG2 := Lib.hid hG2
  have HR2 := Lib.hid hR2
  have HB2 := Lib.hid hB2
  have HO2 := Lib.hid ho2
  clear hG1 hR1 hB1 hE1 ho2 hg2 hG2 hR2 hB2
  refine wpList_plain rfl (fun K hK => ?_)
  go_simp
  refine hK _ _ ?_
  clear hK K
  refine wpList_plain rfl (fun K hK => ?_)
  go_simp
  refine hK _ _ ?_
  clear hK K
  refine wpList_app _ rfl _ _ _ rfl G 9 (.string ⟨#[]⟩) 1 16 Try.underlying42 info9 rfl (by decide) (.slice (some ⟨g1, 0, none⟩) ls.length c1) ls.length (strs ls) rfl ⟨w2.heap.size, 0, none⟩ 1 1 [.string ⟨l.toArray⟩] rfl rfl (by intro u hu; rw [List.mem_singleton.1 hu]; rfl) (by decide) (by have := HLS.out; unfold maxLen; omega) (by have := HLS.out; omega) (own_below HO2.out (b_alloc (Below.refl _ _) _)) (news_one (blk_new rfl)) (by have := HB2.out.size; have := HGG.out; simp; omega) ?_
  intro g2 c2 w3 hA
  have HA : Hid (w3.ownsRow G 9 1 (.slice (some ⟨g2, 0, none⟩) (ls.length + 1) c2) (ls.length + 1) (strs (ls ++ [l]))) := Lib.hid (by have h := hA.own; rw [strs_snoc] at h; exact h)
  have hg1 : G ≠ g1 ∧ G + 1 ≠ g1 := by
    obtain ⟨_, h1, _⟩ := own_block HO2.out rfl
    exact ⟨blk_ne HG2.out h1 (by decide), blk_ne HR2.out h1 (by decide)⟩
  have HG3 := Lib.hid (blk_grown (blk_alloc HG2.out _) hA.grow (fun e => hg1.1 (Option.some.inj e)))
  have HR3 := Lib.hid (blk_grown (blk_alloc HR2.out _) hA.grow (fun e => hg1.2 (Option.some.inj e)))
  have HB3 : Hid (Below w.heap.size w w3) := Lib.hid (hA.below (b_alloc HB2.out _) (by have := HGG.out; omega))
  have hg2 : G ≠ g2 ∧ G + 1 ≠ g2 := by
    obtain ⟨_, h1, _⟩ := own_block HA.out rfl
    exact ⟨blk_ne HG3.out h1 (by decide), blk_ne HR3.out h1 (by decide)⟩
  have hg5 : w3.cell? ⟨G, 5, none⟩ = some (.slice p ls.length c) := (cell_of_row _ _ _ _ _ _ HG3.out).trans rfl
  have hf5 : w3.frozen? ⟨G, 5, none⟩ = false := frozen_of_row _ _ _ _ _ HG3.out
  clear hA HG2 HR2 HB2 HO2 hg1
  go_wp2_with fail
  have hrow4 := heap_setCell_same w3 G 5 _ _ (.slice (some ⟨g2, 0, none⟩) (ls.length + 1) c2) HG3.out
  have hgr4 : w3.grownBy (w3.setCell ⟨G, 5, none⟩ (.slice (some ⟨g2, 0, none⟩) (ls.length + 1) c2)) (some G) := gb_set (gb_refl _ _) _ _
  generalize hw4 : w3.setCell ⟨G, 5, none⟩ (.slice (some ⟨g2, 0, none⟩) (ls.length + 1) c2) = w4 at *
  have HB4 : Hid (Below w.heap.size w w4) := Lib.hid (b_row HB3.out hgr4 (by have := HGG.out; omega))
  have HA4 : Hid (w4.ownsRow G 9 1 (.slice (some ⟨g2, 0, none⟩) (ls.length + 1) c2) (ls.length + 1) (strs (ls ++ [l]))) := Lib.hid (own_fr (Fr.of_grown (S := fun q => q = G) hgr4 rfl) HA.out (fun q hq => by cases hq; exact fun e => hg2.1 e.symm))
  have HR4 := Lib.hid (blk_grown HR3.out hgr4 (by intro e; injection e; omega))
  have HG4 := Lib.hid hrow4
  clear hw4 hrow4 hgr4 HB3 HA HR3 HG3 hg5 hf5
  go_loopw [8] (fun i wx => ∃ (k : Nat) (L : Int), k ≤ k0 ∧ i = .int .i64 (k : Int) ∧ Hid (L = if 0 < left then left - k else left) ∧ Hid (wx.heap[G]? = some (.cells #[.string ⟨a.toArray⟩, .string ⟨b.toArray⟩, .int .i64 L, .bool false, .int .i64 nw, .slice (some ⟨g2, 0, none⟩) (ls.length + 1) c2] 44 (0, 0))) ∧ Hid (wx.heap[G + 1]? = some (.cells #[.string ⟨#[]⟩, .string ⟨#[]⟩, .int .i64 0, .bool false, .int .i64 0, .slice none 0 0] 44 (0, 0))) ∧ Hid (wx.ownsRow G 9 1 (.slice (some ⟨g2, 0, none⟩) (ls.length + 1) c2) (ls.length + 1) (strs (ls ++ [l]))) ∧ Hid (Below w.heap.size w wx)) (fun i _ => k0 - (intOf i).toNat)
  case atStart => exact ⟨0, left, Nat.zero_le _, rfl, Lib.hid (by split <;> omega), HG4, HR4, HA4, HB4⟩
  case round =>
    obtain ⟨k, L, hk, rfl, HLv, HGr, HRr, HOr, HBr⟩ := hrel
    have hc2 : wr.cell? ⟨G, 2, none⟩ = some (.int .i64 L) := (cell_of_row _ _ _ _ _ _ HGr.out).trans rfl
    have hf2 : wr.frozen? ⟨G, 2, none⟩ = false := frozen_of_row _ _ _ _ _ HGr.out
    clear HG4 HR4 HA4 HB4
    by_cases hlt : k < k0
    · obtain ⟨hki, hl0, hlp, hln⟩ := lp_a HN.out HKV.out HLv.out hlt
      have HLN := Lib.hid hln
      have HWK := Lib.hid (lp_w hlt HKL.out (by have := HL.out; have := HM.out; omega))
      have HMS := Lib.hid (lp_m hlt)
      clear hlt hk hln
      go_wp2_with fail
      rw [HWK.out]
      go_roundw
      case rel => exact ⟨k + 1, L, HMS.out.1, rfl, HLN, HGr, HRr, HOr, HBr⟩
      case measure => exact HMS.out.2
    · obtain rfl : k = k0 := Nat.le_antisymm hk (Nat.le_of_not_lt hlt)
      obtain rfl : L = rleft left l.length := by rw [HLv.out]; unfold rleft; rw [HK0.out]
      have hka : (k : Int) ≤ (a.length : Int) ∧ k ≤ a.length := by have := HKL.out; have := HL.out; have := HAB.out; omega
      have hkl : (k : Int) ≤ (l.length : Int) ∧ k ≤ l.length := by have := HKL.out; omega
      have hki : ¬ (k : Int) < (l.length : Int) := by have := HKV.out; omega
      obtain ⟨e1, e2 | ⟨gg, cap, cur, hv, hbg, hgg, h6⟩⟩ := id HOr.out
      · cases e2.1
      simp only [Value.slice.injEq, Option.some.injEq, Addr.mk.injEq] at hv
      obtain ⟨⟨hgx, _⟩, _, hcx⟩ := hv
      subst hgx hcx
      clear e1
      rw [HL0.out] at HGr hc2
      clear HLv hlt hk
      clear hc2 hf2
      have hc2 : wr.cell? ⟨G, 2, none⟩ = some (.int .i64 left) := (cell_of_row _ _ _ _ _ _ HGr.out).trans rfl
      go_upto_region 11 with fail
      refine reg (Stays [(G + 1, .cells #[.string ⟨#[]⟩, .string ⟨#[]⟩, .int .i64 0, .bool false, .int .i64 0, .slice none 0 0] 44 (0, 0)), (g2, .cells cur 9 (0, 0))] w) (Turns [(G + 1, .cells #[.string ⟨#[]⟩, .string ⟨#[]⟩, .int .i64 0, .bool false, .int .i64 0, .slice none 0 0] 44 (0, 0)), (g2, .cells cur 9 (0, 0))] w) (kdOf [(7, .touch), (13, .touch)]) (none0.has G (.cells #[.string ⟨a.toArray⟩, .string ⟨b.toArray⟩, .int .i64 left, .bool false, .int .i64 nw, .slice (some ⟨g2, 0, none⟩) (ls.length + 1) c2] 44 (0, 0))) (stays_good _ _) (by kernel_rfl) (by kernel_rfl) (stays_drew (stays_cons HRr.out (stays_cons hgg (stays_nil HBr.out)))) (holds_has (holds0 _) HGr.out (turns_cons (by omega) (turns_cons hg2.1.symm (turns_nil (by have := HGG.out; omega))))) ?_
      refine g_look rfl rfl ?_ (fun w' hC => ?_) ?_
      rotate_left
      · go_simp
        first | done | rfl
      simp only [Act.put, List.setIfInBounds_toArray, List.set_cons_zero, List.set_cons_succ]
      refine g_look rfl rfl ?_ (fun w' hC => ?_) ?_
      rotate_left
      · go_simp
        first | done | rfl
      simp only [Act.put, List.setIfInBounds_toArray, List.set_cons_zero, List.set_cons_succ]
      refine g_look rfl rfl ?_ (fun w' hC => ?_) ?_
      rotate_left
      · go_simp
        first | done | rfl
      simp only [Act.put, List.setIfInBounds_toArray, List.set_cons_zero, List.set_cons_succ]
      refine g_look rfl rfl (.string ⟨(l.take k).toArray⟩) (fun w' hC => ?_) ?_
      · go_simp
        first | done | exact ⟨congrArg Value.string (take_st k), rfl⟩ | exact take_st k
      simp only [Act.put, List.setIfInBounds_toArray, List.set_cons_zero, List.set_cons_succ]
      refine g_look rfl rfl ?_ (fun w' hC => ?_) ?_
      rotate_left
      · go_simp
        first | done | rfl
      simp only [Act.put, List.setIfInBounds_toArray, List.set_cons_zero, List.set_cons_succ]
      refine g_look rfl rfl ?_ (fun w' hC => ?_) ?_
      rotate_left
      · go_simp
        first | done | rfl
      simp only [Act.put, List.setIfInBounds_toArray, List.set_cons_zero, List.set_cons_succ]
      refine g_look rfl rfl ?_ (fun w' hC => ?_) ?_
      rotate_left
      · go_simp
        first | done | rfl
      simp only [Act.put, List.setIfInBounds_toArray, List.set_cons_zero, List.set_cons_succ]
      refine g_touch G none _ (.cells #[.string ⟨a.toArray⟩, .string ⟨b.toArray⟩, .int .i64 left, .bool false, .int .i64 nw, .slice (some ⟨g2, 0, none⟩) (ls.length + 1) c2] 44 (0, 0)) (.string ⟨a.toArray⟩) (.tmp 60) rfl rfl rfl rfl (has_same _ _ _) rfl (fun w' hC hT hb => ?_) ?_
      · have c0 : w'.cell? ⟨G, 0, none⟩ = some (.string ⟨a.toArray⟩) := (cell_of_row _ _ _ _ _ _ hb).trans rfl
        refine ⟨.value (.string ⟨a.toArray⟩), w', ?_, Or.inl ⟨_, rfl⟩, rfl, hb, gb_refl _ _⟩
        clear hb hC
        go_simp
        first | done | rfl
      simp only [Act.put, List.setIfInBounds_toArray, List.set_cons_zero, List.set_cons_succ]
      refine g_look rfl rfl ?_ (fun w' hC => ?_) ?_
      rotate_left
      · go_simp
        first | done | rfl
      simp only [Act.put, List.setIfInBounds_toArray, List.set_cons_zero, List.set_cons_succ]
      refine g_look rfl rfl (.string ⟨(a.drop k).toArray⟩) (fun w' hC => ?_) ?_
      · go_simp
        first | done | exact ⟨congrArg Value.string (drop_st k), rfl⟩ | exact drop_st k
      simp only [Act.put, List.setIfInBounds_toArray, List.set_cons_zero, List.set_cons_succ]
      refine g_look rfl rfl (.string ⟨(over a l k).toArray⟩) (fun w' hC => ?_) ?_
      · have hbig : ¬ 9223372036854775807 < a.length := by have := HM.out; have := HAB.out; omega
        go_simp
        first | done | exact ⟨rfl, congrArg Value.string app_st⟩ | exact ⟨congrArg Value.string app_st, rfl⟩ | exact app_st
      simp only [Act.put, List.setIfInBounds_toArray, List.set_cons_zero, List.set_cons_succ]
      refine g_look rfl rfl ?_ (fun w' hC => ?_) ?_
      rotate_left
      · go_simp
        first | done | rfl
      simp only [Act.put, List.setIfInBounds_toArray, List.set_cons_zero, List.set_cons_succ]
      refine g_look rfl rfl ?_ (fun w' hC => ?_) ?_
      rotate_left
      · go_simp
        first | done | rfl
      simp only [Act.put, List.setIfInBounds_toArray, List.set_cons_zero, List.set_cons_succ]
      refine g_touch G (some 7) _ (.cells #[.string ⟨(over a l k).toArray⟩, .string ⟨b.toArray⟩, .int .i64 left, .bool false, .int .i64 nw, .slice (some ⟨g2, 0, none⟩) (ls.length + 1) c2] 44 (0, 0)) undef (.tmp 66) rfl rfl rfl rfl (own_new _ _ _ _) (by kernel_rfl) (fun w' hC hT hb => ?_) ?_
      · have c0 : w'.cell? ⟨G, 0, none⟩ = some (.string ⟨a.toArray⟩) := (cell_of_row _ _ _ _ _ _ hb).trans rfl
        have f0 : w'.frozen? ⟨G, 0, none⟩ = false := frozen_of_row _ _ _ _ _ hb
        refine ⟨.skip, w'.setCell ⟨G, 0, none⟩ (.string ⟨(over a l k).toArray⟩), ?_, Or.inr rfl, rfl, heap_setCell_same w' G 0 _ _ _ hb, gb_set (gb_refl _ _) _ _⟩
        clear hb hC
        go_simp
        first | done | rfl
      simp only [Act.put]
      refine g_end ?_
      intro w5 hC5 hh5
      have HG5 := Lib.hid ((hh5 _ _ _ (own_new _ _ _ _)).1)
      have HR5 := Lib.hid (stays_row hC5 (List.mem_cons_self ..))
      have HO5 : Hid (w5.ownsRow G 9 1 (.slice (some ⟨g2, 0, none⟩) (ls.length + 1) c2) (ls.length + 1) (strs (ls ++ [l]))) := Lib.hid ⟨by simp [strs], Or.inr ⟨g2, c2, cur, rfl, hbg, stays_row hC5 (List.mem_cons_of_mem _ (List.mem_cons_self ..)), h6⟩⟩
      have HB5 := Lib.hid (stays_below hC5)
      clear hC5 hh5 hgg h6 hbg HGr HRr HOr HBr hc2
      have hc4 : w5.cell? ⟨G, 4, none⟩ = some (.int .i64 nw) := (cell_of_row _ _ _ _ _ _ HG5.out).trans rfl
      have hf4 : w5.frozen? ⟨G, 4, none⟩ = false := frozen_of_row _ _ _ _ _ HG5.out
      have HWN : Hid (wrap64 (nw + (k : Int)) = nw + (k : Int)) := Lib.hid (unwrap64 (by have := HWR.out; have := HKL.out; have := HL.out; have := HM.out; omega))
      go_upto_region 13 with fail
      rw [HWN.out]
      have hrow6 := heap_setCell_same w5 G 4 _ _ (.int .i64 (nw + (k : Int))) HG5.out
      have hgr6 : w5.grownBy (w5.setCell ⟨G, 4, none⟩ (.int .i64 (nw + (k : Int)))) (some G) := gb_set (gb_refl _ _) _ _
      generalize hw6 : w5.setCell ⟨G, 4, none⟩ (.int .i64 (nw + (k : Int))) = w6 at *
      have HB6 : Hid (Below w.heap.size w w6) := Lib.hid (b_row HB5.out hgr6 (by have := HGG.out; omega))
      have HO6 : Hid (w6.ownsRow G 9 1 (.slice (some ⟨g2, 0, none⟩) (ls.length + 1) c2) (ls.length + 1) (strs (ls ++ [l]))) := Lib.hid (own_fr (Fr.of_grown (S := fun q => q = G) hgr6 rfl) HO5.out (fun q hq => by cases hq; exact fun e => hg2.1 e.symm))
      have HR6 := Lib.hid (blk_grown HR5.out hgr6 (by intro e; injection e; omega))
      have HG6 : Hid (w6.heap[G]? = some (.cells #[.string ⟨(over a l k).toArray⟩, .string ⟨b.toArray⟩, .int .i64 left, .bool false, .int .i64 (nw + (k : Int)), .slice (some ⟨g2, 0, none⟩) (ls.length + 1) c2] 44 (0, 0))) := Lib.hid hrow6
      clear hw6 hrow6 hgr6 HB5 HO5 HR5 HG5 hc4 hf4
      have hc2 : w6.cell? ⟨G, 2, none⟩ = some (.int .i64 left) := (cell_of_row _ _ _ _ _ _ HG6.out).trans rfl
      have hz : ¬ left = 0 := by have := HN.out; omega
      go_upto_region 16 with fail
      clear hc2
      refine wp_region_lit ?_
      refine wpList_load_row rfl 44 _ rfl G rfl 44 _ (0, 0) _ HG6.out Try.underlying44 rfl info44 ?_
      refine wpList_store_blk rfl 44 _ _ rfl (G + 1) 44 _ _ rfl rfl HR6.out rfl info44 (by simp [Value.oneCell']) ?_
      intro w8 h8 g8
      have HW8 := Lib.hid h8
      have HB8 : Hid (Below w.heap.size w w8) := Lib.hid (b_row HB6.out g8 (by have := HGG.out; omega))
      have HO8 : Hid (w8.ownsRow G 9 1 (.slice (some ⟨g2, 0, none⟩) (ls.length + 1) c2) (ls.length + 1) (strs (ls ++ [l]))) := Lib.hid (own_fr (Fr.of_grown (S := fun q => q = G + 1) g8 rfl) HO6.out (fun q hq => by cases hq; exact fun e => hg2.2 e.symm))
      clear h8 g8
      go_wp2_with fail
      refine bodyPost_ret (results_w20 (g := G + 1) (s0 := ⟨(over a l k).toArray⟩) (s1 := ⟨b.toArray⟩) (l := left) (o := false) (n := nw + (k : Int)) (p := some ⟨g2, 0, none⟩) (k := ls.length + 1) (c := c2) HW8.out) rfl ?_
      rw [← HQ.out]
      refine ⟨some ⟨g2, 0, none⟩, c2, ?_, by rw [HGG.out]; exact HO8.out, HB8.out⟩
      rw [HL0.out, HG0.out, HK0.out]
      rfl
set_option maxHeartbeats 4000000 in
set_option maxRecDepth 100000 in
theorem rwrite_0b (w : World) (base : Nat) (a b l : List UInt8) (left nw : Int) (p : Option Addr) (c : Nat) (ls : List (List UInt8)) (hl : l.length ≤ a.length) (hab : b.length = a.length) (hm : a.length ≤ 262144) (hle : -1 ≤ left ∧ left ≤ 9223372036854775807) (hwr : 0 ≤ nw ∧ nw < 4611686018427387904) (hls : ls.length ≤ 999) (ho : w.ownsRow base 9 1 (.slice p ls.length c) ls.length (strs ls)) (hn : 0 ≤ left ∧ left < l.length) : Calls Try.prog 20 #[rv ⟨a.toArray⟩ ⟨b.toArray⟩ left false nw p ls.length c, .int .i64 0, .string ⟨l.toArray⟩] w (RWrote w a b l left nw ls 0) := by
  have HO := Lib.hid ho
  have HL := Lib.hid hl
  have HAB := Lib.hid hab
  have HM := Lib.hid hm
  have HLE := Lib.hid hle
  have HWR := Lib.hid hwr
  have HLS := Lib.hid hls
  have HN := Lib.hid hn
  have i1 : ¬ (a.length : Int) < (l.length : Int) := by omega
  have i2 : ¬ a.length < l.length := by omega
  obtain ⟨k0, hk0⟩ : ∃ k0, rcut left l.length = k0 := ⟨_, rfl⟩
  have HK0 := Lib.hid hk0
  have HKL : Hid (k0 ≤ l.length) := Lib.hid (by subst hk0; unfold rcut; split <;> omega)
  have HKB : Hid ((k0 : Int) ≤ left) := Lib.hid (by subst hk0; unfold rcut; split <;> omega)
  have HKV : Hid ((k0 : Int) = left ∧ k0 < l.length) := Lib.hid (by subst hk0; unfold rcut; split <;> omega)
  have HG0 : Hid (rgoes left l.length = true) := Lib.hid (by unfold rgoes; simp; omega)
  have HL0 : Hid (rleft left l.length = 0) := Lib.hid (by unfold rleft rcut; ((repeat (split <;> try omega)); try omega) <;> omega)
  clear hl hab hm hle hwr hls ho hn hk0
  obtain ⟨Q, hQ⟩ : ∃ Q, RWrote w a b l left nw ls 0 = Q := ⟨_, rfl⟩
  have HQ := Lib.hid hQ
  rw [hQ]
  clear hQ
  unfold rv rvc
  go_enter Try.func20, Try.ntmps20
  go_upto_region 5 with fail
  refine wp_region_lit ?_
  refine wpList_plain rfl (fun K hK => ?_)
  go_simp
  refine hK _ _ ?_
  clear hK K
  refine wpList_plain rfl (fun K hK => ?_)
  go_simp
  refine hK _ _ ?_
  clear hK K
  refine wpList_plain rfl (fun K hK => ?_)
  go_simp
  refine hK _ _ ?_
  clear hK K
  have hG1 : (((w.alloc (Obj.cells #[Value.string { data := a.toArray }, Value.string { data := b.toArray }, Value.int IntKind.i64 left, Value.bool false, Value.int IntKind.i64 nw, Value.slice p ls.length c] 44)).alloc (Obj.cells #[Value.string { data := #[] }, Value.string { data := #[] }, Value.int IntKind.i64 0, Value.bool false, Value.int IntKind.i64 0, Value.slice none 0 0] 44)).alloc (Obj.cells #[] 9)).heap[w.heap.size]? = some (Obj.cells #[Value.string { data := a.toArray }, Value.string { data := b.toArray }, Value.int IntKind.i64 left, Value.bool false, Value.int IntKind.i64 nw, Value.slice p ls.length c] 44 (0, 0)) := blk_alloc (blk_alloc (blk_new rfl) _) _
  have hR1 : (((w.alloc (Obj.cells #[Value.string { data := a.toArray }, Value.string { data := b.toArray }, Value.int IntKind.i64 left, Value.bool false, Value.int IntKind.i64 nw, Value.slice p ls.length c] 44)).alloc (Obj.cells #[Value.string { data := #[] }, Value.string { data := #[] }, Value.int IntKind.i64 0, Value.bool false, Value.int IntKind.i64 0, Value.slice none 0 0] 44)).alloc (Obj.cells #[] 9)).heap[w.heap.size + 1]? = some (Obj.cells #[Value.string { data := #[] }, Value.string { data := #[] }, Value.int IntKind.i64 0, Value.bool false, Value.int IntKind.i64 0, Value.slice none 0 0] 44 (0, 0)) := blk_alloc (blk_new (by simp)) _
  have hB1 : Below w.heap.size w (((w.alloc (Obj.cells #[Value.string { data := a.toArray }, Value.string { data := b.toArray }, Value.int IntKind.i64 left, Value.bool false, Value.int IntKind.i64 nw, Value.slice p ls.length c] 44)).alloc (Obj.cells #[Value.string { data := #[] }, Value.string { data := #[] }, Value.int IntKind.i64 0, Value.bool false, Value.int IntKind.i64 0, Value.slice none 0 0] 44)).alloc (Obj.cells #[] 9)) := b_alloc (b_alloc (b_alloc (Below.refl _ _) _) _) _
  have hE1 : (((w.alloc (Obj.cells #[Value.string { data := a.toArray }, Value.string { data := b.toArray }, Value.int IntKind.i64 left, Value.bool false, Value.int IntKind.i64 nw, Value.slice p ls.length c] 44)).alloc (Obj.cells #[Value.string { data := #[] }, Value.string { data := #[] }, Value.int IntKind.i64 0, Value.bool false, Value.int IntKind.i64 0, Value.slice none 0 0] 44)).alloc (Obj.cells #[] 9)).ownsRow w.heap.size 9 1 (.slice (some ⟨w.heap.size + 1 + 1, 0, none⟩) 0 0) 0 [] := by
    have h := own_empty9 (w := (w.alloc (Obj.cells #[Value.string { data := a.toArray }, Value.string { data := b.toArray }, Value.int IntKind.i64 left, Value.bool false, Value.int IntKind.i64 nw, Value.slice p ls.length c] 44)).alloc (Obj.cells #[Value.string { data := #[] }, Value.string { data := #[] }, Value.int IntKind.i64 0, Value.bool false, Value.int IntKind.i64 0, Value.slice none 0 0] 44)) (base := w.heap.size) (by simp; try omega)
    simpa using h
  obtain ⟨G, hGG⟩ : ∃ G, w.heap.size = G := ⟨_, rfl⟩
  have HGG := Lib.hid hGG
  simp only [hGG] at hG1 hR1 hE1 ⊢
  clear hGG
  refine wpList_app_all rfl _ _ rfl rfl G base (G + 1 + 1) ls.length c p (strs ls) rfl rfl hE1 (own_below HO.out hB1) strs_one (by have := HLS.out; omega) (by have := hB1.size; have := HGG.out; omega) ?_
  intro g1 c1 w2 ho2 hg2
  have hG2 := blk_grown hG1 hg2 (by intro e; injection e; omega)
  have hR2 := blk_grown hR1 hg2 (by intro e; injection e; omega)
  have hB2 := b_row hB1 hg2 (by have := HGG.out; omega)
  have HG2 := Lib.hid hG2
  have HR2 := Lib.hid hR2
  have HB2 := Lib.hid hB2
  have HO2 := Lib.hid ho2
  clear hG1 hR1 hB1 hE1 ho2 hg2 hG2 hR2 hB2
  refine wpList_plain rfl (fun K hK => ?_)
  go_simp
  refine hK _ _ ?_
  clear hK K
  refine wpList_plain rfl (fun K hK => ?_)
  go_simp
  refine hK _ _ ?_
  clear hK K
  refine wpList_app _ rfl _ _ _ rfl G 9 (.string ⟨#[]⟩) 1 16 Try.underlying42 info9 rfl (by decide) (.slice (some ⟨g1, 0, none⟩) ls.length c1) ls.length (strs ls) rfl ⟨w2.heap.size, 0, none⟩ 1 1 [.string ⟨l.toArray⟩] rfl rfl (by intro u hu; rw [List.mem_singleton.1 hu]; rfl) (by decide) (by have := HLS.out; unfold maxLen; omega) (by have := HLS.out; omega) (own_below HO2.out (b_alloc (Below.refl _ _) _)) (news_one (blk_new rfl)) (by have := HB2.out.size; have := HGG.out; simp; omega) ?_
  intro g2 c2 w3 hA
  have HA : Hid (w3.ownsRow G 9 1 (.slice (some ⟨g2, 0, none⟩) (ls.length + 1) c2) (ls.length + 1) (strs (ls ++ [l]))) := Lib.hid (by have h := hA.own; rw [strs_snoc] at h; exact h)
  have hg1 : G ≠ g1 ∧ G + 1 ≠ g1 := by
    obtain ⟨_, h1, _⟩ := own_block HO2.out rfl
    exact ⟨blk_ne HG2.out h1 (by decide), blk_ne HR2.out h1 (by decide)⟩
  have HG3 := Lib.hid (blk_grown (blk_alloc HG2.out _) hA.grow (fun e => hg1.1 (Option.some.inj e)))
  have HR3 := Lib.hid (blk_grown (blk_alloc HR2.out _) hA.grow (fun e => hg1.2 (Option.some.inj e)))
  have HB3 : Hid (Below w.heap.size w w3) := Lib.hid (hA.below (b_alloc HB2.out _) (by have := HGG.out; omega))
  have hg2 : G ≠ g2 ∧ G + 1 ≠ g2 := by
    obtain ⟨_, h1, _⟩ := own_block HA.out rfl
    exact ⟨blk_ne HG3.out h1 (by decide), blk_ne HR3.out h1 (by decide)⟩
  have hg5 : w3.cell? ⟨G, 5, none⟩ = some (.slice p ls.length c) := (cell_of_row _ _ _ _ _ _ HG3.out).trans rfl
  have hf5 : w3.frozen? ⟨G, 5, none⟩ = false := frozen_of_row _ _ _ _ _ HG3.out
  clear hA HG2 HR2 HB2 HO2 hg1
  go_wp2_with fail
  have hrow4 := heap_setCell_same w3 G 5 _ _ (.slice (some ⟨g2, 0, none⟩) (ls.length + 1) c2) HG3.out
  have hgr4 : w3.grownBy (w3.setCell ⟨G, 5, none⟩ (.slice (some ⟨g2, 0, none⟩) (ls.length + 1) c2)) (some G) := gb_set (gb_refl _ _) _ _
  generalize hw4 : w3.setCell ⟨G, 5, none⟩ (.slice (some ⟨g2, 0, none⟩) (ls.length + 1) c2) = w4 at *
  have HB4 : Hid (Below w.heap.size w w4) := Lib.hid (b_row HB3.out hgr4 (by have := HGG.out; omega))
  have HA4 : Hid (w4.ownsRow G 9 1 (.slice (some ⟨g2, 0, none⟩) (ls.length + 1) c2) (ls.length + 1) (strs (ls ++ [l]))) := Lib.hid (own_fr (Fr.of_grown (S := fun q => q = G) hgr4 rfl) HA.out (fun q hq => by cases hq; exact fun e => hg2.1 e.symm))
  have HR4 := Lib.hid (blk_grown HR3.out hgr4 (by intro e; injection e; omega))
  have HG4 := Lib.hid hrow4
  clear hw4 hrow4 hgr4 HB3 HA HR3 HG3 hg5 hf5
  go_loopw [8] (fun i wx => ∃ (k : Nat) (L : Int), k ≤ k0 ∧ i = .int .i64 (k : Int) ∧ Hid (L = if 0 < left then left - k else left) ∧ Hid (wx.heap[G]? = some (.cells #[.string ⟨a.toArray⟩, .string ⟨b.toArray⟩, .int .i64 L, .bool false, .int .i64 nw, .slice (some ⟨g2, 0, none⟩) (ls.length + 1) c2] 44 (0, 0))) ∧ Hid (wx.heap[G + 1]? = some (.cells #[.string ⟨#[]⟩, .string ⟨#[]⟩, .int .i64 0, .bool false, .int .i64 0, .slice none 0 0] 44 (0, 0))) ∧ Hid (wx.ownsRow G 9 1 (.slice (some ⟨g2, 0, none⟩) (ls.length + 1) c2) (ls.length + 1) (strs (ls ++ [l]))) ∧ Hid (Below w.heap.size w wx)) (fun i _ => k0 - (intOf i).toNat)
  case atStart => exact ⟨0, left, Nat.zero_le _, rfl, Lib.hid (by split <;> omega), HG4, HR4, HA4, HB4⟩
  case round =>
    obtain ⟨k, L, hk, rfl, HLv, HGr, HRr, HOr, HBr⟩ := hrel
    have hc2 : wr.cell? ⟨G, 2, none⟩ = some (.int .i64 L) := (cell_of_row _ _ _ _ _ _ HGr.out).trans rfl
    have hf2 : wr.frozen? ⟨G, 2, none⟩ = false := frozen_of_row _ _ _ _ _ HGr.out
    clear HG4 HR4 HA4 HB4
    by_cases hlt : k < k0
    · obtain ⟨hki, hl0, hlp, hln, hlw⟩ := lp_b HLE.out.2 HKB.out HKL.out HLv.out hlt
      have HLN := Lib.hid hln
      have HLW := Lib.hid hlw
      have HWK := Lib.hid (lp_w hlt HKL.out (by have := HL.out; have := HM.out; omega))
      have HMS := Lib.hid (lp_m hlt)
      clear hlt hk hln hlw
      go_wp2_with fail
      rw [HWK.out, HLW.out]
      go_roundw
      case rel => exact ⟨k + 1, L - 1, HMS.out.1, rfl, HLN, Lib.hid (heap_setCell_same wr G 2 _ _ (.int .i64 (L - 1)) HGr.out), Lib.hid (blk_grown HRr.out (gb_set (gb_refl _ _) _ _) (by intro e; injection e; omega)), Lib.hid (own_fr (Fr.of_grown (S := fun q => q = G) (gb_set (gb_refl _ _) _ _) rfl) HOr.out (fun q hq => by cases hq; exact fun e => hg2.1 e.symm)), Lib.hid (b_row HBr.out (gb_set (gb_refl _ _) _ _) (by have := HGG.out; omega))⟩
      case measure => exact HMS.out.2
    · obtain rfl : k = k0 := Nat.le_antisymm hk (Nat.le_of_not_lt hlt)
      obtain rfl : L = rleft left l.length := by rw [HLv.out]; unfold rleft; rw [HK0.out]
      have hka : (k : Int) ≤ (a.length : Int) ∧ k ≤ a.length := by have := HKL.out; have := HL.out; have := HAB.out; omega
      have hkl : (k : Int) ≤ (l.length : Int) ∧ k ≤ l.length := by have := HKL.out; omega
      have hki : (k : Int) < (l.length : Int) := by have := HKV.out; omega
      obtain ⟨e1, e2 | ⟨gg, cap, cur, hv, hbg, hgg, h6⟩⟩ := id HOr.out
      · cases e2.1
      simp only [Value.slice.injEq, Option.some.injEq, Addr.mk.injEq] at hv
      obtain ⟨⟨hgx, _⟩, _, hcx⟩ := hv
      subst hgx hcx
      clear e1
      rw [HL0.out] at HGr hc2
      clear HLv hlt hk
      clear hc2 hf2
      have hc2 : wr.cell? ⟨G, 2, none⟩ = some (.int .i64 0) := (cell_of_row _ _ _ _ _ _ HGr.out).trans rfl
      go_upto_region 11 with fail
      refine reg (Stays [(G + 1, .cells #[.string ⟨#[]⟩, .string ⟨#[]⟩, .int .i64 0, .bool false, .int .i64 0, .slice none 0 0] 44 (0, 0)), (g2, .cells cur 9 (0, 0))] w) (Turns [(G + 1, .cells #[.string ⟨#[]⟩, .string ⟨#[]⟩, .int .i64 0, .bool false, .int .i64 0, .slice none 0 0] 44 (0, 0)), (g2, .cells cur 9 (0, 0))] w) (kdOf [(7, .touch), (13, .touch)]) (none0.has G (.cells #[.string ⟨a.toArray⟩, .string ⟨b.toArray⟩, .int .i64 0, .bool false, .int .i64 nw, .slice (some ⟨g2, 0, none⟩) (ls.length + 1) c2] 44 (0, 0))) (stays_good _ _) (by kernel_rfl) (by kernel_rfl) (stays_drew (stays_cons HRr.out (stays_cons hgg (stays_nil HBr.out)))) (holds_has (holds0 _) HGr.out (turns_cons (by omega) (turns_cons hg2.1.symm (turns_nil (by have := HGG.out; omega))))) ?_
      refine g_look rfl rfl ?_ (fun w' hC => ?_) ?_
      rotate_left
      · go_simp
        first | done | rfl
      simp only [Act.put, List.setIfInBounds_toArray, List.set_cons_zero, List.set_cons_succ]
      refine g_look rfl rfl ?_ (fun w' hC => ?_) ?_
      rotate_left
      · go_simp
        first | done | rfl
      simp only [Act.put, List.setIfInBounds_toArray, List.set_cons_zero, List.set_cons_succ]
      refine g_look rfl rfl ?_ (fun w' hC => ?_) ?_
      rotate_left
      · go_simp
        first | done | rfl
      simp only [Act.put, List.setIfInBounds_toArray, List.set_cons_zero, List.set_cons_succ]
      refine g_look rfl rfl (.string ⟨(l.take k).toArray⟩) (fun w' hC => ?_) ?_
      · go_simp
        first | done | exact ⟨congrArg Value.string (take_st k), rfl⟩ | exact take_st k
      simp only [Act.put, List.setIfInBounds_toArray, List.set_cons_zero, List.set_cons_succ]
      refine g_look rfl rfl ?_ (fun w' hC => ?_) ?_
      rotate_left
      · go_simp
        first | done | rfl
      simp only [Act.put, List.setIfInBounds_toArray, List.set_cons_zero, List.set_cons_succ]
      refine g_look rfl rfl ?_ (fun w' hC => ?_) ?_
      rotate_left
      · go_simp
        first | done | rfl
      simp only [Act.put, List.setIfInBounds_toArray, List.set_cons_zero, List.set_cons_succ]
      refine g_look rfl rfl ?_ (fun w' hC => ?_) ?_
      rotate_left
      · go_simp
        first | done | rfl
      simp only [Act.put, List.setIfInBounds_toArray, List.set_cons_zero, List.set_cons_succ]
      refine g_touch G none _ (.cells #[.string ⟨a.toArray⟩, .string ⟨b.toArray⟩, .int .i64 0, .bool false, .int .i64 nw, .slice (some ⟨g2, 0, none⟩) (ls.length + 1) c2] 44 (0, 0)) (.string ⟨a.toArray⟩) (.tmp 60) rfl rfl rfl rfl (has_same _ _ _) rfl (fun w' hC hT hb => ?_) ?_
      · have c0 : w'.cell? ⟨G, 0, none⟩ = some (.string ⟨a.toArray⟩) := (cell_of_row _ _ _ _ _ _ hb).trans rfl
        refine ⟨.value (.string ⟨a.toArray⟩), w', ?_, Or.inl ⟨_, rfl⟩, rfl, hb, gb_refl _ _⟩
        clear hb hC
        go_simp
        first | done | rfl
      simp only [Act.put, List.setIfInBounds_toArray, List.set_cons_zero, List.set_cons_succ]
      refine g_look rfl rfl ?_ (fun w' hC => ?_) ?_
      rotate_left
      · go_simp
        first | done | rfl
      simp only [Act.put, List.setIfInBounds_toArray, List.set_cons_zero, List.set_cons_succ]
      refine g_look rfl rfl (.string ⟨(a.drop k).toArray⟩) (fun w' hC => ?_) ?_
      · go_simp
        first | done | exact ⟨congrArg Value.string (drop_st k), rfl⟩ | exact drop_st k
      simp only [Act.put, List.setIfInBounds_toArray, List.set_cons_zero, List.set_cons_succ]
      refine g_look rfl rfl (.string ⟨(over a l k).toArray⟩) (fun w' hC => ?_) ?_
      · have hbig : ¬ 9223372036854775807 < a.length := by have := HM.out; have := HAB.out; omega
        go_simp
        first | done | exact ⟨rfl, congrArg Value.string app_st⟩ | exact ⟨congrArg Value.string app_st, rfl⟩ | exact app_st
      simp only [Act.put, List.setIfInBounds_toArray, List.set_cons_zero, List.set_cons_succ]
      refine g_look rfl rfl ?_ (fun w' hC => ?_) ?_
      rotate_left
      · go_simp
        first | done | rfl
      simp only [Act.put, List.setIfInBounds_toArray, List.set_cons_zero, List.set_cons_succ]
      refine g_look rfl rfl ?_ (fun w' hC => ?_) ?_
      rotate_left
      · go_simp
        first | done | rfl
      simp only [Act.put, List.setIfInBounds_toArray, List.set_cons_zero, List.set_cons_succ]
      refine g_touch G (some 7) _ (.cells #[.string ⟨(over a l k).toArray⟩, .string ⟨b.toArray⟩, .int .i64 0, .bool false, .int .i64 nw, .slice (some ⟨g2, 0, none⟩) (ls.length + 1) c2] 44 (0, 0)) undef (.tmp 66) rfl rfl rfl rfl (own_new _ _ _ _) (by kernel_rfl) (fun w' hC hT hb => ?_) ?_
      · have c0 : w'.cell? ⟨G, 0, none⟩ = some (.string ⟨a.toArray⟩) := (cell_of_row _ _ _ _ _ _ hb).trans rfl
        have f0 : w'.frozen? ⟨G, 0, none⟩ = false := frozen_of_row _ _ _ _ _ hb
        refine ⟨.skip, w'.setCell ⟨G, 0, none⟩ (.string ⟨(over a l k).toArray⟩), ?_, Or.inr rfl, rfl, heap_setCell_same w' G 0 _ _ _ hb, gb_set (gb_refl _ _) _ _⟩
        clear hb hC
        go_simp
        first | done | rfl
      simp only [Act.put]
      refine g_end ?_
      intro w5 hC5 hh5
      have HG5 := Lib.hid ((hh5 _ _ _ (own_new _ _ _ _)).1)
      have HR5 := Lib.hid (stays_row hC5 (List.mem_cons_self ..))
      have HO5 : Hid (w5.ownsRow G 9 1 (.slice (some ⟨g2, 0, none⟩) (ls.length + 1) c2) (ls.length + 1) (strs (ls ++ [l]))) := Lib.hid ⟨by simp [strs], Or.inr ⟨g2, c2, cur, rfl, hbg, stays_row hC5 (List.mem_cons_of_mem _ (List.mem_cons_self ..)), h6⟩⟩
      have HB5 := Lib.hid (stays_below hC5)
      clear hC5 hh5 hgg h6 hbg HGr HRr HOr HBr hc2
      have hc4 : w5.cell? ⟨G, 4, none⟩ = some (.int .i64 nw) := (cell_of_row _ _ _ _ _ _ HG5.out).trans rfl
      have hf4 : w5.frozen? ⟨G, 4, none⟩ = false := frozen_of_row _ _ _ _ _ HG5.out
      have HWN : Hid (wrap64 (nw + (k : Int)) = nw + (k : Int)) := Lib.hid (unwrap64 (by have := HWR.out; have := HKL.out; have := HL.out; have := HM.out; omega))
      go_upto_region 13 with fail
      rw [HWN.out]
      have hrow6 := heap_setCell_same w5 G 4 _ _ (.int .i64 (nw + (k : Int))) HG5.out
      have hgr6 : w5.grownBy (w5.setCell ⟨G, 4, none⟩ (.int .i64 (nw + (k : Int)))) (some G) := gb_set (gb_refl _ _) _ _
      generalize hw6 : w5.setCell ⟨G, 4, none⟩ (.int .i64 (nw + (k : Int))) = w6 at *
      have HB6 : Hid (Below w.heap.size w w6) := Lib.hid (b_row HB5.out hgr6 (by have := HGG.out; omega))
      have HO6 : Hid (w6.ownsRow G 9 1 (.slice (some ⟨g2, 0, none⟩) (ls.length + 1) c2) (ls.length + 1) (strs (ls ++ [l]))) := Lib.hid (own_fr (Fr.of_grown (S := fun q => q = G) hgr6 rfl) HO5.out (fun q hq => by cases hq; exact fun e => hg2.1 e.symm))
      have HR6 := Lib.hid (blk_grown HR5.out hgr6 (by intro e; injection e; omega))
      have HG6 : Hid (w6.heap[G]? = some (.cells #[.string ⟨(over a l k).toArray⟩, .string ⟨b.toArray⟩, .int .i64 0, .bool false, .int .i64 (nw + (k : Int)), .slice (some ⟨g2, 0, none⟩) (ls.length + 1) c2] 44 (0, 0))) := Lib.hid hrow6
      clear hw6 hrow6 hgr6 HB5 HO5 HR5 HG5 hc4 hf4
      have hc2 : w6.cell? ⟨G, 2, none⟩ = some (.int .i64 0) := (cell_of_row _ _ _ _ _ _ HG6.out).trans rfl
      have hc3 : w6.cell? ⟨G, 3, none⟩ = some (.bool false) := (cell_of_row _ _ _ _ _ _ HG6.out).trans rfl
      have hf3 : w6.frozen? ⟨G, 3, none⟩ = false := frozen_of_row _ _ _ _ _ HG6.out
      go_upto_region 15 with fail
      have hrow7 := heap_setCell_same w6 G 3 _ _ (.bool true) HG6.out
      have hgr7 : w6.grownBy (w6.setCell ⟨G, 3, none⟩ (.bool true)) (some G) := gb_set (gb_refl _ _) _ _
      generalize hw7 : w6.setCell ⟨G, 3, none⟩ (.bool true) = w7 at *
      have HB7 : Hid (Below w.heap.size w w7) := Lib.hid (b_row HB6.out hgr7 (by have := HGG.out; omega))
      have HO7 : Hid (w7.ownsRow G 9 1 (.slice (some ⟨g2, 0, none⟩) (ls.length + 1) c2) (ls.length + 1) (strs (ls ++ [l]))) := Lib.hid (own_fr (Fr.of_grown (S := fun q => q = G) hgr7 rfl) HO6.out (fun q hq => by cases hq; exact fun e => hg2.1 e.symm))
      have HR7 := Lib.hid (blk_grown HR6.out hgr7 (by intro e; injection e; omega))
      have HG7 : Hid (w7.heap[G]? = some (.cells #[.string ⟨(over a l k).toArray⟩, .string ⟨b.toArray⟩, .int .i64 0, .bool true, .int .i64 (nw + (k : Int)), .slice (some ⟨g2, 0, none⟩) (ls.length + 1) c2] 44 (0, 0))) := Lib.hid hrow7
      clear hw7 hrow7 hgr7 HB6 HO6 HR6 HG6 hc3 hf3
      clear hc2
      refine wp_region_lit ?_
      refine wpList_load_row rfl 44 _ rfl G rfl 44 _ (0, 0) _ HG7.out Try.underlying44 rfl info44 ?_
      refine wpList_store_blk rfl 44 _ _ rfl (G + 1) 44 _ _ rfl rfl HR7.out rfl info44 (by simp [Value.oneCell']) ?_
      intro w8 h8 g8
      have HW8 := Lib.hid h8
      have HB8 : Hid (Below w.heap.size w w8) := Lib.hid (b_row HB7.out g8 (by have := HGG.out; omega))
      have HO8 : Hid (w8.ownsRow G 9 1 (.slice (some ⟨g2, 0, none⟩) (ls.length + 1) c2) (ls.length + 1) (strs (ls ++ [l]))) := Lib.hid (own_fr (Fr.of_grown (S := fun q => q = G + 1) g8 rfl) HO7.out (fun q hq => by cases hq; exact fun e => hg2.2 e.symm))
      clear h8 g8
      go_wp2_with fail
      refine bodyPost_ret (results_w20 (g := G + 1) (s0 := ⟨(over a l k).toArray⟩) (s1 := ⟨b.toArray⟩) (l := 0) (o := true) (n := nw + (k : Int)) (p := some ⟨g2, 0, none⟩) (k := ls.length + 1) (c := c2) HW8.out) rfl ?_
      rw [← HQ.out]
      refine ⟨some ⟨g2, 0, none⟩, c2, ?_, by rw [HGG.out]; exact HO8.out, HB8.out⟩
      rw [HL0.out, HG0.out, HK0.out]
      rfl
set_option maxHeartbeats 4000000 in
set_option maxRecDepth 100000 in
theorem rwrite_0c (w : World) (base : Nat) (a b l : List UInt8) (left nw : Int) (p : Option Addr) (c : Nat) (ls : List (List UInt8)) (hl : l.length ≤ a.length) (hab : b.length = a.length) (hm : a.length ≤ 262144) (hle : -1 ≤ left ∧ left ≤ 9223372036854775807) (hwr : 0 ≤ nw ∧ nw < 4611686018427387904) (hls : ls.length ≤ 999) (ho : w.ownsRow base 9 1 (.slice p ls.length c) ls.length (strs ls)) (hn : left = l.length) : Calls Try.prog 20 #[rv ⟨a.toArray⟩ ⟨b.toArray⟩ left false nw p ls.length c, .int .i64 0, .string ⟨l.toArray⟩] w (RWrote w a b l left nw ls 0) := by
  have HO := Lib.hid ho
  have HL := Lib.hid hl
  have HAB := Lib.hid hab
  have HM := Lib.hid hm
  have HLE := Lib.hid hle
  have HWR := Lib.hid hwr
  have HLS := Lib.hid hls
  have HN := Lib.hid hn
  have i1 : ¬ (a.length : Int) < (l.length : Int) := by omega
  have i2 : ¬ a.length < l.length := by omega
  obtain ⟨k0, hk0⟩ : ∃ k0, rcut left l.length = k0 := ⟨_, rfl⟩
  have HK0 := Lib.hid hk0
  have HKL : Hid (k0 ≤ l.length) := Lib.hid (by subst hk0; unfold rcut; split <;> omega)
  have HKB : Hid ((k0 : Int) ≤ left) := Lib.hid (by subst hk0; unfold rcut; split <;> omega)
  have HKV : Hid (k0 = l.length) := Lib.hid (by subst hk0; unfold rcut; split <;> omega)
  have HG0 : Hid (rgoes left l.length = true) := Lib.hid (by unfold rgoes; simp; omega)
  have HL0 : Hid (rleft left l.length = 0) := Lib.hid (by unfold rleft rcut; ((repeat (split <;> try omega)); try omega) <;> omega)
  clear hl hab hm hle hwr hls ho hn hk0
  obtain ⟨Q, hQ⟩ : ∃ Q, RWrote w a b l left nw ls 0 = Q := ⟨_, rfl⟩
  have HQ := Lib.hid hQ
  rw [hQ]
  clear hQ
  unfold rv rvc
  go_enter Try.func20, Try.ntmps20
  go_upto_region 5 with fail
  refine wp_region_lit ?_
  refine wpList_plain rfl (fun K hK => ?_)
  go_simp
  refine hK _ _ ?_
  clear hK K
  refine wpList_plain rfl (fun K hK => ?_)
  go_simp
  refine hK _ _ ?_
  clear hK K
  refine wpList_plain rfl (fun K hK => ?_)
  go_simp
  refine hK _ _ ?_
  clear hK K
  have hG1 : (((w.alloc (Obj.cells #[Value.string { data := a.toArray }, Value.string { data := b.toArray }, Value.int IntKind.i64 left, Value.bool false, Value.int IntKind.i64 nw, Value.slice p ls.length c] 44)).alloc (Obj.cells #[Value.string { data := #[] }, Value.string { data := #[] }, Value.int IntKind.i64 0, Value.bool false, Value.int IntKind.i64 0, Value.slice none 0 0] 44)).alloc (Obj.cells #[] 9)).heap[w.heap.size]? = some (Obj.cells #[Value.string { data := a.toArray }, Value.string { data := b.toArray }, Value.int IntKind.i64 left, Value.bool false, Value.int IntKind.i64 nw, Value.slice p ls.length c] 44 (0, 0)) := blk_alloc (blk_alloc (blk_new rfl) _) _
  have hR1 : (((w.alloc (Obj.cells #[Value.string { data := a.toArray }, Value.string { data := b.toArray }, Value.int IntKind.i64 left, Value.bool false, Value.int IntKind.i64 nw, Value.slice p ls.length c] 44)).alloc (Obj.cells #[Value.string { data := #[] }, Value.string { data := #[] }, Value.int IntKind.i64 0, Value.bool false, Value.int IntKind.i64 0, Value.slice none 0 0] 44)).alloc (Obj.cells #[] 9)).heap[w.heap.size + 1]? = some (Obj.cells #[Value.string { data := #[] }, Value.string { data := #[] }, Value.int IntKind.i64 0, Value.bool false, Value.int IntKind.i64 0, Value.slice none 0 0] 44 (0, 0)) := blk_alloc (blk_new (by simp)) _
  have hB1 : Below w.heap.size w (((w.alloc (Obj.cells #[Value.string { data := a.toArray }, Value.string { data := b.toArray }, Value.int IntKind.i64 left, Value.bool false, Value.int IntKind.i64 nw, Value.slice p ls.length c] 44)).alloc (Obj.cells #[Value.string { data := #[] }, Value.string { data := #[] }, Value.int IntKind.i64 0, Value.bool false, Value.int IntKind.i64 0, Value.slice none 0 0] 44)).alloc (Obj.cells #[] 9)) := b_alloc (b_alloc (b_alloc (Below.refl _ _) _) _) _
  have hE1 : (((w.alloc (Obj.cells #[Value.string { data := a.toArray }, Value.string { data := b.toArray }, Value.int IntKind.i64 left, Value.bool false, Value.int IntKind.i64 nw, Value.slice p ls.length c] 44)).alloc (Obj.cells #[Value.string { data := #[] }, Value.string { data := #[] }, Value.int IntKind.i64 0, Value.bool false, Value.int IntKind.i64 0, Value.slice none 0 0] 44)).alloc (Obj.cells #[] 9)).ownsRow w.heap.size 9 1 (.slice (some ⟨w.heap.size + 1 + 1, 0, none⟩) 0 0) 0 [] := by
    have h := own_empty9 (w := (w.alloc (Obj.cells #[Value.string { data := a.toArray }, Value.string { data := b.toArray }, Value.int IntKind.i64 left, Value.bool false, Value.int IntKind.i64 nw, Value.slice p ls.length c] 44)).alloc (Obj.cells #[Value.string { data := #[] }, Value.string { data := #[] }, Value.int IntKind.i64 0, Value.bool false, Value.int IntKind.i64 0, Value.slice none 0 0] 44)) (base := w.heap.size) (by simp; try omega)
    simpa using h
  obtain ⟨G, hGG⟩ : ∃ G, w.heap.size = G := ⟨_, rfl⟩
  have HGG := Lib.hid hGG
  simp only [hGG] at hG1 hR1 hE1 ⊢
  clear hGG
  refine wpList_app_all rfl _ _ rfl rfl G base (G + 1 + 1) ls.length c p (strs ls) rfl rfl hE1 (own_below HO.out hB1) strs_one (by have := HLS.out; omega) (by have := hB1.size; have := HGG.out; omega) ?_
  intro g1 c1 w2 ho2 hg2
  have hG2 := blk_grown hG1 hg2 (by intro e; injection e; omega)
  have hR2 := blk_grown hR1 hg2 (by intro e; injection e; omega)
  have hB2 := b_row hB1 hg2 (by have := HGG.out; omega)
  have HG2 := Lib.hid hG2
  have HR2 := Lib.hid hR2
  have HB2 := Lib.hid hB2
  have HO2 := Lib.hid ho2
  clear hG1 hR1 hB1 hE1 ho2 hg2 hG2 hR2 hB2
  refine wpList_plain rfl (fun K hK => ?_)
  go_simp
  refine hK _ _ ?_
  clear hK K
  refine wpList_plain rfl (fun K hK => ?_)
  go_simp
  refine hK _ _ ?_
  clear hK K
  refine wpList_app _ rfl _ _ _ rfl G 9 (.string ⟨#[]⟩) 1 16 Try.underlying42 info9 rfl (by decide) (.slice (some ⟨g1, 0, none⟩) ls.length c1) ls.length (strs ls) rfl ⟨w2.heap.size, 0, none⟩ 1 1 [.string ⟨l.toArray⟩] rfl rfl (by intro u hu; rw [List.mem_singleton.1 hu]; rfl) (by decide) (by have := HLS.out; unfold maxLen; omega) (by have := HLS.out; omega) (own_below HO2.out (b_alloc (Below.refl _ _) _)) (news_one (blk_new rfl)) (by have := HB2.out.size; have := HGG.out; simp; omega) ?_
  intro g2 c2 w3 hA
  have HA : Hid (w3.ownsRow G 9 1 (.slice (some ⟨g2, 0, none⟩) (ls.length + 1) c2) (ls.length + 1) (strs (ls ++ [l]))) := Lib.hid (by have h := hA.own; rw [strs_snoc] at h; exact h)
  have hg1 : G ≠ g1 ∧ G + 1 ≠ g1 := by
    obtain ⟨_, h1, _⟩ := own_block HO2.out rfl
    exact ⟨blk_ne HG2.out h1 (by decide), blk_ne HR2.out h1 (by decide)⟩
  have HG3 := Lib.hid (blk_grown (blk_alloc HG2.out _) hA.grow (fun e => hg1.1 (Option.some.inj e)))
  have HR3 := Lib.hid (blk_grown (blk_alloc HR2.out _) hA.grow (fun e => hg1.2 (Option.some.inj e)))
  have HB3 : Hid (Below w.heap.size w w3) := Lib.hid (hA.below (b_alloc HB2.out _) (by have := HGG.out; omega))
  have hg2 : G ≠ g2 ∧ G + 1 ≠ g2 := by
    obtain ⟨_, h1, _⟩ := own_block HA.out rfl
    exact ⟨blk_ne HG3.out h1 (by decide), blk_ne HR3.out h1 (by decide)⟩
  have hg5 : w3.cell? ⟨G, 5, none⟩ = some (.slice p ls.length c) := (cell_of_row _ _ _ _ _ _ HG3.out).trans rfl
  have hf5 : w3.frozen? ⟨G, 5, none⟩ = false := frozen_of_row _ _ _ _ _ HG3.out
  clear hA HG2 HR2 HB2 HO2 hg1
  go_wp2_with fail
  have hrow4 := heap_setCell_same w3 G 5 _ _ (.slice (some ⟨g2, 0, none⟩) (ls.length + 1) c2) HG3.out
  have hgr4 : w3.grownBy (w3.setCell ⟨G, 5, none⟩ (.slice (some ⟨g2, 0, none⟩) (ls.length + 1) c2)) (some G) := gb_set (gb_refl _ _) _ _
  generalize hw4 : w3.setCell ⟨G, 5, none⟩ (.slice (some ⟨g2, 0, none⟩) (ls.length + 1) c2) = w4 at *
  have HB4 : Hid (Below w.heap.size w w4) := Lib.hid (b_row HB3.out hgr4 (by have := HGG.out; omega))
  have HA4 : Hid (w4.ownsRow G 9 1 (.slice (some ⟨g2, 0, none⟩) (ls.length + 1) c2) (ls.length + 1) (strs (ls ++ [l]))) := Lib.hid (own_fr (Fr.of_grown (S := fun q => q = G) hgr4 rfl) HA.out (fun q hq => by cases hq; exact fun e => hg2.1 e.symm))
  have HR4 := Lib.hid (blk_grown HR3.out hgr4 (by intro e; injection e; omega))
  have HG4 := Lib.hid hrow4
  clear hw4 hrow4 hgr4 HB3 HA HR3 HG3 hg5 hf5
  go_loopw [8] (fun i wx => ∃ (k : Nat) (L : Int), k ≤ k0 ∧ i = .int .i64 (k : Int) ∧ Hid (L = if 0 < left then left - k else left) ∧ Hid (wx.heap[G]? = some (.cells #[.string ⟨a.toArray⟩, .string ⟨b.toArray⟩, .int .i64 L, .bool false, .int .i64 nw, .slice (some ⟨g2, 0, none⟩) (ls.length + 1) c2] 44 (0, 0))) ∧ Hid (wx.heap[G + 1]? = some (.cells #[.string ⟨#[]⟩, .string ⟨#[]⟩, .int .i64 0, .bool false, .int .i64 0, .slice none 0 0] 44 (0, 0))) ∧ Hid (wx.ownsRow G 9 1 (.slice (some ⟨g2, 0, none⟩) (ls.length + 1) c2) (ls.length + 1) (strs (ls ++ [l]))) ∧ Hid (Below w.heap.size w wx)) (fun i _ => k0 - (intOf i).toNat)
  case atStart => exact ⟨0, left, Nat.zero_le _, rfl, Lib.hid (by split <;> omega), HG4, HR4, HA4, HB4⟩
  case round =>
    obtain ⟨k, L, hk, rfl, HLv, HGr, HRr, HOr, HBr⟩ := hrel
    have hc2 : wr.cell? ⟨G, 2, none⟩ = some (.int .i64 L) := (cell_of_row _ _ _ _ _ _ HGr.out).trans rfl
    have hf2 : wr.frozen? ⟨G, 2, none⟩ = false := frozen_of_row _ _ _ _ _ HGr.out
    clear HG4 HR4 HA4 HB4
    by_cases hlt : k < k0
    · obtain ⟨hki, hl0, hlp, hln, hlw⟩ := lp_b HLE.out.2 HKB.out HKL.out HLv.out hlt
      have HLN := Lib.hid hln
      have HLW := Lib.hid hlw
      have HWK := Lib.hid (lp_w hlt HKL.out (by have := HL.out; have := HM.out; omega))
      have HMS := Lib.hid (lp_m hlt)
      clear hlt hk hln hlw
      go_wp2_with fail
      rw [HWK.out, HLW.out]
      go_roundw
      case rel => exact ⟨k + 1, L - 1, HMS.out.1, rfl, HLN, Lib.hid (heap_setCell_same wr G 2 _ _ (.int .i64 (L - 1)) HGr.out), Lib.hid (blk_grown HRr.out (gb_set (gb_refl _ _) _ _) (by intro e; injection e; omega)), Lib.hid (own_fr (Fr.of_grown (S := fun q => q = G) (gb_set (gb_refl _ _) _ _) rfl) HOr.out (fun q hq => by cases hq; exact fun e => hg2.1 e.symm)), Lib.hid (b_row HBr.out (gb_set (gb_refl _ _) _ _) (by have := HGG.out; omega))⟩
      case measure => exact HMS.out.2
    · obtain rfl : k = k0 := Nat.le_antisymm hk (Nat.le_of_not_lt hlt)
      obtain rfl : L = rleft left l.length := by rw [HLv.out]; unfold rleft; rw [HK0.out]
      have hka : (k : Int) ≤ (a.length : Int) ∧ k ≤ a.length := by have := HKL.out; have := HL.out; have := HAB.out; omega
      have hkl : (k : Int) ≤ (l.length : Int) ∧ k ≤ l.length := by have := HKL.out; omega
      have hki : ¬ (k : Int) < (l.length : Int) := by have := HKV.out; omega
      obtain ⟨e1, e2 | ⟨gg, cap, cur, hv, hbg, hgg, h6⟩⟩ := id HOr.out
      · cases e2.1
      simp only [Value.slice.injEq, Option.some.injEq, Addr.mk.injEq] at hv
      obtain ⟨⟨hgx, _⟩, _, hcx⟩ := hv
      subst hgx hcx
      clear e1
      rw [HL0.out] at HGr hc2
      clear HLv hlt hk
      clear hc2 hf2
      have hc2 : wr.cell? ⟨G, 2, none⟩ = some (.int .i64 0) := (cell_of_row _ _ _ _ _ _ HGr.out).trans rfl
      go_upto_region 11 with fail
      refine reg (Stays [(G + 1, .cells #[.string ⟨#[]⟩, .string ⟨#[]⟩, .int .i64 0, .bool false, .int .i64 0, .slice none 0 0] 44 (0, 0)), (g2, .cells cur 9 (0, 0))] w) (Turns [(G + 1, .cells #[.string ⟨#[]⟩, .string ⟨#[]⟩, .int .i64 0, .bool false, .int .i64 0, .slice none 0 0] 44 (0, 0)), (g2, .cells cur 9 (0, 0))] w) (kdOf [(7, .touch), (13, .touch)]) (none0.has G (.cells #[.string ⟨a.toArray⟩, .string ⟨b.toArray⟩, .int .i64 0, .bool false, .int .i64 nw, .slice (some ⟨g2, 0, none⟩) (ls.length + 1) c2] 44 (0, 0))) (stays_good _ _) (by kernel_rfl) (by kernel_rfl) (stays_drew (stays_cons HRr.out (stays_cons hgg (stays_nil HBr.out)))) (holds_has (holds0 _) HGr.out (turns_cons (by omega) (turns_cons hg2.1.symm (turns_nil (by have := HGG.out; omega))))) ?_
      refine g_look rfl rfl ?_ (fun w' hC => ?_) ?_
      rotate_left
      · go_simp
        first | done | rfl
      simp only [Act.put, List.setIfInBounds_toArray, List.set_cons_zero, List.set_cons_succ]
      refine g_look rfl rfl ?_ (fun w' hC => ?_) ?_
      rotate_left
      · go_simp
        first | done | rfl
      simp only [Act.put, List.setIfInBounds_toArray, List.set_cons_zero, List.set_cons_succ]
      refine g_look rfl rfl ?_ (fun w' hC => ?_) ?_
      rotate_left
      · go_simp
        first | done | rfl
      simp only [Act.put, List.setIfInBounds_toArray, List.set_cons_zero, List.set_cons_succ]
      refine g_look rfl rfl (.string ⟨(l.take k).toArray⟩) (fun w' hC => ?_) ?_
      · go_simp
        first | done | exact ⟨congrArg Value.string (take_st k), rfl⟩ | exact take_st k
      simp only [Act.put, List.setIfInBounds_toArray, List.set_cons_zero, List.set_cons_succ]
      refine g_look rfl rfl ?_ (fun w' hC => ?_) ?_
      rotate_left
      · go_simp
        first | done | rfl
      simp only [Act.put, List.setIfInBounds_toArray, List.set_cons_zero, List.set_cons_succ]
      refine g_look rfl rfl ?_ (fun w' hC => ?_) ?_
      rotate_left
      · go_simp
        first | done | rfl
      simp only [Act.put, List.setIfInBounds_toArray, List.set_cons_zero, List.set_cons_succ]
      refine g_look rfl rfl ?_ (fun w' hC => ?_) ?_
      rotate_left
      · go_simp
        first | done | rfl
      simp only [Act.put, List.setIfInBounds_toArray, List.set_cons_zero, List.set_cons_succ]
      refine g_touch G none _ (.cells #[.string ⟨a.toArray⟩, .string ⟨b.toArray⟩, .int .i64 0, .bool false, .int .i64 nw, .slice (some ⟨g2, 0, none⟩) (ls.length + 1) c2] 44 (0, 0)) (.string ⟨a.toArray⟩) (.tmp 60) rfl rfl rfl rfl (has_same _ _ _) rfl (fun w' hC hT hb => ?_) ?_
      · have c0 : w'.cell? ⟨G, 0, none⟩ = some (.string ⟨a.toArray⟩) := (cell_of_row _ _ _ _ _ _ hb).trans rfl
        refine ⟨.value (.string ⟨a.toArray⟩), w', ?_, Or.inl ⟨_, rfl⟩, rfl, hb, gb_refl _ _⟩
        clear hb hC
        go_simp
        first | done | rfl
      simp only [Act.put, List.setIfInBounds_toArray, List.set_cons_zero, List.set_cons_succ]
      refine g_look rfl rfl ?_ (fun w' hC => ?_) ?_
      rotate_left
      · go_simp
        first | done | rfl
      simp only [Act.put, List.setIfInBounds_toArray, List.set_cons_zero, List.set_cons_succ]
      refine g_look rfl rfl (.string ⟨(a.drop k).toArray⟩) (fun w' hC => ?_) ?_
      · go_simp
        first | done | exact ⟨congrArg Value.string (drop_st k), rfl⟩ | exact drop_st k
      simp only [Act.put, List.setIfInBounds_toArray, List.set_cons_zero, List.set_cons_succ]
      refine g_look rfl rfl (.string ⟨(over a l k).toArray⟩) (fun w' hC => ?_) ?_
      · have hbig : ¬ 9223372036854775807 < a.length := by have := HM.out; have := HAB.out; omega
        go_simp
        first | done | exact ⟨rfl, congrArg Value.string app_st⟩ | exact ⟨congrArg Value.string app_st, rfl⟩ | exact app_st
      simp only [Act.put, List.setIfInBounds_toArray, List.set_cons_zero, List.set_cons_succ]
      refine g_look rfl rfl ?_ (fun w' hC => ?_) ?_
      rotate_left
      · go_simp
        first | done | rfl
      simp only [Act.put, List.setIfInBounds_toArray, List.set_cons_zero, List.set_cons_succ]
      refine g_look rfl rfl ?_ (fun w' hC => ?_) ?_
      rotate_left
      · go_simp
        first | done | rfl
      simp only [Act.put, List.setIfInBounds_toArray, List.set_cons_zero, List.set_cons_succ]
      refine g_touch G (some 7) _ (.cells #[.string ⟨(over a l k).toArray⟩, .string ⟨b.toArray⟩, .int .i64 0, .bool false, .int .i64 nw, .slice (some ⟨g2, 0, none⟩) (ls.length + 1) c2] 44 (0, 0)) undef (.tmp 66) rfl rfl rfl rfl (own_new _ _ _ _) (by kernel_rfl) (fun w' hC hT hb => ?_) ?_
      · have c0 : w'.cell? ⟨G, 0, none⟩ = some (.string ⟨a.toArray⟩) := (cell_of_row _ _ _ _ _ _ hb).trans rfl
        have f0 : w'.frozen? ⟨G, 0, none⟩ = false := frozen_of_row _ _ _ _ _ hb
        refine ⟨.skip, w'.setCell ⟨G, 0, none⟩ (.string ⟨(over a l k).toArray⟩), ?_, Or.inr rfl, rfl, heap_setCell_same w' G 0 _ _ _ hb, gb_set (gb_refl _ _) _ _⟩
        clear hb hC
        go_simp
        first | done | rfl
      simp only [Act.put]
      refine g_end ?_
      intro w5 hC5 hh5
      have HG5 := Lib.hid ((hh5 _ _ _ (own_new _ _ _ _)).1)
      have HR5 := Lib.hid (stays_row hC5 (List.mem_cons_self ..))
      have HO5 : Hid (w5.ownsRow G 9 1 (.slice (some ⟨g2, 0, none⟩) (ls.length + 1) c2) (ls.length + 1) (strs (ls ++ [l]))) := Lib.hid ⟨by simp [strs], Or.inr ⟨g2, c2, cur, rfl, hbg, stays_row hC5 (List.mem_cons_of_mem _ (List.mem_cons_self ..)), h6⟩⟩
      have HB5 := Lib.hid (stays_below hC5)
      clear hC5 hh5 hgg h6 hbg HGr HRr HOr HBr hc2
      have hc4 : w5.cell? ⟨G, 4, none⟩ = some (.int .i64 nw) := (cell_of_row _ _ _ _ _ _ HG5.out).trans rfl
      have hf4 : w5.frozen? ⟨G, 4, none⟩ = false := frozen_of_row _ _ _ _ _ HG5.out
      have HWN : Hid (wrap64 (nw + (k : Int)) = nw + (k : Int)) := Lib.hid (unwrap64 (by have := HWR.out; have := HKL.out; have := HL.out; have := HM.out; omega))
      go_upto_region 13 with fail
      rw [HWN.out]
      have hrow6 := heap_setCell_same w5 G 4 _ _ (.int .i64 (nw + (k : Int))) HG5.out
      have hgr6 : w5.grownBy (w5.setCell ⟨G, 4, none⟩ (.int .i64 (nw + (k : Int)))) (some G) := gb_set (gb_refl _ _) _ _
      generalize hw6 : w5.setCell ⟨G, 4, none⟩ (.int .i64 (nw + (k : Int))) = w6 at *
      have HB6 : Hid (Below w.heap.size w w6) := Lib.hid (b_row HB5.out hgr6 (by have := HGG.out; omega))
      have HO6 : Hid (w6.ownsRow G 9 1 (.slice (some ⟨g2, 0, none⟩) (ls.length + 1) c2) (ls.length + 1) (strs (ls ++ [l]))) := Lib.hid (own_fr (Fr.of_grown (S := fun q => q = G) hgr6 rfl) HO5.out (fun q hq => by cases hq; exact fun e => hg2.1 e.symm))
      have HR6 := Lib.hid (blk_grown HR5.out hgr6 (by intro e; injection e; omega))
      have HG6 : Hid (w6.heap[G]? = some (.cells #[.string ⟨(over a l k).toArray⟩, .string ⟨b.toArray⟩, .int .i64 0, .bool false, .int .i64 (nw + (k : Int)), .slice (some ⟨g2, 0, none⟩) (ls.length + 1) c2] 44 (0, 0))) := Lib.hid hrow6
      clear hw6 hrow6 hgr6 HB5 HO5 HR5 HG5 hc4 hf4
      have hc2 : w6.cell? ⟨G, 2, none⟩ = some (.int .i64 0) := (cell_of_row _ _ _ _ _ _ HG6.out).trans rfl
      have hc3 : w6.cell? ⟨G, 3, none⟩ = some (.bool false) := (cell_of_row _ _ _ _ _ _ HG6.out).trans rfl
      have hf3 : w6.frozen? ⟨G, 3, none⟩ = false := frozen_of_row _ _ _ _ _ HG6.out
      go_upto_region 15 with fail
      have hrow7 := heap_setCell_same w6 G 3 _ _ (.bool true) HG6.out
      have hgr7 : w6.grownBy (w6.setCell ⟨G, 3, none⟩ (.bool true)) (some G) := gb_set (gb_refl _ _) _ _
      generalize hw7 : w6.setCell ⟨G, 3, none⟩ (.bool true) = w7 at *
      have HB7 : Hid (Below w.heap.size w w7) := Lib.hid (b_row HB6.out hgr7 (by have := HGG.out; omega))
      have HO7 : Hid (w7.ownsRow G 9 1 (.slice (some ⟨g2, 0, none⟩) (ls.length + 1) c2) (ls.length + 1) (strs (ls ++ [l]))) := Lib.hid (own_fr (Fr.of_grown (S := fun q => q = G) hgr7 rfl) HO6.out (fun q hq => by cases hq; exact fun e => hg2.1 e.symm))
      have HR7 := Lib.hid (blk_grown HR6.out hgr7 (by intro e; injection e; omega))
      have HG7 : Hid (w7.heap[G]? = some (.cells #[.string ⟨(over a l k).toArray⟩, .string ⟨b.toArray⟩, .int .i64 0, .bool true, .int .i64 (nw + (k : Int)), .slice (some ⟨g2, 0, none⟩) (ls.length + 1) c2] 44 (0, 0))) := Lib.hid hrow7
      clear hw7 hrow7 hgr7 HB6 HO6 HR6 HG6 hc3 hf3
      clear hc2
      refine wp_region_lit ?_
      refine wpList_load_row rfl 44 _ rfl G rfl 44 _ (0, 0) _ HG7.out Try.underlying44 rfl info44 ?_
      refine wpList_store_blk rfl 44 _ _ rfl (G + 1) 44 _ _ rfl rfl HR7.out rfl info44 (by simp [Value.oneCell']) ?_
      intro w8 h8 g8
      have HW8 := Lib.hid h8
      have HB8 : Hid (Below w.heap.size w w8) := Lib.hid (b_row HB7.out g8 (by have := HGG.out; omega))
      have HO8 : Hid (w8.ownsRow G 9 1 (.slice (some ⟨g2, 0, none⟩) (ls.length + 1) c2) (ls.length + 1) (strs (ls ++ [l]))) := Lib.hid (own_fr (Fr.of_grown (S := fun q => q = G + 1) g8 rfl) HO7.out (fun q hq => by cases hq; exact fun e => hg2.2 e.symm))
      clear h8 g8
      go_wp2_with fail
      refine bodyPost_ret (results_w20 (g := G + 1) (s0 := ⟨(over a l k).toArray⟩) (s1 := ⟨b.toArray⟩) (l := 0) (o := true) (n := nw + (k : Int)) (p := some ⟨g2, 0, none⟩) (k := ls.length + 1) (c := c2) HW8.out) rfl ?_
      rw [← HQ.out]
      refine ⟨some ⟨g2, 0, none⟩, c2, ?_, by rw [HGG.out]; exact HO8.out, HB8.out⟩
      rw [HL0.out, HG0.out, HK0.out]
      rfl
set_option maxHeartbeats 4000000 in
set_option maxRecDepth 100000 in
theorem rwrite_0d (w : World) (base : Nat) (a b l : List UInt8) (left nw : Int) (p : Option Addr) (c : Nat) (ls : List (List UInt8)) (hl : l.length ≤ a.length) (hab : b.length = a.length) (hm : a.length ≤ 262144) (hle : -1 ≤ left ∧ left ≤ 9223372036854775807) (hwr : 0 ≤ nw ∧ nw < 4611686018427387904) (hls : ls.length ≤ 999) (ho : w.ownsRow base 9 1 (.slice p ls.length c) ls.length (strs ls)) (hn : (l.length : Int) < left) : Calls Try.prog 20 #[rv ⟨a.toArray⟩ ⟨b.toArray⟩ left false nw p ls.length c, .int .i64 0, .string ⟨l.toArray⟩] w (RWrote w a b l left nw ls 0) := by
  have HO := Lib.hid ho
  have HL := Lib.hid hl
  have HAB := Lib.hid hab
  have HM := Lib.hid hm
  have HLE := Lib.hid hle
  have HWR := Lib.hid hwr
  have HLS := Lib.hid hls
  have HN := Lib.hid hn
  have i1 : ¬ (a.length : Int) < (l.length : Int) := by omega
  have i2 : ¬ a.length < l.length := by omega
  obtain ⟨k0, hk0⟩ : ∃ k0, rcut left l.length = k0 := ⟨_, rfl⟩
  have HK0 := Lib.hid hk0
  have HKL : Hid (k0 ≤ l.length) := Lib.hid (by subst hk0; unfold rcut; split <;> omega)
  have HKB : Hid ((k0 : Int) ≤ left) := Lib.hid (by subst hk0; unfold rcut; split <;> omega)
  have HKV : Hid (k0 = l.length) := Lib.hid (by subst hk0; unfold rcut; split <;> omega)
  have HG0 : Hid (rgoes left l.length = false) := Lib.hid (by unfold rgoes; simp; omega)
  have HL0 : Hid (rleft left l.length = left - l.length) := Lib.hid (by unfold rleft rcut; ((repeat (split <;> try omega)); try omega) <;> omega)
  clear hl hab hm hle hwr hls ho hn hk0
  obtain ⟨Q, hQ⟩ : ∃ Q, RWrote w a b l left nw ls 0 = Q := ⟨_, rfl⟩
  have HQ := Lib.hid hQ
  rw [hQ]
  clear hQ
  unfold rv rvc
  go_enter Try.func20, Try.ntmps20
  go_upto_region 5 with fail
  refine wp_region_lit ?_
  refine wpList_plain rfl (fun K hK => ?_)
  go_simp
  refine hK _ _ ?_
  clear hK K
  refine wpList_plain rfl (fun K hK => ?_)
  go_simp
  refine hK _ _ ?_
  clear hK K
  refine wpList_plain rfl (fun K hK => ?_)
  go_simp
  refine hK _ _ ?_
  clear hK K
  have hG1 : (((w.alloc (Obj.cells #[Value.string { data := a.toArray }, Value.string { data := b.toArray }, Value.int IntKind.i64 left, Value.bool false, Value.int IntKind.i64 nw, Value.slice p ls.length c] 44)).alloc (Obj.cells #[Value.string { data := #[] }, Value.string { data := #[] }, Value.int IntKind.i64 0, Value.bool false, Value.int IntKind.i64 0, Value.slice none 0 0] 44)).alloc (Obj.cells #[] 9)).heap[w.heap.size]? = some (Obj.cells #[Value.string { data := a.toArray }, Value.string { data := b.toArray }, Value.int IntKind.i64 left, Value.bool false, Value.int IntKind.i64 nw, Value.slice p ls.length c] 44 (0, 0)) := blk_alloc (blk_alloc (blk_new rfl) _) _
  have hR1 : (((w.alloc (Obj.cells #[Value.string { data := a.toArray }, Value.string { data := b.toArray }, Value.int IntKind.i64 left, Value.bool false, Value.int IntKind.i64 nw, Value.slice p ls.length c] 44)).alloc (Obj.cells #[Value.string { data := #[] }, Value.string { data := #[] }, Value.int IntKind.i64 0, Value.bool false, Value.int IntKind.i64 0, Value.slice none 0 0] 44)).alloc (Obj.cells #[] 9)).heap[w.heap.size + 1]? = some (Obj.cells #[Value.string { data := #[] }, Value.string { data := #[] }, Value.int IntKind.i64 0, Value.bool false, Value.int IntKind.i64 0, Value.slice none 0 0] 44 (0, 0)) := blk_alloc (blk_new (by simp)) _
  have hB1 : Below w.heap.size w (((w.alloc (Obj.cells #[Value.string { data := a.toArray }, Value.string { data := b.toArray }, Value.int IntKind.i64 left, Value.bool false, Value.int IntKind.i64 nw, Value.slice p ls.length c] 44)).alloc (Obj.cells #[Value.string { data := #[] }, Value.string { data := #[] }, Value.int IntKind.i64 0, Value.bool false, Value.int IntKind.i64 0, Value.slice none 0 0] 44)).alloc (Obj.cells #[] 9)) := b_alloc (b_alloc (b_alloc (Below.refl _ _) _) _) _
  have hE1 : (((w.alloc (Obj.cells #[Value.string { data := a.toArray }, Value.string { data := b.toArray }, Value.int IntKind.i64 left, Value.bool false, Value.int IntKind.i64 nw, Value.slice p ls.length c] 44)).alloc (Obj.cells #[Value.string { data := #[] }, Value.string { data := #[] }, Value.int IntKind.i64 0, Value.bool false, Value.int IntKind.i64 0, Value.slice none 0 0] 44)).alloc (Obj.cells #[] 9)).ownsRow w.heap.size 9 1 (.slice (some ⟨w.heap.size + 1 + 1, 0, none⟩) 0 0) 0 [] := by
    have h := own_empty9 (w := (w.alloc (Obj.cells #[Value.string { data := a.toArray }, Value.string { data := b.toArray }, Value.int IntKind.i64 left, Value.bool false, Value.int IntKind.i64 nw, Value.slice p ls.length c] 44)).alloc (Obj.cells #[Value.string { data := #[] }, Value.string { data := #[] }, Value.int IntKind.i64 0, Value.bool false, Value.int IntKind.i64 0, Value.slice none 0 0] 44)) (base := w.heap.size) (by simp; try omega)
    simpa using h
  obtain ⟨G, hGG⟩ : ∃ G, w.heap.size = G := ⟨_, rfl⟩
  have HGG := Lib.hid hGG
  simp only [hGG] at hG1 hR1 hE1 ⊢
  clear hGG
  refine wpList_app_all rfl _ _ rfl rfl G base (G + 1 + 1) ls.length c p (strs ls) rfl rfl hE1 (own_below HO.out hB1) strs_one (by have := HLS.out; omega) (by have := hB1.size; have := HGG.out; omega) ?_
  intro g1 c1 w2 ho2 hg2
  have hG2 := blk_grown hG1 hg2 (by intro e; injection e; omega)
  have hR2 := blk_grown hR1 hg2 (by intro e; injection e; omega)
  have hB2 := b_row hB1 hg2 (by have := HGG.out; omega)
  have HG2 := Lib.hid hG2
  have HR2 := Lib.hid hR2
  have HB2 := Lib.hid hB2
  have HO2 := Lib.hid ho2
  clear hG1 hR1 hB1 hE1 ho2 hg2 hG2 hR2 hB2
  refine wpList_plain rfl (fun K hK => ?_)
  go_simp
  refine hK _ _ ?_
  clear hK K
  refine wpList_plain rfl (fun K hK => ?_)
  go_simp
  refine hK _ _ ?_
  clear hK K
  refine wpList_app _ rfl _ _ _ rfl G 9 (.string ⟨#[]⟩) 1 16 Try.underlying42 info9 rfl (by decide) (.slice (some ⟨g1, 0, none⟩) ls.length c1) ls.length (strs ls) rfl ⟨w2.heap.size, 0, none⟩ 1 1 [.string ⟨l.toArray⟩] rfl rfl (by intro u hu; rw [List.mem_singleton.1 hu]; rfl) (by decide) (by have := HLS.out; unfold maxLen; omega) (by have := HLS.out; omega) (own_below HO2.out (b_alloc (Below.refl _ _) _)) (news_one (blk_new rfl)) (by have := HB2.out.size; have := HGG.out; simp; omega) ?_
  intro g2 c2 w3 hA
  have HA : Hid (w3.ownsRow G 9 1 (.slice (some ⟨g2, 0, none⟩) (ls.length + 1) c2) (ls.length + 1) (strs (ls ++ [l]))) := Lib.hid (by have h := hA.own; rw [strs_snoc] at h; exact h)
  have hg1 : G ≠ g1 ∧ G + 1 ≠ g1 := by
    obtain ⟨_, h1, _⟩ := own_block HO2.out rfl
    exact ⟨blk_ne HG2.out h1 (by decide), blk_ne HR2.out h1 (by decide)⟩
  have HG3 := Lib.hid (blk_grown (blk_alloc HG2.out _) hA.grow (fun e => hg1.1 (Option.some.inj e)))
  have HR3 := Lib.hid (blk_grown (blk_alloc HR2.out _) hA.grow (fun e => hg1.2 (Option.some.inj e)))
  have HB3 : Hid (Below w.heap.size w w3) := Lib.hid (hA.below (b_alloc HB2.out _) (by have := HGG.out; omega))
  have hg2 : G ≠ g2 ∧ G + 1 ≠ g2 := by
    obtain ⟨_, h1, _⟩ := own_block HA.out rfl
    exact ⟨blk_ne HG3.out h1 (by decide), blk_ne HR3.out h1 (by decide)⟩
  have hg5 : w3.cell? ⟨G, 5, none⟩ = some (.slice p ls.length c) := (cell_of_row _ _ _ _ _ _ HG3.out).trans rfl
  have hf5 : w3.frozen? ⟨G, 5, none⟩ = false := frozen_of_row _ _ _ _ _ HG3.out
  clear hA HG2 HR2 HB2 HO2 hg1
  go_wp2_with fail
  have hrow4 := heap_setCell_same w3 G 5 _ _ (.slice (some ⟨g2, 0, none⟩) (ls.length + 1) c2) HG3.out
  have hgr4 : w3.grownBy (w3.setCell ⟨G, 5, none⟩ (.slice (some ⟨g2, 0, none⟩) (ls.length + 1) c2)) (some G) := gb_set (gb_refl _ _) _ _
  generalize hw4 : w3.setCell ⟨G, 5, none⟩ (.slice (some ⟨g2, 0, none⟩) (ls.length + 1) c2) = w4 at *
  have HB4 : Hid (Below w.heap.size w w4) := Lib.hid (b_row HB3.out hgr4 (by have := HGG.out; omega))
  have HA4 : Hid (w4.ownsRow G 9 1 (.slice (some ⟨g2, 0, none⟩) (ls.length + 1) c2) (ls.length + 1) (strs (ls ++ [l]))) := Lib.hid (own_fr (Fr.of_grown (S := fun q => q = G) hgr4 rfl) HA.out (fun q hq => by cases hq; exact fun e => hg2.1 e.symm))
  have HR4 := Lib.hid (blk_grown HR3.out hgr4 (by intro e; injection e; omega))
  have HG4 := Lib.hid hrow4
  clear hw4 hrow4 hgr4 HB3 HA HR3 HG3 hg5 hf5
  go_loopw [8] (fun i wx => ∃ (k : Nat) (L : Int), k ≤ k0 ∧ i = .int .i64 (k : Int) ∧ Hid (L = if 0 < left then left - k else left) ∧ Hid (wx.heap[G]? = some (.cells #[.string ⟨a.toArray⟩, .string ⟨b.toArray⟩, .int .i64 L, .bool false, .int .i64 nw, .slice (some ⟨g2, 0, none⟩) (ls.length + 1) c2] 44 (0, 0))) ∧ Hid (wx.heap[G + 1]? = some (.cells #[.string ⟨#[]⟩, .string ⟨#[]⟩, .int .i64 0, .bool false, .int .i64 0, .slice none 0 0] 44 (0, 0))) ∧ Hid (wx.ownsRow G 9 1 (.slice (some ⟨g2, 0, none⟩) (ls.length + 1) c2) (ls.length + 1) (strs (ls ++ [l]))) ∧ Hid (Below w.heap.size w wx)) (fun i _ => k0 - (intOf i).toNat)
  case atStart => exact ⟨0, left, Nat.zero_le _, rfl, Lib.hid (by split <;> omega), HG4, HR4, HA4, HB4⟩
  case round =>
    obtain ⟨k, L, hk, rfl, HLv, HGr, HRr, HOr, HBr⟩ := hrel
    have hc2 : wr.cell? ⟨G, 2, none⟩ = some (.int .i64 L) := (cell_of_row _ _ _ _ _ _ HGr.out).trans rfl
    have hf2 : wr.frozen? ⟨G, 2, none⟩ = false := frozen_of_row _ _ _ _ _ HGr.out
    clear HG4 HR4 HA4 HB4
    by_cases hlt : k < k0
    · obtain ⟨hki, hl0, hlp, hln, hlw⟩ := lp_b HLE.out.2 HKB.out HKL.out HLv.out hlt
      have HLN := Lib.hid hln
      have HLW := Lib.hid hlw
      have HWK := Lib.hid (lp_w hlt HKL.out (by have := HL.out; have := HM.out; omega))
      have HMS := Lib.hid (lp_m hlt)
      clear hlt hk hln hlw
      go_wp2_with fail
      rw [HWK.out, HLW.out]
      go_roundw
      case rel => exact ⟨k + 1, L - 1, HMS.out.1, rfl, HLN, Lib.hid (heap_setCell_same wr G 2 _ _ (.int .i64 (L - 1)) HGr.out), Lib.hid (blk_grown HRr.out (gb_set (gb_refl _ _) _ _) (by intro e; injection e; omega)), Lib.hid (own_fr (Fr.of_grown (S := fun q => q = G) (gb_set (gb_refl _ _) _ _) rfl) HOr.out (fun q hq => by cases hq; exact fun e => hg2.1 e.symm)), Lib.hid (b_row HBr.out (gb_set (gb_refl _ _) _ _) (by have := HGG.out; omega))⟩
      case measure => exact HMS.out.2
    · obtain rfl : k = k0 := Nat.le_antisymm hk (Nat.le_of_not_lt hlt)
      obtain rfl : L = rleft left l.length := by rw [HLv.out]; unfold rleft; rw [HK0.out]
      have hka : (k : Int) ≤ (a.length : Int) ∧ k ≤ a.length := by have := HKL.out; have := HL.out; have := HAB.out; omega
      have hkl : (k : Int) ≤ (l.length : Int) ∧ k ≤ l.length := by have := HKL.out; omega
      have hki : ¬ (k : Int) < (l.length : Int) := by have := HKV.out; omega
      obtain ⟨e1, e2 | ⟨gg, cap, cur, hv, hbg, hgg, h6⟩⟩ := id HOr.out
      · cases e2.1
      simp only [Value.slice.injEq, Option.some.injEq, Addr.mk.injEq] at hv
      obtain ⟨⟨hgx, _⟩, _, hcx⟩ := hv
      subst hgx hcx
      clear e1
      rw [HL0.out] at HGr hc2
      clear HLv hlt hk
      clear hc2 hf2
      have hc2 : wr.cell? ⟨G, 2, none⟩ = some (.int .i64 (left - l.length)) := (cell_of_row _ _ _ _ _ _ HGr.out).trans rfl
      go_upto_region 11 with fail
      refine reg (Stays [(G + 1, .cells #[.string ⟨#[]⟩, .string ⟨#[]⟩, .int .i64 0, .bool false, .int .i64 0, .slice none 0 0] 44 (0, 0)), (g2, .cells cur 9 (0, 0))] w) (Turns [(G + 1, .cells #[.string ⟨#[]⟩, .string ⟨#[]⟩, .int .i64 0, .bool false, .int .i64 0, .slice none 0 0] 44 (0, 0)), (g2, .cells cur 9 (0, 0))] w) (kdOf [(7, .touch), (13, .touch)]) (none0.has G (.cells #[.string ⟨a.toArray⟩, .string ⟨b.toArray⟩, .int .i64 (left - l.length), .bool false, .int .i64 nw, .slice (some ⟨g2, 0, none⟩) (ls.length + 1) c2] 44 (0, 0))) (stays_good _ _) (by kernel_rfl) (by kernel_rfl) (stays_drew (stays_cons HRr.out (stays_cons hgg (stays_nil HBr.out)))) (holds_has (holds0 _) HGr.out (turns_cons (by omega) (turns_cons hg2.1.symm (turns_nil (by have := HGG.out; omega))))) ?_
      refine g_look rfl rfl ?_ (fun w' hC => ?_) ?_
      rotate_left
      · go_simp
        first | done | rfl
      simp only [Act.put, List.setIfInBounds_toArray, List.set_cons_zero, List.set_cons_succ]
      refine g_look rfl rfl ?_ (fun w' hC => ?_) ?_
      rotate_left
      · go_simp
        first | done | rfl
      simp only [Act.put, List.setIfInBounds_toArray, List.set_cons_zero, List.set_cons_succ]
      refine g_look rfl rfl ?_ (fun w' hC => ?_) ?_
      rotate_left
      · go_simp
        first | done | rfl
      simp only [Act.put, List.setIfInBounds_toArray, List.set_cons_zero, List.set_cons_succ]
      refine g_look rfl rfl (.string ⟨(l.take k).toArray⟩) (fun w' hC => ?_) ?_
      · go_simp
        first | done | exact ⟨congrArg Value.string (take_st k), rfl⟩ | exact take_st k
      simp only [Act.put, List.setIfInBounds_toArray, List.set_cons_zero, List.set_cons_succ]
      refine g_look rfl rfl ?_ (fun w' hC => ?_) ?_
      rotate_left
      · go_simp
        first | done | rfl
      simp only [Act.put, List.setIfInBounds_toArray, List.set_cons_zero, List.set_cons_succ]
      refine g_look rfl rfl ?_ (fun w' hC => ?_) ?_
      rotate_left
      · go_simp
        first | done | rfl
      simp only [Act.put, List.setIfInBounds_toArray, List.set_cons_zero, List.set_cons_succ]
      refine g_look rfl rfl ?_ (fun w' hC => ?_) ?_
      rotate_left
      · go_simp
        first | done | rfl
      simp only [Act.put, List.setIfInBounds_toArray, List.set_cons_zero, List.set_cons_succ]
      refine g_touch G none _ (.cells #[.string ⟨a.toArray⟩, .string ⟨b.toArray⟩, .int .i64 (left - l.length), .bool false, .int .i64 nw, .slice (some ⟨g2, 0, none⟩) (ls.length + 1) c2] 44 (0, 0)) (.string ⟨a.toArray⟩) (.tmp 60) rfl rfl rfl rfl (has_same _ _ _) rfl (fun w' hC hT hb => ?_) ?_
      · have c0 : w'.cell? ⟨G, 0, none⟩ = some (.string ⟨a.toArray⟩) := (cell_of_row _ _ _ _ _ _ hb).trans rfl
        refine ⟨.value (.string ⟨a.toArray⟩), w', ?_, Or.inl ⟨_, rfl⟩, rfl, hb, gb_refl _ _⟩
        clear hb hC
        go_simp
        first | done | rfl
      simp only [Act.put, List.setIfInBounds_toArray, List.set_cons_zero, List.set_cons_succ]
      refine g_look rfl rfl ?_ (fun w' hC => ?_) ?_
      rotate_left
      · go_simp
        first | done | rfl
      simp only [Act.put, List.setIfInBounds_toArray, List.set_cons_zero, List.set_cons_succ]
      refine g_look rfl rfl (.string ⟨(a.drop k).toArray⟩) (fun w' hC => ?_) ?_
      · go_simp
        first | done | exact ⟨congrArg Value.string (drop_st k), rfl⟩ | exact drop_st k
      simp only [Act.put, List.setIfInBounds_toArray, List.set_cons_zero, List.set_cons_succ]
      refine g_look rfl rfl (.string ⟨(over a l k).toArray⟩) (fun w' hC => ?_) ?_
      · have hbig : ¬ 9223372036854775807 < a.length := by have := HM.out; have := HAB.out; omega
        go_simp
        first | done | exact ⟨rfl, congrArg Value.string app_st⟩ | exact ⟨congrArg Value.string app_st, rfl⟩ | exact app_st
      simp only [Act.put, List.setIfInBounds_toArray, List.set_cons_zero, List.set_cons_succ]
      refine g_look rfl rfl ?_ (fun w' hC => ?_) ?_
      rotate_left
      · go_simp
        first | done | rfl
      simp only [Act.put, List.setIfInBounds_toArray, List.set_cons_zero, List.set_cons_succ]
      refine g_look rfl rfl ?_ (fun w' hC => ?_) ?_
      rotate_left
      · go_simp
        first | done | rfl
      simp only [Act.put, List.setIfInBounds_toArray, List.set_cons_zero, List.set_cons_succ]
      refine g_touch G (some 7) _ (.cells #[.string ⟨(over a l k).toArray⟩, .string ⟨b.toArray⟩, .int .i64 (left - l.length), .bool false, .int .i64 nw, .slice (some ⟨g2, 0, none⟩) (ls.length + 1) c2] 44 (0, 0)) undef (.tmp 66) rfl rfl rfl rfl (own_new _ _ _ _) (by kernel_rfl) (fun w' hC hT hb => ?_) ?_
      · have c0 : w'.cell? ⟨G, 0, none⟩ = some (.string ⟨a.toArray⟩) := (cell_of_row _ _ _ _ _ _ hb).trans rfl
        have f0 : w'.frozen? ⟨G, 0, none⟩ = false := frozen_of_row _ _ _ _ _ hb
        refine ⟨.skip, w'.setCell ⟨G, 0, none⟩ (.string ⟨(over a l k).toArray⟩), ?_, Or.inr rfl, rfl, heap_setCell_same w' G 0 _ _ _ hb, gb_set (gb_refl _ _) _ _⟩
        clear hb hC
        go_simp
        first | done | rfl
      simp only [Act.put]
      refine g_end ?_
      intro w5 hC5 hh5
      have HG5 := Lib.hid ((hh5 _ _ _ (own_new _ _ _ _)).1)
      have HR5 := Lib.hid (stays_row hC5 (List.mem_cons_self ..))
      have HO5 : Hid (w5.ownsRow G 9 1 (.slice (some ⟨g2, 0, none⟩) (ls.length + 1) c2) (ls.length + 1) (strs (ls ++ [l]))) := Lib.hid ⟨by simp [strs], Or.inr ⟨g2, c2, cur, rfl, hbg, stays_row hC5 (List.mem_cons_of_mem _ (List.mem_cons_self ..)), h6⟩⟩
      have HB5 := Lib.hid (stays_below hC5)
      clear hC5 hh5 hgg h6 hbg HGr HRr HOr HBr hc2
      have hc4 : w5.cell? ⟨G, 4, none⟩ = some (.int .i64 nw) := (cell_of_row _ _ _ _ _ _ HG5.out).trans rfl
      have hf4 : w5.frozen? ⟨G, 4, none⟩ = false := frozen_of_row _ _ _ _ _ HG5.out
      have HWN : Hid (wrap64 (nw + (k : Int)) = nw + (k : Int)) := Lib.hid (unwrap64 (by have := HWR.out; have := HKL.out; have := HL.out; have := HM.out; omega))
      go_upto_region 13 with fail
      rw [HWN.out]
      have hrow6 := heap_setCell_same w5 G 4 _ _ (.int .i64 (nw + (k : Int))) HG5.out
      have hgr6 : w5.grownBy (w5.setCell ⟨G, 4, none⟩ (.int .i64 (nw + (k : Int)))) (some G) := gb_set (gb_refl _ _) _ _
      generalize hw6 : w5.setCell ⟨G, 4, none⟩ (.int .i64 (nw + (k : Int))) = w6 at *
      have HB6 : Hid (Below w.heap.size w w6) := Lib.hid (b_row HB5.out hgr6 (by have := HGG.out; omega))
      have HO6 : Hid (w6.ownsRow G 9 1 (.slice (some ⟨g2, 0, none⟩) (ls.length + 1) c2) (ls.length + 1) (strs (ls ++ [l]))) := Lib.hid (own_fr (Fr.of_grown (S := fun q => q = G) hgr6 rfl) HO5.out (fun q hq => by cases hq; exact fun e => hg2.1 e.symm))
      have HR6 := Lib.hid (blk_grown HR5.out hgr6 (by intro e; injection e; omega))
      have HG6 : Hid (w6.heap[G]? = some (.cells #[.string ⟨(over a l k).toArray⟩, .string ⟨b.toArray⟩, .int .i64 (left - l.length), .bool false, .int .i64 (nw + (k : Int)), .slice (some ⟨g2, 0, none⟩) (ls.length + 1) c2] 44 (0, 0))) := Lib.hid hrow6
      clear hw6 hrow6 hgr6 HB5 HO5 HR5 HG5 hc4 hf4
      have hc2 : w6.cell? ⟨G, 2, none⟩ = some (.int .i64 (left - l.length)) := (cell_of_row _ _ _ _ _ _ HG6.out).trans rfl
      have hz : ¬ (left - l.length) = 0 := by have := HN.out; omega
      go_upto_region 16 with fail
      clear hc2
      refine wp_region_lit ?_
      refine wpList_load_row rfl 44 _ rfl G rfl 44 _ (0, 0) _ HG6.out Try.underlying44 rfl info44 ?_
      refine wpList_store_blk rfl 44 _ _ rfl (G + 1) 44 _ _ rfl rfl HR6.out rfl info44 (by simp [Value.oneCell']) ?_
      intro w8 h8 g8
      have HW8 := Lib.hid h8
      have HB8 : Hid (Below w.heap.size w w8) := Lib.hid (b_row HB6.out g8 (by have := HGG.out; omega))
      have HO8 : Hid (w8.ownsRow G 9 1 (.slice (some ⟨g2, 0, none⟩) (ls.length + 1) c2) (ls.length + 1) (strs (ls ++ [l]))) := Lib.hid (own_fr (Fr.of_grown (S := fun q => q = G + 1) g8 rfl) HO6.out (fun q hq => by cases hq; exact fun e => hg2.2 e.symm))
      clear h8 g8
      go_wp2_with fail
      refine bodyPost_ret (results_w20 (g := G + 1) (s0 := ⟨(over a l k).toArray⟩) (s1 := ⟨b.toArray⟩) (l := (left - l.length)) (o := false) (n := nw + (k : Int)) (p := some ⟨g2, 0, none⟩) (k := ls.length + 1) (c := c2) HW8.out) rfl ?_
      rw [← HQ.out]
      refine ⟨some ⟨g2, 0, none⟩, c2, ?_, by rw [HGG.out]; exact HO8.out, HB8.out⟩
      rw [HL0.out, HG0.out, HK0.out]
      rfl
set_option maxHeartbeats 4000000 in
set_option maxRecDepth 100000 in
theorem rwrite_1a (w : World) (base : Nat) (a b l : List UInt8) (left nw : Int) (p : Option Addr) (c : Nat) (ls : List (List UInt8)) (hl : l.length ≤ a.length) (hab : b.length = a.length) (hm : a.length ≤ 262144) (hle : -1 ≤ left ∧ left ≤ 9223372036854775807) (hwr : 0 ≤ nw ∧ nw < 4611686018427387904) (hls : ls.length ≤ 999) (ho : w.ownsRow base 9 1 (.slice p ls.length c) ls.length (strs ls)) (hn : left < 0) : Calls Try.prog 20 #[rv ⟨a.toArray⟩ ⟨b.toArray⟩ left false nw p ls.length c, .int .i64 1, .string ⟨l.toArray⟩] w (RWrote w a b l left nw ls 1) := by
  have HO := Lib.hid ho
  have HL := Lib.hid hl
  have HAB := Lib.hid hab
  have HM := Lib.hid hm
  have HLE := Lib.hid hle
  have HWR := Lib.hid hwr
  have HLS := Lib.hid hls
  have HN := Lib.hid hn
  have i1 : ¬ (a.length : Int) < (l.length : Int) := by omega
  have i2 : ¬ a.length < l.length := by omega
  obtain ⟨k0, hk0⟩ : ∃ k0, rcut left l.length = k0 := ⟨_, rfl⟩
  have HK0 := Lib.hid hk0
  have HKL : Hid (k0 ≤ l.length) := Lib.hid (by subst hk0; unfold rcut; split <;> omega)
  have HKV : Hid (k0 = l.length) := Lib.hid (by subst hk0; unfold rcut; split <;> omega)
  have HG0 : Hid (rgoes left l.length = false) := Lib.hid (by unfold rgoes; simp; omega)
  have HL0 : Hid (rleft left l.length = left) := Lib.hid (by unfold rleft; split <;> omega)
  clear hl hab hm hle hwr hls ho hn hk0
  obtain ⟨Q, hQ⟩ : ∃ Q, RWrote w a b l left nw ls 1 = Q := ⟨_, rfl⟩
  have HQ := Lib.hid hQ
  rw [hQ]
  clear hQ
  unfold rv rvc
  go_enter Try.func20, Try.ntmps20
  go_upto_region 5 with fail
  refine wp_region_lit ?_
  refine wpList_plain rfl (fun K hK => ?_)
  go_simp
  refine hK _ _ ?_
  clear hK K
  refine wpList_plain rfl (fun K hK => ?_)
  go_simp
  refine hK _ _ ?_
  clear hK K
  refine wpList_plain rfl (fun K hK => ?_)
  go_simp
  refine hK _ _ ?_
  clear hK K
  have hG1 : (((w.alloc (Obj.cells #[Value.string { data := a.toArray }, Value.string { data := b.toArray }, Value.int IntKind.i64 left, Value.bool false, Value.int IntKind.i64 nw, Value.slice p ls.length c] 44)).alloc (Obj.cells #[Value.string { data := #[] }, Value.string { data := #[] }, Value.int IntKind.i64 0, Value.bool false, Value.int IntKind.i64 0, Value.slice none 0 0] 44)).alloc (Obj.cells #[] 9)).heap[w.heap.size]? = some (Obj.cells #[Value.string { data := a.toArray }, Value.string { data := b.toArray }, Value.int IntKind.i64 left, Value.bool false, Value.int IntKind.i64 nw, Value.slice p ls.length c] 44 (0, 0)) := blk_alloc (blk_alloc (blk_new rfl) _) _
  have hR1 : (((w.alloc (Obj.cells #[Value.string { data := a.toArray }, Value.string { data := b.toArray }, Value.int IntKind.i64 left, Value.bool false, Value.int IntKind.i64 nw, Value.slice p ls.length c] 44)).alloc (Obj.cells #[Value.string { data := #[] }, Value.string { data := #[] }, Value.int IntKind.i64 0, Value.bool false, Value.int IntKind.i64 0, Value.slice none 0 0] 44)).alloc (Obj.cells #[] 9)).heap[w.heap.size + 1]? = some (Obj.cells #[Value.string { data := #[] }, Value.string { data := #[] }, Value.int IntKind.i64 0, Value.bool false, Value.int IntKind.i64 0, Value.slice none 0 0] 44 (0, 0)) := blk_alloc (blk_new (by simp)) _
  have hB1 : Below w.heap.size w (((w.alloc (Obj.cells #[Value.string { data := a.toArray }, Value.string { data := b.toArray }, Value.int IntKind.i64 left, Value.bool false, Value.int IntKind.i64 nw, Value.slice p ls.length c] 44)).alloc (Obj.cells #[Value.string { data := #[] }, Value.string { data := #[] }, Value.int IntKind.i64 0, Value.bool false, Value.int IntKind.i64 0, Value.slice none 0 0] 44)).alloc (Obj.cells #[] 9)) := b_alloc (b_alloc (b_alloc (Below.refl _ _) _) _) _
  have hE1 : (((w.alloc (Obj.cells #[Value.string { data := a.toArray }, Value.string { data := b.toArray }, Value.int IntKind.i64 left, Value.bool false, Value.int IntKind.i64 nw, Value.slice p ls.length c] 44)).alloc (Obj.cells #[Value.string { data := #[] }, Value.string { data := #[] }, Value.int IntKind.i64 0, Value.bool false, Value.int IntKind.i64 0, Value.slice none 0 0] 44)).alloc (Obj.cells #[] 9)).ownsRow w.heap.size 9 1 (.slice (some ⟨w.heap.size + 1 + 1, 0, none⟩) 0 0) 0 [] := by
    have h := own_empty9 (w := (w.alloc (Obj.cells #[Value.string { data := a.toArray }, Value.string { data := b.toArray }, Value.int IntKind.i64 left, Value.bool false, Value.int IntKind.i64 nw, Value.slice p ls.length c] 44)).alloc (Obj.cells #[Value.string { data := #[] }, Value.string { data := #[] }, Value.int IntKind.i64 0, Value.bool false, Value.int IntKind.i64 0, Value.slice none 0 0] 44)) (base := w.heap.size) (by simp; try omega)
    simpa using h
  obtain ⟨G, hGG⟩ : ∃ G, w.heap.size = G := ⟨_, rfl⟩
  have HGG := Lib.hid hGG
  simp only [hGG] at hG1 hR1 hE1 ⊢
  clear hGG
  refine wpList_app_all rfl _ _ rfl rfl G base (G + 1 + 1) ls.length c p (strs ls) rfl rfl hE1 (own_below HO.out hB1) strs_one (by have := HLS.out; omega) (by have := hB1.size; have := HGG.out; omega) ?_
  intro g1 c1 w2 ho2 hg2
  have hG2 := blk_grown hG1 hg2 (by intro e; injection e; omega)
  have hR2 := blk_grown hR1 hg2 (by intro e; injection e; omega)
  have hB2 := b_row hB1 hg2 (by have := HGG.out; omega)
  have HG2 := Lib.hid hG2
  have HR2 := Lib.hid hR2
  have HB2 := Lib.hid hB2
  have HO2 := Lib.hid ho2
  clear hG1 hR1 hB1 hE1 ho2 hg2 hG2 hR2 hB2
  refine wpList_plain rfl (fun K hK => ?_)
  go_simp
  refine hK _ _ ?_
  clear hK K
  refine wpList_plain rfl (fun K hK => ?_)
  go_simp
  refine hK _ _ ?_
  clear hK K
  refine wpList_app _ rfl _ _ _ rfl G 9 (.string ⟨#[]⟩) 1 16 Try.underlying42 info9 rfl (by decide) (.slice (some ⟨g1, 0, none⟩) ls.length c1) ls.length (strs ls) rfl ⟨w2.heap.size, 0, none⟩ 1 1 [.string ⟨l.toArray⟩] rfl rfl (by intro u hu; rw [List.mem_singleton.1 hu]; rfl) (by decide) (by have := HLS.out; unfold maxLen; omega) (by have := HLS.out; omega) (own_below HO2.out (b_alloc (Below.refl _ _) _)) (news_one (blk_new rfl)) (by have := HB2.out.size; have := HGG.out; simp; omega) ?_
  intro g2 c2 w3 hA
  have HA : Hid (w3.ownsRow G 9 1 (.slice (some ⟨g2, 0, none⟩) (ls.length + 1) c2) (ls.length + 1) (strs (ls ++ [l]))) := Lib.hid (by have h := hA.own; rw [strs_snoc] at h; exact h)
  have hg1 : G ≠ g1 ∧ G + 1 ≠ g1 := by
    obtain ⟨_, h1, _⟩ := own_block HO2.out rfl
    exact ⟨blk_ne HG2.out h1 (by decide), blk_ne HR2.out h1 (by decide)⟩
  have HG3 := Lib.hid (blk_grown (blk_alloc HG2.out _) hA.grow (fun e => hg1.1 (Option.some.inj e)))
  have HR3 := Lib.hid (blk_grown (blk_alloc HR2.out _) hA.grow (fun e => hg1.2 (Option.some.inj e)))
  have HB3 : Hid (Below w.heap.size w w3) := Lib.hid (hA.below (b_alloc HB2.out _) (by have := HGG.out; omega))
  have hg2 : G ≠ g2 ∧ G + 1 ≠ g2 := by
    obtain ⟨_, h1, _⟩ := own_block HA.out rfl
    exact ⟨blk_ne HG3.out h1 (by decide), blk_ne HR3.out h1 (by decide)⟩
  have hg5 : w3.cell? ⟨G, 5, none⟩ = some (.slice p ls.length c) := (cell_of_row _ _ _ _ _ _ HG3.out).trans rfl
  have hf5 : w3.frozen? ⟨G, 5, none⟩ = false := frozen_of_row _ _ _ _ _ HG3.out
  clear hA HG2 HR2 HB2 HO2 hg1
  go_wp2_with fail
  have hrow4 := heap_setCell_same w3 G 5 _ _ (.slice (some ⟨g2, 0, none⟩) (ls.length + 1) c2) HG3.out
  have hgr4 : w3.grownBy (w3.setCell ⟨G, 5, none⟩ (.slice (some ⟨g2, 0, none⟩) (ls.length + 1) c2)) (some G) := gb_set (gb_refl _ _) _ _
  generalize hw4 : w3.setCell ⟨G, 5, none⟩ (.slice (some ⟨g2, 0, none⟩) (ls.length + 1) c2) = w4 at *
  have HB4 : Hid (Below w.heap.size w w4) := Lib.hid (b_row HB3.out hgr4 (by have := HGG.out; omega))
  have HA4 : Hid (w4.ownsRow G 9 1 (.slice (some ⟨g2, 0, none⟩) (ls.length + 1) c2) (ls.length + 1) (strs (ls ++ [l]))) := Lib.hid (own_fr (Fr.of_grown (S := fun q => q = G) hgr4 rfl) HA.out (fun q hq => by cases hq; exact fun e => hg2.1 e.symm))
  have HR4 := Lib.hid (blk_grown HR3.out hgr4 (by intro e; injection e; omega))
  have HG4 := Lib.hid hrow4
  clear hw4 hrow4 hgr4 HB3 HA HR3 HG3 hg5 hf5
  go_loopw [8] (fun i wx => ∃ (k : Nat) (L : Int), k ≤ k0 ∧ i = .int .i64 (k : Int) ∧ Hid (L = if 0 < left then left - k else left) ∧ Hid (wx.heap[G]? = some (.cells #[.string ⟨a.toArray⟩, .string ⟨b.toArray⟩, .int .i64 L, .bool false, .int .i64 nw, .slice (some ⟨g2, 0, none⟩) (ls.length + 1) c2] 44 (0, 0))) ∧ Hid (wx.heap[G + 1]? = some (.cells #[.string ⟨#[]⟩, .string ⟨#[]⟩, .int .i64 0, .bool false, .int .i64 0, .slice none 0 0] 44 (0, 0))) ∧ Hid (wx.ownsRow G 9 1 (.slice (some ⟨g2, 0, none⟩) (ls.length + 1) c2) (ls.length + 1) (strs (ls ++ [l]))) ∧ Hid (Below w.heap.size w wx)) (fun i _ => k0 - (intOf i).toNat)
  case atStart => exact ⟨0, left, Nat.zero_le _, rfl, Lib.hid (by split <;> omega), HG4, HR4, HA4, HB4⟩
  case round =>
    obtain ⟨k, L, hk, rfl, HLv, HGr, HRr, HOr, HBr⟩ := hrel
    have hc2 : wr.cell? ⟨G, 2, none⟩ = some (.int .i64 L) := (cell_of_row _ _ _ _ _ _ HGr.out).trans rfl
    have hf2 : wr.frozen? ⟨G, 2, none⟩ = false := frozen_of_row _ _ _ _ _ HGr.out
    clear HG4 HR4 HA4 HB4
    by_cases hlt : k < k0
    · obtain ⟨hki, hl0, hlp, hln⟩ := lp_a HN.out HKV.out HLv.out hlt
      have HLN := Lib.hid hln
      have HWK := Lib.hid (lp_w hlt HKL.out (by have := HL.out; have := HM.out; omega))
      have HMS := Lib.hid (lp_m hlt)
      clear hlt hk hln
      go_wp2_with fail
      rw [HWK.out]
      go_roundw
      case rel => exact ⟨k + 1, L, HMS.out.1, rfl, HLN, HGr, HRr, HOr, HBr⟩
      case measure => exact HMS.out.2
    · obtain rfl : k = k0 := Nat.le_antisymm hk (Nat.le_of_not_lt hlt)
      obtain rfl : L = rleft left l.length := by rw [HLv.out]; unfold rleft; rw [HK0.out]
      have hka : (k : Int) ≤ (b.length : Int) ∧ k ≤ b.length := by have := HKL.out; have := HL.out; have := HAB.out; omega
      have hkl : (k : Int) ≤ (l.length : Int) ∧ k ≤ l.length := by have := HKL.out; omega
      have hki : ¬ (k : Int) < (l.length : Int) := by have := HKV.out; omega
      obtain ⟨e1, e2 | ⟨gg, cap, cur, hv, hbg, hgg, h6⟩⟩ := id HOr.out
      · cases e2.1
      simp only [Value.slice.injEq, Option.some.injEq, Addr.mk.injEq] at hv
      obtain ⟨⟨hgx, _⟩, _, hcx⟩ := hv
      subst hgx hcx
      clear e1
      rw [HL0.out] at HGr hc2
      clear HLv hlt hk
      clear hc2 hf2
      have hc2 : wr.cell? ⟨G, 2, none⟩ = some (.int .i64 left) := (cell_of_row _ _ _ _ _ _ HGr.out).trans rfl
      go_upto_region 11 with fail
      refine reg (Stays [(G + 1, .cells #[.string ⟨#[]⟩, .string ⟨#[]⟩, .int .i64 0, .bool false, .int .i64 0, .slice none 0 0] 44 (0, 0)), (g2, .cells cur 9 (0, 0))] w) (Turns [(G + 1, .cells #[.string ⟨#[]⟩, .string ⟨#[]⟩, .int .i64 0, .bool false, .int .i64 0, .slice none 0 0] 44 (0, 0)), (g2, .cells cur 9 (0, 0))] w) (kdOf [(7, .touch), (13, .touch)]) (none0.has G (.cells #[.string ⟨a.toArray⟩, .string ⟨b.toArray⟩, .int .i64 left, .bool false, .int .i64 nw, .slice (some ⟨g2, 0, none⟩) (ls.length + 1) c2] 44 (0, 0))) (stays_good _ _) (by kernel_rfl) (by kernel_rfl) (stays_drew (stays_cons HRr.out (stays_cons hgg (stays_nil HBr.out)))) (holds_has (holds0 _) HGr.out (turns_cons (by omega) (turns_cons hg2.1.symm (turns_nil (by have := HGG.out; omega))))) ?_
      refine g_look rfl rfl ?_ (fun w' hC => ?_) ?_
      rotate_left
      · go_simp
        first | done | rfl
      simp only [Act.put, List.setIfInBounds_toArray, List.set_cons_zero, List.set_cons_succ]
      refine g_look rfl rfl ?_ (fun w' hC => ?_) ?_
      rotate_left
      · go_simp
        first | done | rfl
      simp only [Act.put, List.setIfInBounds_toArray, List.set_cons_zero, List.set_cons_succ]
      refine g_look rfl rfl ?_ (fun w' hC => ?_) ?_
      rotate_left
      · go_simp
        first | done | rfl
      simp only [Act.put, List.setIfInBounds_toArray, List.set_cons_zero, List.set_cons_succ]
      refine g_look rfl rfl (.string ⟨(l.take k).toArray⟩) (fun w' hC => ?_) ?_
      · go_simp
        first | done | exact ⟨congrArg Value.string (take_st k), rfl⟩ | exact take_st k
      simp only [Act.put, List.setIfInBounds_toArray, List.set_cons_zero, List.set_cons_succ]
      refine g_look rfl rfl ?_ (fun w' hC => ?_) ?_
      rotate_left
      · go_simp
        first | done | rfl
      simp only [Act.put, List.setIfInBounds_toArray, List.set_cons_zero, List.set_cons_succ]
      refine g_look rfl rfl ?_ (fun w' hC => ?_) ?_
      rotate_left
      · go_simp
        first | done | rfl
      simp only [Act.put, List.setIfInBounds_toArray, List.set_cons_zero, List.set_cons_succ]
      refine g_look rfl rfl ?_ (fun w' hC => ?_) ?_
      rotate_left
      · go_simp
        first | done | rfl
      simp only [Act.put, List.setIfInBounds_toArray, List.set_cons_zero, List.set_cons_succ]
      refine g_touch G none _ (.cells #[.string ⟨a.toArray⟩, .string ⟨b.toArray⟩, .int .i64 left, .bool false, .int .i64 nw, .slice (some ⟨g2, 0, none⟩) (ls.length + 1) c2] 44 (0, 0)) (.string ⟨b.toArray⟩) (.tmp 60) rfl rfl rfl rfl (has_same _ _ _) rfl (fun w' hC hT hb => ?_) ?_
      · have c0 : w'.cell? ⟨G, 1, none⟩ = some (.string ⟨b.toArray⟩) := (cell_of_row _ _ _ _ _ _ hb).trans rfl
        refine ⟨.value (.string ⟨b.toArray⟩), w', ?_, Or.inl ⟨_, rfl⟩, rfl, hb, gb_refl _ _⟩
        clear hb hC
        go_simp
        first | done | rfl
      simp only [Act.put, List.setIfInBounds_toArray, List.set_cons_zero, List.set_cons_succ]
      refine g_look rfl rfl ?_ (fun w' hC => ?_) ?_
      rotate_left
      · go_simp
        first | done | rfl
      simp only [Act.put, List.setIfInBounds_toArray, List.set_cons_zero, List.set_cons_succ]
      refine g_look rfl rfl (.string ⟨(b.drop k).toArray⟩) (fun w' hC => ?_) ?_
      · go_simp
        first | done | exact ⟨congrArg Value.string (drop_st k), rfl⟩ | exact drop_st k
      simp only [Act.put, List.setIfInBounds_toArray, List.set_cons_zero, List.set_cons_succ]
      refine g_look rfl rfl (.string ⟨(over b l k).toArray⟩) (fun w' hC => ?_) ?_
      · have hbig : ¬ 9223372036854775807 < b.length := by have := HM.out; have := HAB.out; omega
        go_simp
        first | done | exact ⟨rfl, congrArg Value.string app_st⟩ | exact ⟨congrArg Value.string app_st, rfl⟩ | exact app_st
      simp only [Act.put, List.setIfInBounds_toArray, List.set_cons_zero, List.set_cons_succ]
      refine g_look rfl rfl ?_ (fun w' hC => ?_) ?_
      rotate_left
      · go_simp
        first | done | rfl
      simp only [Act.put, List.setIfInBounds_toArray, List.set_cons_zero, List.set_cons_succ]
      refine g_look rfl rfl ?_ (fun w' hC => ?_) ?_
      rotate_left
      · go_simp
        first | done | rfl
      simp only [Act.put, List.setIfInBounds_toArray, List.set_cons_zero, List.set_cons_succ]
      refine g_touch G (some 7) _ (.cells #[.string ⟨a.toArray⟩, .string ⟨(over b l k).toArray⟩, .int .i64 left, .bool false, .int .i64 nw, .slice (some ⟨g2, 0, none⟩) (ls.length + 1) c2] 44 (0, 0)) undef (.tmp 66) rfl rfl rfl rfl (own_new _ _ _ _) (by kernel_rfl) (fun w' hC hT hb => ?_) ?_
      · have c0 : w'.cell? ⟨G, 1, none⟩ = some (.string ⟨b.toArray⟩) := (cell_of_row _ _ _ _ _ _ hb).trans rfl
        have f0 : w'.frozen? ⟨G, 1, none⟩ = false := frozen_of_row _ _ _ _ _ hb
        refine ⟨.skip, w'.setCell ⟨G, 1, none⟩ (.string ⟨(over b l k).toArray⟩), ?_, Or.inr rfl, rfl, heap_setCell_same w' G 1 _ _ _ hb, gb_set (gb_refl _ _) _ _⟩
        clear hb hC
        go_simp
        first | done | rfl
      simp only [Act.put]
      refine g_end ?_
      intro w5 hC5 hh5
      have HG5 := Lib.hid ((hh5 _ _ _ (own_new _ _ _ _)).1)
      have HR5 := Lib.hid (stays_row hC5 (List.mem_cons_self ..))
      have HO5 : Hid (w5.ownsRow G 9 1 (.slice (some ⟨g2, 0, none⟩) (ls.length + 1) c2) (ls.length + 1) (strs (ls ++ [l]))) := Lib.hid ⟨by simp [strs], Or.inr ⟨g2, c2, cur, rfl, hbg, stays_row hC5 (List.mem_cons_of_mem _ (List.mem_cons_self ..)), h6⟩⟩
      have HB5 := Lib.hid (stays_below hC5)
      clear hC5 hh5 hgg h6 hbg HGr HRr HOr HBr hc2
      have hc4 : w5.cell? ⟨G, 4, none⟩ = some (.int .i64 nw) := (cell_of_row _ _ _ _ _ _ HG5.out).trans rfl
      have hf4 : w5.frozen? ⟨G, 4, none⟩ = false := frozen_of_row _ _ _ _ _ HG5.out
      have HWN : Hid (wrap64 (nw + (k : Int)) = nw + (k : Int)) := Lib.hid (unwrap64 (by have := HWR.out; have := HKL.out; have := HL.out; have := HM.out; omega))
      go_upto_region 13 with fail
      rw [HWN.out]
      have hrow6 := heap_setCell_same w5 G 4 _ _ (.int .i64 (nw + (k : Int))) HG5.out
      have hgr6 : w5.grownBy (w5.setCell ⟨G, 4, none⟩ (.int .i64 (nw + (k : Int)))) (some G) := gb_set (gb_refl _ _) _ _
      generalize hw6 : w5.setCell ⟨G, 4, none⟩ (.int .i64 (nw + (k : Int))) = w6 at *
      have HB6 : Hid (Below w.heap.size w w6) := Lib.hid (b_row HB5.out hgr6 (by have := HGG.out; omega))
      have HO6 : Hid (w6.ownsRow G 9 1 (.slice (some ⟨g2, 0, none⟩) (ls.length + 1) c2) (ls.length + 1) (strs (ls ++ [l]))) := Lib.hid (own_fr (Fr.of_grown (S := fun q => q = G) hgr6 rfl) HO5.out (fun q hq => by cases hq; exact fun e => hg2.1 e.symm))
      have HR6 := Lib.hid (blk_grown HR5.out hgr6 (by intro e; injection e; omega))
      have HG6 : Hid (w6.heap[G]? = some (.cells #[.string ⟨a.toArray⟩, .string ⟨(over b l k).toArray⟩, .int .i64 left, .bool false, .int .i64 (nw + (k : Int)), .slice (some ⟨g2, 0, none⟩) (ls.length + 1) c2] 44 (0, 0))) := Lib.hid hrow6
      clear hw6 hrow6 hgr6 HB5 HO5 HR5 HG5 hc4 hf4
      have hc2 : w6.cell? ⟨G, 2, none⟩ = some (.int .i64 left) := (cell_of_row _ _ _ _ _ _ HG6.out).trans rfl
      have hz : ¬ left = 0 := by have := HN.out; omega
      go_upto_region 16 with fail
      clear hc2
      refine wp_region_lit ?_
      refine wpList_load_row rfl 44 _ rfl G rfl 44 _ (0, 0) _ HG6.out Try.underlying44 rfl info44 ?_
      refine wpList_store_blk rfl 44 _ _ rfl (G + 1) 44 _ _ rfl rfl HR6.out rfl info44 (by simp [Value.oneCell']) ?_
      intro w8 h8 g8
      have HW8 := Lib.hid h8
      have HB8 : Hid (Below w.heap.size w w8) := Lib.hid (b_row HB6.out g8 (by have := HGG.out; omega))
      have HO8 : Hid (w8.ownsRow G 9 1 (.slice (some ⟨g2, 0, none⟩) (ls.length + 1) c2) (ls.length + 1) (strs (ls ++ [l]))) := Lib.hid (own_fr (Fr.of_grown (S := fun q => q = G + 1) g8 rfl) HO6.out (fun q hq => by cases hq; exact fun e => hg2.2 e.symm))
      clear h8 g8
      go_wp2_with fail
      refine bodyPost_ret (results_w20 (g := G + 1) (s0 := ⟨a.toArray⟩) (s1 := ⟨(over b l k).toArray⟩) (l := left) (o := false) (n := nw + (k : Int)) (p := some ⟨g2, 0, none⟩) (k := ls.length + 1) (c := c2) HW8.out) rfl ?_
      rw [← HQ.out]
      refine ⟨some ⟨g2, 0, none⟩, c2, ?_, by rw [HGG.out]; exact HO8.out, HB8.out⟩
      rw [HL0.out, HG0.out, HK0.out]
      rfl
set_option maxHeartbeats 4000000 in
set_option maxRecDepth 100000 in
theorem rwrite_1b (w : World) (base : Nat) (a b l : List UInt8) (left nw : Int) (p : Option Addr) (c : Nat) (ls : List (List UInt8)) (hl : l.length ≤ a.length) (hab : b.length = a.length) (hm : a.length ≤ 262144) (hle : -1 ≤ left ∧ left ≤ 9223372036854775807) (hwr : 0 ≤ nw ∧ nw < 4611686018427387904) (hls : ls.length ≤ 999) (ho : w.ownsRow base 9 1 (.slice p ls.length c) ls.length (strs ls)) (hn : 0 ≤ left ∧ left < l.length) : Calls Try.prog 20 #[rv ⟨a.toArray⟩ ⟨b.toArray⟩ left false nw p ls.length c, .int .i64 1, .string ⟨l.toArray⟩] w (RWrote w a b l left nw ls 1) := by
  have HO := Lib.hid ho
  have HL := Lib.hid hl
  have HAB := Lib.hid hab
  have HM := Lib.hid hm
  have HLE := Lib.hid hle
  have HWR := Lib.hid hwr
  have HLS := Lib.hid hls
  have HN := Lib.hid hn
  have i1 : ¬ (a.length : Int) < (l.length : Int) := by omega
  have i2 : ¬ a.length < l.length := by omega
  obtain ⟨k0, hk0⟩ : ∃ k0, rcut left l.length = k0 := ⟨_, rfl⟩
  have HK0 := Lib.hid hk0
  have HKL : Hid (k0 ≤ l.length) := Lib.hid (by subst hk0; unfold rcut; split <;> omega)
  have HKB : Hid ((k0 : Int) ≤ left) := Lib.hid (by subst hk0; unfold rcut; split <;> omega)
  have HKV : Hid ((k0 : Int) = left ∧ k0 < l.length) := Lib.hid (by subst hk0; unfold rcut; split <;> omega)
  have HG0 : Hid (rgoes left l.length = true) := Lib.hid (by unfold rgoes; simp; omega)
  have HL0 : Hid (rleft left l.length = 0) := Lib.hid (by unfold rleft rcut; ((repeat (split <;> try omega)); try omega) <;> omega)
  clear hl hab hm hle hwr hls ho hn hk0
  obtain ⟨Q, hQ⟩ : ∃ Q, RWrote w a b l left nw ls 1 = Q := ⟨_, rfl⟩
  have HQ := Lib.hid hQ
  rw [hQ]
  clear hQ
  unfold rv rvc
  go_enter Try.func20, Try.ntmps20
  go_upto_region 5 with fail
  refine wp_region_lit ?_
  refine wpList_plain rfl (fun K hK => ?_)
  go_simp
  refine hK _ _ ?_
  clear hK K
  refine wpList_plain rfl (fun K hK => ?_)
  go_simp
  refine hK _ _ ?_
  clear hK K
  refine wpList_plain rfl (fun K hK => ?_)
  go_simp
  refine hK _ _ ?_
  clear hK K
  have hG1 : (((w.alloc (Obj.cells #[Value.string { data := a.toArray }, Value.string { data := b.toArray }, Value.int IntKind.i64 left, Value.bool false, Value.int IntKind.i64 nw, Value.slice p ls.length c] 44)).alloc (Obj.cells #[Value.string { data := #[] }, Value.string { data := #[] }, Value.int IntKind.i64 0, Value.bool false, Value.int IntKind.i64 0, Value.slice none 0 0] 44)).alloc (Obj.cells #[] 9)).heap[w.heap.size]? = some (Obj.cells #[Value.string { data := a.toArray }, Value.string { data := b.toArray }, Value.int IntKind.i64 left, Value.bool false, Value.int IntKind.i64 nw, Value.slice p ls.length c] 44 (0, 0)) := blk_alloc (blk_alloc (blk_new rfl) _) _
  have hR1 : (((w.alloc (Obj.cells #[Value.string { data := a.toArray }, Value.string { data := b.toArray }, Value.int IntKind.i64 left, Value.bool false, Value.int IntKind.i64 nw, Value.slice p ls.length c] 44)).alloc (Obj.cells #[Value.string { data := #[] }, Value.string { data := #[] }, Value.int IntKind.i64 0, Value.bool false, Value.int IntKind.i64 0, Value.slice none 0 0] 44)).alloc (Obj.cells #[] 9)).heap[w.heap.size + 1]? = some (Obj.cells #[Value.string { data := #[] }, Value.string { data := #[] }, Value.int IntKind.i64 0, Value.bool false, Value.int IntKind.i64 0, Value.slice none 0 0] 44 (0, 0)) := blk_alloc (blk_new (by simp)) _
  have hB1 : Below w.heap.size w (((w.alloc (Obj.cells #[Value.string { data := a.toArray }, Value.string { data := b.toArray }, Value.int IntKind.i64 left, Value.bool false, Value.int IntKind.i64 nw, Value.slice p ls.length c] 44)).alloc (Obj.cells #[Value.string { data := #[] }, Value.string { data := #[] }, Value.int IntKind.i64 0, Value.bool false, Value.int IntKind.i64 0, Value.slice none 0 0] 44)).alloc (Obj.cells #[] 9)) := b_alloc (b_alloc (b_alloc (Below.refl _ _) _) _) _
  have hE1 : (((w.alloc (Obj.cells #[Value.string { data := a.toArray }, Value.string { data := b.toArray }, Value.int IntKind.i64 left, Value.bool false, Value.int IntKind.i64 nw, Value.slice p ls.length c] 44)).alloc (Obj.cells #[Value.string { data := #[] }, Value.string { data := #[] }, Value.int IntKind.i64 0, Value.bool false, Value.int IntKind.i64 0, Value.slice none 0 0] 44)).alloc (Obj.cells #[] 9)).ownsRow w.heap.size 9 1 (.slice (some ⟨w.heap.size + 1 + 1, 0, none⟩) 0 0) 0 [] := by
    have h := own_empty9 (w := (w.alloc (Obj.cells #[Value.string { data := a.toArray }, Value.string { data := b.toArray }, Value.int IntKind.i64 left, Value.bool false, Value.int IntKind.i64 nw, Value.slice p ls.length c] 44)).alloc (Obj.cells #[Value.string { data := #[] }, Value.string { data := #[] }, Value.int IntKind.i64 0, Value.bool false, Value.int IntKind.i64 0, Value.slice none 0 0] 44)) (base := w.heap.size) (by simp; try omega)
    simpa using h
  obtain ⟨G, hGG⟩ : ∃ G, w.heap.size = G := ⟨_, rfl⟩
  have HGG := Lib.hid hGG
  simp only [hGG] at hG1 hR1 hE1 ⊢
  clear hGG
  refine wpList_app_all rfl _ _ rfl rfl G base (G + 1 + 1) ls.length c p (strs ls) rfl rfl hE1 (own_below HO.out hB1) strs_one (by have := HLS.out; omega) (by have := hB1.size; have := HGG.out; omega) ?_
  intro g1 c1 w2 ho2 hg2
  have hG2 := blk_grown hG1 hg2 (by intro e; injection e; omega)
  have hR2 := blk_grown hR1 hg2 (by intro e; injection e; omega)
  have hB2 := b_row hB1 hg2 (by have := HGG.out; omega)
  have HG2 := Lib.hid hG2
  have HR2 := Lib.hid hR2
  have HB2 := Lib.hid hB2
  have HO2 := Lib.hid ho2
  clear hG1 hR1 hB1 hE1 ho2 hg2 hG2 hR2 hB2
  refine wpList_plain rfl (fun K hK => ?_)
  go_simp
  refine hK _ _ ?_
  clear hK K
  refine wpList_plain rfl (fun K hK => ?_)
  go_simp
  refine hK _ _ ?_
  clear hK K
  refine wpList_app _ rfl _ _ _ rfl G 9 (.string ⟨#[]⟩) 1 16 Try.underlying42 info9 rfl (by decide) (.slice (some ⟨g1, 0, none⟩) ls.length c1) ls.length (strs ls) rfl ⟨w2.heap.size, 0, none⟩ 1 1 [.string ⟨l.toArray⟩] rfl rfl (by intro u hu; rw [List.mem_singleton.1 hu]; rfl) (by decide) (by have := HLS.out; unfold maxLen; omega) (by have := HLS.out; omega) (own_below HO2.out (b_alloc (Below.refl _ _) _)) (news_one (blk_new rfl)) (by have := HB2.out.size; have := HGG.out; simp; omega) ?_
  intro g2 c2 w3 hA
  have HA : Hid (w3.ownsRow G 9 1 (.slice (some ⟨g2, 0, none⟩) (ls.length + 1) c2) (ls.length + 1) (strs (ls ++ [l]))) := Lib.hid (by have h := hA.own; rw [strs_snoc] at h; exact h)
  have hg1 : G ≠ g1 ∧ G + 1 ≠ g1 := by
    obtain ⟨_, h1, _⟩ := own_block HO2.out rfl
    exact ⟨blk_ne HG2.out h1 (by decide), blk_ne HR2.out h1 (by decide)⟩
  have HG3 := Lib.hid (blk_grown (blk_alloc HG2.out _) hA.grow (fun e => hg1.1 (Option.some.inj e)))
  have HR3 := Lib.hid (blk_grown (blk_alloc HR2.out _) hA.grow (fun e => hg1.2 (Option.some.inj e)))
  have HB3 : Hid (Below w.heap.size w w3) := Lib.hid (hA.below (b_alloc HB2.out _) (by have := HGG.out; omega))
  have hg2 : G ≠ g2 ∧ G + 1 ≠ g2 := by
    obtain ⟨_, h1, _⟩ := own_block HA.out rfl
    exact ⟨blk_ne HG3.out h1 (by decide), blk_ne HR3.out h1 (by decide)⟩
  have hg5 : w3.cell? ⟨G, 5, none⟩ = some (.slice p ls.length c) := (cell_of_row _ _ _ _ _ _ HG3.out).trans rfl
  have hf5 : w3.frozen? ⟨G, 5, none⟩ = false := frozen_of_row _ _ _ _ _ HG3.out
  clear hA HG2 HR2 HB2 HO2 hg1
  go_wp2_with fail
  have hrow4 := heap_setCell_same w3 G 5 _ _ (.slice (some ⟨g2, 0, none⟩) (ls.length + 1) c2) HG3.out
  have hgr4 : w3.grownBy (w3.setCell ⟨G, 5, none⟩ (.slice (some ⟨g2, 0, none⟩) (ls.length + 1) c2)) (some G) := gb_set (gb_refl _ _) _ _
  generalize hw4 : w3.setCell ⟨G, 5, none⟩ (.slice (some ⟨g2, 0, none⟩) (ls.length + 1) c2) = w4 at *
  have HB4 : Hid (Below w.heap.size w w4) := Lib.hid (b_row HB3.out hgr4 (by have := HGG.out; omega))
  have HA4 : Hid (w4.ownsRow G 9 1 (.slice (some ⟨g2, 0, none⟩) (ls.length + 1) c2) (ls.length + 1) (strs (ls ++ [l]))) := Lib.hid (own_fr (Fr.of_grown (S := fun q => q = G) hgr4 rfl) HA.out (fun q hq => by cases hq; exact fun e => hg2.1 e.symm))
  have HR4 := Lib.hid (blk_grown HR3.out hgr4 (by intro e; injection e; omega))
  have HG4 := Lib.hid hrow4
  clear hw4 hrow4 hgr4 HB3 HA HR3 HG3 hg5 hf5
  go_loopw [8] (fun i wx => ∃ (k : Nat) (L : Int), k ≤ k0 ∧ i = .int .i64 (k : Int) ∧ Hid (L = if 0 < left then left - k else left) ∧ Hid (wx.heap[G]? = some (.cells #[.string ⟨a.toArray⟩, .string ⟨b.toArray⟩, .int .i64 L, .bool false, .int .i64 nw, .slice (some ⟨g2, 0, none⟩) (ls.length + 1) c2] 44 (0, 0))) ∧ Hid (wx.heap[G + 1]? = some (.cells #[.string ⟨#[]⟩, .string ⟨#[]⟩, .int .i64 0, .bool false, .int .i64 0, .slice none 0 0] 44 (0, 0))) ∧ Hid (wx.ownsRow G 9 1 (.slice (some ⟨g2, 0, none⟩) (ls.length + 1) c2) (ls.length + 1) (strs (ls ++ [l]))) ∧ Hid (Below w.heap.size w wx)) (fun i _ => k0 - (intOf i).toNat)
  case atStart => exact ⟨0, left, Nat.zero_le _, rfl, Lib.hid (by split <;> omega), HG4, HR4, HA4, HB4⟩
  case round =>
    obtain ⟨k, L, hk, rfl, HLv, HGr, HRr, HOr, HBr⟩ := hrel
    have hc2 : wr.cell? ⟨G, 2, none⟩ = some (.int .i64 L) := (cell_of_row _ _ _ _ _ _ HGr.out).trans rfl
    have hf2 : wr.frozen? ⟨G, 2, none⟩ = false := frozen_of_row _ _ _ _ _ HGr.out
    clear HG4 HR4 HA4 HB4
    by_cases hlt : k < k0
    · obtain ⟨hki, hl0, hlp, hln, hlw⟩ := lp_b HLE.out.2 HKB.out HKL.out HLv.out hlt
      have HLN := Lib.hid hln
      have HLW := Lib.hid hlw
      have HWK := Lib.hid (lp_w hlt HKL.out (by have := HL.out; have := HM.out; omega))
      have HMS := Lib.hid (lp_m hlt)
      clear hlt hk hln hlw
      go_wp2_with fail
      rw [HWK.out, HLW.out]
      go_roundw
      case rel => exact ⟨k + 1, L - 1, HMS.out.1, rfl, HLN, Lib.hid (heap_setCell_same wr G 2 _ _ (.int .i64 (L - 1)) HGr.out), Lib.hid (blk_grown HRr.out (gb_set (gb_refl _ _) _ _) (by intro e; injection e; omega)), Lib.hid (own_fr (Fr.of_grown (S := fun q => q = G) (gb_set (gb_refl _ _) _ _) rfl) HOr.out (fun q hq => by cases hq; exact fun e => hg2.1 e.symm)), Lib.hid (b_row HBr.out (gb_set (gb_refl _ _) _ _) (by have := HGG.out; omega))⟩
      case measure => exact HMS.out.2
    · obtain rfl : k = k0 := Nat.le_antisymm hk (Nat.le_of_not_lt hlt)
      obtain rfl : L = rleft left l.length := by rw [HLv.out]; unfold rleft; rw [HK0.out]
      have hka : (k : Int) ≤ (b.length : Int) ∧ k ≤ b.length := by have := HKL.out; have := HL.out; have := HAB.out; omega
      have hkl : (k : Int) ≤ (l.length : Int) ∧ k ≤ l.length := by have := HKL.out; omega
      have hki : (k : Int) < (l.length : Int) := by have := HKV.out; omega
      obtain ⟨e1, e2 | ⟨gg, cap, cur, hv, hbg, hgg, h6⟩⟩ := id HOr.out
      · cases e2.1
      simp only [Value.slice.injEq, Option.some.injEq, Addr.mk.injEq] at hv
      obtain ⟨⟨hgx, _⟩, _, hcx⟩ := hv
      subst hgx hcx
      clear e1
      rw [HL0.out] at HGr hc2
      clear HLv hlt hk
      clear hc2 hf2
      have hc2 : wr.cell? ⟨G, 2, none⟩ = some (.int .i64 0) := (cell_of_row _ _ _ _ _ _ HGr.out).trans rfl
      go_upto_region 11 with fail
      refine reg (Stays [(G + 1, .cells #[.string ⟨#[]⟩, .string ⟨#[]⟩, .int .i64 0, .bool false, .int .i64 0, .slice none 0 0] 44 (0, 0)), (g2, .cells cur 9 (0, 0))] w) (Turns [(G + 1, .cells #[.string ⟨#[]⟩, .string ⟨#[]⟩, .int .i64 0, .bool false, .int .i64 0, .slice none 0 0] 44 (0, 0)), (g2, .cells cur 9 (0, 0))] w) (kdOf [(7, .touch), (13, .touch)]) (none0.has G (.cells #[.string ⟨a.toArray⟩, .string ⟨b.toArray⟩, .int .i64 0, .bool false, .int .i64 nw, .slice (some ⟨g2, 0, none⟩) (ls.length + 1) c2] 44 (0, 0))) (stays_good _ _) (by kernel_rfl) (by kernel_rfl) (stays_drew (stays_cons HRr.out (stays_cons hgg (stays_nil HBr.out)))) (holds_has (holds0 _) HGr.out (turns_cons (by omega) (turns_cons hg2.1.symm (turns_nil (by have := HGG.out; omega))))) ?_
      refine g_look rfl rfl ?_ (fun w' hC => ?_) ?_
      rotate_left
      · go_simp
        first | done | rfl
      simp only [Act.put, List.setIfInBounds_toArray, List.set_cons_zero, List.set_cons_succ]
      refine g_look rfl rfl ?_ (fun w' hC => ?_) ?_
      rotate_left
      · go_simp
        first | done | rfl
      simp only [Act.put, List.setIfInBounds_toArray, List.set_cons_zero, List.set_cons_succ]
      refine g_look rfl rfl ?_ (fun w' hC => ?_) ?_
      rotate_left
      · go_simp
        first | done | rfl
      simp only [Act.put, List.setIfInBounds_toArray, List.set_cons_zero, List.set_cons_succ]
      refine g_look rfl rfl (.string ⟨(l.take k).toArray⟩) (fun w' hC => ?_) ?_
      · go_simp
        first | done | exact ⟨congrArg Value.string (take_st k), rfl⟩ | exact take_st k
      simp only [Act.put, List.setIfInBounds_toArray, List.set_cons_zero, List.set_cons_succ]
      refine g_look rfl rfl ?_ (fun w' hC => ?_) ?_
      rotate_left
      · go_simp
        first | done | rfl
      simp only [Act.put, List.setIfInBounds_toArray, List.set_cons_zero, List.set_cons_succ]
      refine g_look rfl rfl ?_ (fun w' hC => ?_) ?_
      rotate_left
      · go_simp
        first | done | rfl
      simp only [Act.put, List.setIfInBounds_toArray, List.set_cons_zero, List.set_cons_succ]
      refine g_look rfl rfl ?_ (fun w' hC => ?_) ?_
      rotate_left
      · go_simp
        first | done | rfl
      simp only [Act.put, List.setIfInBounds_toArray, List.set_cons_zero, List.set_cons_succ]
      refine g_touch G none _ (.cells #[.string ⟨a.toArray⟩, .string ⟨b.toArray⟩, .int .i64 0, .bool false, .int .i64 nw, .slice (some ⟨g2, 0, none⟩) (ls.length + 1) c2] 44 (0, 0)) (.string ⟨b.toArray⟩) (.tmp 60) rfl rfl rfl rfl (has_same _ _ _) rfl (fun w' hC hT hb => ?_) ?_
      · have c0 : w'.cell? ⟨G, 1, none⟩ = some (.string ⟨b.toArray⟩) := (cell_of_row _ _ _ _ _ _ hb).trans rfl
        refine ⟨.value (.string ⟨b.toArray⟩), w', ?_, Or.inl ⟨_, rfl⟩, rfl, hb, gb_refl _ _⟩
        clear hb hC
        go_simp
        first | done | rfl
      simp only [Act.put, List.setIfInBounds_toArray, List.set_cons_zero, List.set_cons_succ]
      refine g_look rfl rfl ?_ (fun w' hC => ?_) ?_
      rotate_left
      · go_simp
        first | done | rfl
      simp only [Act.put, List.setIfInBounds_toArray, List.set_cons_zero, List.set_cons_succ]
      refine g_look rfl rfl (.string ⟨(b.drop k).toArray⟩) (fun w' hC => ?_) ?_
      · go_simp
        first | done | exact ⟨congrArg Value.string (drop_st k), rfl⟩ | exact drop_st k
      simp only [Act.put, List.setIfInBounds_toArray, List.set_cons_zero, List.set_cons_succ]
      refine g_look rfl rfl (.string ⟨(over b l k).toArray⟩) (fun w' hC => ?_) ?_
      · have hbig : ¬ 9223372036854775807 < b.length := by have := HM.out; have := HAB.out; omega
        go_simp
        first | done | exact ⟨rfl, congrArg Value.string app_st⟩ | exact ⟨congrArg Value.string app_st, rfl⟩ | exact app_st
      simp only [Act.put, List.setIfInBounds_toArray, List.set_cons_zero, List.set_cons_succ]
      refine g_look rfl rfl ?_ (fun w' hC => ?_) ?_
      rotate_left
      · go_simp
        first | done | rfl
      simp only [Act.put, List.setIfInBounds_toArray, List.set_cons_zero, List.set_cons_succ]
      refine g_look rfl rfl ?_ (fun w' hC => ?_) ?_
      rotate_left
      · go_simp
        first | done | rfl
      simp only [Act.put, List.setIfInBounds_toArray, List.set_cons_zero, List.set_cons_succ]
      refine g_touch G (some 7) _ (.cells #[.string ⟨a.toArray⟩, .string ⟨(over b l k).toArray⟩, .int .i64 0, .bool false, .int .i64 nw, .slice (some ⟨g2, 0, none⟩) (ls.length + 1) c2] 44 (0, 0)) undef (.tmp 66) rfl rfl rfl rfl (own_new _ _ _ _) (by kernel_rfl) (fun w' hC hT hb => ?_) ?_
      · have c0 : w'.cell? ⟨G, 1, none⟩ = some (.string ⟨b.toArray⟩) := (cell_of_row _ _ _ _ _ _ hb).trans rfl
        have f0 : w'.frozen? ⟨G, 1, none⟩ = false := frozen_of_row _ _ _ _ _ hb
        refine ⟨.skip, w'.setCell ⟨G, 1, none⟩ (.string ⟨(over b l k).toArray⟩), ?_, Or.inr rfl, rfl, heap_setCell_same w' G 1 _ _ _ hb, gb_set (gb_refl _ _) _ _⟩
        clear hb hC
        go_simp
        first | done | rfl
      simp only [Act.put]
      refine g_end ?_
      intro w5 hC5 hh5
      have HG5 := Lib.hid ((hh5 _ _ _ (own_new _ _ _ _)).1)
      have HR5 := Lib.hid (stays_row hC5 (List.mem_cons_self ..))
      have HO5 : Hid (w5.ownsRow G 9 1 (.slice (some ⟨g2, 0, none⟩) (ls.length + 1) c2) (ls.length + 1) (strs (ls ++ [l]))) := Lib.hid ⟨by simp [strs], Or.inr ⟨g2, c2, cur, rfl, hbg, stays_row hC5 (List.mem_cons_of_mem _ (List.mem_cons_self ..)), h6⟩⟩
      have HB5 := Lib.hid (stays_below hC5)
      clear hC5 hh5 hgg h6 hbg HGr HRr HOr HBr hc2
      have hc4 : w5.cell? ⟨G, 4, none⟩ = some (.int .i64 nw) := (cell_of_row _ _ _ _ _ _ HG5.out).trans rfl
      have hf4 : w5.frozen? ⟨G, 4, none⟩ = false := frozen_of_row _ _ _ _ _ HG5.out
      have HWN : Hid (wrap64 (nw + (k : Int)) = nw + (k : Int)) := Lib.hid (unwrap64 (by have := HWR.out; have := HKL.out; have := HL.out; have := HM.out; omega))
      go_upto_region 13 with fail
      rw [HWN.out]
      have hrow6 := heap_setCell_same w5 G 4 _ _ (.int .i64 (nw + (k : Int))) HG5.out
      have hgr6 : w5.grownBy (w5.setCell ⟨G, 4, none⟩ (.int .i64 (nw + (k : Int)))) (some G) := gb_set (gb_refl _ _) _ _
      generalize hw6 : w5.setCell ⟨G, 4, none⟩ (.int .i64 (nw + (k : Int))) = w6 at *
      have HB6 : Hid (Below w.heap.size w w6) := Lib.hid (b_row HB5.out hgr6 (by have := HGG.out; omega))
      have HO6 : Hid (w6.ownsRow G 9 1 (.slice (some ⟨g2, 0, none⟩) (ls.length + 1) c2) (ls.length + 1) (strs (ls ++ [l]))) := Lib.hid (own_fr (Fr.of_grown (S := fun q => q = G) hgr6 rfl) HO5.out (fun q hq => by cases hq; exact fun e => hg2.1 e.symm))
      have HR6 := Lib.hid (blk_grown HR5.out hgr6 (by intro e; injection e; omega))
      have HG6 : Hid (w6.heap[G]? = some (.cells #[.string ⟨a.toArray⟩, .string ⟨(over b l k).toArray⟩, .int .i64 0, .bool false, .int .i64 (nw + (k : Int)), .slice (some ⟨g2, 0, none⟩) (ls.length + 1) c2] 44 (0, 0))) := Lib.hid hrow6
      clear hw6 hrow6 hgr6 HB5 HO5 HR5 HG5 hc4 hf4
      have hc2 : w6.cell? ⟨G, 2, none⟩ = some (.int .i64 0) := (cell_of_row _ _ _ _ _ _ HG6.out).trans rfl
      have hc3 : w6.cell? ⟨G, 3, none⟩ = some (.bool false) := (cell_of_row _ _ _ _ _ _ HG6.out).trans rfl
      have hf3 : w6.frozen? ⟨G, 3, none⟩ = false := frozen_of_row _ _ _ _ _ HG6.out
      go_upto_region 15 with fail
      have hrow7 := heap_setCell_same w6 G 3 _ _ (.bool true) HG6.out
      have hgr7 : w6.grownBy (w6.setCell ⟨G, 3, none⟩ (.bool true)) (some G) := gb_set (gb_refl _ _) _ _
      generalize hw7 : w6.setCell ⟨G, 3, none⟩ (.bool true) = w7 at *
      have HB7 : Hid (Below w.heap.size w w7) := Lib.hid (b_row HB6.out hgr7 (by have := HGG.out; omega))
      have HO7 : Hid (w7.ownsRow G 9 1 (.slice (some ⟨g2, 0, none⟩) (ls.length + 1) c2) (ls.length + 1) (strs (ls ++ [l]))) := Lib.hid (own_fr (Fr.of_grown (S := fun q => q = G) hgr7 rfl) HO6.out (fun q hq => by cases hq; exact fun e => hg2.1 e.symm))
      have HR7 := Lib.hid (blk_grown HR6.out hgr7 (by intro e; injection e; omega))
      have HG7 : Hid (w7.heap[G]? = some (.cells #[.string ⟨a.toArray⟩, .string ⟨(over b l k).toArray⟩, .int .i64 0, .bool true, .int .i64 (nw + (k : Int)), .slice (some ⟨g2, 0, none⟩) (ls.length + 1) c2] 44 (0, 0))) := Lib.hid hrow7
      clear hw7 hrow7 hgr7 HB6 HO6 HR6 HG6 hc3 hf3
      clear hc2
      refine wp_region_lit ?_
      refine wpList_load_row rfl 44 _ rfl G rfl 44 _ (0, 0) _ HG7.out Try.underlying44 rfl info44 ?_
      refine wpList_store_blk rfl 44 _ _ rfl (G + 1) 44 _ _ rfl rfl HR7.out rfl info44 (by simp [Value.oneCell']) ?_
      intro w8 h8 g8
      have HW8 := Lib.hid h8
      have HB8 : Hid (Below w.heap.size w w8) := Lib.hid (b_row HB7.out g8 (by have := HGG.out; omega))
      have HO8 : Hid (w8.ownsRow G 9 1 (.slice (some ⟨g2, 0, none⟩) (ls.length + 1) c2) (ls.length + 1) (strs (ls ++ [l]))) := Lib.hid (own_fr (Fr.of_grown (S := fun q => q = G + 1) g8 rfl) HO7.out (fun q hq => by cases hq; exact fun e => hg2.2 e.symm))
      clear h8 g8
      go_wp2_with fail
      refine bodyPost_ret (results_w20 (g := G + 1) (s0 := ⟨a.toArray⟩) (s1 := ⟨(over b l k).toArray⟩) (l := 0) (o := true) (n := nw + (k : Int)) (p := some ⟨g2, 0, none⟩) (k := ls.length + 1) (c := c2) HW8.out) rfl ?_
      rw [← HQ.out]
      refine ⟨some ⟨g2, 0, none⟩, c2, ?_, by rw [HGG.out]; exact HO8.out, HB8.out⟩
      rw [HL0.out, HG0.out, HK0.out]
      rfl
set_option maxHeartbeats 4000000 in
set_option maxRecDepth 100000 in
theorem rwrite_1c (w : World) (base : Nat) (a b l : List UInt8) (left nw : Int) (p : Option Addr) (c : Nat) (ls : List (List UInt8)) (hl : l.length ≤ a.length) (hab : b.length = a.length) (hm : a.length ≤ 262144) (hle : -1 ≤ left ∧ left ≤ 9223372036854775807) (hwr : 0 ≤ nw ∧ nw < 4611686018427387904) (hls : ls.length ≤ 999) (ho : w.ownsRow base 9 1 (.slice p ls.length c) ls.length (strs ls)) (hn : left = l.length) : Calls Try.prog 20 #[rv ⟨a.toArray⟩ ⟨b.toArray⟩ left false nw p ls.length c, .int .i64 1, .string ⟨l.toArray⟩] w (RWrote w a b l left nw ls 1) := by
  have HO := Lib.hid ho
  have HL := Lib.hid hl
  have HAB := Lib.hid hab
  have HM := Lib.hid hm
  have HLE := Lib.hid hle
  have HWR := Lib.hid hwr
  have HLS := Lib.hid hls
  have HN := Lib.hid hn
  have i1 : ¬ (a.length : Int) < (l.length : Int) := by omega
  have i2 : ¬ a.length < l.length := by omega
  obtain ⟨k0, hk0⟩ : ∃ k0, rcut left l.length = k0 := ⟨_, rfl⟩
  have HK0 := Lib.hid hk0
  have HKL : Hid (k0 ≤ l.length) := Lib.hid (by subst hk0; unfold rcut; split <;> omega)
  have HKB : Hid ((k0 : Int) ≤ left) := Lib.hid (by subst hk0; unfold rcut; split <;> omega)
  have HKV : Hid (k0 = l.length) := Lib.hid (by subst hk0; unfold rcut; split <;> omega)
  have HG0 : Hid (rgoes left l.length = true) := Lib.hid (by unfold rgoes; simp; omega)
  have HL0 : Hid (rleft left l.length = 0) := Lib.hid (by unfold rleft rcut; ((repeat (split <;> try omega)); try omega) <;> omega)
  clear hl hab hm hle hwr hls ho hn hk0
  obtain ⟨Q, hQ⟩ : ∃ Q, RWrote w a b l left nw ls 1 = Q := ⟨_, rfl⟩
  have HQ := Lib.hid hQ
  rw [hQ]
  clear hQ
  unfold rv rvc
  go_enter Try.func20, Try.ntmps20
  go_upto_region 5 with fail
  refine wp_region_lit ?_
  refine wpList_plain rfl (fun K hK => ?_)
  go_simp
  refine hK _ _ ?_
  clear hK K
  refine wpList_plain rfl (fun K hK => ?_)
  go_simp
  refine hK _ _ ?_
  clear hK K
  refine wpList_plain rfl (fun K hK => ?_)
  go_simp
  refine hK _ _ ?_
  clear hK K
  have hG1 : (((w.alloc (Obj.cells #[Value.string { data := a.toArray }, Value.string { data := b.toArray }, Value.int IntKind.i64 left, Value.bool false, Value.int IntKind.i64 nw, Value.slice p ls.length c] 44)).alloc (Obj.cells #[Value.string { data := #[] }, Value.string { data := #[] }, Value.int IntKind.i64 0, Value.bool false, Value.int IntKind.i64 0, Value.slice none 0 0] 44)).alloc (Obj.cells #[] 9)).heap[w.heap.size]? = some (Obj.cells #[Value.string { data := a.toArray }, Value.string { data := b.toArray }, Value.int IntKind.i64 left, Value.bool false, Value.int IntKind.i64 nw, Value.slice p ls.length c] 44 (0, 0)) := blk_alloc (blk_alloc (blk_new rfl) _) _
  have hR1 : (((w.alloc (Obj.cells #[Value.string { data := a.toArray }, Value.string { data := b.toArray }, Value.int IntKind.i64 left, Value.bool false, Value.int IntKind.i64 nw, Value.slice p ls.length c] 44)).alloc (Obj.cells #[Value.string { data := #[] }, Value.string { data := #[] }, Value.int IntKind.i64 0, Value.bool false, Value.int IntKind.i64 0, Value.slice none 0 0] 44)).alloc (Obj.cells #[] 9)).heap[w.heap.size + 1]? = some (Obj.cells #[Value.string { data := #[] }, Value.string { data := #[] }, Value.int IntKind.i64 0, Value.bool false, Value.int IntKind.i64 0, Value.slice none 0 0] 44 (0, 0)) := blk_alloc (blk_new (by simp)) _
  have hB1 : Below w.heap.size w (((w.alloc (Obj.cells #[Value.string { data := a.toArray }, Value.string { data := b.toArray }, Value.int IntKind.i64 left, Value.bool false, Value.int IntKind.i64 nw, Value.slice p ls.length c] 44)).alloc (Obj.cells #[Value.string { data := #[] }, Value.string { data := #[] }, Value.int IntKind.i64 0, Value.bool false, Value.int IntKind.i64 0, Value.slice none 0 0] 44)).alloc (Obj.cells #[] 9)) := b_alloc (b_alloc (b_alloc (Below.refl _ _) _) _) _
  have hE1 : (((w.alloc (Obj.cells #[Value.string { data := a.toArray }, Value.string { data := b.toArray }, Value.int IntKind.i64 left, Value.bool false, Value.int IntKind.i64 nw, Value.slice p ls.length c] 44)).alloc (Obj.cells #[Value.string { data := #[] }, Value.string { data := #[] }, Value.int IntKind.i64 0, Value.bool false, Value.int IntKind.i64 0, Value.slice none 0 0] 44)).alloc (Obj.cells #[] 9)).ownsRow w.heap.size 9 1 (.slice (some ⟨w.heap.size + 1 + 1, 0, none⟩) 0 0) 0 [] := by
    have h := own_empty9 (w := (w.alloc (Obj.cells #[Value.string { data := a.toArray }, Value.string { data := b.toArray }, Value.int IntKind.i64 left, Value.bool false, Value.int IntKind.i64 nw, Value.slice p ls.length c] 44)).alloc (Obj.cells #[Value.string { data := #[] }, Value.string { data := #[] }, Value.int IntKind.i64 0, Value.bool false, Value.int IntKind.i64 0, Value.slice none 0 0] 44)) (base := w.heap.size) (by simp; try omega)
    simpa using h
  obtain ⟨G, hGG⟩ : ∃ G, w.heap.size = G := ⟨_, rfl⟩
  have HGG := Lib.hid hGG
  simp only [hGG] at hG1 hR1 hE1 ⊢
  clear hGG
  refine wpList_app_all rfl _ _ rfl rfl G base (G + 1 + 1) ls.length c p (strs ls) rfl rfl hE1 (own_below HO.out hB1) strs_one (by have := HLS.out; omega) (by have := hB1.size; have := HGG.out; omega) ?_
  intro g1 c1 w2 ho2 hg2
  have hG2 := blk_grown hG1 hg2 (by intro e; injection e; omega)
  have hR2 := blk_grown hR1 hg2 (by intro e; injection e; omega)
  have hB2 := b_row hB1 hg2 (by have := HGG.out; omega)
  have HG2 := Lib.hid hG2
  have HR2 := Lib.hid hR2
  have HB2 := Lib.hid hB2
  have HO2 := Lib.hid ho2
  clear hG1 hR1 hB1 hE1 ho2 hg2 hG2 hR2 hB2
  refine wpList_plain rfl (fun K hK => ?_)
  go_simp
  refine hK _ _ ?_
  clear hK K
  refine wpList_plain rfl (fun K hK => ?_)
  go_simp
  refine hK _ _ ?_
  clear hK K
  refine wpList_app _ rfl _ _ _ rfl G 9 (.string ⟨#[]⟩) 1 16 Try.underlying42 info9 rfl (by decide) (.slice (some ⟨g1, 0, none⟩) ls.length c1) ls.length (strs ls) rfl ⟨w2.heap.size, 0, none⟩ 1 1 [.string ⟨l.toArray⟩] rfl rfl (by intro u hu; rw [List.mem_singleton.1 hu]; rfl) (by decide) (by have := HLS.out; unfold maxLen; omega) (by have := HLS.out; omega) (own_below HO2.out (b_alloc (Below.refl _ _) _)) (news_one (blk_new rfl)) (by have := HB2.out.size; have := HGG.out; simp; omega) ?_
  intro g2 c2 w3 hA
  have HA : Hid (w3.ownsRow G 9 1 (.slice (some ⟨g2, 0, none⟩) (ls.length + 1) c2) (ls.length + 1) (strs (ls ++ [l]))) := Lib.hid (by have h := hA.own; rw [strs_snoc] at h; exact h)
  have hg1 : G ≠ g1 ∧ G + 1 ≠ g1 := by
    obtain ⟨_, h1, _⟩ := own_block HO2.out rfl
    exact ⟨blk_ne HG2.out h1 (by decide), blk_ne HR2.out h1 (by decide)⟩
  have HG3 := Lib.hid (blk_grown (blk_alloc HG2.out _) hA.grow (fun e => hg1.1 (Option.some.inj e)))
  have HR3 := Lib.hid (blk_grown (blk_alloc HR2.out _) hA.grow (fun e => hg1.2 (Option.some.inj e)))
  have HB3 : Hid (Below w.heap.size w w3) := Lib.hid (hA.below (b_alloc HB2.out _) (by have := HGG.out; omega))
  have hg2 : G ≠ g2 ∧ G + 1 ≠ g2 := by
    obtain ⟨_, h1, _⟩ := own_block HA.out rfl
    exact ⟨blk_ne HG3.out h1 (by decide), blk_ne HR3.out h1 (by decide)⟩
  have hg5 : w3.cell? ⟨G, 5, none⟩ = some (.slice p ls.length c) := (cell_of_row _ _ _ _ _ _ HG3.out).trans rfl
  have hf5 : w3.frozen? ⟨G, 5, none⟩ = false := frozen_of_row _ _ _ _ _ HG3.out
  clear hA HG2 HR2 HB2 HO2 hg1
  go_wp2_with fail
  have hrow4 := heap_setCell_same w3 G 5 _ _ (.slice (some ⟨g2, 0, none⟩) (ls.length + 1) c2) HG3.out
  have hgr4 : w3.grownBy (w3.setCell ⟨G, 5, none⟩ (.slice (some ⟨g2, 0, none⟩) (ls.length + 1) c2)) (some G) := gb_set (gb_refl _ _) _ _
  generalize hw4 : w3.setCell ⟨G, 5, none⟩ (.slice (some ⟨g2, 0, none⟩) (ls.length + 1) c2) = w4 at *
  have HB4 : Hid (Below w.heap.size w w4) := Lib.hid (b_row HB3.out hgr4 (by have := HGG.out; omega))
  have HA4 : Hid (w4.ownsRow G 9 1 (.slice (some ⟨g2, 0, none⟩) (ls.length + 1) c2) (ls.length + 1) (strs (ls ++ [l]))) := Lib.hid (own_fr (Fr.of_grown (S := fun q => q = G) hgr4 rfl) HA.out (fun q hq => by cases hq; exact fun e => hg2.1 e.symm))
  have HR4 := Lib.hid (blk_grown HR3.out hgr4 (by intro e; injection e; omega))
  have HG4 := Lib.hid hrow4
  clear hw4 hrow4 hgr4 HB3 HA HR3 HG3 hg5 hf5
  go_loopw [8] (fun i wx => ∃ (k : Nat) (L : Int), k ≤ k0 ∧ i = .int .i64 (k : Int) ∧ Hid (L = if 0 < left then left - k else left) ∧ Hid (wx.heap[G]? = some (.cells #[.string ⟨a.toArray⟩, .string ⟨b.toArray⟩, .int .i64 L, .bool false, .int .i64 nw, .slice (some ⟨g2, 0, none⟩) (ls.length + 1) c2] 44 (0, 0))) ∧ Hid (wx.heap[G + 1]? = some (.cells #[.string ⟨#[]⟩, .string ⟨#[]⟩, .int .i64 0, .bool false, .int .i64 0, .slice none 0 0] 44 (0, 0))) ∧ Hid (wx.ownsRow G 9 1 (.slice (some ⟨g2, 0, none⟩) (ls.length + 1) c2) (ls.length + 1) (strs (ls ++ [l]))) ∧ Hid (Below w.heap.size w wx)) (fun i _ => k0 - (intOf i).toNat)
  case atStart => exact ⟨0, left, Nat.zero_le _, rfl, Lib.hid (by split <;> omega), HG4, HR4, HA4, HB4⟩
  case round =>
    obtain ⟨k, L, hk, rfl, HLv, HGr, HRr, HOr, HBr⟩ := hrel
    have hc2 : wr.cell? ⟨G, 2, none⟩ = some (.int .i64 L) := (cell_of_row _ _ _ _ _ _ HGr.out).trans rfl
    have hf2 : wr.frozen? ⟨G, 2, none⟩ = false := frozen_of_row _ _ _ _ _ HGr.out
    clear HG4 HR4 HA4 HB4
    by_cases hlt : k < k0
    · obtain ⟨hki, hl0, hlp, hln, hlw⟩ := lp_b HLE.out.2 HKB.out HKL.out HLv.out hlt
      have HLN := Lib.hid hln
      have HLW := Lib.hid hlw
      have HWK := Lib.hid (lp_w hlt HKL.out (by have := HL.out; have := HM.out; omega))
      have HMS := Lib.hid (lp_m hlt)
      clear hlt hk hln hlw
      go_wp2_with fail
      rw [HWK.out, HLW.out]
      go_roundw
      case rel => exact ⟨k + 1, L - 1, HMS.out.1, rfl, HLN, Lib.hid (heap_setCell_same wr G 2 _ _ (.int .i64 (L - 1)) HGr.out), Lib.hid (blk_grown HRr.out (gb_set (gb_refl _ _) _ _) (by intro e; injection e; omega)), Lib.hid (own_fr (Fr.of_grown (S := fun q => q = G) (gb_set (gb_refl _ _) _ _) rfl) HOr.out (fun q hq => by cases hq; exact fun e => hg2.1 e.symm)), Lib.hid (b_row HBr.out (gb_set (gb_refl _ _) _ _) (by have := HGG.out; omega))⟩
      case measure => exact HMS.out.2
    · obtain rfl : k = k0 := Nat.le_antisymm hk (Nat.le_of_not_lt hlt)
      obtain rfl : L = rleft left l.length := by rw [HLv.out]; unfold rleft; rw [HK0.out]
      have hka : (k : Int) ≤ (b.length : Int) ∧ k ≤ b.length := by have := HKL.out; have := HL.out; have := HAB.out; omega
      have hkl : (k : Int) ≤ (l.length : Int) ∧ k ≤ l.length := by have := HKL.out; omega
      have hki : ¬ (k : Int) < (l.length : Int) := by have := HKV.out; omega
      obtain ⟨e1, e2 | ⟨gg, cap, cur, hv, hbg, hgg, h6⟩⟩ := id HOr.out
      · cases e2.1
      simp only [Value.slice.injEq, Option.some.injEq, Addr.mk.injEq] at hv
      obtain ⟨⟨hgx, _⟩, _, hcx⟩ := hv
      subst hgx hcx
      clear e1
      rw [HL0.out] at HGr hc2
      clear HLv hlt hk
      clear hc2 hf2
      have hc2 : wr.cell? ⟨G, 2, none⟩ = some (.int .i64 0) := (cell_of_row _ _ _ _ _ _ HGr.out).trans rfl
      go_upto_region 11 with fail
      refine reg (Stays [(G + 1, .cells #[.string ⟨#[]⟩, .string ⟨#[]⟩, .int .i64 0, .bool false, .int .i64 0, .slice none 0 0] 44 (0, 0)), (g2, .cells cur 9 (0, 0))] w) (Turns [(G + 1, .cells #[.string ⟨#[]⟩, .string ⟨#[]⟩, .int .i64 0, .bool false, .int .i64 0, .slice none 0 0] 44 (0, 0)), (g2, .cells cur 9 (0, 0))] w) (kdOf [(7, .touch), (13, .touch)]) (none0.has G (.cells #[.string ⟨a.toArray⟩, .string ⟨b.toArray⟩, .int .i64 0, .bool false, .int .i64 nw, .slice (some ⟨g2, 0, none⟩) (ls.length + 1) c2] 44 (0, 0))) (stays_good _ _) (by kernel_rfl) (by kernel_rfl) (stays_drew (stays_cons HRr.out (stays_cons hgg (stays_nil HBr.out)))) (holds_has (holds0 _) HGr.out (turns_cons (by omega) (turns_cons hg2.1.symm (turns_nil (by have := HGG.out; omega))))) ?_
      refine g_look rfl rfl ?_ (fun w' hC => ?_) ?_
      rotate_left
      · go_simp
        first | done | rfl
      simp only [Act.put, List.setIfInBounds_toArray, List.set_cons_zero, List.set_cons_succ]
      refine g_look rfl rfl ?_ (fun w' hC => ?_) ?_
      rotate_left
      · go_simp
        first | done | rfl
      simp only [Act.put, List.setIfInBounds_toArray, List.set_cons_zero, List.set_cons_succ]
      refine g_look rfl rfl ?_ (fun w' hC => ?_) ?_
      rotate_left
      · go_simp
        first | done | rfl
      simp only [Act.put, List.setIfInBounds_toArray, List.set_cons_zero, List.set_cons_succ]
      refine g_look rfl rfl (.string ⟨(l.take k).toArray⟩) (fun w' hC => ?_) ?_
      · go_simp
        first | done | exact ⟨congrArg Value.string (take_st k), rfl⟩ | exact take_st k
      simp only [Act.put, List.setIfInBounds_toArray, List.set_cons_zero, List.set_cons_succ]
      refine g_look rfl rfl ?_ (fun w' hC => ?_) ?_
      rotate_left
      · go_simp
        first | done | rfl
      simp only [Act.put, List.setIfInBounds_toArray, List.set_cons_zero, List.set_cons_succ]
      refine g_look rfl rfl ?_ (fun w' hC => ?_) ?_
      rotate_left
      · go_simp
        first | done | rfl
      simp only [Act.put, List.setIfInBounds_toArray, List.set_cons_zero, List.set_cons_succ]
      refine g_look rfl rfl ?_ (fun w' hC => ?_) ?_
      rotate_left
      · go_simp
        first | done | rfl
      simp only [Act.put, List.setIfInBounds_toArray, List.set_cons_zero, List.set_cons_succ]
      refine g_touch G none _ (.cells #[.string ⟨a.toArray⟩, .string ⟨b.toArray⟩, .int .i64 0, .bool false, .int .i64 nw, .slice (some ⟨g2, 0, none⟩) (ls.length + 1) c2] 44 (0, 0)) (.string ⟨b.toArray⟩) (.tmp 60) rfl rfl rfl rfl (has_same _ _ _) rfl (fun w' hC hT hb => ?_) ?_
      · have c0 : w'.cell? ⟨G, 1, none⟩ = some (.string ⟨b.toArray⟩) := (cell_of_row _ _ _ _ _ _ hb).trans rfl
        refine ⟨.value (.string ⟨b.toArray⟩), w', ?_, Or.inl ⟨_, rfl⟩, rfl, hb, gb_refl _ _⟩
        clear hb hC
        go_simp
        first | done | rfl
      simp only [Act.put, List.setIfInBounds_toArray, List.set_cons_zero, List.set_cons_succ]
      refine g_look rfl rfl ?_ (fun w' hC => ?_) ?_
      rotate_left
      · go_simp
        first | done | rfl
      simp only [Act.put, List.setIfInBounds_toArray, List.set_cons_zero, List.set_cons_succ]
      refine g_look rfl rfl (.string ⟨(b.drop k).toArray⟩) (fun w' hC => ?_) ?_
      · go_simp
        first | done | exact ⟨congrArg Value.string (drop_st k), rfl⟩ | exact drop_st k
      simp only [Act.put, List.setIfInBounds_toArray, List.set_cons_zero, List.set_cons_succ]
      refine g_look rfl rfl (.string ⟨(over b l k).toArray⟩) (fun w' hC => ?_) ?_
      · have hbig : ¬ 9223372036854775807 < b.length := by have := HM.out; have := HAB.out; omega
        go_simp
        first | done | exact ⟨rfl, congrArg Value.string app_st⟩ | exact ⟨congrArg Value.string app_st, rfl⟩ | exact app_st
      simp only [Act.put, List.setIfInBounds_toArray, List.set_cons_zero, List.set_cons_succ]
      refine g_look rfl rfl ?_ (fun w' hC => ?_) ?_
      rotate_left
      · go_simp
        first | done | rfl
      simp only [Act.put, List.setIfInBounds_toArray, List.set_cons_zero, List.set_cons_succ]
      refine g_look rfl rfl ?_ (fun w' hC => ?_) ?_
      rotate_left
      · go_simp
        first | done | rfl
      simp only [Act.put, List.setIfInBounds_toArray, List.set_cons_zero, List.set_cons_succ]
      refine g_touch G (some 7) _ (.cells #[.string ⟨a.toArray⟩, .string ⟨(over b l k).toArray⟩, .int .i64 0, .bool false, .int .i64 nw, .slice (some ⟨g2, 0, none⟩) (ls.length + 1) c2] 44 (0, 0)) undef (.tmp 66) rfl rfl rfl rfl (own_new _ _ _ _) (by kernel_rfl) (fun w' hC hT hb => ?_) ?_
      · have c0 : w'.cell? ⟨G, 1, none⟩ = some (.string ⟨b.toArray⟩) := (cell_of_row _ _ _ _ _ _ hb).trans rfl
        have f0 : w'.frozen? ⟨G, 1, none⟩ = false := frozen_of_row _ _ _ _ _ hb
        refine ⟨.skip, w'.setCell ⟨G, 1, none⟩ (.string ⟨(over b l k).toArray⟩), ?_, Or.inr rfl, rfl, heap_setCell_same w' G 1 _ _ _ hb, gb_set (gb_refl _ _) _ _⟩
        clear hb hC
        go_simp
        first | done | rfl
      simp only [Act.put]
      refine g_end ?_
      intro w5 hC5 hh5
      have HG5 := Lib.hid ((hh5 _ _ _ (own_new _ _ _ _)).1)
      have HR5 := Lib.hid (stays_row hC5 (List.mem_cons_self ..))
      have HO5 : Hid (w5.ownsRow G 9 1 (.slice (some ⟨g2, 0, none⟩) (ls.length + 1) c2) (ls.length + 1) (strs (ls ++ [l]))) := Lib.hid ⟨by simp [strs], Or.inr ⟨g2, c2, cur, rfl, hbg, stays_row hC5 (List.mem_cons_of_mem _ (List.mem_cons_self ..)), h6⟩⟩
      have HB5 := Lib.hid (stays_below hC5)
      clear hC5 hh5 hgg h6 hbg HGr HRr HOr HBr hc2
      have hc4 : w5.cell? ⟨G, 4, none⟩ = some (.int .i64 nw) := (cell_of_row _ _ _ _ _ _ HG5.out).trans rfl
      have hf4 : w5.frozen? ⟨G, 4, none⟩ = false := frozen_of_row _ _ _ _ _ HG5.out
      have HWN : Hid (wrap64 (nw + (k : Int)) = nw + (k : Int)) := Lib.hid (unwrap64 (by have := HWR.out; have := HKL.out; have := HL.out; have := HM.out; omega))
      go_upto_region 13 with fail
      rw [HWN.out]
      have hrow6 := heap_setCell_same w5 G 4 _ _ (.int .i64 (nw + (k : Int))) HG5.out
      have hgr6 : w5.grownBy (w5.setCell ⟨G, 4, none⟩ (.int .i64 (nw + (k : Int)))) (some G) := gb_set (gb_refl _ _) _ _
      generalize hw6 : w5.setCell ⟨G, 4, none⟩ (.int .i64 (nw + (k : Int))) = w6 at *
      have HB6 : Hid (Below w.heap.size w w6) := Lib.hid (b_row HB5.out hgr6 (by have := HGG.out; omega))
      have HO6 : Hid (w6.ownsRow G 9 1 (.slice (some ⟨g2, 0, none⟩) (ls.length + 1) c2) (ls.length + 1) (strs (ls ++ [l]))) := Lib.hid (own_fr (Fr.of_grown (S := fun q => q = G) hgr6 rfl) HO5.out (fun q hq => by cases hq; exact fun e => hg2.1 e.symm))
      have HR6 := Lib.hid (blk_grown HR5.out hgr6 (by intro e; injection e; omega))
      have HG6 : Hid (w6.heap[G]? = some (.cells #[.string ⟨a.toArray⟩, .string ⟨(over b l k).toArray⟩, .int .i64 0, .bool false, .int .i64 (nw + (k : Int)), .slice (some ⟨g2, 0, none⟩) (ls.length + 1) c2] 44 (0, 0))) := Lib.hid hrow6
      clear hw6 hrow6 hgr6 HB5 HO5 HR5 HG5 hc4 hf4
      have hc2 : w6.cell? ⟨G, 2, none⟩ = some (.int .i64 0) := (cell_of_row _ _ _ _ _ _ HG6.out).trans rfl
      have hc3 : w6.cell? ⟨G, 3, none⟩ = some (.bool false) := (cell_of_row _ _ _ _ _ _ HG6.out).trans rfl
      have hf3 : w6.frozen? ⟨G, 3, none⟩ = false := frozen_of_row _ _ _ _ _ HG6.out
      go_upto_region 15 with fail
      have hrow7 := heap_setCell_same w6 G 3 _ _ (.bool true) HG6.out
      have hgr7 : w6.grownBy (w6.setCell ⟨G, 3, none⟩ (.bool true)) (some G) := gb_set (gb_refl _ _) _ _
      generalize hw7 : w6.setCell ⟨G, 3, none⟩ (.bool true) = w7 at *
      have HB7 : Hid (Below w.heap.size w w7) := Lib.hid (b_row HB6.out hgr7 (by have := HGG.out; omega))
      have HO7 : Hid (w7.ownsRow G 9 1 (.slice (some ⟨g2, 0, none⟩) (ls.length + 1) c2) (ls.length + 1) (strs (ls ++ [l]))) := Lib.hid (own_fr (Fr.of_grown (S := fun q => q = G) hgr7 rfl) HO6.out (fun q hq => by cases hq; exact fun e => hg2.1 e.symm))
      have HR7 := Lib.hid (blk_grown HR6.out hgr7 (by intro e; injection e; omega))
      have HG7 : Hid (w7.heap[G]? = some (.cells #[.string ⟨a.toArray⟩, .string ⟨(over b l k).toArray⟩, .int .i64 0, .bool true, .int .i64 (nw + (k : Int)), .slice (some ⟨g2, 0, none⟩) (ls.length + 1) c2] 44 (0, 0))) := Lib.hid hrow7
      clear hw7 hrow7 hgr7 HB6 HO6 HR6 HG6 hc3 hf3
      clear hc2
      refine wp_region_lit ?_
      refine wpList_load_row rfl 44 _ rfl G rfl 44 _ (0, 0) _ HG7.out Try.underlying44 rfl info44 ?_
      refine wpList_store_blk rfl 44 _ _ rfl (G + 1) 44 _ _ rfl rfl HR7.out rfl info44 (by simp [Value.oneCell']) ?_
      intro w8 h8 g8
      have HW8 := Lib.hid h8
      have HB8 : Hid (Below w.heap.size w w8) := Lib.hid (b_row HB7.out g8 (by have := HGG.out; omega))
      have HO8 : Hid (w8.ownsRow G 9 1 (.slice (some ⟨g2, 0, none⟩) (ls.length + 1) c2) (ls.length + 1) (strs (ls ++ [l]))) := Lib.hid (own_fr (Fr.of_grown (S := fun q => q = G + 1) g8 rfl) HO7.out (fun q hq => by cases hq; exact fun e => hg2.2 e.symm))
      clear h8 g8
      go_wp2_with fail
      refine bodyPost_ret (results_w20 (g := G + 1) (s0 := ⟨a.toArray⟩) (s1 := ⟨(over b l k).toArray⟩) (l := 0) (o := true) (n := nw + (k : Int)) (p := some ⟨g2, 0, none⟩) (k := ls.length + 1) (c := c2) HW8.out) rfl ?_
      rw [← HQ.out]
      refine ⟨some ⟨g2, 0, none⟩, c2, ?_, by rw [HGG.out]; exact HO8.out, HB8.out⟩
      rw [HL0.out, HG0.out, HK0.out]
      rfl
set_option maxHeartbeats 4000000 in
set_option maxRecDepth 100000 in
theorem rwrite_1d (w : World) (base : Nat) (a b l : List UInt8) (left nw : Int) (p : Option Addr) (c : Nat) (ls : List (List UInt8)) (hl : l.length ≤ a.length) (hab : b.length = a.length) (hm : a.length ≤ 262144) (hle : -1 ≤ left ∧ left ≤ 9223372036854775807) (hwr : 0 ≤ nw ∧ nw < 4611686018427387904) (hls : ls.length ≤ 999) (ho : w.ownsRow base 9 1 (.slice p ls.length c) ls.length (strs ls)) (hn : (l.length : Int) < left) : Calls Try.prog 20 #[rv ⟨a.toArray⟩ ⟨b.toArray⟩ left false nw p ls.length c, .int .i64 1, .string ⟨l.toArray⟩] w (RWrote w a b l left nw ls 1) := by
  have HO := Lib.hid ho
  have HL := Lib.hid hl
  have HAB := Lib.hid hab
  have HM := Lib.hid hm
  have HLE := Lib.hid hle
  have HWR := Lib.hid hwr
  have HLS := Lib.hid hls
  have HN := Lib.hid hn
  have i1 : ¬ (a.length : Int) < (l.length : Int) := by omega
  have i2 : ¬ a.length < l.length := by omega
  obtain ⟨k0, hk0⟩ : ∃ k0, rcut left l.length = k0 := ⟨_, rfl⟩
  have HK0 := Lib.hid hk0
  have HKL : Hid (k0 ≤ l.length) := Lib.hid (by subst hk0; unfold rcut; split <;> omega)
  have HKB : Hid ((k0 : Int) ≤ left) := Lib.hid (by subst hk0; unfold rcut; split <;> omega)
  have HKV : Hid (k0 = l.length) := Lib.hid (by subst hk0; unfold rcut; split <;> omega)
  have HG0 : Hid (rgoes left l.length = false) := Lib.hid (by unfold rgoes; simp; omega)
  have HL0 : Hid (rleft left l.length = left - l.length) := Lib.hid (by unfold rleft rcut; ((repeat (split <;> try omega)); try omega) <;> omega)
  clear hl hab hm hle hwr hls ho hn hk0
  obtain ⟨Q, hQ⟩ : ∃ Q, RWrote w a b l left nw ls 1 = Q := ⟨_, rfl⟩
  have HQ := Lib.hid hQ
  rw [hQ]
  clear hQ
  unfold rv rvc
  go_enter Try.func20, Try.ntmps20
  go_upto_region 5 with fail
  refine wp_region_lit ?_
  refine wpList_plain rfl (fun K hK => ?_)
  go_simp
  refine hK _ _ ?_
  clear hK K
  refine wpList_plain rfl (fun K hK => ?_)
  go_simp
  refine hK _ _ ?_
  clear hK K
  refine wpList_plain rfl (fun K hK => ?_)
  go_simp
  refine hK _ _ ?_
  clear hK K
  have hG1 : (((w.alloc (Obj.cells #[Value.string { data := a.toArray }, Value.string { data := b.toArray }, Value.int IntKind.i64 left, Value.bool false, Value.int IntKind.i64 nw, Value.slice p ls.length c] 44)).alloc (Obj.cells #[Value.string { data := #[] }, Value.string { data := #[] }, Value.int IntKind.i64 0, Value.bool false, Value.int IntKind.i64 0, Value.slice none 0 0] 44)).alloc (Obj.cells #[] 9)).heap[w.heap.size]? = some (Obj.cells #[Value.string { data := a.toArray }, Value.string { data := b.toArray }, Value.int IntKind.i64 left, Value.bool false, Value.int IntKind.i64 nw, Value.slice p ls.length c] 44 (0, 0)) := blk_alloc (blk_alloc (blk_new rfl) _) _
  have hR1 : (((w.alloc (Obj.cells #[Value.string { data := a.toArray }, Value.string { data := b.toArray }, Value.int IntKind.i64 left, Value.bool false, Value.int IntKind.i64 nw, Value.slice p ls.length c] 44)).alloc (Obj.cells #[Value.string { data := #[] }, Value.string { data := #[] }, Value.int IntKind.i64 0, Value.bool false, Value.int IntKind.i64 0, Value.slice none 0 0] 44)).alloc (Obj.cells #[] 9)).heap[w.heap.size + 1]? = some (Obj.cells #[Value.string { data := #[] }, Value.string { data := #[] }, Value.int IntKind.i64 0, Value.bool false, Value.int IntKind.i64 0, Value.slice none 0 0] 44 (0, 0)) := blk_alloc (blk_new (by simp)) _
  have hB1 : Below w.heap.size w (((w.alloc (Obj.cells #[Value.string { data := a.toArray }, Value.string { data := b.toArray }, Value.int IntKind.i64 left, Value.bool false, Value.int IntKind.i64 nw, Value.slice p ls.length c] 44)).alloc (Obj.cells #[Value.string { data := #[] }, Value.string { data := #[] }, Value.int IntKind.i64 0, Value.bool false, Value.int IntKind.i64 0, Value.slice none 0 0] 44)).alloc (Obj.cells #[] 9)) := b_alloc (b_alloc (b_alloc (Below.refl _ _) _) _) _
  have hE1 : (((w.alloc (Obj.cells #[Value.string { data := a.toArray }, Value.string { data := b.toArray }, Value.int IntKind.i64 left, Value.bool false, Value.int IntKind.i64 nw, Value.slice p ls.length c] 44)).alloc (Obj.cells #[Value.string { data := #[] }, Value.string { data := #[] }, Value.int IntKind.i64 0, Value.bool false, Value.int IntKind.i64 0, Value.slice none 0 0] 44)).alloc (Obj.cells #[] 9)).ownsRow w.heap.size 9 1 (.slice (some ⟨w.heap.size + 1 + 1, 0, none⟩) 0 0) 0 [] := by
    have h := own_empty9 (w := (w.alloc (Obj.cells #[Value.string { data := a.toArray }, Value.string { data := b.toArray }, Value.int IntKind.i64 left, Value.bool false, Value.int IntKind.i64 nw, Value.slice p ls.length c] 44)).alloc (Obj.cells #[Value.string { data := #[] }, Value.string { data := #[] }, Value.int IntKind.i64 0, Value.bool false, Value.int IntKind.i64 0, Value.slice none 0 0] 44)) (base := w.heap.size) (by simp; try omega)
    simpa using h
  obtain ⟨G, hGG⟩ : ∃ G, w.heap.size = G := ⟨_, rfl⟩
  have HGG := Lib.hid hGG
  simp only [hGG] at hG1 hR1 hE1 ⊢
  clear hGG
  refine wpList_app_all rfl _ _ rfl rfl G base (G + 1 + 1) ls.length c p (strs ls) rfl rfl hE1 (own_below HO.out hB1) strs_one (by have := HLS.out; omega) (by have := hB1.size; have := HGG.out; omega) ?_
  intro g1 c1 w2 ho2 hg2
  have hG2 := blk_grown hG1 hg2 (by intro e; injection e; omega)
  have hR2 := blk_grown hR1 hg2 (by intro e; injection e; omega)
  have hB2 := b_row hB1 hg2 (by have := HGG.out; omega)
  have HG2 := Lib.hid hG2
  have HR2 := Lib.hid hR2
  have HB2 := Lib.hid hB2
  have HO2 := Lib.hid ho2
  clear hG1 hR1 hB1 hE1 ho2 hg2 hG2 hR2 hB2
  refine wpList_plain rfl (fun K hK => ?_)
  go_simp
  refine hK _ _ ?_
  clear hK K
  refine wpList_plain rfl (fun K hK => ?_)
  go_simp
  refine hK _ _ ?_
  clear hK K
  refine wpList_app _ rfl _ _ _ rfl G 9 (.string ⟨#[]⟩) 1 16 Try.underlying42 info9 rfl (by decide) (.slice (some ⟨g1, 0, none⟩) ls.length c1) ls.length (strs ls) rfl ⟨w2.heap.size, 0, none⟩ 1 1 [.string ⟨l.toArray⟩] rfl rfl (by intro u hu; rw [List.mem_singleton.1 hu]; rfl) (by decide) (by have := HLS.out; unfold maxLen; omega) (by have := HLS.out; omega) (own_below HO2.out (b_alloc (Below.refl _ _) _)) (news_one (blk_new rfl)) (by have := HB2.out.size; have := HGG.out; simp; omega) ?_
  intro g2 c2 w3 hA
  have HA : Hid (w3.ownsRow G 9 1 (.slice (some ⟨g2, 0, none⟩) (ls.length + 1) c2) (ls.length + 1) (strs (ls ++ [l]))) := Lib.hid (by have h := hA.own; rw [strs_snoc] at h; exact h)
  have hg1 : G ≠ g1 ∧ G + 1 ≠ g1 := by
    obtain ⟨_, h1, _⟩ := own_block HO2.out rfl
    exact ⟨blk_ne HG2.out h1 (by decide), blk_ne HR2.out h1 (by decide)⟩
  have HG3 := Lib.hid (blk_grown (blk_alloc HG2.out _) hA.grow (fun e => hg1.1 (Option.some.inj e)))
  have HR3 := Lib.hid (blk_grown (blk_alloc HR2.out _) hA.grow (fun e => hg1.2 (Option.some.inj e)))
  have HB3 : Hid (Below w.heap.size w w3) := Lib.hid (hA.below (b_alloc HB2.out _) (by have := HGG.out; omega))
  have hg2 : G ≠ g2 ∧ G + 1 ≠ g2 := by
    obtain ⟨_, h1, _⟩ := own_block HA.out rfl
    exact ⟨blk_ne HG3.out h1 (by decide), blk_ne HR3.out h1 (by decide)⟩
  have hg5 : w3.cell? ⟨G, 5, none⟩ = some (.slice p ls.length c) := (cell_of_row _ _ _ _ _ _ HG3.out).trans rfl
  have hf5 : w3.frozen? ⟨G, 5, none⟩ = false := frozen_of_row _ _ _ _ _ HG3.out
  clear hA HG2 HR2 HB2 HO2 hg1
  go_wp2_with fail
  have hrow4 := heap_setCell_same w3 G 5 _ _ (.slice (some ⟨g2, 0, none⟩) (ls.length + 1) c2) HG3.out
  have hgr4 : w3.grownBy (w3.setCell ⟨G, 5, none⟩ (.slice (some ⟨g2, 0, none⟩) (ls.length + 1) c2)) (some G) := gb_set (gb_refl _ _) _ _
  generalize hw4 : w3.setCell ⟨G, 5, none⟩ (.slice (some ⟨g2, 0, none⟩) (ls.length + 1) c2) = w4 at *
  have HB4 : Hid (Below w.heap.size w w4) := Lib.hid (b_row HB3.out hgr4 (by have := HGG.out; omega))
  have HA4 : Hid (w4.ownsRow G 9 1 (.slice (some ⟨g2, 0, none⟩) (ls.length + 1) c2) (ls.length + 1) (strs (ls ++ [l]))) := Lib.hid (own_fr (Fr.of_grown (S := fun q => q = G) hgr4 rfl) HA.out (fun q hq => by cases hq; exact fun e => hg2.1 e.symm))
  have HR4 := Lib.hid (blk_grown HR3.out hgr4 (by intro e; injection e; omega))
  have HG4 := Lib.hid hrow4
  clear hw4 hrow4 hgr4 HB3 HA HR3 HG3 hg5 hf5
  go_loopw [8] (fun i wx => ∃ (k : Nat) (L : Int), k ≤ k0 ∧ i = .int .i64 (k : Int) ∧ Hid (L = if 0 < left then left - k else left) ∧ Hid (wx.heap[G]? = some (.cells #[.string ⟨a.toArray⟩, .string ⟨b.toArray⟩, .int .i64 L, .bool false, .int .i64 nw, .slice (some ⟨g2, 0, none⟩) (ls.length + 1) c2] 44 (0, 0))) ∧ Hid (wx.heap[G + 1]? = some (.cells #[.string ⟨#[]⟩, .string ⟨#[]⟩, .int .i64 0, .bool false, .int .i64 0, .slice none 0 0] 44 (0, 0))) ∧ Hid (wx.ownsRow G 9 1 (.slice (some ⟨g2, 0, none⟩) (ls.length + 1) c2) (ls.length + 1) (strs (ls ++ [l]))) ∧ Hid (Below w.heap.size w wx)) (fun i _ => k0 - (intOf i).toNat)
  case atStart => exact ⟨0, left, Nat.zero_le _, rfl, Lib.hid (by split <;> omega), HG4, HR4, HA4, HB4⟩
  case round =>
    obtain ⟨k, L, hk, rfl, HLv, HGr, HRr, HOr, HBr⟩ := hrel
    have hc2 : wr.cell? ⟨G, 2, none⟩ = some (.int .i64 L) := (cell_of_row _ _ _ _ _ _ HGr.out).trans rfl
    have hf2 : wr.frozen? ⟨G, 2, none⟩ = false := frozen_of_row _ _ _ _ _ HGr.out
    clear HG4 HR4 HA4 HB4
    by_cases hlt : k < k0
    · obtain ⟨hki, hl0, hlp, hln, hlw⟩ := lp_b HLE.out.2 HKB.out HKL.out HLv.out hlt
      have HLN := Lib.hid hln
      have HLW := Lib.hid hlw
      have HWK := Lib.hid (lp_w hlt HKL.out (by have := HL.out; have := HM.out; omega))
      have HMS := Lib.hid (lp_m hlt)
      clear hlt hk hln hlw
      go_wp2_with fail
      rw [HWK.out, HLW.out]
      go_roundw
      case rel => exact ⟨k + 1, L - 1, HMS.out.1, rfl, HLN, Lib.hid (heap_setCell_same wr G 2 _ _ (.int .i64 (L - 1)) HGr.out), Lib.hid (blk_grown HRr.out (gb_set (gb_refl _ _) _ _) (by intro e; injection e; omega)), Lib.hid (own_fr (Fr.of_grown (S := fun q => q = G) (gb_set (gb_refl _ _) _ _) rfl) HOr.out (fun q hq => by cases hq; exact fun e => hg2.1 e.symm)), Lib.hid (b_row HBr.out (gb_set (gb_refl _ _) _ _) (by have := HGG.out; omega))⟩
      case measure => exact HMS.out.2
    · obtain rfl : k = k0 := Nat.le_antisymm hk (Nat.le_of_not_lt hlt)
      obtain rfl : L = rleft left l.length := by rw [HLv.out]; unfold rleft; rw [HK0.out]
      have hka : (k : Int) ≤ (b.length : Int) ∧ k ≤ b.length := by have := HKL.out; have := HL.out; have := HAB.out; omega
      have hkl : (k : Int) ≤ (l.length : Int) ∧ k ≤ l.length := by have := HKL.out; omega
      have hki : ¬ (k : Int) < (l.length : Int) := by have := HKV.out; omega
      obtain ⟨e1, e2 | ⟨gg, cap, cur, hv, hbg, hgg, h6⟩⟩ := id HOr.out
      · cases e2.1
      simp only [Value.slice.injEq, Option.some.injEq, Addr.mk.injEq] at hv
      obtain ⟨⟨hgx, _⟩, _, hcx⟩ := hv
      subst hgx hcx
      clear e1
      rw [HL0.out] at HGr hc2
      clear HLv hlt hk
      clear hc2 hf2
      have hc2 : wr.cell? ⟨G, 2, none⟩ = some (.int .i64 (left - l.length)) := (cell_of_row _ _ _ _ _ _ HGr.out).trans rfl
      go_upto_region 11 with fail
      refine reg (Stays [(G + 1, .cells #[.string ⟨#[]⟩, .string ⟨#[]⟩, .int .i64 0, .bool false, .int .i64 0, .slice none 0 0] 44 (0, 0)), (g2, .cells cur 9 (0, 0))] w) (Turns [(G + 1, .cells #[.string ⟨#[]⟩, .string ⟨#[]⟩, .int .i64 0, .bool false, .int .i64 0, .slice none 0 0] 44 (0, 0)), (g2, .cells cur 9 (0, 0))] w) (kdOf [(7, .touch), (13, .touch)]) (none0.has G (.cells #[.string ⟨a.toArray⟩, .string ⟨b.toArray⟩, .int .i64 (left - l.length), .bool false, .int .i64 nw, .slice (some ⟨g2, 0, none⟩) (ls.length + 1) c2] 44 (0, 0))) (stays_good _ _) (by kernel_rfl) (by kernel_rfl) (stays_drew (stays_cons HRr.out (stays_cons hgg (stays_nil HBr.out)))) (holds_has (holds0 _) HGr.out (turns_cons (by omega) (turns_cons hg2.1.symm (turns_nil (by have := HGG.out; omega))))) ?_
      refine g_look rfl rfl ?_ (fun w' hC => ?_) ?_
      rotate_left
      · go_simp
        first | done | rfl
      simp only [Act.put, List.setIfInBounds_toArray, List.set_cons_zero, List.set_cons_succ]
      refine g_look rfl rfl ?_ (fun w' hC => ?_) ?_
      rotate_left
      · go_simp
        first | done | rfl
      simp only [Act.put, List.setIfInBounds_toArray, List.set_cons_zero, List.set_cons_succ]
      refine g_look rfl rfl ?_ (fun w' hC => ?_) ?_
      rotate_left
      · go_simp
        first | done | rfl
      simp only [Act.put, List.setIfInBounds_toArray, List.set_cons_zero, List.set_cons_succ]
      refine g_look rfl rfl (.string ⟨(l.take k).toArray⟩) (fun w' hC => ?_) ?_
      · go_simp
        first | done | exact ⟨congrArg Value.string (take_st k), rfl⟩ | exact take_st k
      simp only [Act.put, List.setIfInBounds_toArray, List.set_cons_zero, List.set_cons_succ]
      refine g_look rfl rfl ?_ (fun w' hC => ?_) ?_
      rotate_left
      · go_simp
        first | done | rfl
      simp only [Act.put, List.setIfInBounds_toArray, List.set_cons_zero, List.set_cons_succ]
      refine g_look rfl rfl ?_ (fun w' hC => ?_) ?_
      rotate_left
      · go_simp
        first | done | rfl
      simp only [Act.put, List.setIfInBounds_toArray, List.set_cons_zero, List.set_cons_succ]
      refine g_look rfl rfl ?_ (fun w' hC => ?_) ?_
      rotate_left
      · go_simp
        first | done | rfl
      simp only [Act.put, List.setIfInBounds_toArray, List.set_cons_zero, List.set_cons_succ]
      refine g_touch G none _ (.cells #[.string ⟨a.toArray⟩, .string ⟨b.toArray⟩, .int .i64 (left - l.length), .bool false, .int .i64 nw, .slice (some ⟨g2, 0, none⟩) (ls.length + 1) c2] 44 (0, 0)) (.string ⟨b.toArray⟩) (.tmp 60) rfl rfl rfl rfl (has_same _ _ _) rfl (fun w' hC hT hb => ?_) ?_
      · have c0 : w'.cell? ⟨G, 1, none⟩ = some (.string ⟨b.toArray⟩) := (cell_of_row _ _ _ _ _ _ hb).trans rfl
        refine ⟨.value (.string ⟨b.toArray⟩), w', ?_, Or.inl ⟨_, rfl⟩, rfl, hb, gb_refl _ _⟩
        clear hb hC
        go_simp
        first | done | rfl
      simp only [Act.put, List.setIfInBounds_toArray, List.set_cons_zero, List.set_cons_succ]
      refine g_look rfl rfl ?_ (fun w' hC => ?_) ?_
      rotate_left
      · go_simp
        first | done | rfl
      simp only [Act.put, List.setIfInBounds_toArray, List.set_cons_zero, List.set_cons_succ]
      refine g_look rfl rfl (.string ⟨(b.drop k).toArray⟩) (fun w' hC => ?_) ?_
      · go_simp
        first | done | exact ⟨congrArg Value.string (drop_st k), rfl⟩ | exact drop_st k
      simp only [Act.put, List.setIfInBounds_toArray, List.set_cons_zero, List.set_cons_succ]
      refine g_look rfl rfl (.string ⟨(over b l k).toArray⟩) (fun w' hC => ?_) ?_
      · have hbig : ¬ 9223372036854775807 < b.length := by have := HM.out; have := HAB.out; omega
        go_simp
        first | done | exact ⟨rfl, congrArg Value.string app_st⟩ | exact ⟨congrArg Value.string app_st, rfl⟩ | exact app_st
      simp only [Act.put, List.setIfInBounds_toArray, List.set_cons_zero, List.set_cons_succ]
      refine g_look rfl rfl ?_ (fun w' hC => ?_) ?_
      rotate_left
      · go_simp
        first | done | rfl
      simp only [Act.put, List.setIfInBounds_toArray, List.set_cons_zero, List.set_cons_succ]
      refine g_look rfl rfl ?_ (fun w' hC => ?_) ?_
      rotate_left
      · go_simp
        first | done | rfl
      simp only [Act.put, List.setIfInBounds_toArray, List.set_cons_zero, List.set_cons_succ]
      refine g_touch G (some 7) _ (.cells #[.string ⟨a.toArray⟩, .string ⟨(over b l k).toArray⟩, .int .i64 (left - l.length), .bool false, .int .i64 nw, .slice (some ⟨g2, 0, none⟩) (ls.length + 1) c2] 44 (0, 0)) undef (.tmp 66) rfl rfl rfl rfl (own_new _ _ _ _) (by kernel_rfl) (fun w' hC hT hb => ?_) ?_
      · have c0 : w'.cell? ⟨G, 1, none⟩ = some (.string ⟨b.toArray⟩) := (cell_of_row _ _ _ _ _ _ hb).trans rfl
        have f0 : w'.frozen? ⟨G, 1, none⟩ = false := frozen_of_row _ _ _ _ _ hb
        refine ⟨.skip, w'.setCell ⟨G, 1, none⟩ (.string ⟨(over b l k).toArray⟩), ?_, Or.inr rfl, rfl, heap_setCell_same w' G 1 _ _ _ hb, gb_set (gb_refl _ _) _ _⟩
        clear hb hC
        go_simp
        first | done | rfl
      simp only [Act.put]
      refine g_end ?_
      intro w5 hC5 hh5
      have HG5 := Lib.hid ((hh5 _ _ _ (own_new _ _ _ _)).1)
      have HR5 := Lib.hid (stays_row hC5 (List.mem_cons_self ..))
      have HO5 : Hid (w5.ownsRow G 9 1 (.slice (some ⟨g2, 0, none⟩) (ls.length + 1) c2) (ls.length + 1) (strs (ls ++ [l]))) := Lib.hid ⟨by simp [strs], Or.inr ⟨g2, c2, cur, rfl, hbg, stays_row hC5 (List.mem_cons_of_mem _ (List.mem_cons_self ..)), h6⟩⟩
      have HB5 := Lib.hid (stays_below hC5)
      clear hC5 hh5 hgg h6 hbg HGr HRr HOr HBr hc2
      have hc4 : w5.cell? ⟨G, 4, none⟩ = some (.int .i64 nw) := (cell_of_row _ _ _ _ _ _ HG5.out).trans rfl
      have hf4 : w5.frozen? ⟨G, 4, none⟩ = false := frozen_of_row _ _ _ _ _ HG5.out
      have HWN : Hid (wrap64 (nw + (k : Int)) = nw + (k : Int)) := Lib.hid (unwrap64 (by have := HWR.out; have := HKL.out; have := HL.out; have := HM.out; omega))
      go_upto_region 13 with fail
      rw [HWN.out]
      have hrow6 := heap_setCell_same w5 G 4 _ _ (.int .i64 (nw + (k : Int))) HG5.out
      have hgr6 : w5.grownBy (w5.setCell ⟨G, 4, none⟩ (.int .i64 (nw + (k : Int)))) (some G) := gb_set (gb_refl _ _) _ _
      generalize hw6 : w5.setCell ⟨G, 4, none⟩ (.int .i64 (nw + (k : Int))) = w6 at *
      have HB6 : Hid (Below w.heap.size w w6) := Lib.hid (b_row HB5.out hgr6 (by have := HGG.out; omega))
      have HO6 : Hid (w6.ownsRow G 9 1 (.slice (some ⟨g2, 0, none⟩) (ls.length + 1) c2) (ls.length + 1) (strs (ls ++ [l]))) := Lib.hid (own_fr (Fr.of_grown (S := fun q => q = G) hgr6 rfl) HO5.out (fun q hq => by cases hq; exact fun e => hg2.1 e.symm))
      have HR6 := Lib.hid (blk_grown HR5.out hgr6 (by intro e; injection e; omega))
      have HG6 : Hid (w6.heap[G]? = some (.cells #[.string ⟨a.toArray⟩, .string ⟨(over b l k).toArray⟩, .int .i64 (left - l.length), .bool false, .int .i64 (nw + (k : Int)), .slice (some ⟨g2, 0, none⟩) (ls.length + 1) c2] 44 (0, 0))) := Lib.hid hrow6
      clear hw6 hrow6 hgr6 HB5 HO5 HR5 HG5 hc4 hf4
      have hc2 : w6.cell? ⟨G, 2, none⟩ = some (.int .i64 (left - l.length)) := (cell_of_row _ _ _ _ _ _ HG6.out).trans rfl
      have hz : ¬ (left - l.length) = 0 := by have := HN.out; omega
      go_upto_region 16 with fail
      clear hc2
      refine wp_region_lit ?_
      refine wpList_load_row rfl 44 _ rfl G rfl 44 _ (0, 0) _ HG6.out Try.underlying44 rfl info44 ?_
      refine wpList_store_blk rfl 44 _ _ rfl (G + 1) 44 _ _ rfl rfl HR6.out rfl info44 (by simp [Value.oneCell']) ?_
      intro w8 h8 g8
      have HW8 := Lib.hid h8
      have HB8 : Hid (Below w.heap.size w w8) := Lib.hid (b_row HB6.out g8 (by have := HGG.out; omega))
      have HO8 : Hid (w8.ownsRow G 9 1 (.slice (some ⟨g2, 0, none⟩) (ls.length + 1) c2) (ls.length + 1) (strs (ls ++ [l]))) := Lib.hid (own_fr (Fr.of_grown (S := fun q => q = G + 1) g8 rfl) HO6.out (fun q hq => by cases hq; exact fun e => hg2.2 e.symm))
      clear h8 g8
      go_wp2_with fail
      refine bodyPost_ret (results_w20 (g := G + 1) (s0 := ⟨a.toArray⟩) (s1 := ⟨(over b l k).toArray⟩) (l := (left - l.length)) (o := false) (n := nw + (k : Int)) (p := some ⟨g2, 0, none⟩) (k := ls.length + 1) (c := c2) HW8.out) rfl ?_
      rw [← HQ.out]
      refine ⟨some ⟨g2, 0, none⟩, c2, ?_, by rw [HGG.out]; exact HO8.out, HB8.out⟩
      rw [HL0.out, HG0.out, HK0.out]
      rfl
theorem rwrite_ok (w : World) (base : Nat) (a b l : List UInt8) (left nw : Int) (p : Option Addr) (c : Nat) (ls : List (List UInt8)) (slot : Int) (hs : slot = 0 ∨ slot = 1) (hl : l.length ≤ a.length) (hab : b.length = a.length) (hm : a.length ≤ 262144) (hle : -1 ≤ left ∧ left ≤ 9223372036854775807) (hwr : 0 ≤ nw ∧ nw < 4611686018427387904) (hls : ls.length ≤ 999) (ho : w.ownsRow base 9 1 (.slice p ls.length c) ls.length (strs ls)) : Calls Try.prog 20 #[rv ⟨a.toArray⟩ ⟨b.toArray⟩ left false nw p ls.length c, .int .i64 slot, .string ⟨l.toArray⟩] w (RWrote w a b l left nw ls slot) := by
  have h4 : left < 0 ∨ (0 ≤ left ∧ left < l.length) ∨ left = l.length ∨ (l.length : Int) < left := by omega
  rcases hs with rfl | rfl
  · rcases h4 with h | h | h | h
    · exact rwrite_0a w base a b l left nw p c ls hl hab hm hle hwr hls ho h
    · exact rwrite_0b w base a b l left nw p c ls hl hab hm hle hwr hls ho h
    · exact rwrite_0c w base a b l left nw p c ls hl hab hm hle hwr hls ho h
    · exact rwrite_0d w base a b l left nw p c ls hl hab hm hle hwr hls ho h
  · rcases h4 with h | h | h | h
    · exact rwrite_1a w base a b l left nw p c ls hl hab hm hle hwr hls ho h
    · exact rwrite_1b w base a b l left nw p c ls hl hab hm hle hwr hls ho h
    · exact rwrite_1c w base a b l left nw p c ls hl hab hm hle hwr hls ho h
    · exact rwrite_1d w base a b l left nw p c ls hl hab hm hle hwr hls ho h
end Go.Proofs.Ytijcdpefcdgklaa.Di
