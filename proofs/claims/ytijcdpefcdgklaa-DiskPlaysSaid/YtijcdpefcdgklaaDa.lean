/- Disks: copies of bytes, by a walk. -/
import Derived.Test.YtijcdpefcdgklaaProg
import Derived.Test.YtijcdpefcdgklaaReg
import Derived.Test.YtijcdpefcdgklaaApp
import Derived.Laws.AppendOwnNone
import Derived.Deep.DeepCutAuto
import Derived.Laws.IdiomStrings
namespace Go.Proofs.Ytijcdpefcdgklaa.Di
open Go.RowKit K

def bys (l : List UInt8) : List Value := l.map fun b => .int .u8 (b.toNat : Int)
theorem bys_len (l : List UInt8) : (bys l).length = l.length := by simp [bys]
theorem bys_get {l : List UInt8} {j : Nat} (h : j < l.length) : (bys l)[j]? = some (.int .u8 (l[j].toNat : Int)) := by simp [bys, h]
theorem bys_one {l : List UInt8} : ∀ u ∈ bys l, u.oneCell' = true := by
  intro u hu
  obtain ⟨b, _, rfl⟩ := List.mem_map.1 hu
  rfl
/-- A slice reads as these bytes. -/
def Reads (w : World) (v : Value) (l : List UInt8) : Prop := (v = .slice none 0 0 ∧ l = []) ∨
  ∃ (a : Addr) (c : Nat), v = .slice (some a) l.length c ∧ l.length ≤ c ∧ c ≤ maxLen ∧ ∀ j u, (bys l)[j]? = some u → w.cell? (a.add j) = some u
theorem cell_lt {w : World} {a : Addr} {u : Value} (h : w.cell? a = some u) : a.block < w.heap.size := World.block_lt_of_cell? w a h
theorem add_block (a : Addr) (j : Nat) : (a.add j).block = a.block := by unfold Addr.add; split <;> rfl
theorem reads_below {w w' : World} {v : Value} {l : List UInt8} (h : Reads w v l) (hb : Below w.heap.size w w') : Reads w' v l := by
  rcases h with h | ⟨a, c, h1, h2, h3, h4⟩
  · exact Or.inl h
  · refine Or.inr ⟨a, c, h1, h2, h3, fun j u hj => ?_⟩
    have := h4 j u hj
    rw [hb.cell (cell_lt this)]
    exact this
theorem reads_own {w : World} {base : Nat} {v : Value} {l : List UInt8} (h : w.ownsRow base 5 1 v l.length (bys l)) : Reads w v l := by
  obtain ⟨_, h1 | ⟨g, cap, cur, rfl, _, hg, hc, hm, hs, ht⟩⟩ := h
  · exact Or.inl ⟨h1.1, List.length_eq_zero_iff.1 h1.2⟩
  · refine Or.inr ⟨_, cap, rfl, hc, hm, fun j u hj => ?_⟩
    have e1 : (⟨g, 0, none⟩ : Addr).add j = ⟨g, j, none⟩ := by unfold Addr.add; split <;> simp_all
    rw [e1, cell_of_row _ _ _ _ _ _ hg]
    rw [← ht, List.getElem?_take] at hj
    split at hj
    · simpa using hj
    · cases hj
section
variable {P : Program} (w : World) {t e : TypeId}
theorem eq_slice (ht : P.underlying t = some (.slice e)) (a : Addr) (n c : Nat) : (binOp .eql t (.slice (some a) n c) (.slice none 0 0)).run P w = .ok (.bool false) w := by
  have h : (Op.equal t (.slice (some a) n c) (.slice none 0 0)).run P w = .ok false w := by
    show (Op.equalIn (9999 + 1) t (.slice (some a) n c) (.slice none 0 0)).run P w = _
    unfold Op.equalIn
    simp [run_underlying ht]
  simp [binOp, h]
theorem eq_slice_nil (ht : P.underlying t = some (.slice e)) : (binOp .eql t (.slice none 0 0) (.slice none 0 0)).run P w = .ok (.bool true) w := by
  have h : (Op.equal t (.slice none 0 0) (.slice none 0 0)).run P w = .ok true w := by
    show (Op.equalIn (9999 + 1) t (.slice none 0 0) (.slice none 0 0)).run P w = _
    unfold Op.equalIn
    simp [run_underlying ht]
  simp [binOp, h]
theorem eq_ptr (ht : P.underlying t = some (.pointer e)) (a : Addr) : (binOp .eql t (.pointer (some a)) (.pointer none)).run P w = .ok (.bool false) w := by
  have h : (Op.equal t (.pointer (some a)) (.pointer none)).run P w = .ok false w := by
    show (Op.equalIn (9999 + 1) t (.pointer (some a)) (.pointer none)).run P w = _
    unfold Op.equalIn
    simp [run_underlying ht]
  simp [binOp, h]
theorem ne_ptr (ht : P.underlying t = some (.pointer e)) (a : Addr) : (binOp .neq t (.pointer (some a)) (.pointer none)).run P w = .ok (.bool true) w := by
  have h : (Op.equal t (.pointer (some a)) (.pointer none)).run P w = .ok false w := by
    show (Op.equalIn (9999 + 1) t (.pointer (some a)) (.pointer none)).run P w = _
    unfold Op.equalIn
    simp [run_underlying ht]
  simp [binOp, h]
end
theorem eq22 (w : World) (a : Addr) (n c : Nat) : (binOp .eql 22 (.slice (some a) n c) (.slice none 0 0)).run Try.prog w = .ok (.bool false) w := eq_slice w Try.underlying22 a n c
theorem eq22n (w : World) : (binOp .eql 22 (.slice none 0 0) (.slice none 0 0)).run Try.prog w = .ok (.bool true) w := eq_slice_nil w Try.underlying22
theorem eq37 (w : World) (a : Addr) (n c : Nat) : (binOp .eql 37 (.slice (some a) n c) (.slice none 0 0)).run Try.prog w = .ok (.bool false) w := eq_slice w Try.underlying37 a n c
theorem eq37n (w : World) : (binOp .eql 37 (.slice none 0 0) (.slice none 0 0)).run Try.prog w = .ok (.bool true) w := eq_slice_nil w Try.underlying37
theorem eq25 (w : World) (a : Addr) : (binOp .eql 25 (.pointer (some a)) (.pointer none)).run Try.prog w = .ok (.bool false) w := eq_ptr w Try.underlying25 a
theorem ne25 (w : World) (a : Addr) : (binOp .neq 25 (.pointer (some a)) (.pointer none)).run Try.prog w = .ok (.bool true) w := ne_ptr w Try.underlying25 a
attribute [local go_sem ↓] eq22 eq22n eq37 eq37n eq25 ne25
theorem wpList_app0 {P : Program} {w : World} {ops : Array Oper} {rest : List Oper} {o : Oper} {a : Act} {Q : Exit → Act → World → Prop} (hgd : o.guard = none) (s x : Operand) (t : TypeId)
    (ho : o.op = .call { callee := .builtin .append, args := #[s, x], argTypes := #[t, t] }) (v y : Value) (hs : a.eval s = v) (hx : a.eval x = y) (hr : (Builtin.append_ #[t, t] o.type #[v, y]).run P w = .ok v w)
    (h : wpList P ops Q rest (a.put o.dst v) w) : wpList P ops Q (o :: rest) a w := by
  refine wpList_plain hgd fun K hK => ?_
  unfold Oper.wp execOp
  simp only [ho, resolve, invoke, builtin, Sem.run_bind, Sem.run_pure, Result.andThen_ok, List.map_toArray, List.map_cons, List.map_nil, hs, hx, hr]
  exact hK _ _ h
theorem info5 : (Try.prog.info? 5).map (fun i => (i.zero, i.size, i.bytes)) = some (some (.int .u8 0), 1, 1) := by kernel_rfl
/-- Returns a copy. -/
def CloneTo (w : World) (l : List UInt8) (e : Ending) (w' : World) : Prop := ∃ v, e = .returned v ∧ w'.ownsRow w.heap.size 5 1 v l.length (bys l) ∧ Below w.heap.size w w'
theorem own_nil (w : World) (base : Nat) (e : TypeId) (size : Nat) : w.ownsRow base e size (.slice none 0 0) 0 [] := ⟨by simp, Or.inl ⟨rfl, rfl⟩⟩
theorem own_empty {w : World} : (w.alloc (.cells #[] 5)).ownsRow w.heap.size 5 1 (.slice (some ⟨w.heap.size, 0, none⟩) 0 0) 0 [] :=
  ⟨by simp, Or.inr ⟨_, 0, #[], rfl, Nat.le_refl _, blk_new rfl, Nat.le_refl _, by unfold maxLen; omega, by simp, by simp⟩⟩
set_option maxHeartbeats 1000000 in
theorem clone_any (w : World) (v : Value) (l : List UInt8) (h : Reads w v l) (hl : l.length ≤ 1000000) : Calls Try.prog 22 #[v] w (CloneTo w l) := by
  rcases h with ⟨rfl, rfl⟩ | ⟨a, c, rfl, h2, h3, h4⟩
  · go_enter Try.func22, Try.ntmps22
    go_wp2_with fail
    go_ret
    exact ⟨_, rfl, own_nil _ _ _ _, Below.refl _ _⟩
  · have H4 := Lib.hid h4
    have HL := Lib.hid hl
    have H2 := Lib.hid h2
    obtain ⟨n, hn⟩ : ∃ n, l.length = n := ⟨_, rfl⟩
    have HN := Lib.hid hn
    rw [hn]
    clear hn h4 hl h2
    go_enter Try.func22, Try.ntmps22
    go_upto_region 3 with fail
    refine wp_region_lit ?_
    refine wpList_plain rfl (fun K hK => ?_)
    go_simp
    refine hK _ _ ?_
    clear hK K
    refine wpList_plain rfl (fun K hK => ?_)
    go_simp
    refine hK _ _ ?_
    clear hK K
    by_cases h0 : n = 0
    · subst h0
      obtain rfl : l = [] := List.length_eq_zero_iff.1 HN.out
      have hr : (Builtin.append_ #[22, 22] 22 #[.slice (some ⟨w.heap.size, 0, none⟩) 0 0, .slice (some a) 0 c]).run Try.prog (w.alloc (.cells #[] 5)) = .ok (.slice (some ⟨w.heap.size, 0, none⟩) 0 0) (w.alloc (.cells #[] 5)) := by
        have := Try.underlying22
        obtain ⟨i, hi, hz⟩ := Option.map_eq_some_iff.1 info5
        simp [Builtin.append_, run_underlying this, sizeOf, typeInfo, hi, Builtin.lenOf, Builtin.firstCells, storeCells, loadCells, loadCellsFrom]
      have HR := Lib.hid hr
      clear hr
      refine wpList_app0 rfl _ _ 22 rfl _ _ rfl rfl HR.out ?_
      go_wp2_with fail
      go_ret
      exact ⟨_, rfl, own_empty, b_alloc (Below.refl _ _) _⟩
    · refine wpList_app _ rfl _ _ _ rfl w.heap.size 5 (.int .u8 0) 1 1 Try.underlying22 info5 rfl (by omega) (.slice (some ⟨w.heap.size, 0, none⟩) 0 0) 0 [] rfl a n c (bys l) rfl (by rw [bys_len, HN.out, Nat.mul_one]) bys_one (by omega) (by have := HL.out; have := HN.out; unfold maxLen; omega) (by have := HL.out; have := HN.out; omega) own_empty ?_ (by simp) ?_
      · intro j u hj
        have h5 := H4.out j u hj
        rw [Below.cell (b_alloc (Below.refl w.heap.size w) _) (cell_lt h5)]
        exact h5
      · intro g cap w' hA
        have HA := Lib.hid hA
        clear hA
        rw [Nat.zero_add] at HA ⊢
        go_wp2_with fail
        go_ret
        refine ⟨_, rfl, ?_, HA.out.below (b_alloc (Below.refl _ _) _) (Nat.le_refl _)⟩
        have := HA.out.own
        rw [Nat.zero_add, List.nil_append] at this
        rw [HN.out]
        exact this
end Go.Proofs.Ytijcdpefcdgklaa.Di
