/- Whole rows (arrays, structs) loaded from and stored into a block of their own. -/
import Derived.Test.YtijcdpefcdgklaaKit
import Derived.Deep.MidRow
namespace Go.Proofs.Ytijcdpefcdgklaa.K
open Go.RowKit

theorem setCells_row {g : Nat} {t : TypeId} : ∀ (vs : List Value) (o : Nat) (w : World) (cur : Array Value), w.heap[g]? = some (.cells cur t (0, 0)) → o + vs.length ≤ cur.size →
    (w.setCells g o vs).heap[g]? = some (.cells (cur.toList.take o ++ vs ++ cur.toList.drop (o + vs.length)).toArray t (0, 0)) ∧ w.grownBy (w.setCells g o vs) (some g) ∧ (w.setCells g o vs).heap.size = w.heap.size
  | [], o, w, cur, h, _ => ⟨by simpa [World.setCells] using h, gb_refl _ _, rfl⟩
  | v :: r, o, w, cur, h, hl => by
    have h1 := heap_setCell_same w g o cur t v h
    obtain ⟨h2, h3, h4⟩ := setCells_row r (o + 1) (w.setCell ⟨g, o, none⟩ v) (cur.setIfInBounds o v) h1 (by simp at hl ⊢; omega)
    refine ⟨?_, gb_trans (gb_set (gb_refl _ _) _ _) h3, ?_⟩
    · show ((w.setCell ⟨g, o, none⟩ v).setCells g (o + 1) r).heap[g]? = _
      rw [h2]
      refine congrArg (fun x => some (Obj.cells (List.toArray x) t (0, 0))) ?_
      have ho : o < cur.toList.length := by simp at hl ⊢; omega
      rw [Array.toList_setIfInBounds]
      have e1 : (cur.toList.set o v).take (o + 1) = cur.toList.take o ++ [v] := by
        rw [List.take_succ_eq_append_getElem (by simpa using ho), List.take_set, List.set_eq_of_length_le (by simp; omega)]
        simp
      have e2 : (cur.toList.set o v).drop (o + 1 + r.length) = cur.toList.drop (o + (v :: r).length) := by
        rw [List.drop_set_of_lt (by omega)]
        simp only [List.length_cons]
        congr 1
        omega
      rw [e1, e2]
      simp
    · show ((w.setCell ⟨g, o, none⟩ v).setCells g (o + 1) r).heap.size = _
      rw [h4]
      simp [World.setCell]
theorem there_row {w : World} {g : Nat} {cur : Array Value} {t : TypeId} (h : w.heap[g]? = some (.cells cur t (0, 0))) : w.there g 0 cur.size := fun j hj =>
  ⟨by rw [cell_of_row _ _ _ _ _ _ h]; simp [Nat.zero_add, hj], frozen_of_row _ _ _ _ _ h⟩
section
variable {P : Program} {w : World}
theorem wp_store_blk {o : Oper} {a : Act} {K : Act → World → Prop} {Q : Exit → Act → World → Prop} (ty : TypeId) (x y : Operand) (ho : o.op = .store ty x y)
    (g : Nat) (t : TypeId) (cur cs : Array Value) (hx : a.eval x = .pointer (some ⟨g, 0, none⟩)) (hy : a.eval y = .agg cs) (hg : w.heap[g]? = some (.cells cur t (0, 0))) (hs : cs.size = cur.size)
    (hi : (P.info? ty).map (·.size) = some cs.size) (h1 : cs.all (·.oneCell') = true)
    (h : ∀ w', w'.heap[g]? = some (.cells cs t (0, 0)) → w.grownBy w' (some g) → K (a.put o.dst undef) w') : o.wp P a w K Q := by
  refine wp_store_mid ty x y ho g 0 cs hx hy (by rw [hs]; exact there_row hg) hi h1 ?_
  obtain ⟨h2, h3, _⟩ := setCells_row cs.toList 0 w cur hg (by simp; omega)
  refine h _ ?_ h3
  rw [h2]
  have : cur.toList.drop (0 + cs.toList.length) = [] := List.drop_eq_nil_of_le (by simp; omega)
  rw [this]
  simp
theorem wpList_store_blk {ops : Array Oper} {rest : List Oper} {o : Oper} {a : Act} {Q : Exit → Act → World → Prop} (hgd : o.guard = none) (ty : TypeId) (x y : Operand) (ho : o.op = .store ty x y)
    (g : Nat) (t : TypeId) (cur cs : Array Value) (hx : a.eval x = .pointer (some ⟨g, 0, none⟩)) (hy : a.eval y = .agg cs) (hg : w.heap[g]? = some (.cells cur t (0, 0))) (hs : cs.size = cur.size)
    (hi : (P.info? ty).map (·.size) = some cs.size) (h1 : cs.all (·.oneCell') = true)
    (h : ∀ w', w'.heap[g]? = some (.cells cs t (0, 0)) → w.grownBy w' (some g) → wpList P ops Q rest (a.put o.dst undef) w') : wpList P ops Q (o :: rest) a w :=
  wpList_plain hgd fun _ hK => wp_store_blk ty x y ho g t cur cs hx hy hg hs hi h1 fun w' h2 h3 => hK _ _ (h w' h2 h3)
end
end Go.Proofs.Ytijcdpefcdgklaa.K
