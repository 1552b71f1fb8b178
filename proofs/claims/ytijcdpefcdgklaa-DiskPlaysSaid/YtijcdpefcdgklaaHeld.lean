/- A region that draws its order: looks are taken first, while a condition on the world stands; an operation that waits for all others may end the condition. -/
import Derived.Test.YtijcdpefcdgklaaReg
import Derived.OrdersHeld
import Derived.Deep.RegionHeld3
namespace Go.Proofs.Ytijcdpefcdgklaa.K
open Go.RowKit

section
variable {P : Program} {ops : Array Oper} {Q : Exit → Act → World → Prop} {md : Region.Mode} {S : World → Prop}
/-- Operation i waits for each other one. -/
def waitsAll (md : Region.Mode) (ops : Array Oper) (i : Nat) : Bool :=
  match ops[i]? with
  | some o => (List.range ops.size).all fun j => j == i || o.after.any fun e => Region.binds md e && e.on == j
  | none => false
theorem waitsAll_spec {i j : Nat} {o : Oper} (h : waitsAll md ops i = true) (ho : ops[i]? = some o) (hj : j < ops.size) (hne : j ≠ i) : ∃ e ∈ o.after, Region.binds md e = true ∧ e.on = j := by
  unfold waitsAll at h
  rw [ho] at h
  have h1 := List.all_eq_true.1 h j (List.mem_range.2 hj)
  simp only [Bool.or_eq_true, beq_iff_eq, hne, false_or] at h1
  obtain ⟨e, he, hb⟩ := Array.any_eq_true'.1 h1
  simp only [Bool.and_eq_true, beq_iff_eq] at hb
  exact ⟨e, he, hb.1, hb.2⟩
/-- Whatever order is drawn; the condition stands behind each operation but one that waits for all others. -/
def wpAll (P : Program) (md : Region.Mode) (ops : Array Oper) (Q : Exit → Act → World → Prop) (S : World → Prop) : Nat → Array Bool → Act → World → Prop
  | 0, listed, a, w => Region.ready md ops listed = [] ∧ Q .normal a w
  | fuel + 1, listed, a, w =>
    (Region.ready md ops listed = [] → Q .normal a w) ∧
    ∀ i ∈ Region.ready md ops listed, wpOp P ops Q i (fun a' w' => (waitsAll md ops i = true ∨ S w') ∧ wpAll P md ops Q S fuel (listed.setIfInBounds i true) a' w') a w
theorem wpAny_of_all : ∀ (fuel : Nat) (listed : Array Bool) (a : Act) (w : World), wpAll P md ops Q S fuel listed a w → wpAny P md ops Q fuel listed a w
  | 0, _, _, _, h => h
  | fuel + 1, _, _, _, h => ⟨h.1, fun i hi => wpOp_mono (fun _ _ h' => wpAny_of_all fuel _ _ _ h'.2) (h.2 i hi)⟩
theorem ready_none {i j : Nat} {listed : Array Bool} {oj : Oper} (hi : i ∈ Region.ready md ops listed) (hj : j ∈ Region.ready md ops listed) (hoj : ops[j]? = some oj) : ∀ e ∈ oj.after, Region.binds md e = true → e.on ≠ i := by
  intro e he hb heq
  obtain ⟨_, o, ho, hall⟩ := mem_ready.1 hj
  obtain rfl : oj = o := Option.some.inj (hoj.symm.trans ho)
  have h1 := hall e he hb
  have h0 := (mem_ready.1 hi).1
  rw [heq] at h1
  rcases Nat.lt_or_ge i listed.size with h' | h'
  · simp [h'] at h0 h1
    rw [h0] at h1
    cases h1
  · simp [Array.getElem?_eq_none h'] at h1
theorem wpAll_first {i : Nat} {oi : Oper} {v : Value} (hi : ops[i]? = some oi) (hsel : ∀ (j : Nat) (o : Oper) cs b, ops[j]? = some o → o.op ≠ .select cs b)
    (hQ : ∀ c a w, Q (.panic c) (a.put oi.dst v) w → Q (.panic c) a w) :
    ∀ (fuel : Nat) (listed : Array Bool) (a : Act) (w : World),
      (∀ j oj, ops[j]? = some oj → j ≠ i → listed.getD j true = false → (∀ e ∈ oj.after, Region.binds md e = true → e.on ≠ i) → oi.apart ops oj = true) →
      i ∈ Region.ready md ops listed → YieldsIf P ops S oi v a → S w →
      wpAll P md ops Q S fuel (listed.setIfInBounds i true) (a.put oi.dst v) w → wpAll P md ops Q S (fuel + 1) listed a w := by
  intro fuel
  induction fuel with
  | zero =>
    intro listed a w _ hr hy hS H
    refine ⟨fun h => (by rw [h] at hr; cases hr), fun j hj => ?_⟩
    by_cases hji : j = i
    · subst hji
      exact hy.wpOp hi hS ⟨Or.inr hS, H⟩
    · have h1 := ready_mono hj hji
      rw [H.1] at h1
      cases h1
  | succ fuel ih =>
    intro listed a w hfree hr hy hS H
    refine ⟨fun h => (by rw [h] at hr; cases hr), fun j hj => ?_⟩
    by_cases hji : j = i
    · subst hji
      exact hy.wpOp hi hS ⟨Or.inr hS, H⟩
    · obtain ⟨hjun, oj, hoj, _⟩ := mem_ready.1 hj
      have hno := ready_none hr hj hoj
      have hnw : ¬ waitsAll md ops j = true := fun hw => by
        obtain ⟨e, he, hb, hon⟩ := waitsAll_spec hw hoj (Array.getElem?_eq_some_iff.1 hi).1 (Ne.symm hji)
        exact hno e he hb hon
      have h1 := wpOp_putIf hoj (hfree j oj hoj hji hjun hno) (fun cs b => hsel i oi cs b hi) (fun cs b => hsel j oj cs b hoj) hQ hy (H.2 j (ready_mono hj hji))
      refine wpOp_mono (fun a' w' h2 => ⟨h2.2.1, ?_⟩) h1
      refine ih (listed.setIfInBounds j true) a' w' (fun k ok hk hki hun hkno => hfree k ok hk hki ?_ hkno) (ready_mono hr (Ne.symm hji)) h2.1 (h2.2.1.resolve_left hnw) ?_
      · by_cases hjk : j = k
        · subst hjk
          exact hjun
        · rw [getD_set_ne true hjk] at hun
          exact hun
      · rw [Array.setIfInBounds_comm _ _ hji]
        exact h2.2.2
theorem at_drop {i : Nat} {oi : Oper} {rest : List Oper} (h : ops.toList.drop i = oi :: rest) : ops[i]? = some oi := by
  have h1 : (ops.toList.drop i)[0]? = some oi := by rw [h]; rfl
  rw [List.getElem?_drop, Nat.add_zero] at h1
  simpa using h1
/-- May number i be taken first? -/
def takeB (md : Region.Mode) (ops : Array Oper) (listed : Array Bool) (i : Nat) : Bool := Region.noSelect ops && Region.free md ops listed i && (Region.ready md ops listed).contains i
theorem h_look {i : Nat} {oi : Oper} {rest : List Oper} {fuel : Nat} {listed : Array Bool} {a : Act} {w : World} (hd : ops.toList.drop i = oi :: rest) (hB : takeB md ops listed i = true) (v : Value) (hw : Region.wanted oi (yielded ops a.tmps) = true)
    (h : ∀ w', S w' → lookTo w' v ((execOp a.eval oi).run P w')) (hS : S w) (hr : wpAll P md ops (NoPanic Q) S fuel (listed.setIfInBounds i true) (a.put oi.dst v) w) : wpAll P md ops (NoPanic Q) S (fuel + 1) listed a w := by
  simp only [takeB, Bool.and_eq_true] at hB
  exact wpAll_first (at_drop hd) (Region.noSelect_spec hB.1.1) (fun _ _ _ h => h) fuel listed a w (Region.free_spec (at_drop hd) hB.1.2) (by simpa using hB.2) (Or.inl ⟨hw, fun w' hw' => lookTo_run (h w' hw')⟩) hS hr
theorem h_skip {i : Nat} {oi : Oper} {rest : List Oper} {fuel : Nat} {listed : Array Bool} {a : Act} {w : World} (hd : ops.toList.drop i = oi :: rest) (hB : takeB md ops listed i = true) (hw : Region.wanted oi (yielded ops a.tmps) = false)
    (hS : S w) (hr : wpAll P md ops (NoPanic Q) S fuel (listed.setIfInBounds i true) (a.put oi.dst undef) w) : wpAll P md ops (NoPanic Q) S (fuel + 1) listed a w := by
  simp only [takeB, Bool.and_eq_true] at hB
  exact wpAll_first (at_drop hd) (Region.noSelect_spec hB.1.1) (fun _ _ _ h => h) fuel listed a w (Region.free_spec (at_drop hd) hB.1.2) (by simpa using hB.2) (Or.inr ⟨hw, rfl⟩) hS hr
theorem h_op {i : Nat} {oi : Oper} {a : Act} {w : World} {K : Act → World → Prop} (hi : ops[i]? = some oi) (hw : Region.wanted oi (yielded ops a.tmps) = true) (h : oi.wp P a w K Q) : wpOp P ops Q i K a w := by
  unfold wpOp
  rw [hi]
  simp only [hw, if_true]
  exact Or.inl h
/-- One operation alone may come. -/
theorem h_one {i : Nat} {oi : Oper} {rest : List Oper} {fuel : Nat} {listed : Array Bool} {a : Act} {w : World} (hr : Region.ready md ops listed = [i]) (hd : ops.toList.drop i = oi :: rest) (hw : Region.wanted oi (yielded ops a.tmps) = true)
    (h : ∀ K : Act → World → Prop, (∀ a' w', S w' → wpAll P md ops (NoPanic Q) S fuel (listed.setIfInBounds i true) a' w' → K a' w') → oi.wp P a w K (NoPanic Q)) : wpAll P md ops (NoPanic Q) S (fuel + 1) listed a w := by
  refine ⟨fun h0 => (by rw [hr] at h0; cases h0), fun j hj => ?_⟩
  rw [hr] at hj
  obtain rfl := List.mem_singleton.1 hj
  exact h_op (at_drop hd) hw (h _ fun a' w' hS h' => ⟨Or.inr hS, h'⟩)
/-- One that waits for all others. -/
theorem h_last {i : Nat} {oi : Oper} {rest : List Oper} {fuel : Nat} {listed : Array Bool} {a : Act} {w : World} (hr : Region.ready md ops listed = [i]) (hd : ops.toList.drop i = oi :: rest) (ha : waitsAll md ops i = true) (hw : Region.wanted oi (yielded ops a.tmps) = true)
    (h : ∀ K : Act → World → Prop, (∀ a' w', wpAll P md ops (NoPanic Q) S fuel (listed.setIfInBounds i true) a' w' → K a' w') → oi.wp P a w K (NoPanic Q)) : wpAll P md ops (NoPanic Q) S (fuel + 1) listed a w := by
  refine ⟨fun h0 => (by rw [hr] at h0; cases h0), fun j hj => ?_⟩
  rw [hr] at hj
  obtain rfl := List.mem_singleton.1 hj
  exact h_op (at_drop hd) hw (h _ fun a' w' h' => ⟨Or.inl ha, h'⟩)
/-- One of two comes. -/
theorem h_two {i j : Nat} {oi oj : Oper} {rest rest' : List Oper} {fuel : Nat} {listed : Array Bool} {a : Act} {w : World} (hr : Region.ready md ops listed = [i, j]) (hd : ops.toList.drop i = oi :: rest) (hd' : ops.toList.drop j = oj :: rest') (hwi : Region.wanted oi (yielded ops a.tmps) = true) (hwj : Region.wanted oj (yielded ops a.tmps) = true)
    (h : ∀ K : Act → World → Prop, (∀ a' w', S w' → wpAll P md ops (NoPanic Q) S fuel (listed.setIfInBounds i true) a' w' → K a' w') → oi.wp P a w K (NoPanic Q))
    (h2 : ∀ K : Act → World → Prop, (∀ a' w', S w' → wpAll P md ops (NoPanic Q) S fuel (listed.setIfInBounds j true) a' w' → K a' w') → oj.wp P a w K (NoPanic Q)) : wpAll P md ops (NoPanic Q) S (fuel + 1) listed a w := by
  refine ⟨fun h0 => (by rw [hr] at h0; cases h0), fun k hk => ?_⟩
  rw [hr] at hk
  rcases List.mem_cons.1 hk with rfl | hk
  · exact h_op (at_drop hd) hwi (h _ fun a' w' hS h' => ⟨Or.inr hS, h'⟩)
  · obtain rfl := List.mem_singleton.1 hk
    exact h_op (at_drop hd') hwj (h2 _ fun a' w' hS h' => ⟨Or.inr hS, h'⟩)
theorem h_end {fuel : Nat} {listed : Array Bool} {a : Act} {w : World} (hr : Region.ready md ops listed = []) (h : Q .normal a w) : wpAll P md ops (NoPanic Q) S fuel listed a w := by
  cases fuel with
  | zero => exact ⟨hr, h⟩
  | succ n => exact ⟨fun _ => h, by rw [hr]; simp⟩
theorem h_region {id : Nat} {a : Act} {w : World} (S : World → Prop) (n : Nat) (hn : ops.size = n) (hm : P.follows .mixedOrders = true)
    (h : wpAll P .any ops (NoPanic Q) S n (Array.replicate n false) a w.drew) : (Code.region id ops true).wp P Q a w := by
  subst hn
  exact wp_region_noPanic (wp_region_any hm (wpAny_of_all _ _ _ _ h))
end
end Go.Proofs.Ytijcdpefcdgklaa.K
