/- A region that draws its order, as so many plain lists of operations: one goal for each order. -/
import Derived.Test.YthpdfacdjgkmpaaKit
import Derived.Tactics
import Derived.Calls
namespace Go.Proofs.Ythpdfacdjgkmpaa.K
open Go.RowKit

/-- All orders that the edges allow. -/
def lins (md : Region.Mode) (ops : Array Oper) : Nat → Array Bool → List Nat → List (List Nat)
  | 0, _, acc => [acc.reverse]
  | fuel + 1, listed, acc =>
    let rs := Region.ready md ops listed
    if rs.isEmpty then [acc.reverse] else rs.flatMap fun i => lins md ops fuel (listed.setIfInBounds i true) (i :: acc)
theorem lin_mem (md : Region.Mode) (ops : Array Oper) : ∀ (fuel t : Nat) (listed : Array Bool) (acc : List Nat), Region.linearise.go md ops fuel t listed acc ∈ lins md ops fuel listed acc := by
  intro fuel
  induction fuel with
  | zero => intro t listed acc; simp [Region.linearise.go, lins]
  | succ fuel ih =>
    intro t listed acc
    unfold Region.linearise.go lins
    show _ ∈ if (Region.ready md ops listed).isEmpty then [acc.reverse] else _
    have hrs : ((List.range ops.size).filter fun i => !listed.getD i true && ((ops[i]?).map (·.after.all fun e => !Region.binds md e || listed.getD e.on false)).getD false) = Region.ready md ops listed := rfl
    simp only [hrs]
    cases hq : (Region.ready md ops listed)[t % (Region.ready md ops listed).length]? with
    | none =>
      have hl : (Region.ready md ops listed) = [] := by
        rcases Nat.eq_zero_or_pos (Region.ready md ops listed).length with h0 | h0
        · exact List.eq_nil_of_length_eq_zero h0
        · rw [List.getElem?_eq_getElem (Nat.mod_lt _ h0)] at hq
          cases hq
      rw [hl]
      simp
    | some i =>
      have hi : i ∈ Region.ready md ops listed := List.mem_of_getElem? hq
      have hne : (Region.ready md ops listed).isEmpty = false := by
        cases h : Region.ready md ops listed with
        | nil => rw [h] at hi; cases hi
        | cons _ _ => rfl
      rw [hne]
      simp only [Bool.false_eq_true, if_false]
      exact List.mem_flatMap.2 ⟨i, hi, ih _ _ _⟩

section
variable {P : Program} {Q : Exit → Act → World → Prop}
theorem wpOps_of_list (ops : Array Oper) : ∀ (l : List Nat) (a : Act) (w : World), wpList P ops Q (l.filterMap fun i => ops[i]?) a w → wpOps P ops Q l a w
  | [], _, _, h => h
  | i :: l, a, w, h => by
    unfold wpOps
    cases hi : ops[i]? with
    | none =>
      rw [List.filterMap_cons, hi] at h
      exact wpOps_of_list ops l a w h
    | some o =>
      rw [List.filterMap_cons, hi] at h
      unfold wpList at h
      show if Region.wanted o (yielded ops a.tmps) then _ else _
      split
      · rename_i hw
        rw [if_pos hw] at h
        rcases h with h | h
        · exact .inl (Oper.wp_mono (fun a w h => wpOps_of_list ops l a w h) h)
        · exact .inr h
      · rename_i hw
        rw [if_neg hw] at h
        exact wpOps_of_list ops l _ w h

/-- One goal for each order. -/
def AllLists (P : Program) (ops : Array Oper) (Q : Exit → Act → World → Prop) (a : Act) (w : World) : List (List Oper) → Prop
  | [] => True
  | l :: r => wpList P ops Q l a w ∧ AllLists P ops Q a w r
theorem AllLists.mem {ops : Array Oper} {a : Act} {w : World} : ∀ {L : List (List Oper)} {l : List Oper}, AllLists P ops Q a w L → l ∈ L → wpList P ops Q l a w
  | _ :: _, _, h, hl => by
    rcases List.mem_cons.1 hl with rfl | hl
    · exact h.1
    · exact AllLists.mem h.2 hl
theorem wp_region_lists {id : Nat} {l : List Oper} {a : Act} {w : World} (L : List (List Nat)) (hm : P.follows .mixedOrders = true) (hL : lins .any l.toArray l.toArray.size (Array.replicate l.toArray.size false) [] = L)
    (h : AllLists P l.toArray Q a w.drew (L.map fun o => o.filterMap fun i => l.toArray[i]?)) : (Code.region id l.toArray true).wp P Q a w :=
  wp_region_draw fun t => by
    have hs : Region.schedule (P.follows .mixedOrders) l.toArray t = Region.linearise .any l.toArray t := by simp [Region.schedule, hm]
    rw [hs]
    have hmem : Region.linearise .any l.toArray t ∈ L := by
      rw [← hL]
      exact lin_mem _ _ _ _ _ _
    exact wpOps_of_list _ _ _ _ (h.mem (List.mem_map.2 ⟨_, hmem, rfl⟩))
end
end Go.Proofs.Ythpdfacdjgkmpaa.K
