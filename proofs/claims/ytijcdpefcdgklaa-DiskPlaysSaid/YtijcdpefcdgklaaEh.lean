/- Disks side by side, written and cloned: plain. -/
import Derived.Test.YtijcdpefcdgklaaEg
namespace Go.Proofs.Ytijcdpefcdgklaa.Di
open Go.RowKit K

theorem cut_le (d : Dk) (n : Nat) : d.cut n ≤ n := by unfold Dk.cut; split <;> omega
theorem wrote_left (d : Dk) (n : Nat) (h : -1 ≤ d.left ∧ d.left ≤ 9223372036854775807) : -1 ≤ (if 0 < d.left then d.left - d.cut n else d.left) ∧ (if 0 < d.left then d.left - d.cut n else d.left) ≤ 9223372036854775807 := by
  unfold Dk.cut
  split
  · split <;> omega
  · omega
/-- Behind a write. -/
theorem St.written {w w' : World} {base n j i : Nat} {xs : List Bk} {x : Bk} {slot : Int} {l : List UInt8} {wv v : Value} {e : Ending} {p' : Option Addr} {c' : Nat} (h : St w base n j xs) (hi : xs[i]? = some x) (ht : Wrote w base x.d slot l e w' wv v) (hl : l.length ≤ 600)
    (h9 : w'.ownsRow base 9 1 (.slice p' (x.ls.length + 1) c') (x.ls.length + 1) (strs (x.ls ++ [l]))) : St w' base n (j + 1) (xs.set i ⟨x.d.wrote slot l wv v, x.ls ++ [l], p', c'⟩) := by
  have hx := h.one i x hi
  have hS : ∀ q, (q = x.d.g ∨ (q = if slot = 0 then x.d.s0 else x.d.s1) ∨ x.d.wv.ownBlock = some q) → Foot x.d q := by
    rintro q (hq | hq | hq)
    · exact Or.inl hq
    · split at hq
      · exact Or.inr (Or.inl hq)
      · exact Or.inr (Or.inr (Or.inl hq))
    · exact Or.inr (Or.inr (Or.inr hq))
  have hcl := cut_le x.d l.length
  have hnew : Reads w' v l := reads_own ht.new
  have hw0 := hx.hwr
  refine h.turn hi ht.fr hS ⟨ht.at_, ?_, ?_, ?_, hx.hn, wrote_left x.d l.length hx.hl, ?_, ?_, ?_, ?_⟩ (Nat.le_succ j) ?_ ?_
  · have h1 := lists_fr hx.lists ht.fr (fun u hu q hq hs => h.bytes i i x x hi hi u hu q hq (hS q hs))
    refine ⟨by show (x.d.vs ++ [v]).length = (x.ls ++ [l]).length; rw [List.length_append, List.length_append, h1.1]; rfl, fun k u m hu hm => ?_⟩
    have hu' : (x.d.vs ++ [v])[k]? = some u := hu
    by_cases hk : k < x.d.vs.length
    · rw [List.getElem?_append_left hk] at hu'
      rw [List.getElem?_append_left (by rw [← h1.1]; exact hk)] at hm
      exact h1.2 k u m hu' hm
    · rw [List.getElem?_append_right (by omega)] at hu'
      rw [List.getElem?_append_right (by rw [← h1.1]; omega), ← h1.1] at hm
      cases hq : k - x.d.vs.length with
      | zero =>
        rw [hq] at hu' hm
        cases hu'; cases hm
        exact hnew
      | succ r => rw [hq] at hu'; simp at hu'
  · intro u hu
    rcases List.mem_append.1 (show u ∈ x.d.vs ++ [v] from hu) with hu | hu
    · exact hx.one u hu
    · exact own_one ht.new u hu
  · show w'.ownsRow base 9 1 (.slice p' (x.ls ++ [l]).length c') (x.ls ++ [l]).length _
    rw [show (x.ls ++ [l]).length = x.ls.length + 1 by simp]
    exact h9
  · have h1 := hx.hwr
    show 0 ≤ x.d.wr + (x.d.cut l.length : Int) ∧ x.d.wr + (x.d.cut l.length : Int) ≤ 600 * ((j + 1 : Nat) : Int)
    omega
  · have h1 := hx.hj
    show (x.ls ++ [l]).length ≤ j + 1
    rw [show (x.ls ++ [l]).length = x.ls.length + 1 by simp]
    omega
  · intro m hm
    rcases List.mem_append.1 (show m ∈ x.ls ++ [l] from hm) with hm | hm
    · exact hx.hb m hm
    · rw [List.mem_singleton.1 hm]; exact hl
  · intro u hu q hq
    rcases List.mem_append.1 (show u ∈ x.d.vs ++ [v] from hu) with hu | hu
    · obtain ⟨cs, hc⟩ := hx.blk u hu q hq
      exact ⟨cs, ht.fr.row hc (fun hs => h.bytes i i x x hi hi u hu q hq (hS q hs))⟩
    · rw [List.mem_singleton.1 hu] at hq
      obtain ⟨cur, hc, _⟩ := own_block ht.new hq
      exact ⟨cur, hc⟩
  · rintro q (hq | hq | hq | hq)
    · exact Or.inl (Or.inl hq)
    · exact Or.inl (Or.inr (Or.inl hq))
    · exact Or.inl (Or.inr (Or.inr (Or.inl hq)))
    · rcases ht.wb q hq with h1 | h1
      · exact Or.inl (Or.inr (Or.inr (Or.inr h1)))
      · exact Or.inr h1
  · intro u hu
    rcases List.mem_append.1 (show u ∈ x.d.vs ++ [v] from hu) with hu | hu
    · exact Or.inl hu
    · refine Or.inr fun q hq => ?_
      rw [List.mem_singleton.1 hu] at hq
      obtain ⟨cur, hc, hge⟩ := own_block ht.new hq
      refine ⟨hge, ?_⟩
      have n1 := blk_lt hx.at_.row
      have n2 := blk_lt hx.at_.r0
      have n3 := blk_lt hx.at_.r1
      rintro (h1 | h1 | h1 | h1)
      · have h2 : q = x.d.g := h1
        omega
      · have h2 : q = x.d.s0 := h1
        omega
      · have h2 : q = x.d.s1 := h1
        omega
      · obtain ⟨cur2, hc2, _⟩ := own_block ht.at_.own h1
        exact blk_ne hc hc2 (by decide) rfl
/-- Behind a clone. -/
theorem St.cloned {w w' : World} {base n j i : Nat} {xs : List Bk} {x : Bk} {d' : Dk} (h : St w base n j xs) (hi : xs[i]? = some x) (hbs : base ≤ w.heap.size) (hA : At w' w.heap.size d') (e1 : d'.n = x.d.n) (e2 : d'.left = x.d.left) (e3 : d'.wr = x.d.wr) (e4 : d'.vs = x.d.vs) (hb : Below w.heap.size w w') : St w' base n j (xs ++ [⟨d', x.ls, x.p, x.c⟩]) := by
  have hx := (h.below hb).one i x hi
  have hx0 := h.one i x hi
  refine h.app hb ⟨hA.under hbs, by show Lists w' d'.vs x.ls; rw [e4]; exact hx.lists, by show ∀ u ∈ d'.vs, _; rw [e4]; exact hx.one, hx.own9, e1.trans hx.hn, by show -1 ≤ d'.left ∧ d'.left ≤ _; rw [e2]; exact hx.hl, by show 0 ≤ d'.wr ∧ d'.wr ≤ _; rw [e3]; exact hx.hwr, hx.hj, hx.hb, by show ∀ v ∈ d'.vs, _; rw [e4]; exact hx.blk⟩ ?_ ?_
  · intro q hq
    obtain ⟨_, _, _, _, h1⟩ := foot_blk hA hq
    exact h1
  · intro v hv q hq
    have hv' : v ∈ x.d.vs := by rw [← e4]; exact hv
    exact ⟨hx0.blk_lt hv' hq, fun k y hy => h.bytes k i y x hy hi v hv' q hq⟩
theorem rcs_len (xs : List Bk) : (rcs xs).length = xs.length * 6 := by
  unfold rcs
  induction xs with
  | nil => rfl
  | cons x xs ih => rw [List.flatMap_cons, List.length_append, ih, List.length_cons]; show 6 + _ = _; omega
theorem rcs_cons (x : Bk) (xs : List Bk) : rcs (x :: xs) = rcells x ++ rcs xs := rfl
theorem rcs_app (xs ys : List Bk) : rcs (xs ++ ys) = rcs xs ++ rcs ys := by unfold rcs; exact List.flatMap_append ..
theorem rcs_split : ∀ {xs : List Bk} {i : Nat} {x : Bk}, xs[i]? = some x → rcs xs = rcs (xs.take i) ++ rcells x ++ rcs (xs.drop (i + 1)) := by
  intro xs i x h
  have hlt := (List.getElem?_eq_some_iff.1 h).1
  have h1 : xs = xs.take i ++ x :: xs.drop (i + 1) := by
    have h2 := List.drop_eq_getElem_cons hlt
    rw [(List.getElem?_eq_some_iff.1 h).2] at h2
    rw [← h2, List.take_append_drop]
  conv => lhs; rw [h1]
  rw [rcs_app, rcs_cons, List.append_assoc]
theorem rcs_get {xs : List Bk} {i k : Nat} {x : Bk} (h : xs[i]? = some x) (hk : k < 6) : (rcs xs)[i * 6 + k]? = (rcells x)[k]? := by
  have hlt := (List.getElem?_eq_some_iff.1 h).1
  have h1 : (rcs (xs.take i)).length = i * 6 := by rw [rcs_len, List.length_take, Nat.min_eq_left (Nat.le_of_lt hlt)]
  rw [rcs_split h, List.append_assoc, List.getElem?_append_right (by omega), h1, Nat.add_sub_cancel_left, List.getElem?_append_left (by show k < 6; exact hk)]
theorem rcs_set {xs : List Bk} {i : Nat} {x x' : Bk} (h : xs[i]? = some x) : rcs (xs.set i x') = (rcs xs).take (i * 6) ++ rcells x' ++ (rcs xs).drop (i * 6 + 6) := by
  have hlt := (List.getElem?_eq_some_iff.1 h).1
  have h1 : (rcs (xs.take i)).length = i * 6 := by rw [rcs_len, List.length_take, Nat.min_eq_left (Nat.le_of_lt hlt)]
  have h2 : (xs.set i x')[i]? = some x' := by rw [List.getElem?_set_self hlt]
  have h3 : (xs.set i x').take i = xs.take i := List.take_set_of_le (Nat.le_refl i)
  have h4 : (xs.set i x').drop (i + 1) = xs.drop (i + 1) := List.drop_set_of_lt (Nat.lt_succ_self i)
  have hs := rcs_split h
  have ha : (rcs xs).take (i * 6) = rcs (xs.take i) := by rw [hs, List.append_assoc, List.take_append_of_le_length (Nat.le_of_eq h1.symm), List.take_of_length_le (Nat.le_of_eq h1)]
  have hl : (rcs (xs.take i) ++ rcells x).length = i * 6 + 6 := by rw [List.length_append, h1]; rfl
  have hd : (rcs xs).drop (i * 6 + 6) = rcs (xs.drop (i + 1)) := by rw [hs, List.drop_append, List.drop_of_length_le (Nat.le_of_eq hl), List.nil_append, hl, Nat.sub_self, List.drop_zero]
  rw [rcs_split h2, h3, h4, ha, hd]
theorem ptrs_set {xs : List Bk} {i : Nat} {x x' : Bk} (h : xs[i]? = some x) (hg : x'.d.g = x.d.g) : ptrs (xs.set i x') = ptrs xs := by
  unfold ptrs
  refine List.ext_getElem? fun k => ?_
  rw [List.getElem?_map, List.getElem?_map]
  by_cases hk : i = k
  · subst hk
    rw [List.getElem?_set_self (List.getElem?_eq_some_iff.1 h).1, h]
    show some (Value.pointer (some ⟨x'.d.g, 0, none⟩)) = some (Value.pointer (some ⟨x.d.g, 0, none⟩))
    rw [hg]
  · rw [List.getElem?_set_ne hk]
theorem ptrs_get {xs : List Bk} {i : Nat} {x : Bk} (h : xs[i]? = some x) : (ptrs xs)[i]? = some (.pointer (some ⟨x.d.g, 0, none⟩)) := by
  unfold ptrs
  rw [List.getElem?_map, h]
  rfl
theorem ptrs_app (xs ys : List Bk) : ptrs (xs ++ ys) = ptrs xs ++ ptrs ys := by unfold ptrs; exact List.map_append ..
theorem ptrs_len (xs : List Bk) : (ptrs xs).length = xs.length := by unfold ptrs; exact List.length_map ..
/-- The cells of a row that a slice owns. -/
theorem own_cell {w : World} {base e g n c : Nat} {size : Nat} {vs : List Value} {j : Nat} {u : Value} (h : w.ownsRow base e size (.slice (some ⟨g, 0, none⟩) n c) n vs) (hj : vs[j]? = some u) : w.cell? ⟨g, j, none⟩ = some u := by
  have h1 := h.cells (g := g) rfl j u hj
  have e1 : (⟨g, 0, none⟩ : Addr).add j = ⟨g, j, none⟩ := by unfold Addr.add; split <;> simp_all
  rw [e1] at h1
  exact h1
end Go.Proofs.Ytijcdpefcdgklaa.Di
