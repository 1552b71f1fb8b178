/- Disks side by side, each with the document's beside it: plain. -/
import Derived.Test.YtijcdpefcdgklaaEf
namespace Go.Proofs.Ytijcdpefcdgklaa.Di
open Go.RowKit K

/-- A disk, and the document's beside it. -/
structure Bk where
  d : Dk
  ls : List (List UInt8)
  p : Option Addr
  c : Nat
def Foot (d : Dk) (k : Nat) : Prop := k = d.g ∨ k = d.s0 ∨ k = d.s1 ∨ d.wv.ownBlock = some k
structure One (w : World) (base n j : Nat) (x : Bk) : Prop where
  at_ : At w base x.d
  lists : Lists w x.d.vs x.ls
  one : ∀ u ∈ x.d.vs, u.oneCell' = true
  own9 : w.ownsRow base 9 1 (.slice x.p x.ls.length x.c) x.ls.length (strs x.ls)
  hn : x.d.n = n
  hl : -1 ≤ x.d.left ∧ x.d.left ≤ 9223372036854775807
  hwr : 0 ≤ x.d.wr ∧ x.d.wr ≤ 600 * (j : Int)
  hj : x.ls.length ≤ j
  hb : ∀ l ∈ x.ls, l.length ≤ 600
  blk : ∀ v ∈ x.d.vs, ∀ q, v.ownBlock = some q → ∃ cs, w.heap[q]? = some (.cells cs 5 (0, 0))
theorem One.blk_lt {w : World} {base n j : Nat} {x : Bk} (h : One w base n j x) {v : Value} (hv : v ∈ x.d.vs) {q : Nat} (hq : v.ownBlock = some q) : q < w.heap.size := by
  obtain ⟨_, hc⟩ := h.blk v hv q hq
  exact K.blk_lt hc
structure St (w : World) (base n j : Nat) (xs : List Bk) : Prop where
  one : ∀ (i : Nat) x, xs[i]? = some x → One w base n j x
  apart : ∀ (i k : Nat) x y, xs[i]? = some x → xs[k]? = some y → i ≠ k → ∀ q, Foot x.d q → ¬ Foot y.d q
  bytes : ∀ (i k : Nat) x y, xs[i]? = some x → xs[k]? = some y → ∀ v ∈ y.d.vs, ∀ q, v.ownBlock = some q → ¬ Foot x.d q
def ptrs (xs : List Bk) : List Value := xs.map fun x => .pointer (some ⟨x.d.g, 0, none⟩)
def rcells (x : Bk) : List Value := [.string ⟨x.d.a.toArray⟩, .string ⟨x.d.b.toArray⟩, .int .i64 x.d.left, .bool x.d.down, .int .i64 x.d.wr, .slice x.p x.ls.length x.c]
def rcs (xs : List Bk) : List Value := xs.flatMap rcells
theorem foot_blk {w : World} {base : Nat} {d : Dk} (h : At w base d) {q : Nat} (hq : Foot d q) : ∃ cs t, w.heap[q]? = some (.cells cs t (0, 0)) ∧ (t = 56 ∨ t = 5 ∨ t = 22) ∧ base ≤ q := by
  rcases hq with rfl | rfl | rfl | hq
  · exact ⟨_, _, h.row, Or.inl rfl, h.bg⟩
  · exact ⟨_, _, h.r0, Or.inr (Or.inl rfl), h.b0⟩
  · exact ⟨_, _, h.r1, Or.inr (Or.inl rfl), h.b1⟩
  · obtain ⟨cur, hc, hb⟩ := own_block h.own hq
    exact ⟨_, _, hc, Or.inr (Or.inr rfl), hb⟩
theorem foot_lt {w : World} {base : Nat} {d : Dk} (h : At w base d) {q : Nat} (hq : Foot d q) : q < w.heap.size := by
  obtain ⟨_, _, h1, _⟩ := foot_blk h hq
  exact blk_lt h1
theorem foot_ne {w : World} {base : Nat} {d : Dk} (h : At w base d) {q k : Nat} (hq : Foot d q) {cs : Array Value} {t : TypeId} {fr : Nat × Nat} (hk : w.heap[k]? = some (.cells cs t fr)) (h1 : t ≠ 56) (h2 : t ≠ 5) (h3 : t ≠ 22) : q ≠ k := by
  obtain ⟨_, u, hu, ht, _⟩ := foot_blk h hq
  refine blk_ne hu hk ?_
  rintro rfl
  rcases ht with rfl | rfl | rfl
  · exact h1 rfl
  · exact h2 rfl
  · exact h3 rfl
theorem At.fr {S : Nat → Prop} {w w' : World} {base : Nat} {d : Dk} (h : At w base d) (hf : Fr S w w') (hs : ∀ q, Foot d q → ¬ S q) : At w' base d :=
  ⟨hf.row h.row (hs _ (Or.inl rfl)), hf.row h.r0 (hs _ (Or.inr (Or.inl rfl))), hf.row h.r1 (hs _ (Or.inr (Or.inr (Or.inl rfl)))), h.la, h.lb, own_fr hf h.own (fun _ hk => hs _ (Or.inr (Or.inr (Or.inr hk)))), h.bg, h.b0, h.b1, h.ne, h.ln, h.h0, h.h1⟩
theorem lists_fr {S : Nat → Prop} {w w' : World} {vs : List Value} {ls : List (List UInt8)} (h : Lists w vs ls) (hf : Fr S w w') (hs : ∀ v ∈ vs, ∀ q, v.ownBlock = some q → ¬ S q) : Lists w' vs ls :=
  ⟨h.1, fun i v l hv hl => reads_fr hf (h.2 i v l hv hl) (fun _ q hq => hs v (List.mem_of_getElem? hv) q hq)⟩
theorem One.fr {S : Nat → Prop} {w w' : World} {base n j : Nat} {x : Bk} (h : One w base n j x) (hf : Fr S w w') (h1 : ∀ q, Foot x.d q → ¬ S q) (h2 : ∀ v ∈ x.d.vs, ∀ q, v.ownBlock = some q → ¬ S q) (h3 : ∀ q cs, w.heap[q]? = some (.cells cs 9 (0, 0)) → ¬ S q) : One w' base n j x :=
  ⟨h.at_.fr hf h1, lists_fr h.lists hf h2, h.one, own_fr hf h.own9 (fun k hk => by obtain ⟨cur, hc, _⟩ := own_block h.own9 hk; exact h3 k cur hc), h.hn, h.hl, h.hwr, h.hj, h.hb, fun v hv q hq => by obtain ⟨cs, hc⟩ := h.blk v hv q hq; exact ⟨cs, hf.row hc (h2 v hv q hq)⟩⟩
theorem One.more {w : World} {base n j j' : Nat} {x : Bk} (h : One w base n j x) (hj : j ≤ j') : One w base n j' x :=
  ⟨h.at_, h.lists, h.one, h.own9, h.hn, h.hl, ⟨h.hwr.1, by have := h.hwr.2; omega⟩, Nat.le_trans h.hj hj, h.hb, h.blk⟩
theorem St.more {w : World} {base n j j' : Nat} {xs : List Bk} (h : St w base n j xs) (hj : j ≤ j') : St w base n j' xs := ⟨fun i x hx => (h.one i x hx).more hj, h.apart, h.bytes⟩
theorem St.frame {S : Nat → Prop} {w w' : World} {base n j : Nat} {xs : List Bk} (h : St w base n j xs) (hf : Fr S w w') (h1 : ∀ q cs, w.heap[q]? = some (.cells cs 56 (0, 0)) ∨ w.heap[q]? = some (.cells cs 5 (0, 0)) ∨ w.heap[q]? = some (.cells cs 22 (0, 0)) ∨ w.heap[q]? = some (.cells cs 9 (0, 0)) → ¬ S q) : St w' base n j xs :=
  ⟨fun i x hx => (h.one i x hx).fr hf (fun q hq => by
      obtain ⟨cs, t, hc, ht, _⟩ := foot_blk (h.one i x hx).at_ hq
      rcases ht with rfl | rfl | rfl
      · exact h1 q cs (Or.inl hc)
      · exact h1 q cs (Or.inr (Or.inl hc))
      · exact h1 q cs (Or.inr (Or.inr (Or.inl hc)))) (fun v hv q hq => by obtain ⟨cs, hc⟩ := (h.one i x hx).blk v hv q hq; exact h1 q cs (Or.inr (Or.inl hc))) (fun q cs hc => h1 q cs (Or.inr (Or.inr (Or.inr hc)))), h.apart, h.bytes⟩
theorem St.below {w w' : World} {base n j : Nat} {xs : List Bk} (h : St w base n j xs) (hb : Below w.heap.size w w') : St w' base n j xs :=
  h.frame (S := fun _ => False) (Fr.of_below hb) (fun _ _ _ => id)
theorem set_get {xs : List Bk} {i k : Nat} {x x' y : Bk} (hi : xs[i]? = some x) (h : (xs.set i x')[k]? = some y) : (k = i ∧ y = x') ∨ (k ≠ i ∧ xs[k]? = some y) := by
  by_cases hk : k = i
  · subst hk
    rw [List.getElem?_set_self (List.getElem?_eq_some_iff.1 hi).1] at h
    exact Or.inl ⟨rfl, (Option.some.inj h).symm⟩
  · rw [List.getElem?_set_ne (Ne.symm hk)] at h
    exact Or.inr ⟨hk, h⟩
/-- One disk turns, in its own blocks. -/
theorem St.turn {S : Nat → Prop} {w w' : World} {base n j j' i : Nat} {xs : List Bk} {x x' : Bk} (h : St w base n j xs) (hi : xs[i]? = some x) (hf : Fr S w w') (hS : ∀ q, S q → Foot x.d q) (ho : One w' base n j' x') (hj : j ≤ j')
    (hF : ∀ q, Foot x'.d q → Foot x.d q ∨ w.heap.size ≤ q) (hV : ∀ v ∈ x'.d.vs, v ∈ x.d.vs ∨ ∀ q, v.ownBlock = some q → w.heap.size ≤ q ∧ ¬ Foot x'.d q) : St w' base n j' (xs.set i x') := by
  have hx := h.one i x hi
  refine ⟨fun k y hy => ?_, fun k m y z hy hz hkm q hq hq2 => ?_, fun k m y z hy hz v hv q hq hq2 => ?_⟩
  · rcases set_get hi hy with ⟨rfl, rfl⟩ | ⟨hk, hy1⟩
    · exact ho
    · exact ((h.one k y hy1).fr hf (fun q hq hs => h.apart k i y x hy1 hi hk q hq (hS q hs)) (fun v hv q hq hs => h.bytes i k x y hi hy1 v hv q hq (hS q hs)) (fun q cs hc hs => foot_ne hx.at_ (hS q hs) hc (by decide) (by decide) (by decide) rfl)).more hj
  · rcases set_get hi hy with ⟨rfl, rfl⟩ | ⟨hk, hy1⟩
    · rcases set_get hi hz with ⟨rfl, rfl⟩ | ⟨hm, hz1⟩
      · exact hkm rfl
      · rcases hF q hq with h1 | h1
        · exact h.apart _ _ _ _ hi hz1 (Ne.symm hm) q h1 hq2
        · have := foot_lt (h.one m z hz1).at_ hq2
          omega
    · rcases set_get hi hz with ⟨rfl, rfl⟩ | ⟨hm, hz1⟩
      · rcases hF q hq2 with h1 | h1
        · exact h.apart _ _ _ _ hy1 hi hk q hq h1
        · have := foot_lt (h.one k y hy1).at_ hq
          omega
      · exact h.apart _ _ _ _ hy1 hz1 hkm q hq hq2
  · rcases set_get hi hy with ⟨rfl, rfl⟩ | ⟨hk, hy1⟩
    · rcases set_get hi hz with ⟨rfl, rfl⟩ | ⟨hm, hz1⟩
      · rcases hV v hv with h1 | h1
        · rcases hF q hq2 with h2 | h2
          · exact h.bytes _ _ _ _ hi hi v h1 q hq h2
          · have := hx.blk_lt h1 hq
            omega
        · exact (h1 q hq).2 hq2
      · rcases hF q hq2 with h2 | h2
        · exact h.bytes _ _ _ _ hi hz1 v hv q hq h2
        · have := (h.one m z hz1).blk_lt hv hq
          omega
    · rcases set_get hi hz with ⟨rfl, rfl⟩ | ⟨hm, hz1⟩
      · rcases hV v hv with h1 | h1
        · exact h.bytes _ _ _ _ hy1 hi v h1 q hq hq2
        · have := foot_lt (h.one k y hy1).at_ hq2
          have := (h1 q hq).1
          omega
      · exact h.bytes _ _ _ _ hy1 hz1 v hv q hq hq2
theorem snoc_get {xs : List Bk} {x' y : Bk} {k : Nat} (h : (xs ++ [x'])[k]? = some y) : (k = xs.length ∧ y = x') ∨ (k < xs.length ∧ xs[k]? = some y) := by
  by_cases hk : k < xs.length
  · rw [List.getElem?_append_left hk] at h
    exact Or.inr ⟨hk, h⟩
  · rw [List.getElem?_append_right (by omega)] at h
    cases hq : k - xs.length with
    | zero => rw [hq] at h; cases h; exact Or.inl ⟨by omega, rfl⟩
    | succ m => rw [hq] at h; simp at h
/-- Another disk stands behind them. -/
theorem St.app {w w' : World} {base n j : Nat} {xs : List Bk} {x' : Bk} (h : St w base n j xs) (hb : Below w.heap.size w w') (ho : One w' base n j x') (hF : ∀ q, Foot x'.d q → w.heap.size ≤ q) (hV : ∀ v ∈ x'.d.vs, ∀ q, v.ownBlock = some q → q < w.heap.size ∧ ∀ (i : Nat) x, xs[i]? = some x → ¬ Foot x.d q) : St w' base n j (xs ++ [x']) := by
  have h' := h.below hb
  refine ⟨fun k y hy => ?_, fun k m y z hy hz hkm q hq hq2 => ?_, fun k m y z hy hz v hv q hq hq2 => ?_⟩
  · rcases snoc_get hy with ⟨rfl, rfl⟩ | ⟨hk, hy1⟩
    · exact ho
    · exact h'.one k y hy1
  · rcases snoc_get hy with ⟨rfl, rfl⟩ | ⟨hk, hy1⟩
    · rcases snoc_get hz with ⟨rfl, rfl⟩ | ⟨hm, hz1⟩
      · exact hkm rfl
      · have := foot_lt (h.one m z hz1).at_ hq2
        have := hF q hq
        omega
    · rcases snoc_get hz with ⟨rfl, rfl⟩ | ⟨hm, hz1⟩
      · have := foot_lt (h.one k y hy1).at_ hq
        have := hF q hq2
        omega
      · exact h.apart _ _ _ _ hy1 hz1 hkm q hq hq2
  · rcases snoc_get hy with ⟨rfl, rfl⟩ | ⟨hk, hy1⟩
    · have h1 := hF q hq2
      rcases snoc_get hz with ⟨rfl, rfl⟩ | ⟨hm, hz1⟩
      · have := (hV v hv q hq).1
        omega
      · have := (h.one m z hz1).blk_lt hv hq
        omega
    · rcases snoc_get hz with ⟨rfl, rfl⟩ | ⟨hm, hz1⟩
      · exact (hV v hv q hq).2 k y hy1 hq2
      · exact h.bytes _ _ _ _ hy1 hz1 v hv q hq hq2
/-- Behind Arm, Up. -/
theorem St.armed {w w' : World} {base n j i : Nat} {xs : List Bk} {x : Bk} {left : Int} {down : Bool} {v : Value} {e : Ending} (h : St w base n j xs) (hi : xs[i]? = some x) (ht : Turned w base x.d { x.d with left := left, down := down } v e w') (hl : -1 ≤ left ∧ left ≤ 9223372036854775807) : St w' base n j (xs.set i { x with d := { x.d with left := left, down := down } }) := by
  obtain ⟨_, hA, hf⟩ := ht
  have hx := h.one i x hi
  have hS : ∀ q, q = x.d.g → Foot x.d q := fun q hq => Or.inl hq
  refine h.turn hi hf hS ⟨hA, lists_fr hx.lists hf (fun v hv q hq hs => h.bytes i i x x hi hi v hv q hq (hS q hs)), hx.one, own_fr hf hx.own9 (fun k hk hs => ?_), hx.hn, hl, hx.hwr, hx.hj, hx.hb, fun v hv q hq => by obtain ⟨cs, hc⟩ := hx.blk v hv q hq; exact ⟨cs, hf.row hc (fun hs => h.bytes i i x x hi hi v hv q hq (hS q hs))⟩⟩ (Nat.le_refl _) (fun q hq => Or.inl hq) (fun v hv => Or.inl hv)
  obtain ⟨cur, hc, _⟩ := own_block hx.own9 hk
  exact foot_ne hx.at_ (hS k hs) hc (by decide) (by decide) (by decide) rfl
end Go.Proofs.Ytijcdpefcdgklaa.Di
