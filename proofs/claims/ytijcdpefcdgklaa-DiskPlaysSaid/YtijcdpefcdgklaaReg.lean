/- A region that draws its order and holds calls, allocations and stores: one walk, in the order of its text. -/
import Derived.Test.YtijcdpefcdgklaaRow
import Derived.Deep.Quiet
import Derived.Deep.QuietTactic
namespace Go.Proofs.Ytijcdpefcdgklaa.K
open Go.RowKit

/-- A call returns so. -/
def Gives (R : Value → World → Prop) (e : Ending) (w : World) : Prop := ∃ u, e = .returned u ∧ R u w
/-- A value, and below all that stood nothing has turned. -/
def RetTo (v : Value) (w : World) (u : Value) (w' : World) : Prop := u = v ∧ Below w.heap.size w w'
theorem gives {v : Value} {w w' : World} {e : Ending} (h : e = .returned v) (hb : Below w.heap.size w w') : Gives (RetTo v w) e w' := ⟨v, h, rfl, hb⟩
/-- What a step hands back, and the world behind it. -/
def stepTo (P : Program) (R : Value → World → Prop) : Result Next → Prop
  | .ok (.value u) w' => R u w'
  | .ok .skip w' => R undef w'
  | .ok (.enter f args) w' => Calls P f args w' (Gives R)
  | _ => False
/-- A step that only looks. -/
def lookTo (w : World) (v : Value) : Result Next → Prop
  | .ok (.value u) w' => w' = w ∧ u = v
  | _ => False
theorem lookTo_run {w : World} {v : Value} {r : Result Next} (h : lookTo w v r) : r = .ok (.value v) w := by
  unfold lookTo at h
  split at h
  · obtain ⟨rfl, rfl⟩ := h; rfl
  · exact h.elim
theorem calls_some {P : Program} {f : FuncId} {args : Array Value} {w : World} {R : Ending → World → Prop} (h : Calls P f args w R) : ∃ e w', R e w' :=
  let ⟨e, w', _, r, _⟩ := h []
  ⟨e, w', r⟩
theorem stepTo_some {P : Program} {R : Value → World → Prop} {r : Result Next} (h : stepTo P R r) : ∃ u w', R u w' := by
  unfold stepTo at h
  split at h
  · exact ⟨_, _, h⟩
  · exact ⟨_, _, h⟩
  · obtain ⟨e, w', u, _, hr⟩ := calls_some h
    exact ⟨u, w', hr⟩
  · exact h.elim
theorem stepTo_wp {P : Program} {R : Value → World → Prop} {o : Oper} {a : Act} {w : World} {K : Act → World → Prop} {Q : Exit → Act → World → Prop}
    (h : stepTo P R ((execOp a.eval o).run P w)) (hk : ∀ u w', R u w' → K (a.put o.dst u) w') : o.wp P a w K Q := by
  unfold Oper.wp
  generalize (execOp a.eval o).run P w = r at *
  unfold stepTo at h
  split at h
  · exact hk _ _ h
  · exact hk _ _ h
  · exact h.mono fun e w'' ⟨u, he, hr⟩ => by subst he; exact hk _ _ hr
  · exact h.elim

/-- The blocks that the region has made: by which operation each was touched last, and what lies there. -/
abbrev Own := Nat → Option (Option Nat × Obj)
def find (g : Nat) : List (Nat × Obj) → Option Obj
  | [] => none
  | p :: l => if p.1 = g then some p.2 else find g l
def Own.ext (own : Own) (k : Nat) (l : List (Nat × Obj)) : Own := fun g => match find g l with
  | some o => some (some k, o)
  | none => own g
theorem find_mem {g : Nat} {o : Obj} : ∀ {l : List (Nat × Obj)}, find g l = some o → (g, o) ∈ l
  | p :: l, h => by
    unfold find at h
    split at h
    · rename_i e
      obtain ⟨x, y⟩ := p
      cases h
      cases e
      exact List.mem_cons_self ..
    · exact List.mem_cons_of_mem _ (find_mem h)
theorem find_none {g : Nat} : ∀ {l : List (Nat × Obj)}, (∀ p ∈ l, p.1 ≠ g) → find g l = none
  | [], _ => rfl
  | p :: l, h => by
    unfold find
    rw [if_neg (h p (List.mem_cons_self ..))]
    exact find_none fun q hq => h q (List.mem_cons_of_mem _ hq)
theorem find_key {g : Nat} : ∀ {l : List (Nat × Obj)} {p : Nat × Obj}, p ∈ l → p.1 = g → ∃ o, find g l = some o
  | q :: l, p, h, e => by
    unfold find
    split
    · exact ⟨_, rfl⟩
    · rename_i hq
      rcases List.mem_cons.1 h with rfl | h
      · exact absurd e hq
      · exact find_key h e
def Holds (T : Nat → Prop) (own : Own) (w : World) : Prop := ∀ g k o, own g = some (k, o) → w.heap[g]? = some o ∧ T g
def Fresh (T : Nat → Prop) (own : Own) (l : List (Nat × Obj)) : Prop := ∀ p ∈ l, T p.1 ∧ own p.1 = none
def Live (C : World → Prop) (T : Nat → Prop) (own : Own) : Prop := ∃ w, C w ∧ Holds T own w

/-- What an operation makes: a value and blocks, told by some datum. -/
structure Maker where
  X : Type
  val : X → Value
  bl : X → List (Nat × Obj)
  pr : X → Prop
inductive Kind where
  | look
  | make (m : List Value → Maker)
  | touch
def addrOf (o : Oper) : Option Operand := match o.op with
  | .store _ x _ => some x
  | .load _ x => some x
  | .convert _ _ x => some x
  | _ => none
def blockOf : Value → Option Nat
  | .pointer (some a) => some a.block
  | .slice (some a) _ _ => some a.block
  | _ => none
/-- What an operation is handed. -/
def evals (o : Oper) (a : Act) : List Value := o.op.operands.toList.map a.eval
def valOf : Next → Value
  | .value v => v
  | _ => undef
def waits (md : Region.Mode) (o : Oper) (j : Nat) : Prop := ∃ e ∈ o.after, Region.binds md e = true ∧ e.on = j

section
variable {P : Program} {ops : Array Oper} {md : Region.Mode} {C : World → Prop} {T : Nat → Prop} {kd : Nat → Kind}

/-- What it makes is made. -/
def Made (m : Maker) (C : World → Prop) (w : World) (u : Value) (w' : World) : Prop := ∃ x, u = m.val x ∧ m.pr x ∧ C w' ∧ Below w.heap.size w w' ∧ ∀ p ∈ m.bl x, w.heap.size ≤ p.1 ∧ w'.heap[p.1]? = some p.2
def Maker.step (m : Maker) (P : Program) (C : World → Prop) (w : World) (r : Result Next) : Prop := stepTo P (Made m C w) r
def Touches (P : Program) (C : World → Prop) (T : Nat → Prop) (s : Sem Next) (g : Nat) (obj obj' : Obj) (v : Value) : Prop :=
  ∀ w, C w → T g → w.heap[g]? = some obj → ∃ n w', s.run P w = .ok n w' ∧ ((∃ u, n = .value u) ∨ n = .skip) ∧ valOf n = v ∧ w'.heap[g]? = some obj' ∧ w.grownBy w' (some g)

def Makes (P : Program) (C : World → Prop) (T : Nat → Prop) (k : Nat) (m : Maker) (s : Sem Next) (K : Value → Own → Prop) (own : Own) : Prop :=
  (∀ w, C w → m.step P C w (s.run P w)) ∧ ∀ x, m.pr x → Fresh T own (m.bl x) → Live C T (own.ext k (m.bl x)) → K (m.val x) (own.ext k (m.bl x))
def gStep (P : Program) (ops : Array Oper) (md : Region.Mode) (C : World → Prop) (T : Nat → Prop) (kd : Nat → Kind) (o : Oper) (k : Nat) (K : Act → Own → Prop) (a : Act) (own : Own) : Prop :=
  if Region.wanted o (yielded ops a.tmps) then
    match kd k with
    | .look => ∃ v, (∀ w, C w → (execOp a.eval o).run P w = .ok (.value v) w) ∧ K (a.put o.dst v) own
    | .make m => Makes P C T k (m (evals o a)) (execOp a.eval o) (fun v own' => K (a.put o.dst v) own') own
    | .touch => ∃ g last obj obj' v px, addrOf o = some px ∧ blockOf (a.eval px) = some g ∧ own g = some (last, obj) ∧ (∀ m, last = some m → waits md o m) ∧ Touches P C T (execOp a.eval o) g obj obj' v ∧
        (Live C T (own.ext k [(g, obj')]) → K (a.put o.dst v) (own.ext k [(g, obj')]))
  else K (a.put o.dst undef) own
def gOp (P : Program) (ops : Array Oper) (md : Region.Mode) (C : World → Prop) (T : Nat → Prop) (kd : Nat → Kind) (k : Nat) (K : Act → Own → Prop) (a : Act) (own : Own) : Prop :=
  match ops[k]? with
  | none => K a own
  | some o => gStep P ops md C T kd o k K a own
def wpAnyG (P : Program) (ops : Array Oper) (md : Region.Mode) (C : World → Prop) (T : Nat → Prop) (kd : Nat → Kind) (Q : Act → Own → Prop) : Nat → Array Bool → Act → Own → Prop
  | 0, listed, a, own => Region.ready md ops listed = [] ∧ Q a own
  | fuel + 1, listed, a, own =>
    (Region.ready md ops listed = [] → Q a own) ∧
    ∀ i ∈ Region.ready md ops listed, gOp P ops md C T kd i (wpAnyG P ops md C T kd Q fuel (listed.setIfInBounds i true)) a own

theorem gStep_mono {o : Oper} {k : Nat} {K K' : Act → Own → Prop} {a : Act} {own : Own} (hl : Live C T own) (h : ∀ a own, Live C T own → K a own → K' a own) (hh : gStep P ops md C T kd o k K a own) : gStep P ops md C T kd o k K' a own := by
  unfold gStep at *
  split
  · rename_i hw
    rw [if_pos hw] at hh
    split at hh
    · obtain ⟨v, h1, h2⟩ := hh
      exact ⟨v, h1, h _ _ hl h2⟩
    · exact ⟨hh.1, fun x hx hf hL => h _ _ hL (hh.2 x hx hf hL)⟩
    · obtain ⟨g, last, obj, obj', v, px, h1, h2, h4, h5, h6, h7⟩ := hh
      exact ⟨g, last, obj, obj', v, px, h1, h2, h4, h5, h6, fun hL => h _ _ hL (h7 hL)⟩
  · rename_i hw
    rw [if_neg hw] at hh
    exact h _ _ hl hh

/-! ### Extending what is owned -/
theorem ext_nil (own : Own) (k : Nat) : own.ext k [] = own := rfl
theorem ext_key {own : Own} {k g : Nat} {l : List (Nat × Obj)} {o : Obj} (h : find g l = some o) : own.ext k l g = some (some k, o) := by unfold Own.ext; rw [h]
theorem ext_off {own : Own} {k g : Nat} {l : List (Nat × Obj)} (h : find g l = none) : own.ext k l g = own g := by unfold Own.ext; rw [h]
theorem ext_off' {own : Own} {k g : Nat} {l : List (Nat × Obj)} (h : ∀ p ∈ l, p.1 ≠ g) : own.ext k l g = own g := ext_off (find_none h)
theorem ext_comm {own : Own} {i j : Nat} {l m : List (Nat × Obj)} (h : ∀ p ∈ l, ∀ q ∈ m, p.1 ≠ q.1) : (own.ext i l).ext j m = (own.ext j m).ext i l := by
  funext g
  cases h1 : find g m with
  | none =>
    rw [ext_off h1]
    cases h2 : find g l with
    | none => rw [ext_off h2, ext_off h2, ext_off h1]
    | some o => rw [ext_key h2, ext_key h2]
  | some o =>
    have h2 : find g l = none := find_none fun p hp e => h p hp _ (find_mem h1) e
    rw [ext_key h1, ext_off h2, ext_key h1]
theorem fresh_key {own : Own} {l : List (Nat × Obj)} {g : Nat} {k : Option Nat} {o : Obj} (h : Fresh T own l) (hg : own g = some (k, o)) : ∀ p ∈ l, p.1 ≠ g := fun p hp e => by
  have := (h p hp).2
  rw [e, hg] at this
  cases this
theorem fresh_of_ext {own : Own} {l m : List (Nat × Obj)} {k : Nat} (h : Fresh T (own.ext k l) m) : Fresh T own m ∧ ∀ p ∈ l, ∀ q ∈ m, p.1 ≠ q.1 := by
  have hd : ∀ q ∈ m, ∀ p ∈ l, p.1 ≠ q.1 := fun q hq p hp e => by
    obtain ⟨o, ho⟩ := find_key hp e
    have := (h q hq).2
    rw [ext_key ho] at this
    cases this
  exact ⟨fun q hq => ⟨(h q hq).1, (ext_off' (hd q hq)).symm.trans (h q hq).2⟩, fun p hp q hq => hd q hq p hp⟩
theorem fresh_ext {own : Own} {l m : List (Nat × Obj)} {k : Nat} (h : Fresh T own m) (hd : ∀ p ∈ l, ∀ q ∈ m, p.1 ≠ q.1) : Fresh T (own.ext k l) m := fun q hq =>
  ⟨(h q hq).1, (ext_off' fun p hp => hd p hp q hq).trans (h q hq).2⟩
theorem holds_less {own : Own} {k : Nat} {l : List (Nat × Obj)} {w : World} (hf : Fresh T own l) (h : Holds T (own.ext k l) w) : Holds T own w := fun g n o hg =>
  h g n o ((ext_off' (fresh_key hf hg)).trans hg)
theorem live_less {own : Own} {k : Nat} {l : List (Nat × Obj)} (hf : Fresh T own l) (h : Live C T (own.ext k l)) : Live C T own :=
  let ⟨w, hc, hh⟩ := h
  ⟨w, hc, holds_less hf hh⟩
theorem holds_make {own : Own} {k : Nat} {l : List (Nat × Obj)} {w w' : World} (hs : ∀ g, w.heap.size ≤ g → T g) (h : Holds T own w) (hb : Below w.heap.size w w') (hl : ∀ p ∈ l, w.heap.size ≤ p.1 ∧ w'.heap[p.1]? = some p.2) :
    Fresh T own l ∧ Holds T (own.ext k l) w' := by
  refine ⟨fun p hp => ⟨hs _ (hl p hp).1, ?_⟩, fun g n o hg => ?_⟩
  · cases ho : own p.1 with
    | none => rfl
    | some q =>
      have h1 := blk_lt (h p.1 q.1 q.2 ho).1
      have h2 := (hl p hp).1
      omega
  · cases hf : find g l with
    | none =>
      rw [ext_off hf] at hg
      obtain ⟨h1, h2⟩ := h g n o hg
      exact ⟨blk_below h1 hb, h2⟩
    | some p =>
      rw [ext_key hf] at hg
      injection hg with hg
      injection hg with _ hg
      subst hg
      have := hl _ (find_mem hf)
      exact ⟨this.2, hs _ this.1⟩
theorem holds_touch {own : Own} {k g : Nat} {n : Option Nat} {obj obj' : Obj} {w w' : World} (h : Holds T own w) (hg : own g = some (n, obj)) (hn : w'.heap[g]? = some obj') (hb : w.grownBy w' (some g)) : Holds T (own.ext k [(g, obj')]) w' := fun g' m o ho => by
  by_cases e : g = g'
  · subst e
    rw [ext_key (o := obj') (by simp [find])] at ho
    injection ho with ho
    injection ho with _ ho
    subst ho
    exact ⟨hn, (h g n obj hg).2⟩
  · rw [ext_off (by simp [find, e])] at ho
    obtain ⟨h1, h2⟩ := h g' m o ho
    exact ⟨blk_grown h1 hb (fun e' => e (Option.some.inj e').symm), h2⟩

/-! ### It is a walk of every order -/
theorem wpOp_of_gOp {Q : Exit → Act → World → Prop} {i : Nat} {a : Act} {own : Own} {w : World} {K : Act → Own → Prop} {K' : Act → World → Prop} (hs : ∀ w, C w → ∀ g, w.heap.size ≤ g → T g) (hg : ∀ w w' g, C w → T g → w.grownBy w' (some g) → C w')
    (hC : C w) (hh : Holds T own w) (hK : ∀ a own w, C w → Holds T own w → K a own → K' a w) (h : gOp P ops md C T kd i K a own) : wpOp P ops Q i K' a w := by
  unfold gOp at h
  unfold wpOp
  split
  · rename_i ho; simp only [ho] at h; exact hK _ _ _ hC hh h
  · rename_i o ho
    simp only [ho] at h
    unfold gStep at h
    split
    · rename_i hw
      rw [if_pos hw] at h
      refine Or.inl ?_
      split at h
      · obtain ⟨v, h1, h2⟩ := h
        refine stepTo_wp (R := fun u w' => u = v ∧ w' = w) ?_ ?_
        · rw [h1 w hC]; exact ⟨rfl, rfl⟩
        · rintro u w' ⟨rfl, rfl⟩; exact hK _ _ _ hC hh h2
      · obtain ⟨h1, h2⟩ := h
        refine stepTo_wp (h1 w hC) ?_
        rintro u w' ⟨x, rfl, hp, hc, hb, hl⟩
        obtain ⟨hf, hh'⟩ := holds_make (k := i) (hs w hC) hh hb hl
        exact hK _ _ _ hc hh' (h2 x hp hf ⟨w', hc, hh'⟩)
      · obtain ⟨g, last, obj, obj', v, px, _, _, h4, _, h6, h7⟩ := h
        obtain ⟨b1, b2⟩ := hh g last obj h4
        obtain ⟨n, w', hr, hn, hv, hn', hb⟩ := h6 w hC b2 b1
        refine stepTo_wp (R := fun u w'' => u = v ∧ w'' = w') ?_ ?_
        · rw [hr]
          rcases hn with ⟨u, rfl⟩ | rfl
          · exact ⟨hv, rfl⟩
          · exact ⟨hv, rfl⟩
        · rintro u w'' ⟨rfl, rfl⟩
          have hc := hg _ _ _ hC b2 hb
          have hh' := holds_touch (k := i) hh h4 hn' hb
          exact hK _ _ _ hc hh' (h7 ⟨_, hc, hh'⟩)
    · rename_i hw
      rw [if_neg hw] at h
      exact hK _ _ _ hC hh h
theorem wpAny_of_G {Q : Act → Own → Prop} {Q' : Exit → Act → World → Prop} (hs : ∀ w, C w → ∀ g, w.heap.size ≤ g → T g) (hg : ∀ w w' g, C w → T g → w.grownBy w' (some g) → C w') (hQ : ∀ a own w, C w → Holds T own w → Q a own → Q' .normal a w) :
    ∀ (fuel : Nat) (listed : Array Bool) (a : Act) (own : Own) (w : World), C w → Holds T own w → wpAnyG P ops md C T kd Q fuel listed a own → wpAny P md ops Q' fuel listed a w
  | 0, _, _, _, _, hC, hh, h => ⟨h.1, hQ _ _ _ hC hh h.2⟩
  | fuel + 1, _, _, _, _, hC, hh, h => ⟨fun h0 => hQ _ _ _ hC hh (h.1 h0), fun i hi => wpOp_of_gOp hs hg hC hh (fun a own w hc hh' hk => wpAny_of_G hs hg hQ fuel _ a own w hc hh' hk) (h.2 i hi)⟩

/-! ### Two operations that stand apart -/
theorem live_make {k : Nat} {m : Maker} {own : Own} (hs : ∀ w, C w → ∀ g, w.heap.size ≤ g → T g) (hl : Live C T own) {s : Sem Next} (h : ∀ w, C w → m.step P C w (s.run P w)) : ∃ x, m.pr x ∧ Fresh T own (m.bl x) ∧ Live C T (own.ext k (m.bl x)) := by
  obtain ⟨w, hC, hh⟩ := hl
  obtain ⟨u, w', x, _, hp, hc, hb, hl⟩ := stepTo_some (h w hC)
  obtain ⟨hf, hh'⟩ := holds_make (k := k) (hs w hC) hh hb hl
  exact ⟨x, hp, hf, w', hc, hh'⟩
theorem live_touch {k g : Nat} {n : Option Nat} {obj obj' : Obj} {v : Value} {own : Own} (hg : ∀ w w' g, C w → T g → w.grownBy w' (some g) → C w') (hl : Live C T own) {s : Sem Next} (ho : own g = some (n, obj)) (h : Touches P C T s g obj obj' v) : Live C T (own.ext k [(g, obj')]) := by
  obtain ⟨w, hC, hh⟩ := hl
  obtain ⟨b1, b2⟩ := hh g n obj ho
  obtain ⟨_, w', _, _, _, hn, hb⟩ := h w hC b2 b1
  exact ⟨w', hg _ _ _ hC b2 hb, holds_touch hh ho hn hb⟩
theorem touches_same {g : Nat} {obj o1 o2 : Obj} {v1 v2 : Value} {s : Sem Next} {own : Own} {n : Option Nat} (hl : Live C T own) (ho : own g = some (n, obj)) (h1 : Touches P C T s g obj o1 v1) (h2 : Touches P C T s g obj o2 v2) : o1 = o2 ∧ v1 = v2 := by
  obtain ⟨w, hC, hh⟩ := hl
  obtain ⟨b1, b2⟩ := hh g n obj ho
  obtain ⟨n1, w1, r1, _, e1, f1, _⟩ := h1 w hC b2 b1
  obtain ⟨n2, w2, r2, _, e2, f2, _⟩ := h2 w hC b2 b1
  rw [r1] at r2
  injection r2 with r2 r3
  subst r2 r3
  rw [f1] at f2
  injection f2 with f2
  exact ⟨f2, e1.symm.trans e2⟩
theorem look_same {v1 v2 : Value} {s : Sem Next} {own : Own} (hl : Live C T own) (h1 : ∀ w, C w → s.run P w = .ok (.value v1) w) (h2 : ∀ w, C w → s.run P w = .ok (.value v2) w) : v1 = v2 := by
  obtain ⟨w, hC, _⟩ := hl
  have := (h1 w hC).symm.trans (h2 w hC)
  injection this with h _
  injection h

theorem live_set {k g : Nat} {n : Option Nat} {o o' : Obj} {own : Own} (hg : ∀ w w' g, C w → T g → w.grownBy w' (some g) → C w') (hl : Live C T (own.ext k [(g, o')])) (ho : own g = some (n, o)) : Live C T own := by
  obtain ⟨w, hC, hh⟩ := hl
  obtain ⟨b1, b2⟩ := hh g (some k) o' (ext_key (by simp [find]))
  have b0 := blk_lt b1
  have hgr : w.grownBy { w with heap := w.heap.setIfInBounds g o } (some g) := by
    refine ⟨rfl, rfl, rfl, by simp, fun x hx hne => ?_⟩
    exact Array.getElem?_setIfInBounds_ne (fun e => hne (congrArg some e.symm))
  refine ⟨_, hg _ _ _ hC b2 hgr, fun g' m p hp => ?_⟩
  by_cases e : g = g'
  · subst e
    rw [ho] at hp
    injection hp with hp
    injection hp with _ hp
    subst hp
    refine ⟨?_, b2⟩
    show (w.heap.setIfInBounds g o)[g]? = _
    simp [b0]
  · obtain ⟨h1, h2⟩ := hh g' m p ((ext_off (by simp [find, e])).trans hp)
    exact ⟨blk_grown h1 hgr (fun e' => e (Option.some.inj e').symm), h2⟩
theorem addr_put {o : Oper} {px : Operand} {a : Act} {dst : Option Tmp} {v : Value} (h : ∀ d, dst = some d → d ∉ o.looksAt ops) (hp : addrOf o = some px) : (a.put dst v).eval px = a.eval px := by
  refine Act.eval_put fun d hd e => h d hd ?_
  subst e
  refine List.mem_append_left _ (List.mem_filterMap.2 ⟨.tmp d, ?_, rfl⟩)
  unfold addrOf at hp
  split at hp
  · rename_i hop
    injection hp with hp
    subst hp
    simp [hop, Op.operands]
  · rename_i hop
    injection hp with hp
    subst hp
    simp [hop, Op.operands]
  · rename_i hop
    injection hp with hp
    subst hp
    simp [hop, Op.operands]
  · cases hp
theorem evals_put {o : Oper} {a : Act} {dst : Option Tmp} {v : Value} (h : ∀ d, dst = some d → d ∉ o.looksAt ops) : evals o (a.put dst v) = evals o a := by
  unfold evals
  refine List.map_congr_left fun x hx => Act.eval_put fun d hd e => h d hd ?_
  subst e
  exact List.mem_append_left _ (List.mem_filterMap.2 ⟨.tmp d, hx, rfl⟩)
/-- One operation's value put ahead, or behind. -/
theorem gStep_put {j : Nat} {oi oj : Oper} {v : Value} (hap : oi.apart ops oj = true) (hsj : ∀ cs b, oj.op ≠ .select cs b) {K : Act → Own → Prop} {a : Act} {own : Own}
    (h : gStep P ops md C T kd oj j K (a.put oi.dst v) own) : gStep P ops md C T kd oj j (fun a' own' => (∃ u, a' = a.put oj.dst u) ∧ K (a'.put oi.dst v) own') a own := by
  obtain ⟨h1, h2, h3⟩ := Oper.apart_spec hap
  unfold gStep at *
  rw [wanted_put oj a oi.dst v h1, execOp_put oj hsj a oi.dst v h1, evals_put h1] at h
  split
  · rename_i hw
    rw [if_pos hw] at h
    split at h
    · obtain ⟨u, e1, e2⟩ := h
      exact ⟨u, e1, ⟨u, rfl⟩, by rw [← Act.put_comm a v u h2]; exact e2⟩
    · exact ⟨h.1, fun x hx hf hL => ⟨⟨_, rfl⟩, by rw [← Act.put_comm a v _ h2]; exact h.2 x hx hf hL⟩⟩
    · obtain ⟨g, last, obj, obj', u, px, e1, e2, e4, e5, e6, e7⟩ := h
      exact ⟨g, last, obj, obj', u, px, e1, by rw [← e2, addr_put h1 e1], e4, e5, e6, fun hL => ⟨⟨_, rfl⟩, by rw [← Act.put_comm a v _ h2]; exact e7 hL⟩⟩
  · rename_i hw
    rw [if_neg hw] at h
    exact ⟨⟨_, rfl⟩, by rw [← Act.put_comm a v _ h2]; exact h⟩
theorem g_swap {i j : Nat} {oi oj : Oper} (hap : oi.apart ops oj = true) (hsi : ∀ cs b, oi.op ≠ .select cs b) (hsj : ∀ cs b, oj.op ≠ .select cs b) (hno : ¬ waits md oj i)
    (hs : ∀ w, C w → ∀ g, w.heap.size ≤ g → T g) (hg : ∀ w w' g, C w → T g → w.grownBy w' (some g) → C w') {K : Act → Own → Prop} {a : Act} {own : Own} (hl : Live C T own)
    (h : gStep P ops md C T kd oi i (fun a own => gStep P ops md C T kd oj j K a own) a own) : gStep P ops md C T kd oj j (fun a own => gStep P ops md C T kd oi i K a own) a own := by
  obtain ⟨h1, h2, h3⟩ := Oper.apart_spec hap
  have X1 : ∀ v, execOp (a.put oi.dst v).eval oj = execOp a.eval oj := fun v => execOp_put oj hsj a oi.dst v h1
  have X2 : ∀ v, execOp (a.put oj.dst v).eval oi = execOp a.eval oi := fun v => execOp_put oi hsi a oj.dst v h3
  have V1 : ∀ v, evals oj (a.put oi.dst v) = evals oj a := fun v => evals_put h1
  have V2 : ∀ v, evals oi (a.put oj.dst v) = evals oi a := fun v => evals_put h3
  have W1 : ∀ v, Region.wanted oj (yielded ops (a.put oi.dst v).tmps) = Region.wanted oj (yielded ops a.tmps) := fun v => wanted_put oj a oi.dst v h1
  have W2 : ∀ v, Region.wanted oi (yielded ops (a.put oj.dst v).tmps) = Region.wanted oi (yielded ops a.tmps) := fun v => wanted_put oi a oj.dst v h3
  have PC : ∀ v u, (a.put oi.dst v).put oj.dst u = (a.put oj.dst u).put oi.dst v := fun v u => Act.put_comm a v u h2
  unfold gStep at h
  by_cases hwi : Region.wanted oi (yielded ops a.tmps) = true
  · rw [if_pos hwi] at h
    split at h
    · rename_i hk
      obtain ⟨v, e1, e2⟩ := h
      refine gStep_mono hl (fun a' own' _ hh => ?_) (gStep_put hap hsj e2)
      obtain ⟨⟨u, rfl⟩, hh⟩ := hh
      unfold gStep
      rw [W2, if_pos hwi, hk, X2]
      exact ⟨v, e1, hh⟩
    · rename_i mf hk
      obtain ⟨m, hm⟩ : ∃ m, mf (evals oi a) = m := ⟨_, rfl⟩
      rw [hm] at h
      obtain ⟨e1, e2⟩ := h
      obtain ⟨x0, p0, f0, l0⟩ := live_make (k := i) hs hl e1
      have e0 := e2 x0 p0 f0 l0
      unfold gStep
      simp only [W1, X1, V1, W2, X2, V2, if_pos hwi, hk, hm] at e0 e2 ⊢
      split
      · rename_i hw
        simp only [if_pos hw] at e0 e2
        split at e0
        · rename_i hkj
          simp only [hkj] at e2
          obtain ⟨v0, y1, y2⟩ := e0
          refine ⟨v0, y1, e1, fun x px fx lx => ?_⟩
          obtain ⟨v, z1, z2⟩ := e2 x px fx lx
          obtain rfl := look_same hl z1 y1
          rw [← PC]
          exact z2
        · rename_i mf' hkj
          simp only [hkj] at e2
          obtain ⟨m', hm'⟩ : ∃ m', mf' (evals oj a) = m' := ⟨_, rfl⟩
          simp only [hm'] at e0 e2 ⊢
          refine ⟨e0.1, fun y py fy ly => ⟨e1, fun x px fx lx => ?_⟩⟩
          obtain ⟨f1, d1⟩ := fresh_of_ext fx
          have d2 : ∀ p ∈ m.bl x, ∀ q ∈ m'.bl y, p.1 ≠ q.1 := fun p hp q hq e => d1 q hq p hp e.symm
          rw [← ext_comm d2] at lx ⊢
          have f2 : Fresh T (own.ext i (m.bl x)) (m'.bl y) := fresh_ext fy d2
          rw [← PC]
          exact (e2 x px f1 (live_less f2 lx)).2 y py f2 lx
        · rename_i hkj
          simp only [hkj] at e2
          obtain ⟨g, last, obj, obj', v, px, y1, y2, y4, y5, y6, _⟩ := e0
          have hoff : own g = some (last, obj) := by
            cases hf : find g (m.bl x0) with
            | none => rw [ext_off hf] at y4; exact y4
            | some o =>
              rw [ext_key hf] at y4
              injection y4 with y4
              injection y4 with y4 _
              subst y4
              exact absurd (y5 _ rfl) hno
          have ya : blockOf (a.eval px) = some g := by rw [← y2, addr_put h1 y1]
          refine ⟨g, last, obj, obj', v, px, y1, ya, hoff, y5, y6, fun lj => ⟨e1, fun x pp fx lx => ?_⟩⟩
          obtain ⟨f1, d1⟩ := fresh_of_ext fx
          have d2 : ∀ p ∈ m.bl x, ∀ q ∈ [(g, obj')], p.1 ≠ q.1 := fun p hp q hq e => d1 q hq p hp e.symm
          rw [← ext_comm d2] at lx ⊢
          have ho : own.ext i (m.bl x) g = some (last, obj) := (ext_off' fun p hp => d2 p hp _ (List.mem_singleton_self _)).trans hoff
          have lx' : Live C T (own.ext i (m.bl x)) := live_set hg lx ho
          obtain ⟨g', last', obj1, obj1', v', px', z1, z2, z4, z5, z6, z7⟩ := e2 x pp f1 lx'
          obtain rfl : px' = px := Option.some.inj (z1.symm.trans y1)
          have za : blockOf (a.eval px') = some g' := by rw [← z2, addr_put h1 z1]
          obtain rfl : g = g' := Option.some.inj (ya.symm.trans za)
          rw [ho] at z4
          injection z4 with z4
          injection z4 with z4 z4'
          subst z4 z4'
          obtain ⟨rfl, rfl⟩ := touches_same hl hoff y6 z6
          rw [← PC]
          exact z7 lx
      · rename_i hw
        simp only [if_neg hw] at e0 e2
        refine ⟨e1, fun x px fx lx => ?_⟩
        show K ((a.put oj.dst undef).put oi.dst (m.val x)) _
        rw [← PC]
        exact e2 x px fx lx
    · rename_i hk
      obtain ⟨g, last, obj, obj', v, px, e1, e2, e4, e5, e6, e7⟩ := h
      have l1 := live_touch (k := i) hg hl e4 e6
      have e8 := e7 l1
      have back : ∀ {a' : Act} {own' : Own} {u : Value}, a' = a.put oj.dst u → own' g = some (last, obj) → (Live C T (own'.ext i [(g, obj')]) → K (a'.put oi.dst v) (own'.ext i [(g, obj')])) → gStep P ops md C T kd oi i K a' own' := fun {a' own' u} ha ho hh => by
        subst ha
        unfold gStep
        rw [W2, if_pos hwi, hk, X2]
        exact ⟨g, last, obj, obj', v, px, e1, by rw [addr_put h3 e1]; exact e2, ho, e5, e6, hh⟩
      unfold gStep
      simp only [W1, X1, V1] at e8
      split
      · rename_i hw
        simp only [if_pos hw] at e8
        split at e8
        · obtain ⟨u, y1, y2⟩ := e8
          exact ⟨u, y1, back rfl e4 (fun _ => by rw [← PC]; exact y2)⟩
        · rename_i mf hkj
          obtain ⟨m, hm⟩ : ∃ m, mf (evals oj a) = m := ⟨_, rfl⟩
          simp only [hm] at e8 ⊢
          refine ⟨e8.1, fun x px fx lx => ?_⟩
          have d2 : ∀ p ∈ [(g, obj')], ∀ q ∈ m.bl x, p.1 ≠ q.1 := fun p hp q hq e => by
            obtain rfl := List.mem_singleton.1 hp
            exact fresh_key fx e4 q hq e.symm
          refine back rfl ((ext_off' (fresh_key fx e4)).trans e4) (fun ll => ?_)
          rw [← ext_comm d2] at ll ⊢
          rw [← PC]
          exact e8.2 x px (fresh_ext fx d2) ll
        · obtain ⟨g2, last2, obj2, obj2', v2, px2, y1, y2, y4, y5, y6, y7⟩ := e8
          by_cases hgg : g = g2
          · subst hgg
            rw [ext_key (o := obj') (by simp [find])] at y4
            injection y4 with y4
            injection y4 with y4 _
            subst y4
            exact absurd (y5 _ rfl) hno
          · rw [ext_off (by simp [find, hgg])] at y4
            refine ⟨g2, last2, obj2, obj2', v2, px2, y1, by rw [← y2, addr_put h1 y1], y4, y5, y6, fun _ => ?_⟩
            have d2 : ∀ p ∈ [(g, obj')], ∀ q ∈ [(g2, obj2')], p.1 ≠ q.1 := fun p hp q hq e => by
              obtain rfl := List.mem_singleton.1 hp
              obtain rfl := List.mem_singleton.1 hq
              exact hgg e
            refine back rfl ((ext_off (by simp [find, Ne.symm hgg])).trans e4) (fun ll => ?_)
            rw [← ext_comm d2] at ll ⊢
            rw [← PC]
            exact y7 ll
      · rename_i hw
        simp only [if_neg hw] at e8
        exact back rfl e4 (fun _ => by rw [← PC]; exact e8)
  · rw [if_neg hwi] at h
    refine gStep_mono hl (fun a' own' _ hh => ?_) (gStep_put hap hsj h)
    obtain ⟨⟨u, rfl⟩, hh⟩ := hh
    unfold gStep
    rw [W2, if_neg hwi]
    exact hh

theorem gOp_of_step {k : Nat} {o : Oper} (ho : ops[k]? = some o) {K : Act → Own → Prop} {a : Act} {own : Own} : gOp P ops md C T kd k K a own = gStep P ops md C T kd o k K a own := by
  unfold gOp
  rw [ho]
theorem waits_no {i : Nat} {oj : Oper} (h : ∀ e ∈ oj.after, Region.binds md e = true → e.on ≠ i) : ¬ waits md oj i := fun ⟨e, he, hb, heq⟩ => h e he hb heq
theorem wpAnyG_first {Q : Act → Own → Prop} {i : Nat} {oi : Oper} (hi : ops[i]? = some oi) (hsel : ∀ (j : Nat) (o : Oper) cs b, ops[j]? = some o → o.op ≠ .select cs b)
    (hs : ∀ w, C w → ∀ g, w.heap.size ≤ g → T g) (hg : ∀ w w' g, C w → T g → w.grownBy w' (some g) → C w') :
    ∀ (fuel : Nat) (listed : Array Bool) (a : Act) (own : Own), Live C T own →
      (∀ j oj, ops[j]? = some oj → j ≠ i → listed.getD j true = false → (∀ e ∈ oj.after, Region.binds md e = true → e.on ≠ i) → oi.apart ops oj = true) →
      i ∈ Region.ready md ops listed → gStep P ops md C T kd oi i (wpAnyG P ops md C T kd Q fuel (listed.setIfInBounds i true)) a own → wpAnyG P ops md C T kd Q (fuel + 1) listed a own := by
  intro fuel
  induction fuel with
  | zero =>
    intro listed a own hl _ hr h
    refine ⟨fun h0 => (by rw [h0] at hr; cases hr), fun j hj => ?_⟩
    by_cases hji : j = i
    · subst hji
      rw [gOp_of_step hi]
      exact h
    · exfalso
      have h1 := ready_mono hj hji
      have h2 : ∃ a own, wpAnyG P ops md C T kd Q 0 (listed.setIfInBounds i true) a own := by
        unfold gStep at h
        split at h
        · split at h
          · obtain ⟨v, _, h⟩ := h; exact ⟨_, _, h⟩
          · obtain ⟨e1, e2⟩ := h
            obtain ⟨x, p, f, l⟩ := live_make (k := i) hs hl e1
            exact ⟨_, _, e2 x p f l⟩
          · obtain ⟨g, last, obj, obj', v, px, _, _, e4, _, e6, e7⟩ := h
            exact ⟨_, _, e7 (live_touch (k := i) hg hl e4 e6)⟩
        · exact ⟨_, _, h⟩
      obtain ⟨_, _, h2, _⟩ := h2
      rw [h2] at h1
      cases h1
  | succ fuel ih =>
    intro listed a own hl hfree hr h
    refine ⟨fun h0 => (by rw [h0] at hr; cases hr), fun j hj => ?_⟩
    by_cases hji : j = i
    · subst hji
      rw [gOp_of_step hi]
      exact h
    · obtain ⟨hjun, oj, hoj, hall⟩ := mem_ready.1 hj
      have hnot : ∀ e ∈ oj.after, Region.binds md e = true → e.on ≠ i := fun e he hb heq => by
        have h1 := hall e he hb
        have h0 := (mem_ready.1 hr).1
        rw [heq] at h1
        rcases Nat.lt_or_ge i listed.size with h' | h'
        · simp [h'] at h0 h1; rw [h0] at h1; cases h1
        · simp [Array.getElem?_eq_none h'] at h1
      rw [gOp_of_step hoj]
      have h2 : gStep P ops md C T kd oi i (fun a own => gStep P ops md C T kd oj j (wpAnyG P ops md C T kd Q fuel ((listed.setIfInBounds i true).setIfInBounds j true)) a own) a own :=
        gStep_mono hl (fun a' own' _ h' => by rw [← gOp_of_step hoj]; exact h'.2 j (ready_mono hj hji)) h
      have h3 := g_swap (hfree j oj hoj hji hjun hnot) (fun cs b => hsel i oi cs b hi) (fun cs b => hsel j oj cs b hoj) (waits_no hnot) hs hg hl h2
      have hfree' : ∀ k ok, ops[k]? = some ok → k ≠ i → (listed.setIfInBounds j true).getD k true = false →
          (∀ e ∈ ok.after, Region.binds md e = true → e.on ≠ i) → oi.apart ops ok = true := fun k ok hk hki hun hno => by
        refine hfree k ok hk hki ?_ hno
        by_cases hjk : j = k
        · subst hjk; exact hjun
        · rw [getD_set_ne true hjk] at hun; exact hun
      refine gStep_mono hl (fun a' own' hl' h' => ih (listed.setIfInBounds j true) a' own' hl' hfree' (ready_mono hr (Ne.symm hji)) ?_) h3
      rw [Array.setIfInBounds_comm _ _ hji]
      exact h'
/-- The walk, in the order of the text. -/
def wpG (P : Program) (ops : Array Oper) (C : World → Prop) (T : Nat → Prop) (kd : Nat → Kind) (Q : Act → Own → Prop) : Nat → List Oper → Act → Own → Prop
  | _, [], a, own => Q a own
  | k, o :: rest, a, own => gStep P ops .any C T kd o k (wpG P ops C T kd Q (k + 1) rest) a own
theorem wpAnyG_lex {Q : Act → Own → Prop} (hns : Region.noSelect ops = true) (hs : ∀ w, C w → ∀ g, w.heap.size ≤ g → T g) (hg : ∀ w w' g, C w → T g → w.grownBy w' (some g) → C w') : ∀ (l : List Oper) (k : Nat) (listed : Array Bool) (a : Act) (own : Own), Live C T own → (∀ j, l[j]? = ops[k + j]?) →
    Region.lexFrom .any ops l.length k listed = true → wpG P ops C T kd Q k l a own → wpAnyG P ops .any C T kd Q l.length listed a own
  | [], _, _, _, _, _, _, hB, h => ⟨by simpa [Region.lexFrom] using hB, h⟩
  | o :: l, k, listed, a, own, hl, hlist, hB, h => by
    have h0 : ops[k]? = some o := by simpa using (hlist 0).symm
    simp only [List.length_cons, Region.lexFrom, Bool.and_eq_true] at hB
    obtain ⟨⟨hr, hf⟩, hB'⟩ := hB
    exact wpAnyG_first h0 (Region.noSelect_spec hns) hs hg l.length listed a own hl (Region.free_spec h0 hf) (by simpa using hr)
      (gStep_mono hl (fun a' own' hl' h' => wpAnyG_lex hns hs hg l (k + 1) _ _ _ hl' (fun j => by have := hlist (j + 1); simpa [Nat.add_assoc, Nat.add_comm 1 j] using this) hB' h') h)
theorem region_g {id : Nat} {Q : Exit → Act → World → Prop} {a : Act} {w : World} {l : List Oper} (hm : P.follows .mixedOrders = true) (hB : Region.lexB .any l.toArray = true) (hC : C w.drew)
    (hs : ∀ w, C w → ∀ g, w.heap.size ≤ g → T g) (hg : ∀ w w' g, C w → T g → w.grownBy w' (some g) → C w')
    (own0 : Own) (h0 : Holds T own0 w.drew) (h : wpG P l.toArray C T kd (fun a' own => ∀ w', C w' → Holds T own w' → Q .normal a' w') 0 l a own0) : (Code.region id l.toArray true).wp P Q a w := by
  simp only [Region.lexB, Bool.and_eq_true] at hB
  refine wp_region_any hm (wpAny_of_G (T := T) (kd := kd) (Q := fun a' own => ∀ w', C w' → Holds T own w' → Q .normal a' w') hs hg (fun a own w hc hh hq => hq w hc hh) _ _ _ _ _ hC h0 ?_)
  have := wpAnyG_lex (kd := kd) hB.1 hs hg l 0 (Array.replicate l.toArray.size false) a _ ⟨_, hC, h0⟩ (by simp) (by simpa using hB.2) h
  simpa using this

/-! ### The moves -/
structure Good (C : World → Prop) (T : Nat → Prop) : Prop where
  size : ∀ w, C w → ∀ g, w.heap.size ≤ g → T g
  grown : ∀ w w' g, C w → T g → w.grownBy w' (some g) → C w'
  below : ∀ w w', C w → Below w.heap.size w w' → C w'
def callM (v : Value) : Maker := ⟨Unit, fun _ => v, fun _ => [], fun _ => True⟩
def allocM (o : Obj) : Maker := ⟨Nat, fun g => .pointer (some ⟨g, 0, none⟩), fun g => [(g, o)], fun _ => True⟩
def kdOf : List (Nat × Kind) → Nat → Kind
  | [], _ => .look
  | p :: l, k => if p.1 = k then p.2 else kdOf l k
theorem reg {id : Nat} {Q : Exit → Act → World → Prop} {a : Act} {w : World} {l : List Oper} (C : World → Prop) (T : Nat → Prop) (kd : Nat → Kind) (own0 : Own) (G : Good C T) (hm : P.follows .mixedOrders = true) (hB : Region.lexB .any l.toArray = true) (hC : C w.drew)
    (h0 : Holds T own0 w.drew) (h : wpG P l.toArray C T kd (fun a' own => ∀ w', C w' → Holds T own w' → Q .normal a' w') 0 l a own0) : (Code.region id l.toArray true).wp P Q a w :=
  region_g hm hB hC G.size G.grown own0 h0 h
variable {Q : Act → Own → Prop} {k : Nat} {o : Oper} {rest : List Oper} {a : Act} {own : Own}
theorem g_end (h : Q a own) : wpG P ops C T kd Q k [] a own := h
theorem g_skip (hw : Region.wanted o (yielded ops a.tmps) = false) (hr : wpG P ops C T kd Q (k + 1) rest (a.put o.dst undef) own) : wpG P ops C T kd Q k (o :: rest) a own := by
  unfold wpG gStep
  rw [hw]
  exact hr
theorem g_look (hw : Region.wanted o (yielded ops a.tmps) = true) (hk : kd k = .look) (v : Value) (h : ∀ w, C w → lookTo w v ((execOp a.eval o).run P w)) (hr : wpG P ops C T kd Q (k + 1) rest (a.put o.dst v) own) : wpG P ops C T kd Q k (o :: rest) a own := by
  unfold wpG gStep
  rw [if_pos hw, hk]
  exact ⟨v, fun w hC => lookTo_run (h w hC), hr⟩
theorem g_make (mf : List Value → Maker) (m : Maker) (hm : mf (evals o a) = m) (hw : Region.wanted o (yielded ops a.tmps) = true) (hk : kd k = .make mf) (h : ∀ w, C w → m.step P C w ((execOp a.eval o).run P w))
    (hr : ∀ x, m.pr x → Fresh T own (m.bl x) → wpG P ops C T kd Q (k + 1) rest (a.put o.dst (m.val x)) (own.ext k (m.bl x))) : wpG P ops C T kd Q k (o :: rest) a own := by
  unfold wpG gStep
  rw [if_pos hw, hk]
  subst hm
  exact ⟨h, fun x hp hf _ => hr x hp hf⟩
theorem stepTo_mono {R R' : Value → World → Prop} {r : Result Next} (h : stepTo P R r) (hr : ∀ u w', R u w' → R' u w') : stepTo P R' r := by
  unfold stepTo at *
  split at h
  · exact hr _ _ h
  · exact hr _ _ h
  · exact h.mono fun e w'' ⟨u, he, h⟩ => ⟨u, he, hr _ _ h⟩
  · exact h.elim
theorem g_call (G : Good C T) (v : Value) (hw : Region.wanted o (yielded ops a.tmps) = true) (hk : kd k = .make (fun _ => callM v)) (h : ∀ w, C w → stepTo P (RetTo v w) ((execOp a.eval o).run P w))
    (hr : wpG P ops C T kd Q (k + 1) rest (a.put o.dst v) own) : wpG P ops C T kd Q k (o :: rest) a own :=
  g_make _ _ rfl hw hk (fun w hC => stepTo_mono (h w hC) fun _ _ ⟨e, hb⟩ => ⟨(), e, trivial, G.below _ _ hC hb, hb, fun _ hp => by cases hp⟩) (fun _ _ _ => hr)
theorem g_alloc (G : Good C T) (obj : Obj) (hw : Region.wanted o (yielded ops a.tmps) = true) (hk : kd k = .make (fun _ => allocM obj)) (h : ∀ w, C w → stepTo P (fun u w' => u = .pointer (some ⟨w.heap.size, 0, none⟩) ∧ w' = w.alloc obj) ((execOp a.eval o).run P w))
    (hr : ∀ g, T g → own g = none → wpG P ops C T kd Q (k + 1) rest (a.put o.dst (.pointer (some ⟨g, 0, none⟩))) (own.ext k [(g, obj)])) : wpG P ops C T kd Q k (o :: rest) a own :=
  g_make _ _ rfl hw hk (fun w hC => stepTo_mono (h w hC) fun u w' ⟨e, e'⟩ => by
    subst e'
    have hb : Below w.heap.size w (w.alloc obj) := b_alloc (Below.refl _ _) _
    refine ⟨w.heap.size, e, trivial, G.below _ _ hC hb, hb, fun p hp => ?_⟩
    obtain rfl := List.mem_singleton.1 hp
    exact ⟨Nat.le_refl _, blk_new rfl⟩) (fun g _ hf => hr g (hf _ (List.mem_singleton_self _)).1 (hf _ (List.mem_singleton_self _)).2)
theorem g_touch (g : Nat) (last : Option Nat) (obj obj' : Obj) (v : Value) (px : Operand) (hw : Region.wanted o (yielded ops a.tmps) = true) (hk : kd k = .touch) (ha : addrOf o = some px) (he : blockOf (a.eval px) = some g) (ho : own g = some (last, obj))
    (hwt : last.all (fun m => o.after.any (fun e => Region.binds .any e && e.on == m)) = true) (ht : Touches P C T (execOp a.eval o) g obj obj' v) (hr : wpG P ops C T kd Q (k + 1) rest (a.put o.dst v) (own.ext k [(g, obj')])) : wpG P ops C T kd Q k (o :: rest) a own := by
  unfold wpG gStep
  rw [if_pos hw, hk]
  refine ⟨g, last, obj, obj', v, px, ha, he, ho, ?_, ht, fun _ => hr⟩
  intro m hm
  subst hm
  obtain ⟨e, he, hb⟩ := Array.any_eq_true'.1 hwt
  simp only [Bool.and_eq_true, beq_iff_eq] at hb
  exact ⟨e, he, hb.1, hb.2⟩
/-- A whole row is stored into a block that the region made. -/
theorem g_store (g : Nat) (last : Option Nat) (ty t : TypeId) (x y : Operand) (cur cs : Array Value) (hop : o.op = .store ty x y) (hw : Region.wanted o (yielded ops a.tmps) = true) (hk : kd k = .touch) (hx : a.eval x = .pointer (some ⟨g, 0, none⟩)) (hy : a.eval y = .agg cs)
    (ho : own g = some (last, .cells cur t (0, 0))) (hwt : last.all (fun m => o.after.any (fun e => Region.binds .any e && e.on == m)) = true) (hs : cs.size = cur.size) (hi : (P.info? ty).map (·.size) = some cs.size) (h1 : cs.all (·.oneCell') = true)
    (hr : wpG P ops C T kd Q (k + 1) rest (a.put o.dst undef) (own.ext k [(g, .cells cs t (0, 0))])) : wpG P ops C T kd Q k (o :: rest) a own := by
  refine g_touch g last _ (.cells cs t (0, 0)) undef x hw hk (by unfold addrOf; rw [hop]) (by rw [hx]; rfl) ho hwt (fun w _ _ hb => ?_) hr
  refine ⟨.skip, w.setCells g 0 cs.toList, ?_, Or.inr rfl, rfl, ?_⟩
  · unfold execOp
    simp only [hop, hx, hy, Instr.storeAt, Instr.sureAddr, Sem.run_bind, Sem.run_pure, Result.andThen_ok, run_storeVar_mid w g 0 ty cs (by rw [hs]; exact there_row hb) hi h1]
  · obtain ⟨h2, h3, _⟩ := setCells_row cs.toList 0 w cur hb (by simp; omega)
    refine ⟨?_, h3⟩
    rw [h2]
    have : cur.toList.drop (0 + cs.toList.length) = [] := List.drop_eq_nil_of_le (by simp; omega)
    rw [this]
    simp
/-- A whole row is read that no operation of the region may turn. -/
theorem g_load (ty : TypeId) (x : Operand) (g : Nat) (t : TypeId) (cs : Array Value) (fr : Nat × Nat) (d : TypeDesc) (hop : o.op = .load ty x) (hw : Region.wanted o (yielded ops a.tmps) = true) (hk : kd k = .look) (hx : a.eval x = .pointer (some ⟨g, 0, none⟩))
    (hg : ∀ w, C w → w.heap[g]? = some (.cells cs t fr)) (hu : P.underlying ty = some d) (hd : (match d with | .struct _ | .array _ _ => true | _ => false) = true) (hi : (P.info? ty).map (·.size) = some cs.size)
    (hr : wpG P ops C T kd Q (k + 1) rest (a.put o.dst (.agg cs)) own) : wpG P ops C T kd Q k (o :: rest) a own := by
  refine g_look hw hk _ (fun w hC => ?_) hr
  unfold execOp
  simp only [hop, hx, Instr.loadAt, Instr.sureAddr, Sem.run_bind, Sem.run_pure, Result.andThen_ok, run_loadVar_row w g t ty cs fr d (hg w hC) hu hd hi]
  exact ⟨rfl, rfl⟩
/-- A whole row of a block that the region may write is read. -/
theorem g_load_own (ty : TypeId) (x : Operand) (g : Nat) (last : Option Nat) (t : TypeId) (cs : Array Value) (fr : Nat × Nat) (d : TypeDesc) (hop : o.op = .load ty x) (hw : Region.wanted o (yielded ops a.tmps) = true) (hk : kd k = .touch) (hx : a.eval x = .pointer (some ⟨g, 0, none⟩))
    (ho : own g = some (last, .cells cs t fr)) (hwt : last.all (fun m => o.after.any (fun e => Region.binds .any e && e.on == m)) = true) (hu : P.underlying ty = some d) (hd : (match d with | .struct _ | .array _ _ => true | _ => false) = true) (hi : (P.info? ty).map (·.size) = some cs.size)
    (hr : wpG P ops C T kd Q (k + 1) rest (a.put o.dst (.agg cs)) (own.ext k [(g, .cells cs t fr)])) : wpG P ops C T kd Q k (o :: rest) a own := by
  refine g_touch g last _ (.cells cs t fr) (.agg cs) x hw hk (by unfold addrOf; rw [hop]) (by rw [hx]; rfl) ho hwt (fun w _ _ hb => ?_) hr
  refine ⟨.value (.agg cs), w, ?_, Or.inl ⟨_, rfl⟩, rfl, hb, gb_refl _ _⟩
  unfold execOp
  simp only [hop, hx, Instr.loadAt, Instr.sureAddr, Sem.run_bind, Sem.run_pure, Result.andThen_ok, run_loadVar_row w g t ty cs fr d hb hu hd hi]
/-- The same walk where the order stands. -/
theorem wpList_of_G {Q' : Exit → Act → World → Prop} (hs : ∀ w, C w → ∀ g, w.heap.size ≤ g → T g) (hg : ∀ w w' g, C w → T g → w.grownBy w' (some g) → C w') (hQ : ∀ a own w, C w → Holds T own w → Q a own → Q' .normal a w) :
    ∀ (l : List Oper) (k : Nat) (a : Act) (own : Own) (w : World), C w → Holds T own w → (∀ j, l[j]? = ops[k + j]?) → wpG P ops C T kd Q k l a own → wpList P ops Q' l a w
  | [], _, _, _, _, hC, hh, _, h => hQ _ _ _ hC hh h
  | o :: l, k, a, own, w, hC, hh, hl, h => by
    have h0 : ops[k]? = some o := by simpa using (hl 0).symm
    have h1 : gOp P ops .any C T kd k (wpG P ops C T kd Q (k + 1) l) a own := by rw [gOp_of_step h0]; exact h
    have h2 := wpOp_of_gOp (Q := Q') (K' := wpList P ops Q' l) hs hg hC hh (fun a own w hC hh hK => wpList_of_G hs hg hQ l (k + 1) a own w hC hh (fun j => by have := hl (j + 1); simpa [Nat.add_assoc, Nat.add_comm 1 j] using this) hK) h1
    unfold wpOp at h2
    simp only [h0] at h2
    exact h2
theorem reg_plain {id : Nat} {Q : Exit → Act → World → Prop} {a : Act} {w : World} {l : List Oper} (C : World → Prop) (T : Nat → Prop) (kd : Nat → Kind) (own0 : Own) (G : Good C T) (hC : C w)
    (h0 : Holds T own0 w) (h : wpG P l.toArray C T kd (fun a' own => ∀ w', C w' → Holds T own w' → Q .normal a' w') 0 l a own0) : (Code.region id l.toArray false).wp P Q a w :=
  wp_region_lit (wpList_of_G (kd := kd) (T := T) (Q := fun a' own => ∀ w', C w' → Holds T own w' → Q .normal a' w') G.size G.grown (fun a own w hc hh hq => hq w hc hh) l 0 a own0 w hC h0 (by simp) h)
theorem own_new (own : Own) (k g : Nat) (o : Obj) : own.ext k [(g, o)] g = some (some k, o) := ext_key (by simp [find])
theorem own_off (own : Own) {k g g' : Nat} {o : Obj} (h : g ≠ g') : own.ext k [(g, o)] g' = own g' := ext_off (by simp [find, h])
theorem own_none {own : Own} {k g g' : Nat} {o : Obj} (h : own.ext k [(g, o)] g' = none) : g ≠ g' ∧ own g' = none := by
  by_cases e : g = g'
  · subst e
    rw [own_new] at h
    cases h
  · exact ⟨e, (own_off own e).symm.trans h⟩
theorem holds_new {own : Own} {k g : Nat} {o : Obj} {w : World} (h : Holds T (own.ext k [(g, o)]) w) : w.heap[g]? = some o := (h g (some k) o (own_new ..)).1
theorem holds_off {own : Own} {k g g' : Nat} {n : Option Nat} {o o' : Obj} {w : World} (h : Holds T (own.ext k [(g, o)]) w) (hn : g ≠ g') (ho : own g' = some (n, o')) : w.heap[g']? = some o' := (h g' n o' ((own_off own hn).trans ho)).1

/-! ### What is kept -/
def none0 : Own := fun _ => none
theorem holds0 (w : World) : Holds T none0 w := fun _ _ _ h => by cases h
/-- Ahead of the region: a block that the region may write. -/
def Own.has (own : Own) (g : Nat) (o : Obj) : Own := fun x => if x = g then some (none, o) else own x
theorem has_same (own : Own) (g : Nat) (o : Obj) : own.has g o g = some (none, o) := by unfold Own.has; rw [if_pos rfl]
theorem has_off (own : Own) {g x : Nat} (o : Obj) (h : x ≠ g) : own.has g o x = own x := by unfold Own.has; rw [if_neg h]
theorem has_none {own : Own} {g x : Nat} {o : Obj} (h : own.has g o x = none) : x ≠ g ∧ own x = none := by
  unfold Own.has at h
  split at h
  · cases h
  · rename_i e; exact ⟨e, h⟩
theorem holds_has {own : Own} {w : World} {g : Nat} {o : Obj} (h : Holds T own w) (hb : w.heap[g]? = some o) (hT : T g) : Holds T (own.has g o) w := fun x n p hp => by
  unfold Own.has at hp
  split at hp
  · rename_i e
    subst e
    injection hp with hp
    injection hp with _ hp
    subst hp
    exact ⟨hb, hT⟩
  · exact h x n p hp
/-- These blocks lie as told, and below the call's first block nothing has turned. -/
def Stays (rs : List (Nat × Obj)) (w0 : World) (w : World) : Prop := (∀ p ∈ rs, w.heap[p.1]? = some p.2) ∧ Below w0.heap.size w0 w
/-- Which blocks may turn. -/
def Turns (rs : List (Nat × Obj)) (w0 : World) (g : Nat) : Prop := (∀ p ∈ rs, p.1 ≠ g) ∧ w0.heap.size ≤ g
theorem stays_good (rs : List (Nat × Obj)) (w0 : World) : Good (Stays rs w0) (Turns rs w0) := by
  refine ⟨fun w h g hg => ⟨fun p hp => ?_, Nat.le_trans h.2.size hg⟩, fun w w' g h hg hb => ?_, fun w w' h hb => ?_⟩
  · have := blk_lt (h.1 p hp)
    omega
  · obtain ⟨h1, h4⟩ := h
    exact ⟨fun p hp => blk_grown (h1 p hp) hb (fun e => hg.1 p hp (Option.some.inj e)), b_row h4 hb hg.2⟩
  · obtain ⟨h1, h4⟩ := h
    exact ⟨fun p hp => blk_below (h1 p hp) hb, b_then h4 hb⟩
section
variable {rs : List (Nat × Obj)} {w0 w : World} {g : Nat}
theorem stays_drew (h : Stays rs w0 w) : Stays rs w0 w.drew := ⟨h.1, b_drew h.2⟩
theorem stays_nil (hb : Below w0.heap.size w0 w) : Stays [] w0 w := ⟨fun p hp => (by cases hp), hb⟩
theorem stays_cons {o : Obj} (h : w.heap[g]? = some o) (hr : Stays rs w0 w) : Stays ((g, o) :: rs) w0 w := by
  refine ⟨fun p hp => ?_, hr.2⟩
  rcases List.mem_cons.1 hp with rfl | hp
  · exact h
  · exact hr.1 p hp
theorem stays_row {o : Obj} (h : Stays rs w0 w) (hm : (g, o) ∈ rs) : w.heap[g]? = some o := h.1 _ hm
theorem stays_head {o : Obj} (h : Stays ((g, o) :: rs) w0 w) : w.heap[g]? = some o := h.1 _ (List.mem_cons_self ..)
theorem stays_tail {p : Nat × Obj} (h : Stays (p :: rs) w0 w) : Stays rs w0 w := ⟨fun q hq => h.1 q (List.mem_cons_of_mem _ hq), h.2⟩
theorem stays_below (h : Stays rs w0 w) : Below w0.heap.size w0 w := h.2
theorem turns_nil (h : w0.heap.size ≤ g) : Turns [] w0 g := ⟨fun p hp => (by cases hp), h⟩
theorem turns_cons {x : Nat} {o : Obj} (h : x ≠ g) (hr : Turns rs w0 g) : Turns ((x, o) :: rs) w0 g := by
  refine ⟨fun p hp => ?_, hr.2⟩
  rcases List.mem_cons.1 hp with rfl | hp
  · exact h
  · exact hr.1 p hp
theorem turns_head {x : Nat} {o : Obj} (h : Turns ((x, o) :: rs) w0 g) : x ≠ g := h.1 _ (List.mem_cons_self ..)
theorem turns_tail {p : Nat × Obj} (h : Turns (p :: rs) w0 g) : Turns rs w0 g := ⟨fun q hq => h.1 q (List.mem_cons_of_mem _ hq), h.2⟩
end
end
end Go.Proofs.Ytijcdpefcdgklaa.K
