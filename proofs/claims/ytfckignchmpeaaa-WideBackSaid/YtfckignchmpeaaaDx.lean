/- A region that draws its order and only reads, in a class of worlds: one walk, in the order of its text. -/
import Derived.Test.YtfckignchmpeaaaProg
import Derived.Deep.Quiet
import Derived.Deep.QuietTactic
namespace Go.Proofs.Ytfckignchmpeaaa.Wi
section
variable {P : Program} {C : World → Prop}
theorem region_quiet {id : Nat} {Q : Exit → Act → World → Prop} {a : Act} {w : World} {l : List Oper} (hm : P.follows .mixedOrders = true) (hB : Region.lexB .any l.toArray = true) (hC : C w.drew)
    (h : wpQuiet P l.toArray C (fun a' => ∀ w', C w' → Q .normal a' w') l a) : (Code.region id l.toArray true).wp P Q a w :=
  wp_region_quiet (C := C) hm hB hC (by simpa using h)
theorem q_step {ops : Array Oper} {Q : Act → Prop} {a : Act} {o : Oper} {rest : List Oper} (hw : Region.wanted o (yielded ops a.tmps) = true) (v : Value) (h : ∀ w, C w → o.quietAt P a C w v)
    (hr : wpQuiet P ops C Q rest (a.put o.dst v)) : wpQuiet P ops C Q (o :: rest) a := by
  unfold wpQuiet
  rw [if_pos hw]
  exact ⟨v, h, hr⟩
theorem q_skip {ops : Array Oper} {Q : Act → Prop} {a : Act} {o : Oper} {rest : List Oper} (hw : Region.wanted o (yielded ops a.tmps) = false)
    (hr : wpQuiet P ops C Q rest (a.put o.dst undef)) : wpQuiet P ops C Q (o :: rest) a := by
  unfold wpQuiet
  rw [hw]
  exact hr
end
end Go.Proofs.Ytfckignchmpeaaa.Wi
