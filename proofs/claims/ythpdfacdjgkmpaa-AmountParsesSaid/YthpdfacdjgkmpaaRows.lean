/-
  No cell of these rows narrows 'for every input' (looked for: loops, veiled, ifaces, maps, wideKeys, modest, calm, conditions, laid).
  DERIVED. THE GIVEN ROWS OF THIS SEAT. 4 by the template 'for every input the law returns true; each argument reads behind the call as it read before'; 0 by the template 'total and deterministic' (their statements: YthpdfacdjgkmpaaTotals.lean).
  GIVEN WITH THE SEED: the statements are not yours to turn. If you find one false, say at which input.
  Laid BY PROGRAM, IN A SANDBOX (cutbox-rows.mjs): the forced cells as the released guide's own fill.sh prints them over the translation a7a9b23efe345913… (all of the seat's roots in one cut). By AI agents, Wed Nov 11 2026. No macro, syntax, notation, axiom, sorry.
-/
import Derived.Test.YthpdfacdjgkmpaaChecked
import GoSem.Claim
import GoSem.ClaimJoined
import GoSem.ClaimMapViews
import Derived.JoinedTies
import Derived.KernelRfl
namespace Go.Proofs.Ythpdfacdjgkmpaa
/- THE CELL 'sum', in the pinned program and in every row, IS THE sha256 OF THE DUMP (.gsa) THAT YthpdfacdjgkmpaaProg.lean LOADS. Nothing in Lean hashes anything: it is a label: what it is worth is what the hold of that sum in a sandbox is worth. -/
noncomputable def Try.pinned : Pinned := { name := "ythpdfacdjgkmpaa", sum := "a7a9b23efe345913b99294b24876cffc41a5a23ea50fcdfcbaf6f23f31802def", checked := Try.checked }
namespace Rows
def none {H : Type} : Left H := { results := [], args := [] }

/-- 'berthinglaw02.AmountParses': WHATEVER THE INPUT: true; the input reads as it did. -/
def amountParsesSpec : ChangeSpec := { name := "amountParses", fn := fun _ => fun
  | [d] => { results := [.lit (.bool true)], args := [d] }
  | _ => none }
def amountParsesRow : OpenClaim := { program := "ythpdfacdjgkmpaa", sum := "a7a9b23efe345913b99294b24876cffc41a5a23ea50fcdfcbaf6f23f31802def", func := "berthing/berthinglaw02.AmountParses", spec := "amountParses", apart := false }
def AmountParsesSaid : Prop := amountParsesRow.holds Try.pinned (OpenSpec.ofChange amountParsesSpec)

/-- ITS FALSE NEIGHBOUR: 'it returns false'. Refute it at one input. -/
def amountParsesWrong : ChangeSpec := { name := "amountParses", fn := fun _ => fun
  | [d] => { results := [.lit (.bool false)], args := [d] }
  | _ => none }
def AmountParsesWrongFalsely : Prop := amountParsesRow.holds Try.pinned (OpenSpec.ofChange amountParsesWrong)

/-- 'berthinglaw02.AmountTells': WHATEVER THE INPUT: true; the input reads as it did. -/
def amountTellsSpec : ChangeSpec := { name := "amountTells", fn := fun _ => fun
  | [d1, d2] => { results := [.lit (.bool true)], args := [d1, d2] }
  | _ => none }
def amountTellsRow : OpenClaim := { program := "ythpdfacdjgkmpaa", sum := "a7a9b23efe345913b99294b24876cffc41a5a23ea50fcdfcbaf6f23f31802def", func := "berthing/berthinglaw02.AmountTells", spec := "amountTells", apart := false }
def AmountTellsSaid : Prop := amountTellsRow.holds Try.pinned (OpenSpec.ofChange amountTellsSpec)

/-- ITS FALSE NEIGHBOUR: 'it returns false'. Refute it at one input. -/
def amountTellsWrong : ChangeSpec := { name := "amountTells", fn := fun _ => fun
  | [d1, d2] => { results := [.lit (.bool false)], args := [d1, d2] }
  | _ => none }
def AmountTellsWrongFalsely : Prop := amountTellsRow.holds Try.pinned (OpenSpec.ofChange amountTellsWrong)

/-- 'berthinglaw02.AmountOrders': WHATEVER THE INPUT: true; the input reads as it did. -/
def amountOrdersSpec : ChangeSpec := { name := "amountOrders", fn := fun _ => fun
  | [d1, d2, d3] => { results := [.lit (.bool true)], args := [d1, d2, d3] }
  | _ => none }
def amountOrdersRow : OpenClaim := { program := "ythpdfacdjgkmpaa", sum := "a7a9b23efe345913b99294b24876cffc41a5a23ea50fcdfcbaf6f23f31802def", func := "berthing/berthinglaw02.AmountOrders", spec := "amountOrders", apart := false }
def AmountOrdersSaid : Prop := amountOrdersRow.holds Try.pinned (OpenSpec.ofChange amountOrdersSpec)

/-- ITS FALSE NEIGHBOUR: 'it returns false'. Refute it at one input. -/
def amountOrdersWrong : ChangeSpec := { name := "amountOrders", fn := fun _ => fun
  | [d1, d2, d3] => { results := [.lit (.bool false)], args := [d1, d2, d3] }
  | _ => none }
def AmountOrdersWrongFalsely : Prop := amountOrdersRow.holds Try.pinned (OpenSpec.ofChange amountOrdersWrong)

/-- 'berthinglaw02.AmountBack': WHATEVER THE INPUT: true; the input reads as it did. -/
def amountBackSpec : ChangeSpec := { name := "amountBack", fn := fun _ => fun
  | [d] => { results := [.lit (.bool true)], args := [d] }
  | _ => none }
def amountBackRow : OpenClaim := { program := "ythpdfacdjgkmpaa", sum := "a7a9b23efe345913b99294b24876cffc41a5a23ea50fcdfcbaf6f23f31802def", func := "berthing/berthinglaw02.AmountBack", spec := "amountBack", apart := false }
def AmountBackSaid : Prop := amountBackRow.holds Try.pinned (OpenSpec.ofChange amountBackSpec)

/-- ITS FALSE NEIGHBOUR: 'it returns false'. Refute it at one input. -/
def amountBackWrong : ChangeSpec := { name := "amountBack", fn := fun _ => fun
  | [d] => { results := [.lit (.bool false)], args := [d] }
  | _ => none }
def AmountBackWrongFalsely : Prop := amountBackRow.holds Try.pinned (OpenSpec.ofChange amountBackWrong)

/- THE SECOND FORM. 'bulk': how many values and letters a reading holds, each counted each time it is reached (what is shared counts as often as it is met; a slice's spare places count too). A statement '..UptoSaid' is the law's where the arguments, and the package variables that the reading takes, are together of bulk at most 1048576: NARROWER than '..Said'. Prove '..Said' where nothing that the law and all that it calls make is longer than what came in: it says more and counts as full. Else prove '..UptoSaid'. A law counts once. -/
mutual
def uptoBulk {H : Type} : DataW H → Nat
  | .lit (.string bytes) => bytes.length + 1
  | .lit _ => 1
  | .nil => 1
  | .ptr d => uptoBulk d + 1
  | .slice elems spare => uptoBulkAll elems + uptoBulkAll spare + 1
  | .agg parts => uptoBulkAll parts + 1
  | .iface _ d => uptoBulk d + 1
  | .map entries => uptoBulkEntries entries + 1
  | .held _ => 1
def uptoBulkAll {H : Type} : List (DataW H) → Nat
  | [] => 0
  | d :: r => uptoBulk d + uptoBulkAll r
def uptoBulkEntries {H : Type} : List (Lit × DataW H) → Nat
  | [] => 0
  | x :: r => uptoBulkEntry x + uptoBulkEntries r
def uptoBulkEntry {H : Type} : Lit × DataW H → Nat
  | (.string bytes, d) => bytes.length + uptoBulk d + 1
  | (_, d) => uptoBulk d + 1
 end
def uptoSmall : (H : Type) → List (DataW H) → Bool := fun _ ds => decide (uptoBulkAll ds ≤ 1048576)
def OpenSpec.upto (s : _root_.Go.ChangeSpec) : _root_.Go.OpenSpec := { _root_.Go.OpenSpec.ofChange s with cond := some uptoSmall }

/-- 'berthinglaw02.AmountParses', WHERE WHAT IT READS IS OF BULK AT MOST 1048576: true; the input reads as it did. -/
def amountParsesUptoRow : OpenClaim := { program := "ythpdfacdjgkmpaa", sum := "a7a9b23efe345913b99294b24876cffc41a5a23ea50fcdfcbaf6f23f31802def", func := "berthing/berthinglaw02.AmountParses", spec := "amountParses", apart := false, narrowed := true }
def AmountParsesUptoSaid : Prop := amountParsesUptoRow.holds Try.pinned (OpenSpec.upto amountParsesSpec)

/-- 'berthinglaw02.AmountTells', WHERE WHAT IT READS IS OF BULK AT MOST 1048576: true; the input reads as it did. -/
def amountTellsUptoRow : OpenClaim := { program := "ythpdfacdjgkmpaa", sum := "a7a9b23efe345913b99294b24876cffc41a5a23ea50fcdfcbaf6f23f31802def", func := "berthing/berthinglaw02.AmountTells", spec := "amountTells", apart := false, narrowed := true }
def AmountTellsUptoSaid : Prop := amountTellsUptoRow.holds Try.pinned (OpenSpec.upto amountTellsSpec)

/-- 'berthinglaw02.AmountOrders', WHERE WHAT IT READS IS OF BULK AT MOST 1048576: true; the input reads as it did. -/
def amountOrdersUptoRow : OpenClaim := { program := "ythpdfacdjgkmpaa", sum := "a7a9b23efe345913b99294b24876cffc41a5a23ea50fcdfcbaf6f23f31802def", func := "berthing/berthinglaw02.AmountOrders", spec := "amountOrders", apart := false, narrowed := true }
def AmountOrdersUptoSaid : Prop := amountOrdersUptoRow.holds Try.pinned (OpenSpec.upto amountOrdersSpec)

/-- 'berthinglaw02.AmountBack', WHERE WHAT IT READS IS OF BULK AT MOST 1048576: true; the input reads as it did. -/
def amountBackUptoRow : OpenClaim := { program := "ythpdfacdjgkmpaa", sum := "a7a9b23efe345913b99294b24876cffc41a5a23ea50fcdfcbaf6f23f31802def", func := "berthing/berthinglaw02.AmountBack", spec := "amountBack", apart := false, narrowed := true }
def AmountBackUptoSaid : Prop := amountBackUptoRow.holds Try.pinned (OpenSpec.upto amountBackSpec)

end Rows
end Go.Proofs.Ythpdfacdjgkmpaa
