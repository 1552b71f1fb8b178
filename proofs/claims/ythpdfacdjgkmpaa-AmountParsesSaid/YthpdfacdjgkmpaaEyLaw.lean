/- For every input AmountParses returns true, and its arguments read as they did. No condition. -/
import Derived.Test.YthpdfacdjgkmpaaRows
import Derived.Test.YthpdfacdjgkmpaaEy
import Derived.WalkKit
import Derived.ProofKit
import Derived.OpenShut
import Derived.ShutString
import Derived.ChangeOld
import Derived.Below
import Derived.SizedLaws
import Derived.ChangeMaps5
import Derived.ChangeSame
import Derived.Carry
namespace Go.Proofs.Ythpdfacdjgkmpaa.amountParses
open Go.ChangeShapes Go.WideShapes Go.ChangeAt Go.RowKit
theorem own : ownKnob Try.prog.godebug = none := by kernel_rfl
theorem laidOut : laidOutB Try.prog = true := by kernel_rfl
theorem cells25 : Try.prog.cellsOf 25 = 2 := by kernel_rfl
theorem cells23 : Try.prog.cellsOf 23 = 1 := by kernel_rfl
theorem urange {n : Int} (h : (Lit.int .u64 n).wf = true) : Wi.U n := by
  have : 0 ≤ n ∧ n ≤ 18446744073709551615 := by simpa [Lit.wf, IntKind.min, IntKind.max, IntKind.signed, IntKind.bits] using h
  unfold Wi.U
  omega
section
variable {H : Type} {enc : TypeId × Value → H} {W : World}
theorem open_w25 {r : Reach} {b0 base : Nat} {sp : Nat → Bool} {held : Bool} {v : Value} {d : DataW H} {ps : List MemPlace} (hval : Value.okWide Try.prog W r b0 25 v) (hd : DataW.Trod enc Try.prog W base sp held 25 v d ps) :
    ∃ h l : Int, v = .agg #[.int .u64 h, .int .u64 l] ∧ Wi.U h ∧ Wi.U l := by
  unfold Value.okWide at hval
  rw [Try.underlying25] at hval
  obtain ⟨cs, rfl, hsz, _⟩ := hval
  obtain ⟨fuel, hf⟩ := hd
  obtain ⟨y0, y1, n, _, hl, h0, h1⟩ := trod_struct2 Try.underlying25 hf
  rw [cells25] at hsz
  obtain ⟨l⟩ := cs
  match l, hsz with
  | [c0, c1], _ =>
    have f0 : DataW.trod enc Try.prog W base sp held n 23 [c0] = some y0 := by simpa [cells23, Value.cells] using h0
    have f1 : DataW.trod enc Try.prog W base sp held n 23 [c1] = some y1 := by simpa [cells23, Value.cells] using h1
    obtain ⟨k, e0, _, hk⟩ := DataW.trod_int Try.underlying23 f0
    obtain ⟨m, e1, _, hm⟩ := DataW.trod_int Try.underlying23 f1
    injection e0 with e0
    injection e1 with e1
    subst e0 e1
    exact ⟨k, m, rfl, urange hk, urange hm⟩
end
set_option maxRecDepth 100000 in
theorem lifted (os : Os) (started : os.Started) (H : Type) (enc : TypeId × Value → H) :
    ReturnsInHanded {} Try.checked os 3 .any (Rows.amountParsesSpec.pre6 enc Try.prog Try.f3 Rows.amountParsesRow.domain false) (Rows.amountParsesSpec.post enc Try.prog Try.f3 false true false false) := by
  refine returnsInHanded_of_change_sized (C := Try.checked) own started (by kernel_rfl) Try.func3
    (ChangeSpec.witness6 (enc := enc) (C := Try.checked) false ⟨#[], #[.string ⟨#[]⟩], []⟩ 8 (by kernel_rfl) (by kernel_rfl) (by kernel_rfl) (by kernel_rfl)) ?_
  intro W base args ds gs before hval0 hW _ _ _
  have hval : ∀ (j : Nat) t v, Try.f3.params[j]? = some t → args[j]? = some v → Value.okWide Try.prog W .any base t v := hval0
  have hW' := hW
  obtain ⟨p, q, hA0, hV, rfl, hfz, hnd⟩ := hW
  have hA : DataW.TrodAll enc Try.prog W 0 (fun _ => true) true Try.f3.params.toList args.toList ds p := hA0
  rw [Try.params3] at hA hval
  obtain ⟨v0, vs0, d0, ds0, p0, q0, hargs, rfl, rfl, h0, r0⟩ := trodAll_cons hA
  obtain ⟨rfl, rfl, rfl⟩ := trodAll_nil r0
  obtain rfl : args = #[v0] := by cases args; simp_all
  obtain ⟨rfl, rfl⟩ := trodVars_none hV
  
  obtain ⟨s0, rfl, rfl, rfl, w0⟩ := ChangeMaps.open_string Try.underlying9 (hval 0 9 v0 rfl rfl) h0
  
  clear hA0 hval0
  have walk : Calls Try.prog 3 _ W fun e w' => e = .returned (.bool true) ∧ Below W.heap.size W w' := Wi.parses_any W s0 w0
  refine walk.mono fun e W' ⟨he, bel⟩ => ?_
  subst he
  exact ⟨_, rfl, _, _, _, [], _, [], hW', trodAll_mk1 (shut_bool Try.underlying4 _), (trodAll_cons_mk (ChangeMaps.shut_string Try.underlying9 w0) trodAll_mk0), rfl, bel.frame _, fun h => by cases h⟩
theorem over : Rows.amountParsesRow.holds Try.pinned (OpenSpec.ofChange Rows.amountParsesSpec) :=
  OpenClaim.holds_of_wide 3 Try.f3 rfl rfl rfl rfl rfl rfl rfl ⟨rfl, rfl, rfl, rfl, rfl⟩ rfl rfl rfl rfl rfl (by kernel_rfl) Try.func3 (by kernel_rfl)
    (of_decide_eq_true (by kernel_rfl)) (by unfold Func.isWrapper; first | (rw [if_pos (by decide +kernel)]; kernel_rfl) | (rw [if_neg (by decide +kernel)]; exact ⟨rfl, rfl⟩))
    (fun os started H enc _ => lifted os started H enc)
theorem proved : Rows.AmountParsesSaid := over
#print axioms proved
end Go.Proofs.Ythpdfacdjgkmpaa.amountParses
namespace Go.Proofs.Ythpdfacdjgkmpaa
/-- The row, under a short name, for the claim. -/
theorem amountParses_holds : Rows.AmountParsesSaid := amountParses.proved
end Go.Proofs.Ythpdfacdjgkmpaa
