/- For every input WideTells returns true, and its arguments read as they did. No condition. -/
import Derived.Test.YtfckignchmpeaaaRows
import Derived.Test.YtfckignchmpeaaaEd
import Derived.WalkKit
import Derived.ProofKit
import Derived.OpenShut
import Derived.ShutString
import Derived.ChangeOld
import Derived.Below
import Derived.SizedLaws
import Derived.ChangeMaps5
import Derived.ChangeSame
import Derived.Carry
namespace Go.Proofs.Ytfckignchmpeaaa.wideTells
open Go.ChangeShapes Go.WideShapes Go.ChangeAt Go.RowKit
theorem own : ownKnob Try.prog.godebug = none := by kernel_rfl
theorem laidOut : laidOutB Try.prog = true := by kernel_rfl
theorem cells24 : Try.prog.cellsOf 24 = 2 := by kernel_rfl
theorem cells22 : Try.prog.cellsOf 22 = 1 := by kernel_rfl
theorem urange {n : Int} (h : (Lit.int .u64 n).wf = true) : Wi.U n := by
  have : 0 ≤ n ∧ n ≤ 18446744073709551615 := by simpa [Lit.wf, IntKind.min, IntKind.max, IntKind.signed, IntKind.bits] using h
  unfold Wi.U
  omega
section
variable {H : Type} {enc : TypeId × Value → H} {W : World}
theorem open_w24 {r : Reach} {b0 base : Nat} {sp : Nat → Bool} {held : Bool} {v : Value} {d : DataW H} {ps : List MemPlace} (hval : Value.okWide Try.prog W r b0 24 v) (hd : DataW.Trod enc Try.prog W base sp held 24 v d ps) :
    ∃ h l : Int, v = .agg #[.int .u64 h, .int .u64 l] ∧ Wi.U h ∧ Wi.U l := by
  unfold Value.okWide at hval
  rw [Try.underlying24] at hval
  obtain ⟨cs, rfl, hsz, _⟩ := hval
  obtain ⟨fuel, hf⟩ := hd
  obtain ⟨y0, y1, n, _, hl, h0, h1⟩ := trod_struct2 Try.underlying24 hf
  rw [cells24] at hsz
  obtain ⟨l⟩ := cs
  match l, hsz with
  | [c0, c1], _ =>
    have f0 : DataW.trod enc Try.prog W base sp held n 22 [c0] = some y0 := by simpa [cells22, Value.cells] using h0
    have f1 : DataW.trod enc Try.prog W base sp held n 22 [c1] = some y1 := by simpa [cells22, Value.cells] using h1
    obtain ⟨k, e0, _, hk⟩ := DataW.trod_int Try.underlying22 f0
    obtain ⟨m, e1, _, hm⟩ := DataW.trod_int Try.underlying22 f1
    injection e0 with e0
    injection e1 with e1
    subst e0 e1
    exact ⟨k, m, rfl, urange hk, urange hm⟩
end
set_option maxRecDepth 100000 in
theorem lifted (os : Os) (started : os.Started) (H : Type) (enc : TypeId × Value → H) :
    ReturnsInHanded {} Try.checked os 4 .any (Rows.wideTellsSpec.pre6 enc Try.prog Try.f4 Rows.wideTellsRow.domain false) (Rows.wideTellsSpec.post enc Try.prog Try.f4 false true false false) := by
  refine returnsInHanded_of_change_sized (C := Try.checked) own started (by kernel_rfl) Try.func4
    (ChangeSpec.witness6 (enc := enc) (C := Try.checked) false ⟨#[], #[.agg #[.int .u64 0, .int .u64 0], .agg #[.int .u64 0, .int .u64 0], .string ⟨#[]⟩], []⟩ 8 (by kernel_rfl) (by kernel_rfl) (by kernel_rfl) (by kernel_rfl)) ?_
  intro W base args ds gs before hval0 hW _ _ _
  have hval : ∀ (j : Nat) t v, Try.f4.params[j]? = some t → args[j]? = some v → Value.okWide Try.prog W .any base t v := hval0
  have hW' := hW
  obtain ⟨p, q, hA0, hV, rfl, hfz, hnd⟩ := hW
  have hA : DataW.TrodAll enc Try.prog W 0 (fun _ => true) true Try.f4.params.toList args.toList ds p := hA0
  rw [Try.params4] at hA hval
  obtain ⟨v0, vs0, d0, ds0, p0, q0, hargs, rfl, rfl, h0, r0⟩ := trodAll_cons hA
  obtain ⟨v1, vs1, d1, ds1, p1, q1, rfl, rfl, rfl, h1, r1⟩ := trodAll_cons r0
  obtain ⟨v2, vs2, d2, ds2, p2, q2, rfl, rfl, rfl, h2, r2⟩ := trodAll_cons r1
  obtain ⟨rfl, rfl, rfl⟩ := trodAll_nil r2
  obtain rfl : args = #[v0, v1, v2] := by cases args; simp_all
  obtain ⟨rfl, rfl⟩ := trodVars_none hV
  have lt0 : ∀ x ∈ p0, x.block < W.heap.size := by obtain ⟨m, hm⟩ := h0; exact DataW.trod_lt m _ _ _ hm
  have lt1 : ∀ x ∈ p1, x.block < W.heap.size := by obtain ⟨m, hm⟩ := h1; exact DataW.trod_lt m _ _ _ hm
  obtain ⟨x0, y0, rfl, ux0, uy0⟩ := open_w24 (hval 0 24 v0 rfl rfl) h0
  obtain ⟨x1, y1, rfl, ux1, uy1⟩ := open_w24 (hval 1 24 v1 rfl rfl) h1
  obtain ⟨s2, rfl, rfl, rfl, w2⟩ := ChangeMaps.open_string Try.underlying9 (hval 2 9 v2 rfl rfl) h2
  
  clear hA0 hval0
  have walk : Calls Try.prog 4 _ W fun e w' => e = .returned (.bool true) ∧ Below W.heap.size W w' := Wi.tells_any W x0 y0 x1 y1 s2 ux0 uy0 ux1 uy1 w2
  refine walk.mono fun e W' ⟨he, bel⟩ => ?_
  subst he
  exact ⟨_, rfl, _, _, _, [], _, [], hW', trodAll_mk1 (shut_bool Try.underlying4 _), (trodAll_cons_mk (Below.trod laidOut (by kernel_rfl) (of_decide_eq_true (by kernel_rfl)) h0 bel lt0) (trodAll_cons_mk (Below.trod laidOut (by kernel_rfl) (of_decide_eq_true (by kernel_rfl)) h1 bel lt1) (trodAll_cons_mk (ChangeMaps.shut_string Try.underlying9 w2) trodAll_mk0))), rfl, bel.frame _, fun h => by cases h⟩
theorem over : Rows.wideTellsRow.holds Try.pinned (OpenSpec.ofChange Rows.wideTellsSpec) :=
  OpenClaim.holds_of_wide 4 Try.f4 rfl rfl rfl rfl rfl rfl rfl ⟨rfl, rfl, rfl, rfl, rfl⟩ rfl rfl rfl rfl rfl (by kernel_rfl) Try.func4 (by kernel_rfl)
    (of_decide_eq_true (by kernel_rfl)) (by unfold Func.isWrapper; first | (rw [if_pos (by decide +kernel)]; kernel_rfl) | (rw [if_neg (by decide +kernel)]; exact ⟨rfl, rfl⟩))
    (fun os started H enc _ => lifted os started H enc)
theorem proved : Rows.WideTellsSaid := over
#print axioms proved
end Go.Proofs.Ytfckignchmpeaaa.wideTells
namespace Go.Proofs.Ytfckignchmpeaaa
/-- The row, under a short name, for the claim. -/
theorem wideTells_holds : Rows.WideTellsSaid := wideTells.proved
end Go.Proofs.Ytfckignchmpeaaa
