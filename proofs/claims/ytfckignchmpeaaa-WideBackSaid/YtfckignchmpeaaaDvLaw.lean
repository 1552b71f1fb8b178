/- For every input WideBack returns true, and its arguments read as they did. No condition. -/
import Derived.Test.YtfckignchmpeaaaRows
import Derived.Test.YtfckignchmpeaaaDv
import Derived.WalkKit
import Derived.ProofKit
import Derived.OpenShut
import Derived.ShutString
import Derived.ChangeOld
import Derived.Below
import Derived.SizedLaws
import Derived.ChangeMaps5
import Derived.ChangeSame
import Derived.Carry
namespace Go.Proofs.Ytfckignchmpeaaa.wideBack
open Go.ChangeShapes Go.WideShapes Go.ChangeAt Go.RowKit
theorem own : ownKnob Try.prog.godebug = none := by kernel_rfl
theorem laidOut : laidOutB Try.prog = true := by kernel_rfl
theorem cells24 : Try.prog.cellsOf 24 = 2 := by kernel_rfl
theorem cells22 : Try.prog.cellsOf 22 = 1 := by kernel_rfl
theorem urange {n : Int} (h : (Lit.int .u64 n).wf = true) : Wi.U n := by
  have : 0 ≤ n ∧ n ≤ 18446744073709551615 := by simpa [Lit.wf, IntKind.min, IntKind.max, IntKind.signed, IntKind.bits] using h
  unfold Wi.U
  omega
section
variable {H : Type} {enc : TypeId × Value → H} {W : World}
theorem open_w24 {r : Reach} {b0 base : Nat} {sp : Nat → Bool} {held : Bool} {v : Value} {d : DataW H} {ps : List MemPlace} (hval : Value.okWide Try.prog W r b0 24 v) (hd : DataW.Trod enc Try.prog W base sp held 24 v d ps) :
    ∃ h l : Int, v = .agg #[.int .u64 h, .int .u64 l] ∧ Wi.U h ∧ Wi.U l := by
  unfold Value.okWide at hval
  rw [Try.underlying24] at hval
  obtain ⟨cs, rfl, hsz, _⟩ := hval
  obtain ⟨fuel, hf⟩ := hd
  obtain ⟨y0, y1, n, _, hl, h0, h1⟩ := trod_struct2 Try.underlying24 hf
  rw [cells24] at hsz
  obtain ⟨l⟩ := cs
  match l, hsz with
  | [c0, c1], _ =>
    have f0 : DataW.trod enc Try.prog W base sp held n 22 [c0] = some y0 := by simpa [cells22, Value.cells] using h0
    have f1 : DataW.trod enc Try.prog W base sp held n 22 [c1] = some y1 := by simpa [cells22, Value.cells] using h1
    obtain ⟨k, e0, _, hk⟩ := DataW.trod_int Try.underlying22 f0
    obtain ⟨m, e1, _, hm⟩ := DataW.trod_int Try.underlying22 f1
    injection e0 with e0
    injection e1 with e1
    subst e0 e1
    exact ⟨k, m, rfl, urange hk, urange hm⟩
theorem cells53 : Try.prog.cellsOf 53 = 6 := by kernel_rfl
theorem cells3 : Try.prog.cellsOf 3 = 1 := by kernel_rfl
theorem open_in24 {base n : Nat} {sp : Nat → Bool} {held : Bool} {cs : List Value} {x : DataW H × List MemPlace} (hf : DataW.trod enc Try.prog W base sp held n 24 cs = some x) : ∃ h l : Int, cs = [.int .u64 h, .int .u64 l] ∧ Wi.U h ∧ Wi.U l := by
  obtain ⟨y0, y1, m, _, hl, h0, h1⟩ := trod_struct2 Try.underlying24 hf
  rw [cells24] at hl
  match cs, hl with
  | [c0, c1], _ =>
    have f0 : DataW.trod enc Try.prog W base sp held m 22 [c0] = some y0 := by simpa [cells22] using h0
    have f1 : DataW.trod enc Try.prog W base sp held m 22 [c1] = some y1 := by simpa [cells22] using h1
    obtain ⟨k, e0, _, hk⟩ := DataW.trod_int Try.underlying22 f0
    obtain ⟨q, e1, _, hq⟩ := DataW.trod_int Try.underlying22 f1
    injection e0 with e0
    injection e1 with e1
    subst e0 e1
    exact ⟨k, q, rfl, urange hk, urange hq⟩
theorem open_c53 {r : Reach} {b0 base : Nat} {sp : Nat → Bool} {held : Bool} {v : Value} {d : DataW H} {ps : List MemPlace} (hval : Value.okWide Try.prog W r b0 53 v) (hd : DataW.Trod enc Try.prog W base sp held 53 v d ps) :
    ∃ a b c e u n : Int, v = .agg #[.int .u64 a, .int .u64 b, .int .u64 c, .int .u64 e, .int .u64 u, .int .i64 n] ∧ Wi.U a ∧ Wi.U b ∧ Wi.U c ∧ Wi.U e ∧ Wi.U u ∧ -9223372036854775808 ≤ n ∧ n ≤ 9223372036854775807 := by
  unfold Value.okWide at hval
  rw [Try.underlying53] at hval
  obtain ⟨cs, rfl, hsz, _⟩ := hval
  obtain ⟨fuel, hf⟩ := hd
  obtain ⟨xs, n, _, _, hl, hlen, hfs⟩ := DataW.trod_struct Try.underlying53 hf
  rw [cells53] at hsz
  obtain ⟨l⟩ := cs
  match l, hsz with
  | [c0, c1, c2, c3, c4, c5], _ =>
    have hxs : xs.length = 4 := by rw [hlen]; rfl
    match xs, hxs with
    | [x0, x1, x2, x3], _ =>
      have f0 : DataW.trod enc Try.prog W base sp held n 24 [c0, c1] = some x0 := by simpa [cells24, Value.cells] using hfs 0 _ rfl
      have f1 : DataW.trod enc Try.prog W base sp held n 24 [c2, c3] = some x1 := by simpa [cells24, Value.cells] using hfs 1 _ rfl
      have f2 : DataW.trod enc Try.prog W base sp held n 22 [c4] = some x2 := by simpa [cells22, Value.cells] using hfs 2 _ rfl
      have f3 : DataW.trod enc Try.prog W base sp held n 3 [c5] = some x3 := by simpa [cells3, Value.cells] using hfs 3 _ rfl
      obtain ⟨a, b, e0, ha, hb⟩ := open_in24 f0
      obtain ⟨c, e, e1, hc, he⟩ := open_in24 f1
      obtain ⟨u, e2, _, hu⟩ := DataW.trod_int Try.underlying22 f2
      obtain ⟨k, e3, _, hk⟩ := DataW.trod_int Try.underlying3 f3
      simp only [List.cons.injEq, and_true] at e0 e1 e2 e3
      obtain ⟨rfl, rfl⟩ := e0
      obtain ⟨rfl, rfl⟩ := e1
      subst e2 e3
      have hr : -9223372036854775808 ≤ k ∧ k ≤ 9223372036854775807 := by simpa [Lit.wf, IntKind.min, IntKind.max, IntKind.signed, IntKind.bits] using hk
      exact ⟨a, b, c, e, u, k, rfl, ha, hb, hc, he, urange hu, hr.1, hr.2⟩
end
set_option maxRecDepth 100000 in
theorem lifted (os : Os) (started : os.Started) (H : Type) (enc : TypeId × Value → H) :
    ReturnsInHanded {} Try.checked os 6 .any (Rows.wideBackSpec.pre6 enc Try.prog Try.f6 Rows.wideBackRow.domain false) (Rows.wideBackSpec.post enc Try.prog Try.f6 false true false false) := by
  refine returnsInHanded_of_change_sized (C := Try.checked) own started (by kernel_rfl) Try.func6
    (ChangeSpec.witness6 (enc := enc) (C := Try.checked) false ⟨#[], #[.agg #[.int .u64 0, .int .u64 0, .int .u64 0, .int .u64 0, .int .u64 0, .int .i64 0]], []⟩ 8 (by kernel_rfl) (by kernel_rfl) (by kernel_rfl) (by kernel_rfl)) ?_
  intro W base args ds gs before hval0 hW _ _ _
  have hval : ∀ (j : Nat) t v, Try.f6.params[j]? = some t → args[j]? = some v → Value.okWide Try.prog W .any base t v := hval0
  have hW' := hW
  obtain ⟨p, q, hA0, hV, rfl, hfz, hnd⟩ := hW
  have hA : DataW.TrodAll enc Try.prog W 0 (fun _ => true) true Try.f6.params.toList args.toList ds p := hA0
  rw [Try.params6] at hA hval
  obtain ⟨v0, vs0, d0, ds0, p0, q0, hargs, rfl, rfl, h0, r0⟩ := trodAll_cons hA
  obtain ⟨rfl, rfl, rfl⟩ := trodAll_nil r0
  obtain rfl : args = #[v0] := by cases args; simp_all
  obtain ⟨rfl, rfl⟩ := trodVars_none hV
  have lt0 : ∀ x ∈ p0, x.block < W.heap.size := by obtain ⟨m, hm⟩ := h0; exact DataW.trod_lt m _ _ _ hm
  obtain ⟨x0, y0, z0, t0, k0, m0, rfl, ux0, uy0, uz0, ut0, uk0, lm0, rm0⟩ := open_c53 (hval 0 53 v0 rfl rfl) h0
  
  clear hA0 hval0
  have walk : Calls Try.prog 6 _ W fun e w' => e = .returned (.bool true) ∧ Below W.heap.size W w' := Wi.back_any W x0 y0 z0 t0 k0 m0 ux0 uy0 uz0 ut0 uk0 (by omega) (by omega)
  refine walk.mono fun e W' ⟨he, bel⟩ => ?_
  subst he
  exact ⟨_, rfl, _, _, _, [], _, [], hW', trodAll_mk1 (shut_bool Try.underlying4 _), (trodAll_cons_mk (Below.trod laidOut (by kernel_rfl) (of_decide_eq_true (by kernel_rfl)) h0 bel lt0) trodAll_mk0), rfl, bel.frame _, fun h => by cases h⟩
theorem over : Rows.wideBackRow.holds Try.pinned (OpenSpec.ofChange Rows.wideBackSpec) :=
  OpenClaim.holds_of_wide 6 Try.f6 rfl rfl rfl rfl rfl rfl rfl ⟨rfl, rfl, rfl, rfl, rfl⟩ rfl rfl rfl rfl rfl (by kernel_rfl) Try.func6 (by kernel_rfl)
    (of_decide_eq_true (by kernel_rfl)) (by unfold Func.isWrapper; first | (rw [if_pos (by decide +kernel)]; kernel_rfl) | (rw [if_neg (by decide +kernel)]; exact ⟨rfl, rfl⟩))
    (fun os started H enc _ => lifted os started H enc)
theorem proved : Rows.WideBackSaid := over
#print axioms proved
end Go.Proofs.Ytfckignchmpeaaa.wideBack
namespace Go.Proofs.Ytfckignchmpeaaa
/-- The row, under a short name, for the claim. -/
theorem wideBack_holds : Rows.WideBackSaid := wideBack.proved
end Go.Proofs.Ytfckignchmpeaaa
