/- For every list of operations FaultPlays returns true, and its argument reads as it did. No condition. -/
import Derived.Test.YtbfkcfmkbdlngaaRows
import Derived.Test.YtbfkcfmkbdlngaaFf
import Derived.WalkKit
import Derived.ProofKit
import Derived.OpenShut
import Derived.ShutString
import Derived.ChangeOld
import Derived.Below
import Derived.SizedLaws
import Derived.Deep.Slices
namespace Go.Proofs.Ytbfkcfmkbdlngaa.faultPlays
open Go.ChangeShapes Go.WideShapes Go.ChangeAt Go.RowKit Go.Deep
theorem own : ownKnob Try.prog.godebug = none := by kernel_rfl
theorem laidOut : laidOutB Try.prog = true := by kernel_rfl
theorem cells37 : Try.prog.cellsOf 37 = 3 := by kernel_rfl
theorem cells3 : Try.prog.cellsOf 3 = 1 := by kernel_rfl
theorem plain_of_cell {w : World} {a : Addr} {v : Value} (h : w.cell? a = some v) : a.spot = none := by
  unfold World.cell? at h
  split at h
  · split at h
    · cases h
    · rename_i hs
      simpa using hs
  · cases h
theorem range64 {n : Int} (h : (Lit.int .i64 n).wf = true) : -9223372036854775808 ≤ n ∧ n ≤ 9223372036854775807 := by
  simpa [Lit.wf, IntKind.min, IntKind.max, IntKind.signed, IntKind.bits] using h
section
variable {H : Type} {enc : TypeId × Value → H} {W : World}
theorem open_op {n : Nat} {cs : List Value} {x : DataW H × List MemPlace} (h : DataW.trod enc Try.prog W 0 (fun _ => true) true n 37 cs = some x) :
    ∃ k t m : Int, cs = [.int .i64 k, .int .i64 t, .int .i64 m] ∧ -9223372036854775808 ≤ m ∧ m ≤ 9223372036854775807 := by
  obtain ⟨xs, n, _, rfl, hl, hlen, hf⟩ := DataW.trod_struct Try.underlying37 h
  rw [cells37] at hl
  have hxs : xs.length = 3 := by rw [hlen]; rfl
  match cs, hl with
  | [c0, c1, c2], _ =>
  match xs, hxs with
  | [x0, x1, x2], _ =>
    have f0 : DataW.trod enc Try.prog W 0 (fun _ => true) true n 3 [c0] = some x0 := by simpa [cells3] using hf 0 _ rfl
    have f1 : DataW.trod enc Try.prog W 0 (fun _ => true) true n 3 [c1] = some x1 := by simpa [cells3] using hf 1 _ rfl
    have f2 : DataW.trod enc Try.prog W 0 (fun _ => true) true n 3 [c2] = some x2 := by simpa [cells3] using hf 2 _ rfl
    obtain ⟨k, e0, _, _⟩ := DataW.trod_int Try.underlying3 f0
    obtain ⟨t, e1, _, _⟩ := DataW.trod_int Try.underlying3 f1
    obtain ⟨m, e2, _, hm⟩ := DataW.trod_int Try.underlying3 f2
    injection e0 with e0
    injection e1 with e1
    injection e2 with e2
    subst e0 e1 e2
    exact ⟨k, t, m, rfl, range64 hm⟩
theorem open_ops {A : Option Addr} {len cap : Nat} {d : DataW H} {ps : List MemPlace} (h : DataW.Trod enc Try.prog W 0 (fun _ => true) true 30 (.slice A len cap) d ps) :
    len ≤ maxLen ∧ ∃ (lb lo : Nat) (K T N : Nat → Int), (0 < len → A = some ⟨lb, lo, none⟩) ∧ ∀ i, i < len → W.cell? ⟨lb, lo + i * 3, none⟩ = some (.int .i64 (K i)) ∧ W.cell? ⟨lb, lo + i * 3 + 1, none⟩ = some (.int .i64 (T i)) ∧
      W.cell? ⟨lb, lo + i * 3 + 2, none⟩ = some (.int .i64 (N i)) ∧ -9223372036854775808 ≤ N i ∧ N i ≤ 9223372036854775807 := by
  obtain ⟨fuel, hf⟩ := h
  rcases open_slice Try.underlying30 hf with ⟨hcs, _⟩ | ⟨a, l, c, m, n, D, Pl, hcs, _, hl, hm, hmm, _, hx⟩
  · simp [Value.cells] at hcs
    obtain ⟨rfl, rfl, rfl⟩ := hcs
    exact ⟨Nat.zero_le _, 0, 0, fun _ => 0, fun _ => 0, fun _ => 0, fun h => absurd h (by omega), fun i hi => absurd hi (by omega)⟩
  · simp [Value.cells] at hcs
    obtain ⟨rfl, rfl, rfl⟩ := hcs
    refine ⟨by omega, ?_⟩
    simp only [if_true] at hmm
    subst hmm
    rw [cells37] at hx
    have key : ∀ i, i < len → ∃ q : Int × Int × Int, W.cell? ((a.add (i * 3)).add 0) = some (.int .i64 q.1) ∧ W.cell? ((a.add (i * 3)).add 1) = some (.int .i64 q.2.1) ∧ W.cell? ((a.add (i * 3)).add 2) = some (.int .i64 q.2.2) ∧
        -9223372036854775808 ≤ q.2.2 ∧ q.2.2 ≤ 9223372036854775807 := by
      intro i hi
      obtain ⟨cs', h1, h2⟩ := hx i (by omega)
      obtain ⟨_, _, h3⟩ := World.cells?_some h1
      obtain ⟨k, t, m, rfl, hr⟩ := open_op h2
      exact ⟨(k, t, m), h3 0 (by omega), h3 1 (by omega), h3 2 (by omega), hr⟩
    by_cases h0 : 0 < len
    · have hs : a.spot = none := by
        obtain ⟨q, hq, _⟩ := key 0 h0
        rw [Nat.zero_mul] at hq
        exact plain_of_cell hq
      obtain ⟨b, o, s⟩ := a
      subst hs
      obtain ⟨q, hq⟩ := choose_lt key
      refine ⟨b, o, fun i => (q i).1, fun i => (q i).2.1, fun i => (q i).2.2, fun _ => rfl, fun i hi => ?_⟩
      have := hq i hi
      simp only [Addr.add_lit, Nat.add_zero] at this
      exact this
    · exact ⟨0, 0, fun _ => 0, fun _ => 0, fun _ => 0, fun h => absurd h h0, fun i hi => absurd hi (by omega)⟩
end
set_option maxRecDepth 100000 in
theorem lifted (os : Os) (started : os.Started) (H : Type) (enc : TypeId × Value → H) :
    ReturnsInHanded {} Try.checked os 4 .any (Rows.faultPlaysSpec.pre6 enc Try.prog Try.f4 Rows.faultPlaysRow.domain false) (Rows.faultPlaysSpec.post enc Try.prog Try.f4 false true false false) := by
  refine returnsInHanded_of_change_sized (C := Try.checked) own started (by kernel_rfl) Try.func4
    (ChangeSpec.witness6 (enc := enc) (C := Try.checked) false ⟨#[], #[.slice none 0 0], []⟩ 8 (by kernel_rfl) (by kernel_rfl) (by kernel_rfl) (by kernel_rfl)) ?_
  intro W base args ds gs before hval0 hW _ _ _
  have hval : ∀ (j : Nat) t v, Try.f4.params[j]? = some t → args[j]? = some v → Value.okWide Try.prog W .any base t v := hval0
  have hW' := hW
  obtain ⟨p, q, hA0, hV, rfl, hfz, hnd⟩ := hW
  have hA : DataW.TrodAll enc Try.prog W 0 (fun _ => true) true Try.f4.params.toList args.toList ds p := hA0
  rw [Try.params4] at hA hval
  obtain ⟨v0, vs0, d0, ds0, p0, q0, hargs, rfl, rfl, h0, r0⟩ := trodAll_cons hA
  obtain ⟨rfl, rfl, rfl⟩ := trodAll_nil r0
  obtain rfl : args = #[v0] := by cases args; simp_all
  obtain ⟨rfl, rfl⟩ := trodVars_none hV
  obtain ⟨a0, len0, cap0, rfl⟩ := okWide_slice Try.underlying30 (hval 0 30 v0 rfl rfl)
  have lt0 : ∀ x ∈ p0, x.block < W.heap.size := by obtain ⟨m, hm⟩ := h0; exact DataW.trod_lt m _ _ _ hm
  obtain ⟨hmax, lb, lo, K, T, N, hA1, hc⟩ := open_ops h0
  clear hA0 hval0
  have walk : Calls Try.prog 4 #[.slice a0 len0 cap0] W fun e w' => e = .returned (.bool true) ∧ Below W.heap.size W w' := by
    by_cases hl : len0 ≤ 100
    · exact Fa.plays_any a0 lb lo len0 cap0 hl K T N W hA1 (fun i hi => (hc i hi).1) (fun i hi => (hc i hi).2.1) (fun i hi => (hc i hi).2.2.2) (fun i hi => (hc i hi).2.2.1)
    · exact Fa.plays_long a0 len0 cap0 (by omega) (by unfold maxLen at hmax; omega) W
  refine walk.mono fun e W' ⟨he, bel⟩ => ?_
  subst he
  exact ⟨_, rfl, _, _, _, [], _, [], hW', trodAll_mk1 (shut_bool Try.underlying4 _), (trodAll_cons_mk (Below.trod laidOut (by kernel_rfl) (of_decide_eq_true (by kernel_rfl)) h0 bel lt0) trodAll_mk0), rfl, bel.frame _, fun h => by cases h⟩
theorem over : Rows.faultPlaysRow.holds Try.pinned (OpenSpec.ofChange Rows.faultPlaysSpec) :=
  OpenClaim.holds_of_wide 4 Try.f4 rfl rfl rfl rfl rfl rfl rfl ⟨rfl, rfl, rfl, rfl, rfl⟩ rfl rfl rfl rfl rfl (by kernel_rfl) Try.func4 (by kernel_rfl)
    (of_decide_eq_true (by kernel_rfl)) (by unfold Func.isWrapper; first | (rw [if_pos (by decide +kernel)]; kernel_rfl) | (rw [if_neg (by decide +kernel)]; exact ⟨rfl, rfl⟩))
    (fun os started H enc _ => lifted os started H enc)
theorem proved : Rows.FaultPlaysSaid := over
#print axioms proved
end Go.Proofs.Ytbfkcfmkbdlngaa.faultPlays
namespace Go.Proofs.Ytbfkcfmkbdlngaa
/-- The row, under a short name, for the claim. -/
theorem faultPlays_holds : Rows.FaultPlaysSaid := faultPlays.proved
end Go.Proofs.Ytbfkcfmkbdlngaa
