/- For every input DiskPlays returns true, and its arguments read as they did. No condition. -/
import Derived.Test.YtijcdpefcdgklaaRows
import Derived.Test.YtijcdpefcdgklaaEj
import Derived.Test.YtijcdpefcdgklaaEk
import Derived.WalkKit
import Derived.ProofKit
import Derived.OpenShut
import Derived.ShutString
import Derived.ChangeOld
import Derived.Below
import Derived.SizedLaws
import Derived.ChangeMaps5
import Derived.ChangeSame
import Derived.ChangeSlices
import Derived.Carry
import Derived.Deep.Slices
namespace Go.Proofs.Ytijcdpefcdgklaa.diskPlays
open Go.ChangeShapes Go.WideShapes Go.ChangeAt Go.RowKit Go.Deep
theorem own : ownKnob Try.prog.godebug = none := by kernel_rfl
theorem laidOut : laidOutB Try.prog = true := by kernel_rfl
theorem cells5 : Try.prog.cellsOf 5 = 1 := by kernel_rfl
theorem cells3 : Try.prog.cellsOf 3 = 1 := by kernel_rfl
theorem cells22 : Try.prog.cellsOf 22 = 1 := by kernel_rfl
theorem cells48 : Try.prog.cellsOf 48 = 4 := by kernel_rfl
theorem plain_of_cell {w : World} {a : Addr} {v : Value} (h : w.cell? a = some v) : a.spot = none := by
  unfold World.cell? at h
  split at h
  · split at h
    · cases h
    · rename_i hs
      simpa using hs
  · cases h
theorem range64 {n : Int} (h : (Lit.int .i64 n).wf = true) : -9223372036854775808 ≤ n ∧ n ≤ 9223372036854775807 := by
  simpa [Lit.wf, IntKind.min, IntKind.max, IntKind.signed, IntKind.bits] using h
section
variable {H : Type} {enc : TypeId × Value → H} {W : World}
theorem bytes_of {fuel : Nat} {v : Value} {x : DataW H × List MemPlace} (h : DataW.trod enc Try.prog W 0 (fun _ => true) true fuel 22 [v] = some x) : ∃ l : List UInt8, Di.Reads W v l := by
  rcases open_ints Try.underlying22 Try.underlying5 cells5 h with ⟨hcs, _⟩ | ⟨a, len, cap, zs, hcs, _, hl, hm, hz, _, hcell, hwz⟩
  · injection hcs with hcs _
    subst hcs
    exact ⟨[], Or.inl ⟨rfl, rfl⟩⟩
  · injection hcs with hcs _
    subst hcs
    simp only [if_true] at hz
    have hlen : ((zs.take len).map fun n => UInt8.ofNat n.toNat).length = len := by simp; omega
    refine ⟨(zs.take len).map fun n => UInt8.ofNat n.toNat, Or.inr ⟨a, cap, by rw [hlen], by rw [hlen]; exact hl, hm, fun j u hj => ?_⟩⟩
    have hjl : j < len := by
      have h := (List.getElem?_eq_some_iff.1 hj).1
      rw [Di.bys_len, hlen] at h
      exact h
    have hjz : j < zs.length := by omega
    rw [hcell j hjz, ← hj]
    rw [Di.bys_get (by rw [hlen]; exact hjl)]
    have hw : (Lit.int .u8 zs[j]).wf = true := hwz _ (List.getElem_mem hjz)
    have hb : 0 ≤ zs[j] ∧ zs[j] ≤ 255 := by simpa [Lit.wf, IntKind.min, IntKind.max, IntKind.signed, IntKind.bits] using hw
    have e : zs.getD j 0 = zs[j] := by simp [List.getD, List.getElem?_eq_getElem hjz]
    rw [e]
    simp only [List.getElem_map, List.getElem_take]
    congr 2
    simp only [UInt8.toNat_ofNat']
    omega
/-- One operation, as it is read. -/
structure OpV where
  k : Int
  t : Int
  m : Int
  v : Value
  l : List UInt8
instance : Inhabited OpV := ⟨⟨0, 0, 0, .slice none 0 0, []⟩⟩
theorem open_op {n : Nat} {cs : List Value} {x : DataW H × List MemPlace} (h : DataW.trod enc Try.prog W 0 (fun _ => true) true n 48 cs = some x) :
    ∃ o : OpV, cs = [.int .i64 o.k, .int .i64 o.t, .int .i64 o.m, o.v] ∧ (-9223372036854775808 ≤ o.m ∧ o.m ≤ 9223372036854775807) ∧ Di.Reads W o.v o.l := by
  obtain ⟨xs, n, _, rfl, hl, hlen, hf⟩ := DataW.trod_struct Try.underlying48 h
  rw [cells48] at hl
  have hxs : xs.length = 4 := by rw [hlen]; rfl
  match cs, hl with
  | [c0, c1, c2, c3], _ =>
  match xs, hxs with
  | [x0, x1, x2, x3], _ =>
    have f0 : DataW.trod enc Try.prog W 0 (fun _ => true) true n 3 [c0] = some x0 := by simpa [cells3, cells22] using hf 0 _ rfl
    have f1 : DataW.trod enc Try.prog W 0 (fun _ => true) true n 3 [c1] = some x1 := by simpa [cells3, cells22] using hf 1 _ rfl
    have f2 : DataW.trod enc Try.prog W 0 (fun _ => true) true n 3 [c2] = some x2 := by simpa [cells3, cells22] using hf 2 _ rfl
    have f3 : DataW.trod enc Try.prog W 0 (fun _ => true) true n 22 [c3] = some x3 := by simpa [cells3, cells22] using hf 3 _ rfl
    obtain ⟨k, e0, _, _⟩ := DataW.trod_int Try.underlying3 f0
    obtain ⟨t, e1, _, _⟩ := DataW.trod_int Try.underlying3 f1
    obtain ⟨m, e2, _, hm⟩ := DataW.trod_int Try.underlying3 f2
    injection e0 with e0
    injection e1 with e1
    injection e2 with e2
    subst e0 e1 e2
    obtain ⟨l, hr⟩ := bytes_of f3
    exact ⟨⟨k, t, m, c3, l⟩, rfl, range64 hm, hr⟩
theorem open_ops {A : Option Addr} {len cap : Nat} {d : DataW H} {ps : List MemPlace} (h : DataW.Trod enc Try.prog W 0 (fun _ => true) true 33 (.slice A len cap) d ps) :
    ∃ (lb lo : Nat) (O : Nat → OpV), (0 < len → A = some ⟨lb, lo, none⟩) ∧ ∀ i, i < len → W.cell? ⟨lb, lo + i * 4, none⟩ = some (.int .i64 (O i).k) ∧ W.cell? ⟨lb, lo + i * 4 + 1, none⟩ = some (.int .i64 (O i).t) ∧
      W.cell? ⟨lb, lo + i * 4 + 2, none⟩ = some (.int .i64 (O i).m) ∧ W.cell? ⟨lb, lo + i * 4 + 3, none⟩ = some (O i).v ∧ (-9223372036854775808 ≤ (O i).m ∧ (O i).m ≤ 9223372036854775807) ∧ Di.Reads W (O i).v (O i).l := by
  obtain ⟨fuel, hf⟩ := h
  rcases open_slice Try.underlying33 hf with ⟨hcs, _⟩ | ⟨a, l, c, m, n, D, Pl, hcs, _, hl, hm, hmm, _, hx⟩
  · simp [Value.cells] at hcs
    obtain ⟨rfl, rfl, rfl⟩ := hcs
    exact ⟨0, 0, fun _ => default, fun h => absurd h (by omega), fun i hi => absurd hi (by omega)⟩
  · simp [Value.cells] at hcs
    obtain ⟨rfl, rfl, rfl⟩ := hcs
    simp only [if_true] at hmm
    subst hmm
    rw [cells48] at hx
    have key : ∀ i, i < len → ∃ q : OpV, W.cell? ((a.add (i * 4)).add 0) = some (.int .i64 q.k) ∧ W.cell? ((a.add (i * 4)).add 1) = some (.int .i64 q.t) ∧ W.cell? ((a.add (i * 4)).add 2) = some (.int .i64 q.m) ∧ W.cell? ((a.add (i * 4)).add 3) = some q.v ∧
        (-9223372036854775808 ≤ q.m ∧ q.m ≤ 9223372036854775807) ∧ Di.Reads W q.v q.l := by
      intro i hi
      obtain ⟨cs', h1, h2⟩ := hx i (by omega)
      obtain ⟨_, _, h3⟩ := World.cells?_some h1
      obtain ⟨q, rfl, hr, hq⟩ := open_op h2
      exact ⟨q, h3 0 (by omega), h3 1 (by omega), h3 2 (by omega), h3 3 (by omega), hr, hq⟩
    by_cases h0 : 0 < len
    · have hs : a.spot = none := by
        obtain ⟨q, hq, _⟩ := key 0 h0
        rw [Nat.zero_mul] at hq
        exact plain_of_cell hq
      obtain ⟨b, o, s⟩ := a
      subst hs
      obtain ⟨q, hq⟩ := choose_lt key
      refine ⟨b, o, q, fun _ => rfl, fun i hi => ?_⟩
      have := hq i hi
      simp only [Addr.add_lit, Nat.add_zero] at this
      exact this
    · exact ⟨0, 0, fun _ => default, fun h => absurd h h0, fun i hi => absurd hi (by omega)⟩
end
theorem walk_any {W : World} {n : Int} {A : Option Addr} {len cap lb lo : Nat} {O : Nat → OpV} (hA : 0 < len → A = some ⟨lb, lo, none⟩) (hc : ∀ i, i < len → W.cell? ⟨lb, lo + i * 4, none⟩ = some (.int .i64 (O i).k) ∧ W.cell? ⟨lb, lo + i * 4 + 1, none⟩ = some (.int .i64 (O i).t) ∧
      W.cell? ⟨lb, lo + i * 4 + 2, none⟩ = some (.int .i64 (O i).m) ∧ W.cell? ⟨lb, lo + i * 4 + 3, none⟩ = some (O i).v ∧ (-9223372036854775808 ≤ (O i).m ∧ (O i).m ≤ 9223372036854775807) ∧ Di.Reads W (O i).v (O i).l) :
    Calls Try.prog 4 #[.int .i64 n, .slice A len cap] W fun e w' => e = .returned (.bool true) ∧ Below W.heap.size W w' := by
  by_cases h1 : 400 < n ∧ n ≤ 262144
  · exact Di.plays_mid W n h1.1 h1.2 _
  · by_cases h2 : 60 < len
    · exact Di.plays_long W n h1 A len cap h2
    · by_cases h3 : n < 16 ∨ 262144 < n
      · exact Di.plays_nil W n h3 A len cap (by omega)
      · obtain ⟨k, rfl⟩ : ∃ k : Nat, n = k := ⟨n.toNat, by omega⟩
        exact Di.plays_main W k (by omega) (by omega) A lb lo len cap (by omega) (fun i => (O i).k) (fun i => (O i).t) (fun i => (O i).m) (fun i => (O i).v) (fun i => (O i).l) hA (fun i hi => (hc i hi).1) (fun i hi => (hc i hi).2.1) (fun i hi => (hc i hi).2.2.1) (fun i hi => (hc i hi).2.2.2.1) (fun i hi => (hc i hi).2.2.2.2.1) (fun i hi => (hc i hi).2.2.2.2.2)
set_option maxRecDepth 100000 in
theorem lifted (os : Os) (started : os.Started) (H : Type) (enc : TypeId × Value → H) :
    ReturnsInHanded {} Try.checked os 4 .any (Rows.diskPlaysSpec.pre6 enc Try.prog Try.f4 Rows.diskPlaysRow.domain false) (Rows.diskPlaysSpec.post enc Try.prog Try.f4 false true false false) := by
  refine returnsInHanded_of_change_sized (C := Try.checked) own started (by kernel_rfl) Try.func4
    (ChangeSpec.witness6 (enc := enc) (C := Try.checked) false ⟨#[], #[.int .i64 0, .slice none 0 0], []⟩ 8 (by kernel_rfl) (by kernel_rfl) (by kernel_rfl) (by kernel_rfl)) ?_
  intro W base args ds gs before hval0 hW _ _ _
  have hval : ∀ (j : Nat) t v, Try.f4.params[j]? = some t → args[j]? = some v → Value.okWide Try.prog W .any base t v := hval0
  have hW' := hW
  obtain ⟨p, q, hA0, hV, rfl, hfz, hnd⟩ := hW
  have hA : DataW.TrodAll enc Try.prog W 0 (fun _ => true) true Try.f4.params.toList args.toList ds p := hA0
  rw [Try.params4] at hA hval
  obtain ⟨v0, vs0, d0, ds0, p0, q0, hargs, rfl, rfl, h0, r0⟩ := trodAll_cons hA
  obtain ⟨v1, vs1, d1, ds1, p1, q1, rfl, rfl, rfl, h1, r1⟩ := trodAll_cons r0
  obtain ⟨rfl, rfl, rfl⟩ := trodAll_nil r1
  obtain rfl : args = #[v0, v1] := by cases args; simp_all
  obtain ⟨rfl, rfl⟩ := trodVars_none hV
  have lt0 : ∀ x ∈ p0, x.block < W.heap.size := by obtain ⟨m, hm⟩ := h0; exact DataW.trod_lt m _ _ _ hm
  have lt1 : ∀ x ∈ p1, x.block < W.heap.size := by obtain ⟨m, hm⟩ := h1; exact DataW.trod_lt m _ _ _ hm
  obtain ⟨n, rfl⟩ : ∃ n : Int, v0 = .int .i64 n := okWide_int Try.underlying3 (hval 0 3 v0 rfl rfl)
  obtain ⟨a1, len1, cap1, rfl⟩ := okWide_slice Try.underlying33 (hval 1 33 v1 rfl rfl)
  obtain ⟨lb, lo, O, hA1, hc⟩ := open_ops h1
  clear hA0 hval0
  have walk : Calls Try.prog 4 #[.int .i64 n, .slice a1 len1 cap1] W fun e w' => e = .returned (.bool true) ∧ Below W.heap.size W w' := walk_any (n := n) (cap := cap1) hA1 hc
  refine walk.mono fun e W' ⟨he, bel⟩ => ?_
  subst he
  exact ⟨_, rfl, _, _, _, [], _, [], hW', trodAll_mk1 (shut_bool Try.underlying4 _), (trodAll_cons_mk (Below.trod laidOut (by kernel_rfl) (of_decide_eq_true (by kernel_rfl)) h0 bel lt0) (trodAll_cons_mk (Below.trod laidOut (by kernel_rfl) (of_decide_eq_true (by kernel_rfl)) h1 bel lt1) trodAll_mk0)), rfl, bel.frame _, fun h => by cases h⟩
theorem over : Rows.diskPlaysRow.holds Try.pinned (OpenSpec.ofChange Rows.diskPlaysSpec) :=
  OpenClaim.holds_of_wide 4 Try.f4 rfl rfl rfl rfl rfl rfl rfl ⟨rfl, rfl, rfl, rfl, rfl⟩ rfl rfl rfl rfl rfl (by kernel_rfl) Try.func4 (by kernel_rfl)
    (of_decide_eq_true (by kernel_rfl)) (by unfold Func.isWrapper; first | (rw [if_pos (by decide +kernel)]; kernel_rfl) | (rw [if_neg (by decide +kernel)]; exact ⟨rfl, rfl⟩))
    (fun os started H enc _ => lifted os started H enc)
theorem proved : Rows.DiskPlaysSaid := over
#print axioms proved
end Go.Proofs.Ytijcdpefcdgklaa.diskPlays
namespace Go.Proofs.Ytijcdpefcdgklaa
/-- The row, under a short name, for the claim. -/
theorem diskPlays_holds : Rows.DiskPlaysSaid := diskPlays.proved
end Go.Proofs.Ytijcdpefcdgklaa
