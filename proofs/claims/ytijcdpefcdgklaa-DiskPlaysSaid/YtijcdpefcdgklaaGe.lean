/- Disks: a new one, and one that is read, by walks. -/
import Derived.Test.YtijcdpefcdgklaaGd
import Derived.Laws.MakeOwn
namespace Go.Proofs.Ytijcdpefcdgklaa.Di
open Go.RowKit K

attribute [local go_sem] lookTo stepTo Maker.step
def zs (n : Nat) : List UInt8 := List.replicate n 0
def makeM (n : Nat) : Maker := ⟨Nat, fun g => .slice (some ⟨g, 0, none⟩) n n, fun g => [(g, .cells (bys (zs n)).toArray 5 (0, 0))], fun _ => True⟩
def boxM (vs : List Value) : Maker := match vs with
  | [.agg cs] => allocM (.cells cs 56)
  | _ => allocM (.cells #[] 56)
theorem At.under {w : World} {base base' : Nat} {d : Dk} (h : At w base d) (hb : base' ≤ base) : At w base' d := by
  obtain ⟨h1, h2, h3, h4, h5, ⟨o1, o2⟩, h7, h8, h9, h10, h11, h12, h13⟩ := h
  refine ⟨h1, h2, h3, h4, h5, ⟨o1, ?_⟩, Nat.le_trans hb h7, Nat.le_trans hb h8, Nat.le_trans hb h9, h10, h11, h12, h13⟩
  rcases o2 with o2 | ⟨g, cap, cur, q1, q2, q3⟩
  · exact Or.inl o2
  · exact Or.inr ⟨g, cap, cur, q1, Nat.le_trans hb q2, q3⟩
/-- A new disk. -/
def NewTo (w : World) (n : Nat) (e : Ending) (w' : World) : Prop := ∃ g s0 s1 : Nat, e = .returned (.tuple #[.pointer (some ⟨g, 0, none⟩), .int .i64 0]) ∧ At w' w.heap.size ⟨g, s0, s1, n, zs n, zs n, -1, false, 0, .slice none 0 0, [], n, n, [], []⟩ ∧ Below w.heap.size w w'
theorem made_zs (n : Nat) : madeCells #[.int .u8 0] n = (bys (zs n)).toArray := by
  refine Array.ext (by rw [size_madeCells]; simp [bys, zs]) (fun i h1 h2 => ?_)
  simp [madeCells, bys, zs, Nat.mod_one]
theorem make22 (w : World) (n : Nat) (h : n ≤ 262144) : (Instr.makeSlice 22 (.int .i64 (n : Int)) (.int .i64 (n : Int))).run Try.prog w = .ok (.slice (some ⟨w.heap.size, 0, none⟩) n n) (w.alloc (.cells (bys (zs n)).toArray 5)) := by
  obtain ⟨i, hi, hz⟩ := Option.map_eq_some_iff.1 info5
  simp only [Prod.mk.injEq] at hz
  have := run_makeSlice (P := Try.prog) w 22 5 i (.int .u8 0) Try.underlying22 hi hz.1 .i64 .i64 (n : Int) (n : Int) (by omega) (Int.le_refl _) (by rw [hz.2.1]; omega) (by rw [hz.2.2]; omega) (by omega)
  rw [hz.2.1, Int.toNat_natCast, Nat.mul_one] at this
  rw [this]
  show Result.ok _ (w.alloc (.cells (madeCells #[.int .u8 0] n) 5)) = _
  rw [made_zs]
theorem make_step {w w0 : World} {n : Nat} {o : Oper} {a : Act} {x : Operand} {rs : List (Nat × Obj)} (hn : n ≤ 262144) (hC : Stays rs w0 w) (ho : o.op = .makeSlice 22 x x) (hx : a.eval x = .int .i64 (n : Int)) : (makeM n).step Try.prog (Stays rs w0) w ((execOp a.eval o).run Try.prog w) := by
  unfold execOp Maker.step
  simp only [ho, hx, Sem.run_bind, make22 w n hn, Result.andThen_ok, Sem.run_pure]
  have hb : Below w.heap.size w (w.alloc (.cells (bys (zs n)).toArray 5)) := b_alloc (Below.refl _ _) _
  exact ⟨w.heap.size, rfl, trivial, (stays_good _ _).below _ _ hC hb, hb, fun p hp => by
    obtain rfl := List.mem_singleton.1 hp
    exact ⟨Nat.le_refl _, blk_new rfl⟩⟩
set_option maxHeartbeats 1000000 in
set_option maxRecDepth 100000 in
theorem new_any (w : World) (n : Nat) (h1 : 16 ≤ n) (h2 : n ≤ 262144) : Calls Try.prog 6 #[.int .i64 n] w (NewTo w n) := by
  have H1 := Lib.hid h1
  have H2 := Lib.hid h2
  have i1 : ¬ (n : Int) < 16 := by omega
  have i2 : ¬ (262144 : Int) < (n : Int) := by omega
  clear h1 h2
  go_enter Try.func6, Try.ntmps6
  go_upto_region 3 with fail
  have S0 : Hid (Stays [] w w) := Lib.hid (stays_nil (Below.refl _ _))
  refine reg (Stays [] w) (Turns [] w) (kdOf [(1, .make (fun _ => makeM n)), (3, .make (fun _ => makeM n)), (6, .make boxM)]) none0 (stays_good _ _) (by kernel_rfl) (by kernel_rfl) (stays_drew S0.out) (holds0 _) ?_
  refine g_look rfl rfl ?_ (fun w' hC => ?_) ?_
  rotate_left
  · go_simp
    first | done | rfl
  simp only [Act.put, List.setIfInBounds_toArray, List.set_cons_zero, List.set_cons_succ]
  refine g_make _ (makeM n) rfl rfl rfl (fun w' hC => ?_) (fun g0 p0 f0 => ?_)
  · exact make_step H2.out hC rfl rfl
  simp only [Act.put, List.setIfInBounds_toArray, List.set_cons_zero, List.set_cons_succ]
  have F0 := Lib.hid (f0 _ (List.mem_singleton_self _))
  clear f0 p0
  refine g_look rfl rfl ?_ (fun w' hC => ?_) ?_
  rotate_left
  · go_simp
    first | done | rfl
  simp only [Act.put, List.setIfInBounds_toArray, List.set_cons_zero, List.set_cons_succ]
  refine g_make _ (makeM n) rfl rfl rfl (fun w' hC => ?_) (fun g1 p1 f1 => ?_)
  · exact make_step H2.out hC rfl rfl
  simp only [Act.put, List.setIfInBounds_toArray, List.set_cons_zero, List.set_cons_succ]
  have F1 := Lib.hid (f1 _ (List.mem_singleton_self _))
  clear f1 p1
  show wpG _ _ _ _ _ _ _ _ ⟨#[_, _, _, _, _, _, _, _, _, _, _, .slice (some ⟨g0, 0, none⟩) n n, _, .slice (some ⟨g1, 0, none⟩) n n, _, _, _], _⟩ _
  refine g_look rfl rfl ?_ (fun w' hC => ?_) ?_
  rotate_left
  · go_simp
    first | done | rfl
  simp only [Act.put, List.setIfInBounds_toArray, List.set_cons_zero, List.set_cons_succ]
  refine g_look rfl rfl ?_ (fun w' hC => ?_) ?_
  rotate_left
  · go_simp
    first | done | rfl
  simp only [Act.put, List.setIfInBounds_toArray, List.set_cons_zero, List.set_cons_succ]
  refine g_make _ (allocM (.cells #[.slice (some ⟨g0, 0, none⟩) n n, .slice (some ⟨g1, 0, none⟩) n n, .int .i64 (-1), .bool false, .int .i64 0, .slice none 0 0] 56)) rfl rfl rfl (fun w' hC => ?_) (fun g p f => ?_)
  · go_simp
    have hb : Below w'.heap.size w' (w'.alloc (.cells #[.slice (some ⟨g0, 0, none⟩) n n, .slice (some ⟨g1, 0, none⟩) n n, .int .i64 (-1), .bool false, .int .i64 0, .slice none 0 0] 56)) := b_alloc (Below.refl _ _) _
    exact ⟨w'.heap.size, rfl, trivial, (stays_good _ _).below _ _ hC hb, hb, fun p hp => by
      obtain rfl := List.mem_singleton.1 hp
      exact ⟨Nat.le_refl _, blk_new rfl⟩⟩
  simp only [Act.put, List.setIfInBounds_toArray, List.set_cons_zero, List.set_cons_succ]
  have F := Lib.hid (f _ (List.mem_singleton_self _))
  clear f p
  show wpG _ _ _ _ _ _ _ _ ⟨#[_, _, _, _, _, _, _, _, _, _, _, _, _, _, _, _, .pointer (some ⟨g, 0, none⟩)], _⟩ _
  refine g_look rfl rfl ?_ (fun w' hC => ?_) ?_
  rotate_left
  · go_simp
    first | done | rfl
  simp only [Act.put, List.setIfInBounds_toArray, List.set_cons_zero, List.set_cons_succ]
  refine g_look rfl rfl ?_ (fun w' hC => ?_) ?_
  rotate_left
  · go_simp
    first | done | rfl
  simp only [Act.put, List.setIfInBounds_toArray, List.set_cons_zero, List.set_cons_succ]
  refine g_end ?_
  intro w3 hC3 hh3
  have N01 := (own_none F1.out.2).1
  have N1 := own_none F.out.2
  have N0 := own_none N1.2
  have A := Lib.hid (show At w3 w.heap.size ⟨g, g0, g1, n, zs n, zs n, -1, false, 0, .slice none 0 0, [], n, n, [], []⟩ from
    ⟨(hh3 _ _ _ (own_new _ _ _ _)).1, by rw [List.append_nil]; exact (hh3 _ _ _ ((own_off _ (Ne.symm N0.1)).trans ((own_off _ (Ne.symm N01)).trans (own_new _ _ _ _)))).1, by rw [List.append_nil]; exact (hh3 _ _ _ ((own_off _ (Ne.symm N1.1)).trans (own_new _ _ _ _))).1, by simp [zs], by simp [zs], own_nil _ _ _ _, F.out.1.2, F0.out.1.2, F1.out.1.2, N01, H2.out, ⟨Nat.le_refl _, by show n ≤ maxLen; have := H2.out; unfold maxLen; omega⟩, ⟨Nat.le_refl _, by show n ≤ maxLen; have := H2.out; unfold maxLen; omega⟩⟩)
  have B := Lib.hid (stays_below hC3)
  clear hC3 hh3 N01 N1 N0 F0 F1 F
  go_wp2_with fail
  refine bodyPost_ret (v := .tuple #[.pointer (some ⟨g, 0, none⟩), .int .i64 0]) (by simp [results, Try.results6, go_sem]) rfl ⟨g, g0, g1, rfl, A.out, B.out⟩
/-- What is no size makes none. -/
theorem new_no (w : World) (n : Int) (h : n < 16 ∨ 262144 < n) : Calls Try.prog 6 #[.int .i64 n] w (Same w (.tuple #[.pointer none, .int .i64 2])) := by
  by_cases h1 : n < 16
  · clear h
    go_enter Try.func6, Try.ntmps6
    go_wp2_with fail
    refine bodyPost_ret (v := .tuple #[.pointer none, .int .i64 2]) (by simp [results, Try.results6, go_sem]) rfl ⟨rfl, rfl⟩
  · have h2 : 262144 < n := by omega
    clear h
    go_enter Try.func6, Try.ntmps6
    go_wp2_with fail
    refine bodyPost_ret (v := .tuple #[.pointer none, .int .i64 2]) (by simp [results, Try.results6, go_sem]) rfl ⟨rfl, rfl⟩
end Go.Proofs.Ytijcdpefcdgklaa.Di
