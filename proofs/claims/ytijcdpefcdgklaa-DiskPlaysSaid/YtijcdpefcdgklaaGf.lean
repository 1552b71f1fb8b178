/- Disks: one that is read; what must be answered first; by walks. -/
import Derived.Test.YtijcdpefcdgklaaGe
import Derived.Lib.SlBytesConst
namespace Go.Proofs.Ytijcdpefcdgklaa.Di
open Go.RowKit K

attribute [local go_sem ↓] eq22 eq22n eq37 eq37n eq25 ne25
attribute [local go_sem] lookTo stepTo Maker.step
/-- A read slot. -/
def ReadTo (w : World) (d : Dk) (slot : Int) (e : Ending) (w' : World) : Prop :=
  ∃ v, e = .returned (.tuple #[v, .int .i64 (ableI d.down slot)]) ∧ w'.ownsRow w.heap.size 5 1 v (if ableI d.down slot = 0 then d.img slot else []).length (bys (if ableI d.down slot = 0 then d.img slot else [])) ∧ Below w.heap.size w w'
theorem able_slot {down : Bool} {slot : Int} (h : ableI down slot = 0) : down = false ∧ (slot = 0 ∨ slot = 1) := by
  unfold ableI at h
  cases down with
  | true => simp at h
  | false =>
    refine ⟨rfl, ?_⟩
    by_cases h2 : slot < 0 ∨ 2 ≤ slot
    · rw [if_neg (by simp), if_pos h2] at h
      cases h
    · omega
section
variable {w : World} {base : Nat} {d : Dk}
theorem read_ok {slot : Int} {w' : World} {v : Value} (h : ableI d.down slot = 0) (ho : w'.ownsRow w.heap.size 5 1 v (d.img slot).length (bys (d.img slot))) (hb : Below w.heap.size w w') : ReadTo w d slot (.returned (.tuple #[v, .int .i64 0])) w' := by
  unfold ReadTo
  rw [h, if_pos rfl]
  exact ⟨v, rfl, ho, hb⟩
theorem read_no {slot A : Int} (h : ableI d.down slot = A) (h0 : ¬ A = 0) : ReadTo w d slot (.returned (.tuple #[.slice none 0 0, .int .i64 A])) w := by
  unfold ReadTo
  rw [h, if_neg h0]
  exact ⟨_, rfl, own_nil _ _ _ _, Below.refl _ _⟩
set_option maxHeartbeats 2000000
theorem read_any (slot : Int) (h : At w base d) : Calls Try.prog 12 #[.pointer (some ⟨d.g, 0, none⟩), .int .i64 slot] w (ReadTo w d slot) := by
  have H := Lib.hid h
  obtain ⟨A, hA⟩ : ∃ A, ableI d.down slot = A := ⟨_, rfl⟩
  have HA := Lib.hid hA
  by_cases h0 : A = 0
  · subst h0
    obtain ⟨_, hs⟩ := able_slot hA
    have HN := Lib.hid (show d.a.length ≤ 1000000 ∧ d.b.length ≤ 1000000 by have := h.ln; have := h.la; have := h.lb; omega)
    have c0 := h.cells.1
    have c1 := h.cells.2.1
    clear h hA
    rcases hs with rfl | rfl
    · go_enter Try.func12, Try.ntmps12
      go_wp2_with fail
      refine (able_any 0 H.out).mono ?_
      rintro e w1 ⟨rfl, rfl⟩
      rw [HA.out]
      go_wp2_with fail
      refine (clone_any _ _ _ (reads0 H.out) HN.out.1).mono ?_
      rintro e w1 ⟨v, rfl, h1, h2⟩
      have H1 := Lib.hid h1
      have H2 := Lib.hid h2
      clear h1 h2
      go_wp2_with fail
      go_ret2
      exact read_ok HA.out H1.out H2.out
    · go_enter Try.func12, Try.ntmps12
      go_wp2_with fail
      refine (able_any 1 H.out).mono ?_
      rintro e w1 ⟨rfl, rfl⟩
      rw [HA.out]
      go_wp2_with fail
      refine (clone_any _ _ _ (reads1 H.out) HN.out.2).mono ?_
      rintro e w1 ⟨v, rfl, h1, h2⟩
      have H1 := Lib.hid h1
      have H2 := Lib.hid h2
      clear h1 h2
      go_wp2_with fail
      go_ret2
      exact read_ok HA.out H1.out H2.out
  · have hb : (A == 0) = false := by simpa using h0
    have H0 := Lib.hid h0
    clear h hA h0
    go_enter Try.func12, Try.ntmps12
    go_wp2_with fail
    refine (able_any slot H.out).mono ?_
    rintro e w1 ⟨rfl, rfl⟩
    rw [HA.out]
    go_wp2_with fail
    go_ret2
    exact read_no HA.out H0.out
end
theorem same_below {P : Program} {f : FuncId} {args : Array Value} {w : World} {v : Value} (h : Calls P f args w (Same w v)) : Calls P f args w (fun e w' => e = .returned v ∧ Below w.heap.size w w') :=
  h.mono fun _ _ ⟨h1, h2⟩ => ⟨h1, h2 ▸ Below.refl _ _⟩
theorem look_conv {o : Oper} {a : Act} {w : World} {x : Operand} {l : List UInt8} {cap : Nat} {ad : Addr} (ho : o.op = .convert 22 9 x) (hx : a.eval x = .slice (some ad) l.length cap) (hc : ∀ j u, (bys l)[j]? = some u → w.cell? (ad.add j) = some u) :
    lookTo w (.string ⟨l.toArray⟩) ((execOp a.eval o).run Try.prog w) := by
  have h := run_convert_bytes_back (P := Try.prog) w 22 9 5 ad cap l Try.underlying22 Try.underlying5 Try.underlying9 (fun j hj => hc j _ (bys_get hj))
  unfold execOp
  simp only [ho, hx, Sem.run_bind, h, Result.andThen_ok, Sem.run_pure]
  exact ⟨rfl, rfl⟩
theorem own_cells {w : World} {base n g cap : Nat} {l : List UInt8} (h : w.ownsRow base 5 1 (.slice (some ⟨g, 0, none⟩) n cap) n (bys l)) : ∀ j u, (bys l)[j]? = some u → w.cell? ((⟨g, 0, none⟩ : Addr).add j) = some u := by
  intro j u hj
  have := h.cells (g := g) rfl j u hj
  exact this
theorem own_some {w : World} {base n : Nat} {v : Value} {l : List UInt8} (h : w.ownsRow base 5 1 v n (bys l)) (hn : 0 < n) : ∃ g cap, v = .slice (some ⟨g, 0, none⟩) n cap ∧ n ≤ cap ∧ base ≤ g ∧ g < w.heap.size := by
  obtain ⟨_, h1 | ⟨g, cap, cur, rfl, hb, hg, hc, _⟩⟩ := h
  · omega
  · exact ⟨g, cap, rfl, hc, hb, blk_lt hg⟩
theorem conv22 (w : World) (C : Array Value) (n c : Nat) : (convert 22 22 (.slice (some ⟨w.heap.size, 0, none⟩) n c)).run Try.prog (w.alloc (.cells C 5)) = .ok (.slice (some ⟨w.heap.size, 0, none⟩) n c) (w.alloc (.cells C 5 (C.size, C.size + 1))) :=
  Lib.run_convert_bytes_const w 22 5 C n c Try.underlying22 Try.underlying5
attribute [local go_sem ↓] conv22
theorem take3 {j : Nat} {u : Value} (h : (bys [97, 98, 0])[j]? = some u) : (bys (over (zs 16) [97, 98, 99] 2))[j]? = some u := by
  match j, h with
  | 0, h => exact h
  | 1, h => exact h
  | 2, h => exact h
theorem reads_lit {w : World} {g n : Nat} {l : List UInt8} {fr : Nat × Nat} (h : w.heap[g]? = some (.cells (bys l).toArray 5 fr)) (hn : l.length = n) (hm : n ≤ maxLen) : Reads w (.slice (some ⟨g, 0, none⟩) n n) l := by
  subst hn
  refine Or.inr ⟨_, _, rfl, Nat.le_refl _, hm, fun j u hj => ?_⟩
  have e1 : (⟨g, 0, none⟩ : Addr).add j = ⟨g, j, none⟩ := by unfold Addr.add; split <;> simp_all
  rw [e1, cell_of_row _ _ _ _ _ _ h]
  simpa using hj
set_option maxHeartbeats 4000000 in
set_option maxRecDepth 100000 in
theorem first_any (w : World) : Calls Try.prog 5 #[] w fun e w' => e = .returned (.bool true) ∧ Below w.heap.size w w' := by
  go_enter Try.func5, Try.ntmps5
  go_wp2_with fail
  refine (new_any w 16 (by decide) (by decide)).mono ?_
  rintro e w1 ⟨g, s0, s1, rfl, hA, hb⟩
  have A1 := Lib.hid hA
  have B1 := Lib.hid hb
  clear hA hb
  go_wp2_with fail
  refine (new_no w1 15 (by decide)).mono ?_
  rintro e w2 ⟨rfl, rfl⟩
  go_wp2_with fail
  refine (arm_any 2 A1.out).mono ?_
  rintro e w2 ⟨rfl, hA, hf⟩
  have A2 := Lib.hid hA
  have F2 := Lib.hid hf
  clear hA hf
  go_wp2_with fail
  refine (write_ok 0 _ [97, 98, 99] (A2.out.below (b_alloc (Below.refl _ _) _)) rfl (Or.inl rfl) (reads_lit (blk_new rfl) rfl (by decide)) (show 3 ≤ 16 by decide) (by decide) ?_ (show 0 ≤ 1000 by decide) ?_ (show (0 : Int) ≤ 0 ∧ (0 : Int) < 4611686018427387904 by decide) (show (-1 : Int) ≤ 2 ∧ (2 : Int) ≤ 9223372036854775807 by decide)).mono ?_
  · intro _ k hk
    cases hk
    have q0 := blk_lt A2.out.row
    have q1 := blk_lt A2.out.r0
    have q2 := blk_lt A2.out.r1
    exact ⟨Nat.ne_of_gt q0, Nat.ne_of_gt q1, Nat.ne_of_gt q2, fun e => by cases e⟩
  · have q0 := blk_lt A2.out.row
    have := A2.out.bg
    simp
    simp at q0 this
    omega
  rintro e w3 ⟨wv, v1, hW⟩
  obtain ⟨hr, hA, _, hf, hw⟩ := hW
  obtain rfl := hr
  have A3 : Hid (At w3 w.heap.size ⟨g, s0, s1, 16, over (zs 16) [97, 98, 99] 2, zs 16, 0, true, 2, wv, [v1], 16, 16, [], []⟩) := hA
  have F3 := Lib.hid hf
  have W3 : Hid (∀ k, wv.ownBlock = some k → w2.heap.size ≤ k) := Lib.hid (fun k hk => by
    rcases hw k hk with h | h
    · cases h
    · have : (w2.alloc (.cells (bys [97, 98, 99]).toArray 5 (3, 4))).heap.size ≤ k := h
      simp at this
      omega)
  clear hA hf hw
  go_wp2_with fail
  refine (read_any 0 A3.out).mono ?_
  rintro e w4 ⟨v4, rfl, _, hb⟩
  have A4 := Lib.hid (A3.out.below hb)
  have B4 := Lib.hid hb
  clear hb
  go_wp2_with fail
  refine (image_any 0 A4.out).mono ?_
  rintro e w5 ⟨v5, rfl, ho, hb⟩
  have A5 := Lib.hid (A4.out.below hb)
  have O5 := Lib.hid ho
  have B5 := Lib.hid hb
  clear ho hb
  go_wp2_with fail
  refine (up_any A5.out).mono ?_
  rintro e w6 ⟨rfl, hA, hf⟩
  have A6 := Lib.hid hA
  have F6 := Lib.hid hf
  clear hA hf
  go_wp2_with fail
  refine (write_ok 1 _ [120] (A6.out.below (b_alloc (Below.refl _ _) _)) rfl (Or.inr rfl) (reads_lit (blk_new rfl) rfl (by decide)) (show 1 ≤ 16 by decide) (by decide) ?_ (show 1 ≤ 1000 by decide) ?_ (show (0 : Int) ≤ 2 ∧ (2 : Int) < 4611686018427387904 by decide) (show (-1 : Int) ≤ -1 ∧ (-1 : Int) ≤ 9223372036854775807 by decide)).mono ?_
  · intro _ k hk
    cases hk
    have q0 := blk_lt A6.out.row
    have q1 := blk_lt A6.out.r0
    have q2 := blk_lt A6.out.r1
    refine ⟨Nat.ne_of_gt q0, Nat.ne_of_gt q1, Nat.ne_of_gt q2, fun e => ?_⟩
    obtain ⟨_, hc, _⟩ := own_block A6.out.own e
    have := blk_lt hc
    exact absurd this (Nat.lt_irrefl _)
  · have q0 := blk_lt A6.out.row
    have := A6.out.bg
    simp
    simp at q0 this
    omega
  rintro e w7 ⟨wv7, v7, hW⟩
  obtain ⟨hr, hA, _, hf, hw⟩ := hW
  obtain rfl := hr
  have A7 : Hid (At w7 w.heap.size ⟨g, s0, s1, 16, over (zs 16) [97, 98, 99] 2, over (zs 16) [120] 1, -1, false, 3, wv7, [v1, v7], 16, 16, [], []⟩) := hA
  have F7 := Lib.hid hf
  clear hA hf hw
  go_wp2_with fail
  refine (read_any 1 A7.out).mono ?_
  rintro e w8 ⟨v8, rfl, ho, hb⟩
  have A8 := Lib.hid (A7.out.below hb)
  have O8 : Hid (w8.ownsRow w7.heap.size 5 1 v8 16 (bys (over (zs 16) [120] 1))) := ho
  have B8 := Lib.hid hb
  have O5' : Hid (w5.ownsRow w4.heap.size 5 1 v5 16 (bys (over (zs 16) [97, 98, 99] 2))) := O5
  clear ho hb O5
  have n5 : ∀ k, v5.ownBlock = some k → w.heap.size ≤ k ∧ k ≠ g ∧ k ≠ s1 ∧ wv.ownBlock ≠ some k ∧ k < w5.heap.size := by
    intro k hk
    obtain ⟨_, hk1, hk2⟩ := own_block O5'.out hk
    have q0 := blk_lt A4.out.row
    have q1 := blk_lt A4.out.r1
    have q2 := A4.out.bg
    have q3 := blk_lt hk1
    simp only at q0 q1 q2
    refine ⟨by omega, by omega, by omega, fun e => ?_, q3⟩
    obtain ⟨_, hc, _⟩ := own_block A4.out.own e
    have := blk_lt hc
    omega
  have F57 : Fr (fun k => k = g ∨ k = s1 ∨ wv.ownBlock = some k) w5 w8 := (F6.out.mono (fun k h => Or.inl h)).trans ((Fr.of_below (b_alloc (Below.refl _ _) _)).trans (F7.out.mono (fun k h => h) |>.trans (Fr.of_below B8.out)))
  have P5 := Lib.hid (own_fr F57 O5'.out (fun k hk e => by
    obtain ⟨_, m1, m2, m3, _⟩ := n5 k hk
    rcases e with e | e | e
    · exact m1 e
    · exact m2 e
    · exact m3 e))
  have FA : Hid (Fr (fun k => w.heap.size ≤ k) w w8) := by
    have g0 : w.heap.size ≤ g := A1.out.bg
    have g1 : w.heap.size ≤ s0 := A1.out.b0
    have g2 : w.heap.size ≤ s1 := A1.out.b1
    have x1 : Fr (fun k => w.heap.size ≤ k) w w2 := (Fr.of_below B1.out).trans (F2.out.mono (fun k h => by have h' : k = g := h; omega))
    have x3 : Fr (fun k => w.heap.size ≤ k) w w3 := (x1.trans (Fr.of_below (b_alloc (Below.refl _ _) _))).trans (F3.out.mono (fun k h => by
      rcases h with h | h | h
      · have h' : k = g := h
        omega
      · have h' : k = s0 := h
        omega
      · cases h))
    have x5 : Fr (fun k => w.heap.size ≤ k) w w5 := (x3.trans (Fr.of_below B4.out)).trans (Fr.of_below B5.out)
    refine x5.trans (F57.mono (fun k h => ?_))
    rcases h with h | h | h
    · omega
    · omega
    · obtain ⟨_, _, hc⟩ := own_block A4.out.own h
      exact hc
  obtain ⟨g5, cap5, rfl, hc5, _, _⟩ := own_some P5.out (by decide)
  obtain ⟨g8, cap8, rfl, hc8, _, _⟩ := own_some O8.out (by decide)
  have c5 := Lib.hid (own_cells P5.out)
  have c8 := Lib.hid (own_cells O8.out)
  have hi5 : (3 : Int) ≤ (cap5 : Int) := by omega
  have hn5 : 3 ≤ cap5 := by omega
  clear n5 F57 O5' P5 O8 hc5 hc8 A1 A2 A3 A4 A5 A6 A7 B1 B4 B5 B8 F2 F3 F6 F7 W3
  go_upto_region 10 with fail
  have S1 : Hid (Stays [] w8 w8) := Lib.hid (stays_nil (Below.refl _ _))
  refine reg_plain (Stays [] w8) (Turns [] w8) (kdOf [(41, .make (fun _ => callM (.int .i64 3))), (46, .make (fun _ => callM (.bool false))), (51, .make (fun _ => callM (.int .i64 16)))]) none0 (stays_good _ _) (S1.out) (holds0 _) ?_
  refine g_look rfl rfl ?_ (fun w' hC => ?_) ?_
  rotate_left
  · go_simp
    first | done | rfl
  simp only [Act.put, List.setIfInBounds_toArray, List.set_cons_zero, List.set_cons_succ]
  refine g_look rfl rfl ?_ (fun w' hC => ?_) ?_
  rotate_left
  · go_simp
    first | done | rfl
  simp only [Act.put, List.setIfInBounds_toArray, List.set_cons_zero, List.set_cons_succ]
  refine g_look rfl rfl ?_ (fun w' hC => ?_) ?_
  rotate_left
  · go_simp
    first | done | rfl
  simp only [Act.put, List.setIfInBounds_toArray, List.set_cons_zero, List.set_cons_succ]
  first
  | (refine g_skip rfl ?_)
  | (refine g_look rfl rfl ?_ (fun w' hC => ?_) ?_
     rotate_left
     · go_simp
       first | done | rfl)
  simp only [Act.put, List.setIfInBounds_toArray, List.set_cons_zero, List.set_cons_succ]
  first
  | (refine g_skip rfl ?_)
  | (refine g_look rfl rfl ?_ (fun w' hC => ?_) ?_
     rotate_left
     · go_simp
       first | done | rfl)
  simp only [Act.put, List.setIfInBounds_toArray, List.set_cons_zero, List.set_cons_succ]
  refine g_look rfl rfl ?_ (fun w' hC => ?_) ?_
  rotate_left
  · go_simp
    first | done | rfl
  simp only [Act.put, List.setIfInBounds_toArray, List.set_cons_zero, List.set_cons_succ]
  refine g_look rfl rfl ?_ (fun w' hC => ?_) ?_
  rotate_left
  · go_simp
    first | done | rfl
  simp only [Act.put, List.setIfInBounds_toArray, List.set_cons_zero, List.set_cons_succ]
  first
  | (refine g_skip rfl ?_)
  | (refine g_look rfl rfl ?_ (fun w' hC => ?_) ?_
     rotate_left
     · go_simp
       first | done | rfl)
  simp only [Act.put, List.setIfInBounds_toArray, List.set_cons_zero, List.set_cons_succ]
  first
  | (refine g_skip rfl ?_)
  | (refine g_look rfl rfl ?_ (fun w' hC => ?_) ?_
     rotate_left
     · go_simp
       first | done | rfl)
  simp only [Act.put, List.setIfInBounds_toArray, List.set_cons_zero, List.set_cons_succ]
  refine g_look rfl rfl ?_ (fun w' hC => ?_) ?_
  rotate_left
  · go_simp
    first | done | rfl
  simp only [Act.put, List.setIfInBounds_toArray, List.set_cons_zero, List.set_cons_succ]
  refine g_look rfl rfl ?_ (fun w' hC => ?_) ?_
  rotate_left
  · go_simp
    first | done | rfl
  simp only [Act.put, List.setIfInBounds_toArray, List.set_cons_zero, List.set_cons_succ]
  first
  | (refine g_skip rfl ?_)
  | (refine g_look rfl rfl ?_ (fun w' hC => ?_) ?_
     rotate_left
     · go_simp
       first | done | rfl)
  simp only [Act.put, List.setIfInBounds_toArray, List.set_cons_zero, List.set_cons_succ]
  first
  | (refine g_skip rfl ?_)
  | (refine g_look rfl rfl ?_ (fun w' hC => ?_) ?_
     rotate_left
     · go_simp
       first | done | rfl)
  simp only [Act.put, List.setIfInBounds_toArray, List.set_cons_zero, List.set_cons_succ]
  refine g_look rfl rfl ?_ (fun w' hC => ?_) ?_
  rotate_left
  · go_simp
    first | done | rfl
  simp only [Act.put, List.setIfInBounds_toArray, List.set_cons_zero, List.set_cons_succ]
  refine g_look rfl rfl ?_ (fun w' hC => ?_) ?_
  rotate_left
  · go_simp
    first | done | rfl
  simp only [Act.put, List.setIfInBounds_toArray, List.set_cons_zero, List.set_cons_succ]
  first
  | (refine g_skip rfl ?_)
  | (refine g_look rfl rfl ?_ (fun w' hC => ?_) ?_
     rotate_left
     · go_simp
       first | done | rfl)
  simp only [Act.put, List.setIfInBounds_toArray, List.set_cons_zero, List.set_cons_succ]
  first
  | (refine g_skip rfl ?_)
  | (refine g_look rfl rfl ?_ (fun w' hC => ?_) ?_
     rotate_left
     · go_simp
       first | done | rfl)
  simp only [Act.put, List.setIfInBounds_toArray, List.set_cons_zero, List.set_cons_succ]
  first
  | (refine g_skip rfl ?_)
  | (refine g_look rfl rfl ?_ (fun w' hC => ?_) ?_
     rotate_left
     · go_simp
       first | done | rfl)
  simp only [Act.put, List.setIfInBounds_toArray, List.set_cons_zero, List.set_cons_succ]
  refine g_look rfl rfl ?_ (fun w' hC => ?_) ?_
  rotate_left
  · go_simp
    first | done | rfl
  simp only [Act.put, List.setIfInBounds_toArray, List.set_cons_zero, List.set_cons_succ]
  refine g_look rfl rfl ?_ (fun w' hC => ?_) ?_
  rotate_left
  · go_simp
    first | done | rfl
  simp only [Act.put, List.setIfInBounds_toArray, List.set_cons_zero, List.set_cons_succ]
  first
  | (refine g_skip rfl ?_)
  | (refine g_look rfl rfl ?_ (fun w' hC => ?_) ?_
     rotate_left
     · go_simp
       first | done | rfl)
  simp only [Act.put, List.setIfInBounds_toArray, List.set_cons_zero, List.set_cons_succ]
  first
  | (refine g_skip rfl ?_)
  | (refine g_look rfl rfl ?_ (fun w' hC => ?_) ?_
     rotate_left
     · go_simp
       first | done | rfl)
  simp only [Act.put, List.setIfInBounds_toArray, List.set_cons_zero, List.set_cons_succ]
  first
  | (refine g_skip rfl ?_)
  | (refine g_look rfl rfl (.string ⟨#[97, 98, 0]⟩) (fun w' hC => ?_) ?_
     · exact look_conv (l := [97, 98, 0]) rfl rfl (fun j u hj => ((stays_below hC).cell (cell_lt (c5.out j u (take3 hj)))).trans (c5.out j u (take3 hj))))
  simp only [Act.put, List.setIfInBounds_toArray, List.set_cons_zero, List.set_cons_succ]
  first
  | (refine g_skip rfl ?_)
  | (refine g_look rfl rfl ?_ (fun w' hC => ?_) ?_
     rotate_left
     · go_simp
       first | done | rfl)
  simp only [Act.put, List.setIfInBounds_toArray, List.set_cons_zero, List.set_cons_succ]
  refine g_look rfl rfl ?_ (fun w' hC => ?_) ?_
  rotate_left
  · go_simp
    first | done | rfl
  simp only [Act.put, List.setIfInBounds_toArray, List.set_cons_zero, List.set_cons_succ]
  refine g_look rfl rfl ?_ (fun w' hC => ?_) ?_
  rotate_left
  · go_simp
    first | done | rfl
  simp only [Act.put, List.setIfInBounds_toArray, List.set_cons_zero, List.set_cons_succ]
  first
  | (refine g_skip rfl ?_)
  | (refine g_look rfl rfl ?_ (fun w' hC => ?_) ?_
     rotate_left
     · go_simp
       first | done | rfl)
  simp only [Act.put, List.setIfInBounds_toArray, List.set_cons_zero, List.set_cons_succ]
  first
  | (refine g_skip rfl ?_)
  | (refine g_look rfl rfl ?_ (fun w' hC => ?_) ?_
     rotate_left
     · go_simp
       first | done | rfl)
  simp only [Act.put, List.setIfInBounds_toArray, List.set_cons_zero, List.set_cons_succ]
  refine g_look rfl rfl ?_ (fun w' hC => ?_) ?_
  rotate_left
  · go_simp
    first | done | rfl
  simp only [Act.put, List.setIfInBounds_toArray, List.set_cons_zero, List.set_cons_succ]
  refine g_look rfl rfl ?_ (fun w' hC => ?_) ?_
  rotate_left
  · go_simp
    first | done | rfl
  simp only [Act.put, List.setIfInBounds_toArray, List.set_cons_zero, List.set_cons_succ]
  first
  | (refine g_skip rfl ?_)
  | (refine g_look rfl rfl ?_ (fun w' hC => ?_) ?_
     rotate_left
     · go_simp
       first | done | rfl)
  simp only [Act.put, List.setIfInBounds_toArray, List.set_cons_zero, List.set_cons_succ]
  first
  | (refine g_skip rfl ?_)
  | (refine g_look rfl rfl ?_ (fun w' hC => ?_) ?_
     rotate_left
     · go_simp
       first | done | rfl)
  simp only [Act.put, List.setIfInBounds_toArray, List.set_cons_zero, List.set_cons_succ]
  refine g_look rfl rfl ?_ (fun w' hC => ?_) ?_
  rotate_left
  · go_simp
    first | done | rfl
  simp only [Act.put, List.setIfInBounds_toArray, List.set_cons_zero, List.set_cons_succ]
  refine g_look rfl rfl ?_ (fun w' hC => ?_) ?_
  rotate_left
  · go_simp
    first | done | rfl
  simp only [Act.put, List.setIfInBounds_toArray, List.set_cons_zero, List.set_cons_succ]
  first
  | (refine g_skip rfl ?_)
  | (refine g_look rfl rfl ?_ (fun w' hC => ?_) ?_
     rotate_left
     · go_simp
       first | done | rfl)
  simp only [Act.put, List.setIfInBounds_toArray, List.set_cons_zero, List.set_cons_succ]
  first
  | (refine g_skip rfl ?_)
  | (refine g_look rfl rfl ?_ (fun w' hC => ?_) ?_
     rotate_left
     · go_simp
       first | done | rfl)
  simp only [Act.put, List.setIfInBounds_toArray, List.set_cons_zero, List.set_cons_succ]
  first
  | (refine g_skip rfl ?_)
  | (refine g_look rfl rfl ?_ (fun w' hC => ?_) ?_
     rotate_left
     · have c := ((stays_below hC).cell (cell_lt (c8.out 0 _ rfl))).trans (c8.out 0 (.int .u8 120) rfl)
       have c' : w'.cell? ⟨g8, 0, none⟩ = some (.int .u8 120) := c
       clear hC c
       go_simp
       first | done | rfl)
  simp only [Act.put, List.setIfInBounds_toArray, List.set_cons_zero, List.set_cons_succ]
  first
  | (refine g_skip rfl ?_)
  | (refine g_look rfl rfl ?_ (fun w' hC => ?_) ?_
     rotate_left
     · go_simp
       first | done | rfl)
  simp only [Act.put, List.setIfInBounds_toArray, List.set_cons_zero, List.set_cons_succ]
  refine g_look rfl rfl ?_ (fun w' hC => ?_) ?_
  rotate_left
  · go_simp
    first | done | rfl
  simp only [Act.put, List.setIfInBounds_toArray, List.set_cons_zero, List.set_cons_succ]
  refine g_look rfl rfl ?_ (fun w' hC => ?_) ?_
  rotate_left
  · go_simp
    first | done | rfl
  simp only [Act.put, List.setIfInBounds_toArray, List.set_cons_zero, List.set_cons_succ]
  first
  | (refine g_skip rfl ?_)
  | (refine g_look rfl rfl ?_ (fun w' hC => ?_) ?_
     rotate_left
     · go_simp
       first | done | rfl)
  simp only [Act.put, List.setIfInBounds_toArray, List.set_cons_zero, List.set_cons_succ]
  refine g_call (stays_good _ _) (.int .i64 3) rfl rfl (fun w' hC => ?_) ?_
  · go_simp
    refine (same_below (written_any (A8.out.below (stays_below hC)))).mono (fun e w2 h => ?_)
    obtain ⟨h1, h2⟩ := h
    exact gives h1 h2
  simp only [Act.put, List.setIfInBounds_toArray, List.set_cons_zero, List.set_cons_succ]
  first
  | (refine g_skip rfl ?_)
  | (refine g_look rfl rfl ?_ (fun w' hC => ?_) ?_
     rotate_left
     · go_simp
       first | done | rfl)
  simp only [Act.put, List.setIfInBounds_toArray, List.set_cons_zero, List.set_cons_succ]
  refine g_look rfl rfl ?_ (fun w' hC => ?_) ?_
  rotate_left
  · go_simp
    first | done | rfl
  simp only [Act.put, List.setIfInBounds_toArray, List.set_cons_zero, List.set_cons_succ]
  refine g_look rfl rfl ?_ (fun w' hC => ?_) ?_
  rotate_left
  · go_simp
    first | done | rfl
  simp only [Act.put, List.setIfInBounds_toArray, List.set_cons_zero, List.set_cons_succ]
  first
  | (refine g_skip rfl ?_)
  | (refine g_look rfl rfl ?_ (fun w' hC => ?_) ?_
     rotate_left
     · go_simp
       first | done | rfl)
  simp only [Act.put, List.setIfInBounds_toArray, List.set_cons_zero, List.set_cons_succ]
  refine g_call (stays_good _ _) (.bool false) rfl rfl (fun w' hC => ?_) ?_
  · go_simp
    refine (same_below (down_any (A8.out.below (stays_below hC)))).mono (fun e w2 h => ?_)
    obtain ⟨h1, h2⟩ := h
    exact gives h1 h2
  simp only [Act.put, List.setIfInBounds_toArray, List.set_cons_zero, List.set_cons_succ]
  first
  | (refine g_skip rfl ?_)
  | (refine g_look rfl rfl ?_ (fun w' hC => ?_) ?_
     rotate_left
     · go_simp
       first | done | rfl)
  simp only [Act.put, List.setIfInBounds_toArray, List.set_cons_zero, List.set_cons_succ]
  refine g_look rfl rfl ?_ (fun w' hC => ?_) ?_
  rotate_left
  · go_simp
    first | done | rfl
  simp only [Act.put, List.setIfInBounds_toArray, List.set_cons_zero, List.set_cons_succ]
  refine g_look rfl rfl ?_ (fun w' hC => ?_) ?_
  rotate_left
  · go_simp
    first | done | rfl
  simp only [Act.put, List.setIfInBounds_toArray, List.set_cons_zero, List.set_cons_succ]
  first
  | (refine g_skip rfl ?_)
  | (refine g_look rfl rfl ?_ (fun w' hC => ?_) ?_
     rotate_left
     · go_simp
       first | done | rfl)
  simp only [Act.put, List.setIfInBounds_toArray, List.set_cons_zero, List.set_cons_succ]
  refine g_call (stays_good _ _) (.int .i64 16) rfl rfl (fun w' hC => ?_) ?_
  · go_simp
    refine (same_below (size_any (A8.out.below (stays_below hC)))).mono (fun e w2 h => ?_)
    obtain ⟨h1, h2⟩ := h
    exact gives h1 h2
  simp only [Act.put, List.setIfInBounds_toArray, List.set_cons_zero, List.set_cons_succ]
  first
  | (refine g_skip rfl ?_)
  | (refine g_look rfl rfl ?_ (fun w' hC => ?_) ?_
     rotate_left
     · go_simp
       first | done | rfl)
  simp only [Act.put, List.setIfInBounds_toArray, List.set_cons_zero, List.set_cons_succ]
  refine g_look rfl rfl ?_ (fun w' hC => ?_) ?_
  rotate_left
  · go_simp
    first | done | rfl
  simp only [Act.put, List.setIfInBounds_toArray, List.set_cons_zero, List.set_cons_succ]
  refine g_look rfl rfl ?_ (fun w' hC => ?_) ?_
  rotate_left
  · go_simp
    first | done | rfl
  simp only [Act.put, List.setIfInBounds_toArray, List.set_cons_zero]
  refine g_end ?_
  intro w2 hC2 hh2
  have S2 : Hid (Stays [] w8 w2) := Lib.hid (stays_nil (stays_below hC2))
  clear S1
  clear hC2 hh2
  go_wp2_with fail
  refine bodyPost_ret (v := .bool true) (by simp [results, Try.results5, go_sem]; exact ⟨rfl, rfl⟩) rfl ⟨rfl, ?_⟩
  exact (FA.out.trans (Fr.of_below (stays_below S2.out))).belowOf (Below.refl _ _) (fun _ h => h)
end Go.Proofs.Ytijcdpefcdgklaa.Di
