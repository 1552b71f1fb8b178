/- What a suffix tells, by a walk. -/
import Derived.Test.YthpdfacdjgkmpaaEi
namespace Go.Proofs.Ythpdfacdjgkmpaa.Wi
open Go.RowKit K

attribute [local go_sem] lookTo stepTo Maker.step
attribute [local go_sem ↓] idxL st_size one_size st_list
/-- The suffixes: their text, powers of ten and of two. -/
def sufL : List (List UInt8 × Int × Nat) := [([69, 105], 0, 60), ([80, 105], 0, 50), ([84, 105], 0, 40), ([71, 105], 0, 30), ([77, 105], 0, 20), ([75, 105], 0, 10), ([69], 18, 0), ([80], 15, 0), ([84], 12, 0), ([71], 9, 0), ([77], 6, 0), ([107], 3, 0), ([], 0, 0), ([109], (-3), 0), ([117], (-6), 0), ([110], (-9), 0)]
def Z3 : Array Value := #[.string ⟨#[]⟩, .int .i64 0, .int .i64 0]
def agg3 (s : List UInt8) (t : Int) (z : Nat) : Value := .agg #[.string ⟨s.toArray⟩, .int .i64 t, .int .i64 (z : Int)]
/-- What a text behind the digits tells. -/
def scaleV (l : List UInt8) : Value := match sufL.find? (fun r => r.1 = l) with
  | some r => .tuple #[agg3 r.1 r.2.1 r.2.2, .bool true]
  | none => match l with
    | [] => .tuple #[agg3 [] 0 0, .bool false]
    | a :: t => if a = 101 ∨ a = 69 then (match expV t with
        | .tuple xs => .tuple #[.agg #[.string ⟨#[]⟩, xs.getD 0 undef, .int .i64 0], xs.getD 1 undef]
        | v => v)
      else .tuple #[agg3 [] 0 0, .bool false]
theorem results_suf28 {W : World} {g : Nat} {x y z t : Value} {tmps : Array Value} (h : W.heap[g]? = some (.cells #[x, y, z] 54 (0, 0))) (i24 : (Try.prog.info? 54).map (·.size) = some 3 := by rfl) (e4 : tmps.getD 2 undef = .pointer (some ⟨g, 0, none⟩) := by rfl) (e5 : tmps.getD 3 undef = t := by rfl) :
    (results Try.f28 tmps).run Try.prog W = .ok (.tuple #[.agg #[x, y, z], t]) W := by
  have h' := run_loadVar_row (P := Try.prog) W g 54 54 _ (0, 0) _ h Try.underlying54 rfl i24
  have e4' : tmps[2]?.getD undef = .pointer (some ⟨g, 0, none⟩) := by simpa using e4
  have e5' : tmps[3]?.getD undef = t := by simpa using e5
  simp [results, Try.results28, e4', e5', asAddr, h']
set_option maxHeartbeats 4000000 in
set_option maxRecDepth 100000 in
theorem scale_any (w : World) (l : List UInt8) (hl : l.length ≤ maxLen) : Calls Try.prog 28 #[.string ⟨l.toArray⟩] w (Ret w (scaleV l)) := by
  have HL := Lib.hid hl
  clear hl
  go_enter Try.func28, Try.ntmps28
  go_upto_region 2 with (refine (suffixes_any _).mono ?_; rintro e w9 ⟨rfl, rfl⟩)
  have S1 : Hid (Stays [(w.heap.size, Obj.cells #[.string ⟨#[]⟩, .int .i64 0, .int .i64 0] 54 (0, 0)), (w.heap.size + 1, Obj.cells sufT 54 (0, 0))] w ((w.alloc (Obj.cells #[.string ⟨#[]⟩, .int .i64 0, .int .i64 0] 54)).alloc (Obj.cells sufT 54))) := Lib.hid (stays_cons (blk_alloc (blk_new rfl) _) (stays_cons (blk_new (by simp)) (stays_nil (b_alloc (b_alloc (Below.refl _ _) _) _))))
  have Tr : Hid (Turns [(w.heap.size + 1, Obj.cells sufT 54 (0, 0))] w w.heap.size) := Lib.hid (turns_cons (by omega) (turns_nil (Nat.le_refl _)))
  generalize w.heap.size = gr at *
  generalize hwx : (w.alloc (Obj.cells #[.string ⟨#[]⟩, .int .i64 0, .int .i64 0] 54)).alloc (Obj.cells sufT 54) = wx at *
  clear hwx
  go_loopw [10] (fun i wr => ∃ k : Nat, k ≤ 16 ∧ i = .int .i64 k ∧ Hid (∀ r ∈ sufL.take k, r.1 ≠ l) ∧ Hid (Stays [(gr, Obj.cells Z3 54 (0, 0)), (gr + 1, Obj.cells sufT 54 (0, 0))] w wr)) (fun i _ => 16 - (intOf i).toNat)
  case atStart => exact ⟨0, by omega, rfl, (fun r hr => by cases hr), S1⟩
  case round =>
    obtain ⟨k, hk, rfl, HN, S2⟩ := hrel
    clear S1
    by_cases hlt : k < 16
    · have hks : k = 0 ∨ k = 1 ∨ k = 2 ∨ k = 3 ∨ k = 4 ∨ k = 5 ∨ k = 6 ∨ k = 7 ∨ k = 8 ∨ k = 9 ∨ k = 10 ∨ k = 11 ∨ k = 12 ∨ k = 13 ∨ k = 14 ∨ k = 15 := by omega
      rcases hks with rfl | rfl | rfl | rfl | rfl | rfl | rfl | rfl | rfl | rfl | rfl | rfl | rfl | rfl | rfl | rfl
      · go_upto_region 3 with fail
        refine reg_plain (Stays [(gr, Obj.cells Z3 54 (0, 0)), ((gr + 1), Obj.cells sufT 54 (0, 0))] w) (Turns [(gr, Obj.cells Z3 54 (0, 0)), ((gr + 1), Obj.cells sufT 54 (0, 0))] w) (kdOf [(2, .make (fun _ => allocM (.cells Z3 54))), (3, .touch)]) none0 (stays_good _ _) (S2.out) (holds0 _) ?_
        refine g_look rfl rfl (.pointer (some ⟨gr + 1, 0, none⟩)) (fun w' hC => ?_) ?_
        · clear hC
          go_simp
          first | done | rfl | exact ⟨rfl, rfl⟩
        simp only [Act.put, List.setIfInBounds_toArray, List.set_cons_zero, List.set_cons_succ]
        refine g_look rfl rfl (.agg #[.string ⟨#[69, 105]⟩, .int .i64 0, .int .i64 60]) (fun w' hC => ?_) ?_
        · have c : w'.heap[gr + 1]? = some (.cells sufT 54 (0, 0)) := stays_head (stays_tail hC)
          have c0 : w'.cell? ⟨gr + 1, 0, none⟩ = some (.string ⟨#[69, 105]⟩) := (cell_of_row _ _ _ _ _ _ c).trans rfl
          have c1 : w'.cell? ⟨gr + 1, 1, none⟩ = some (.int .i64 0) := (cell_of_row _ _ _ _ _ _ c).trans rfl
          have c2 : w'.cell? ⟨gr + 1, 2, none⟩ = some (.int .i64 60) := (cell_of_row _ _ _ _ _ _ c).trans rfl
          clear hC c
          go_simp
          first | done | rfl
        simp only [Act.put, List.setIfInBounds_toArray, List.set_cons_zero, List.set_cons_succ]
        refine g_alloc (stays_good _ _) (.cells Z3 54) rfl rfl (fun w' hC => ?_) (fun gx tx nx => ?_)
        · clear hC
          go_simp
          first | done | rfl | exact ⟨rfl, rfl⟩
        clear nx
        replace tx := Lib.hid tx
        simp only [Act.put, List.setIfInBounds_toArray, List.set_cons_zero, List.set_cons_succ]
        refine g_store gx (some 2) 54 54 _ _ Z3 #[.string ⟨#[69, 105]⟩, .int .i64 0, .int .i64 60] rfl rfl rfl rfl rfl (own_new _ _ _ _) (by kernel_rfl) (rfl) (rfl) ((by simp [Value.oneCell'])) ?_
        simp only [Act.put]
        refine g_end ?_
        intro w3 hC3 hh3
        have S3 : Hid (Stays [(gr, Obj.cells Z3 54 (0, 0)), ((gr + 1), Obj.cells sufT 54 (0, 0)), (gx, Obj.cells #[.string ⟨#[69, 105]⟩, .int .i64 0, .int .i64 60] 54 (0, 0))] w w3) := Lib.hid (stays_cons (stays_row hC3 (List.mem_cons_self ..)) (stays_cons (stays_row hC3 (List.mem_cons_of_mem _ (List.mem_cons_self ..))) (stays_cons ((hh3 _ _ _ (own_new _ _ _ _)).1) (stays_nil (stays_below hC3)))))
        clear S2
        clear hC3 hh3
        by_cases heq : l = [69, 105]
        · subst heq
          go_upto_region 4 with fail
          refine reg_plain (Stays [(gr, Obj.cells Z3 54 (0, 0)), ((gr + 1), Obj.cells sufT 54 (0, 0)), (gx, Obj.cells #[.string ⟨#[69, 105]⟩, .int .i64 0, .int .i64 60] 54 (0, 0))] w) (Turns [(gr, Obj.cells Z3 54 (0, 0)), ((gr + 1), Obj.cells sufT 54 (0, 0)), (gx, Obj.cells #[.string ⟨#[69, 105]⟩, .int .i64 0, .int .i64 60] 54 (0, 0))] w) (kdOf []) none0 (stays_good _ _) (S3.out) (holds0 _) ?_
          refine g_look rfl rfl ?_ (fun w' hC => ?_) ?_
          rotate_left
          · clear hC
            go_simp
            first | done | rfl | exact ⟨rfl, rfl⟩
          simp only [Act.put, List.setIfInBounds_toArray, List.set_cons_zero, List.set_cons_succ]
          refine g_look rfl rfl ?_ (fun w' hC => ?_) ?_
          rotate_left
          · have c : w'.heap[gx]? = some (.cells #[.string ⟨#[69, 105]⟩, .int .i64 0, .int .i64 60] 54 (0, 0)) := stays_head (stays_tail (stays_tail hC))
            have c0 : w'.cell? ⟨gx, 0, none⟩ = some (.string ⟨#[69, 105]⟩) := (cell_of_row _ _ _ _ _ _ c).trans rfl
            clear hC c
            go_simp
            first | done | rfl
          simp only [Act.put, List.setIfInBounds_toArray, List.set_cons_zero, List.set_cons_succ]
          refine g_look rfl rfl ?_ (fun w' hC => ?_) ?_
          rotate_left
          · go_simp
            first | done | rfl
          simp only [Act.put, List.setIfInBounds_toArray, List.set_cons_zero, List.set_cons_succ]
          refine g_look rfl rfl (.bool true) (fun w' hC => ?_) ?_
          · clear hC
            go_simp
            first | done | rfl
          simp only [Act.put, List.setIfInBounds_toArray, List.set_cons_zero, List.set_cons_succ]
          refine g_end ?_
          intro w4 hC4 hh4
          have S4 : Hid (Stays [(gr, Obj.cells Z3 54 (0, 0)), ((gr + 1), Obj.cells sufT 54 (0, 0)), (gx, Obj.cells #[.string ⟨#[69, 105]⟩, .int .i64 0, .int .i64 60] 54 (0, 0))] w w4) := Lib.hid (stays_cons (stays_row hC4 (List.mem_cons_self ..)) (stays_cons (stays_row hC4 (List.mem_cons_of_mem _ (List.mem_cons_self ..))) (stays_cons (stays_row hC4 (List.mem_cons_of_mem _ (List.mem_cons_of_mem _ (List.mem_cons_self ..)))) (stays_nil (stays_below hC4)))))
          clear S3
          clear hC4 hh4
          go_upto_region 5 with fail
          refine reg_plain (Stays [((gr + 1), Obj.cells sufT 54 (0, 0)), (gx, Obj.cells #[.string ⟨#[69, 105]⟩, .int .i64 0, .int .i64 60] 54 (0, 0))] w) (Turns [((gr + 1), Obj.cells sufT 54 (0, 0)), (gx, Obj.cells #[.string ⟨#[69, 105]⟩, .int .i64 0, .int .i64 60] 54 (0, 0))] w) (kdOf [(1, .touch)]) (Own.has none0 gr (Obj.cells Z3 54 (0, 0))) (stays_good _ _) (stays_cons (stays_row S4.out (List.mem_cons_of_mem _ (List.mem_cons_self ..))) (stays_cons (stays_row S4.out (List.mem_cons_of_mem _ (List.mem_cons_of_mem _ (List.mem_cons_self ..)))) (stays_nil (stays_below S4.out)))) (holds_has (holds0 _) (stays_row S4.out (List.mem_cons_self ..)) (turns_cons (turns_head (turns_tail Tr.out |> fun _ => Tr.out)) (turns_cons (turns_head tx.out).symm (turns_nil Tr.out.2)))) ?_
          (refine g_load 54 _ gx 54 #[.string ⟨#[69, 105]⟩, .int .i64 0, .int .i64 60] (0, 0) _ rfl rfl rfl rfl (fun w' hC => stays_row hC (List.mem_cons_of_mem _ (List.mem_cons_self ..))) Try.underlying54 rfl (rfl) ?_)
          simp only [Act.put, List.setIfInBounds_toArray, List.set_cons_zero, List.set_cons_succ]
          refine g_store gr none 54 54 _ _ Z3 #[.string ⟨#[69, 105]⟩, .int .i64 0, .int .i64 60] rfl rfl rfl rfl rfl (has_same _ _ _) (by kernel_rfl) (rfl) (rfl) ((by simp [Value.oneCell'])) ?_
          simp only [Act.put]
          refine g_look rfl rfl ?_ (fun w' hC => ?_) ?_
          rotate_left
          · go_simp
            first | done | rfl
          simp only [Act.put, List.setIfInBounds_toArray, List.set_cons_zero, List.set_cons_succ]
          refine g_end ?_
          intro w5 hC5 hh5
          have S5 : Hid (Stays [(gr, Obj.cells #[.string ⟨#[69, 105]⟩, .int .i64 0, .int .i64 60] 54 (0, 0)), ((gr + 1), Obj.cells sufT 54 (0, 0)), (gx, Obj.cells #[.string ⟨#[69, 105]⟩, .int .i64 0, .int .i64 60] 54 (0, 0))] w w5) := Lib.hid (stays_cons ((hh5 _ _ _ (own_new _ _ _ _)).1) (stays_cons (stays_row hC5 (List.mem_cons_self ..)) (stays_cons (stays_row hC5 (List.mem_cons_of_mem _ (List.mem_cons_self ..))) (stays_nil (stays_below hC5)))))
          clear S4
          clear hC5 hh5
          go_wp2_with fail
          refine bodyPost_ret (v := .tuple #[.agg #[.string ⟨#[69, 105]⟩, .int .i64 0, .int .i64 60], .bool true]) (results_suf28 (stays_head S5.out)) rfl ⟨congrArg Ending.returned (by rfl), stays_below S5.out⟩
        · go_upto_region 4 with fail
          refine reg_plain (Stays [(gr, Obj.cells Z3 54 (0, 0)), ((gr + 1), Obj.cells sufT 54 (0, 0)), (gx, Obj.cells #[.string ⟨#[69, 105]⟩, .int .i64 0, .int .i64 60] 54 (0, 0))] w) (Turns [(gr, Obj.cells Z3 54 (0, 0)), ((gr + 1), Obj.cells sufT 54 (0, 0)), (gx, Obj.cells #[.string ⟨#[69, 105]⟩, .int .i64 0, .int .i64 60] 54 (0, 0))] w) (kdOf []) none0 (stays_good _ _) (S3.out) (holds0 _) ?_
          refine g_look rfl rfl ?_ (fun w' hC => ?_) ?_
          rotate_left
          · clear hC
            go_simp
            first | done | rfl | exact ⟨rfl, rfl⟩
          simp only [Act.put, List.setIfInBounds_toArray, List.set_cons_zero, List.set_cons_succ]
          refine g_look rfl rfl ?_ (fun w' hC => ?_) ?_
          rotate_left
          · have c : w'.heap[gx]? = some (.cells #[.string ⟨#[69, 105]⟩, .int .i64 0, .int .i64 60] 54 (0, 0)) := stays_head (stays_tail (stays_tail hC))
            have c0 : w'.cell? ⟨gx, 0, none⟩ = some (.string ⟨#[69, 105]⟩) := (cell_of_row _ _ _ _ _ _ c).trans rfl
            clear hC c
            go_simp
            first | done | rfl
          simp only [Act.put, List.setIfInBounds_toArray, List.set_cons_zero, List.set_cons_succ]
          refine g_look rfl rfl ?_ (fun w' hC => ?_) ?_
          rotate_left
          · go_simp
            first | done | rfl
          simp only [Act.put, List.setIfInBounds_toArray, List.set_cons_zero, List.set_cons_succ]
          refine g_look rfl rfl (.bool false) (fun w' hC => ?_) ?_
          · clear hC
            go_simp
            first | done | exact beq_eq_false_iff_ne.2 (fun e => heq e.symm) | (intro e; exact heq e.symm) | exact fun e => heq e.symm
          simp only [Act.put, List.setIfInBounds_toArray, List.set_cons_zero, List.set_cons_succ]
          refine g_end ?_
          intro w4 hC4 hh4
          have S4 : Hid (Stays [(gr, Obj.cells Z3 54 (0, 0)), ((gr + 1), Obj.cells sufT 54 (0, 0))] w w4) := Lib.hid (stays_cons (stays_row hC4 (List.mem_cons_self ..)) (stays_cons (stays_row hC4 (List.mem_cons_of_mem _ (List.mem_cons_self ..))) (stays_nil (stays_below hC4))))
          clear S3
          clear hC4 hh4
          have HN2 : Hid (∀ r ∈ sufL.take 1, r.1 ≠ l) := Lib.hid (by
            intro r hr
            by_cases hk' : r ∈ sufL.take 0
            · exact HN.out r hk'
            · have : r = ([69, 105], 0, 60) := by
                simp [sufL] at hr hk'
                simp_all
              rw [this]
              exact fun e => heq e.symm)
          go_wp2_with fail
          go_roundw
          case rel => exact ⟨1, by omega, rfl, HN2, S4⟩
          case measure => show 16 - 1 < 16 - 0; omega
      · go_upto_region 3 with fail
        refine reg_plain (Stays [(gr, Obj.cells Z3 54 (0, 0)), ((gr + 1), Obj.cells sufT 54 (0, 0))] w) (Turns [(gr, Obj.cells Z3 54 (0, 0)), ((gr + 1), Obj.cells sufT 54 (0, 0))] w) (kdOf [(2, .make (fun _ => allocM (.cells Z3 54))), (3, .touch)]) none0 (stays_good _ _) (S2.out) (holds0 _) ?_
        refine g_look rfl rfl (.pointer (some ⟨gr + 1, 3, none⟩)) (fun w' hC => ?_) ?_
        · clear hC
          go_simp
          first | done | rfl | exact ⟨rfl, rfl⟩
        simp only [Act.put, List.setIfInBounds_toArray, List.set_cons_zero, List.set_cons_succ]
        refine g_look rfl rfl (.agg #[.string ⟨#[80, 105]⟩, .int .i64 0, .int .i64 50]) (fun w' hC => ?_) ?_
        · have c : w'.heap[gr + 1]? = some (.cells sufT 54 (0, 0)) := stays_head (stays_tail hC)
          have c0 : w'.cell? ⟨gr + 1, 3, none⟩ = some (.string ⟨#[80, 105]⟩) := (cell_of_row _ _ _ _ _ _ c).trans rfl
          have c1 : w'.cell? ⟨gr + 1, 4, none⟩ = some (.int .i64 0) := (cell_of_row _ _ _ _ _ _ c).trans rfl
          have c2 : w'.cell? ⟨gr + 1, 5, none⟩ = some (.int .i64 50) := (cell_of_row _ _ _ _ _ _ c).trans rfl
          clear hC c
          go_simp
          first | done | rfl
        simp only [Act.put, List.setIfInBounds_toArray, List.set_cons_zero, List.set_cons_succ]
        refine g_alloc (stays_good _ _) (.cells Z3 54) rfl rfl (fun w' hC => ?_) (fun gx tx nx => ?_)
        · clear hC
          go_simp
          first | done | rfl | exact ⟨rfl, rfl⟩
        clear nx
        replace tx := Lib.hid tx
        simp only [Act.put, List.setIfInBounds_toArray, List.set_cons_zero, List.set_cons_succ]
        refine g_store gx (some 2) 54 54 _ _ Z3 #[.string ⟨#[80, 105]⟩, .int .i64 0, .int .i64 50] rfl rfl rfl rfl rfl (own_new _ _ _ _) (by kernel_rfl) (rfl) (rfl) ((by simp [Value.oneCell'])) ?_
        simp only [Act.put]
        refine g_end ?_
        intro w3 hC3 hh3
        have S3 : Hid (Stays [(gr, Obj.cells Z3 54 (0, 0)), ((gr + 1), Obj.cells sufT 54 (0, 0)), (gx, Obj.cells #[.string ⟨#[80, 105]⟩, .int .i64 0, .int .i64 50] 54 (0, 0))] w w3) := Lib.hid (stays_cons (stays_row hC3 (List.mem_cons_self ..)) (stays_cons (stays_row hC3 (List.mem_cons_of_mem _ (List.mem_cons_self ..))) (stays_cons ((hh3 _ _ _ (own_new _ _ _ _)).1) (stays_nil (stays_below hC3)))))
        clear S2
        clear hC3 hh3
        by_cases heq : l = [80, 105]
        · subst heq
          go_upto_region 4 with fail
          refine reg_plain (Stays [(gr, Obj.cells Z3 54 (0, 0)), ((gr + 1), Obj.cells sufT 54 (0, 0)), (gx, Obj.cells #[.string ⟨#[80, 105]⟩, .int .i64 0, .int .i64 50] 54 (0, 0))] w) (Turns [(gr, Obj.cells Z3 54 (0, 0)), ((gr + 1), Obj.cells sufT 54 (0, 0)), (gx, Obj.cells #[.string ⟨#[80, 105]⟩, .int .i64 0, .int .i64 50] 54 (0, 0))] w) (kdOf []) none0 (stays_good _ _) (S3.out) (holds0 _) ?_
          refine g_look rfl rfl ?_ (fun w' hC => ?_) ?_
          rotate_left
          · clear hC
            go_simp
            first | done | rfl | exact ⟨rfl, rfl⟩
          simp only [Act.put, List.setIfInBounds_toArray, List.set_cons_zero, List.set_cons_succ]
          refine g_look rfl rfl ?_ (fun w' hC => ?_) ?_
          rotate_left
          · have c : w'.heap[gx]? = some (.cells #[.string ⟨#[80, 105]⟩, .int .i64 0, .int .i64 50] 54 (0, 0)) := stays_head (stays_tail (stays_tail hC))
            have c0 : w'.cell? ⟨gx, 0, none⟩ = some (.string ⟨#[80, 105]⟩) := (cell_of_row _ _ _ _ _ _ c).trans rfl
            clear hC c
            go_simp
            first | done | rfl
          simp only [Act.put, List.setIfInBounds_toArray, List.set_cons_zero, List.set_cons_succ]
          refine g_look rfl rfl ?_ (fun w' hC => ?_) ?_
          rotate_left
          · go_simp
            first | done | rfl
          simp only [Act.put, List.setIfInBounds_toArray, List.set_cons_zero, List.set_cons_succ]
          refine g_look rfl rfl (.bool true) (fun w' hC => ?_) ?_
          · clear hC
            go_simp
            first | done | rfl
          simp only [Act.put, List.setIfInBounds_toArray, List.set_cons_zero, List.set_cons_succ]
          refine g_end ?_
          intro w4 hC4 hh4
          have S4 : Hid (Stays [(gr, Obj.cells Z3 54 (0, 0)), ((gr + 1), Obj.cells sufT 54 (0, 0)), (gx, Obj.cells #[.string ⟨#[80, 105]⟩, .int .i64 0, .int .i64 50] 54 (0, 0))] w w4) := Lib.hid (stays_cons (stays_row hC4 (List.mem_cons_self ..)) (stays_cons (stays_row hC4 (List.mem_cons_of_mem _ (List.mem_cons_self ..))) (stays_cons (stays_row hC4 (List.mem_cons_of_mem _ (List.mem_cons_of_mem _ (List.mem_cons_self ..)))) (stays_nil (stays_below hC4)))))
          clear S3
          clear hC4 hh4
          go_upto_region 5 with fail
          refine reg_plain (Stays [((gr + 1), Obj.cells sufT 54 (0, 0)), (gx, Obj.cells #[.string ⟨#[80, 105]⟩, .int .i64 0, .int .i64 50] 54 (0, 0))] w) (Turns [((gr + 1), Obj.cells sufT 54 (0, 0)), (gx, Obj.cells #[.string ⟨#[80, 105]⟩, .int .i64 0, .int .i64 50] 54 (0, 0))] w) (kdOf [(1, .touch)]) (Own.has none0 gr (Obj.cells Z3 54 (0, 0))) (stays_good _ _) (stays_cons (stays_row S4.out (List.mem_cons_of_mem _ (List.mem_cons_self ..))) (stays_cons (stays_row S4.out (List.mem_cons_of_mem _ (List.mem_cons_of_mem _ (List.mem_cons_self ..)))) (stays_nil (stays_below S4.out)))) (holds_has (holds0 _) (stays_row S4.out (List.mem_cons_self ..)) (turns_cons (turns_head (turns_tail Tr.out |> fun _ => Tr.out)) (turns_cons (turns_head tx.out).symm (turns_nil Tr.out.2)))) ?_
          (refine g_load 54 _ gx 54 #[.string ⟨#[80, 105]⟩, .int .i64 0, .int .i64 50] (0, 0) _ rfl rfl rfl rfl (fun w' hC => stays_row hC (List.mem_cons_of_mem _ (List.mem_cons_self ..))) Try.underlying54 rfl (rfl) ?_)
          simp only [Act.put, List.setIfInBounds_toArray, List.set_cons_zero, List.set_cons_succ]
          refine g_store gr none 54 54 _ _ Z3 #[.string ⟨#[80, 105]⟩, .int .i64 0, .int .i64 50] rfl rfl rfl rfl rfl (has_same _ _ _) (by kernel_rfl) (rfl) (rfl) ((by simp [Value.oneCell'])) ?_
          simp only [Act.put]
          refine g_look rfl rfl ?_ (fun w' hC => ?_) ?_
          rotate_left
          · go_simp
            first | done | rfl
          simp only [Act.put, List.setIfInBounds_toArray, List.set_cons_zero, List.set_cons_succ]
          refine g_end ?_
          intro w5 hC5 hh5
          have S5 : Hid (Stays [(gr, Obj.cells #[.string ⟨#[80, 105]⟩, .int .i64 0, .int .i64 50] 54 (0, 0)), ((gr + 1), Obj.cells sufT 54 (0, 0)), (gx, Obj.cells #[.string ⟨#[80, 105]⟩, .int .i64 0, .int .i64 50] 54 (0, 0))] w w5) := Lib.hid (stays_cons ((hh5 _ _ _ (own_new _ _ _ _)).1) (stays_cons (stays_row hC5 (List.mem_cons_self ..)) (stays_cons (stays_row hC5 (List.mem_cons_of_mem _ (List.mem_cons_self ..))) (stays_nil (stays_below hC5)))))
          clear S4
          clear hC5 hh5
          go_wp2_with fail
          refine bodyPost_ret (v := .tuple #[.agg #[.string ⟨#[80, 105]⟩, .int .i64 0, .int .i64 50], .bool true]) (results_suf28 (stays_head S5.out)) rfl ⟨congrArg Ending.returned (by rfl), stays_below S5.out⟩
        · go_upto_region 4 with fail
          refine reg_plain (Stays [(gr, Obj.cells Z3 54 (0, 0)), ((gr + 1), Obj.cells sufT 54 (0, 0)), (gx, Obj.cells #[.string ⟨#[80, 105]⟩, .int .i64 0, .int .i64 50] 54 (0, 0))] w) (Turns [(gr, Obj.cells Z3 54 (0, 0)), ((gr + 1), Obj.cells sufT 54 (0, 0)), (gx, Obj.cells #[.string ⟨#[80, 105]⟩, .int .i64 0, .int .i64 50] 54 (0, 0))] w) (kdOf []) none0 (stays_good _ _) (S3.out) (holds0 _) ?_
          refine g_look rfl rfl ?_ (fun w' hC => ?_) ?_
          rotate_left
          · clear hC
            go_simp
            first | done | rfl | exact ⟨rfl, rfl⟩
          simp only [Act.put, List.setIfInBounds_toArray, List.set_cons_zero, List.set_cons_succ]
          refine g_look rfl rfl ?_ (fun w' hC => ?_) ?_
          rotate_left
          · have c : w'.heap[gx]? = some (.cells #[.string ⟨#[80, 105]⟩, .int .i64 0, .int .i64 50] 54 (0, 0)) := stays_head (stays_tail (stays_tail hC))
            have c0 : w'.cell? ⟨gx, 0, none⟩ = some (.string ⟨#[80, 105]⟩) := (cell_of_row _ _ _ _ _ _ c).trans rfl
            clear hC c
            go_simp
            first | done | rfl
          simp only [Act.put, List.setIfInBounds_toArray, List.set_cons_zero, List.set_cons_succ]
          refine g_look rfl rfl ?_ (fun w' hC => ?_) ?_
          rotate_left
          · go_simp
            first | done | rfl
          simp only [Act.put, List.setIfInBounds_toArray, List.set_cons_zero, List.set_cons_succ]
          refine g_look rfl rfl (.bool false) (fun w' hC => ?_) ?_
          · clear hC
            go_simp
            first | done | exact beq_eq_false_iff_ne.2 (fun e => heq e.symm) | (intro e; exact heq e.symm) | exact fun e => heq e.symm
          simp only [Act.put, List.setIfInBounds_toArray, List.set_cons_zero, List.set_cons_succ]
          refine g_end ?_
          intro w4 hC4 hh4
          have S4 : Hid (Stays [(gr, Obj.cells Z3 54 (0, 0)), ((gr + 1), Obj.cells sufT 54 (0, 0))] w w4) := Lib.hid (stays_cons (stays_row hC4 (List.mem_cons_self ..)) (stays_cons (stays_row hC4 (List.mem_cons_of_mem _ (List.mem_cons_self ..))) (stays_nil (stays_below hC4))))
          clear S3
          clear hC4 hh4
          have HN2 : Hid (∀ r ∈ sufL.take 2, r.1 ≠ l) := Lib.hid (by
            intro r hr
            by_cases hk' : r ∈ sufL.take 1
            · exact HN.out r hk'
            · have : r = ([80, 105], 0, 50) := by
                simp [sufL] at hr hk'
                simp_all
              rw [this]
              exact fun e => heq e.symm)
          go_wp2_with fail
          go_roundw
          case rel => exact ⟨2, by omega, rfl, HN2, S4⟩
          case measure => show 16 - 2 < 16 - 1; omega
      · go_upto_region 3 with fail
        refine reg_plain (Stays [(gr, Obj.cells Z3 54 (0, 0)), ((gr + 1), Obj.cells sufT 54 (0, 0))] w) (Turns [(gr, Obj.cells Z3 54 (0, 0)), ((gr + 1), Obj.cells sufT 54 (0, 0))] w) (kdOf [(2, .make (fun _ => allocM (.cells Z3 54))), (3, .touch)]) none0 (stays_good _ _) (S2.out) (holds0 _) ?_
        refine g_look rfl rfl (.pointer (some ⟨gr + 1, 6, none⟩)) (fun w' hC => ?_) ?_
        · clear hC
          go_simp
          first | done | rfl | exact ⟨rfl, rfl⟩
        simp only [Act.put, List.setIfInBounds_toArray, List.set_cons_zero, List.set_cons_succ]
        refine g_look rfl rfl (.agg #[.string ⟨#[84, 105]⟩, .int .i64 0, .int .i64 40]) (fun w' hC => ?_) ?_
        · have c : w'.heap[gr + 1]? = some (.cells sufT 54 (0, 0)) := stays_head (stays_tail hC)
          have c0 : w'.cell? ⟨gr + 1, 6, none⟩ = some (.string ⟨#[84, 105]⟩) := (cell_of_row _ _ _ _ _ _ c).trans rfl
          have c1 : w'.cell? ⟨gr + 1, 7, none⟩ = some (.int .i64 0) := (cell_of_row _ _ _ _ _ _ c).trans rfl
          have c2 : w'.cell? ⟨gr + 1, 8, none⟩ = some (.int .i64 40) := (cell_of_row _ _ _ _ _ _ c).trans rfl
          clear hC c
          go_simp
          first | done | rfl
        simp only [Act.put, List.setIfInBounds_toArray, List.set_cons_zero, List.set_cons_succ]
        refine g_alloc (stays_good _ _) (.cells Z3 54) rfl rfl (fun w' hC => ?_) (fun gx tx nx => ?_)
        · clear hC
          go_simp
          first | done | rfl | exact ⟨rfl, rfl⟩
        clear nx
        replace tx := Lib.hid tx
        simp only [Act.put, List.setIfInBounds_toArray, List.set_cons_zero, List.set_cons_succ]
        refine g_store gx (some 2) 54 54 _ _ Z3 #[.string ⟨#[84, 105]⟩, .int .i64 0, .int .i64 40] rfl rfl rfl rfl rfl (own_new _ _ _ _) (by kernel_rfl) (rfl) (rfl) ((by simp [Value.oneCell'])) ?_
        simp only [Act.put]
        refine g_end ?_
        intro w3 hC3 hh3
        have S3 : Hid (Stays [(gr, Obj.cells Z3 54 (0, 0)), ((gr + 1), Obj.cells sufT 54 (0, 0)), (gx, Obj.cells #[.string ⟨#[84, 105]⟩, .int .i64 0, .int .i64 40] 54 (0, 0))] w w3) := Lib.hid (stays_cons (stays_row hC3 (List.mem_cons_self ..)) (stays_cons (stays_row hC3 (List.mem_cons_of_mem _ (List.mem_cons_self ..))) (stays_cons ((hh3 _ _ _ (own_new _ _ _ _)).1) (stays_nil (stays_below hC3)))))
        clear S2
        clear hC3 hh3
        by_cases heq : l = [84, 105]
        · subst heq
          go_upto_region 4 with fail
          refine reg_plain (Stays [(gr, Obj.cells Z3 54 (0, 0)), ((gr + 1), Obj.cells sufT 54 (0, 0)), (gx, Obj.cells #[.string ⟨#[84, 105]⟩, .int .i64 0, .int .i64 40] 54 (0, 0))] w) (Turns [(gr, Obj.cells Z3 54 (0, 0)), ((gr + 1), Obj.cells sufT 54 (0, 0)), (gx, Obj.cells #[.string ⟨#[84, 105]⟩, .int .i64 0, .int .i64 40] 54 (0, 0))] w) (kdOf []) none0 (stays_good _ _) (S3.out) (holds0 _) ?_
          refine g_look rfl rfl ?_ (fun w' hC => ?_) ?_
          rotate_left
          · clear hC
            go_simp
            first | done | rfl | exact ⟨rfl, rfl⟩
          simp only [Act.put, List.setIfInBounds_toArray, List.set_cons_zero, List.set_cons_succ]
          refine g_look rfl rfl ?_ (fun w' hC => ?_) ?_
          rotate_left
          · have c : w'.heap[gx]? = some (.cells #[.string ⟨#[84, 105]⟩, .int .i64 0, .int .i64 40] 54 (0, 0)) := stays_head (stays_tail (stays_tail hC))
            have c0 : w'.cell? ⟨gx, 0, none⟩ = some (.string ⟨#[84, 105]⟩) := (cell_of_row _ _ _ _ _ _ c).trans rfl
            clear hC c
            go_simp
            first | done | rfl
          simp only [Act.put, List.setIfInBounds_toArray, List.set_cons_zero, List.set_cons_succ]
          refine g_look rfl rfl ?_ (fun w' hC => ?_) ?_
          rotate_left
          · go_simp
            first | done | rfl
          simp only [Act.put, List.setIfInBounds_toArray, List.set_cons_zero, List.set_cons_succ]
          refine g_look rfl rfl (.bool true) (fun w' hC => ?_) ?_
          · clear hC
            go_simp
            first | done | rfl
          simp only [Act.put, List.setIfInBounds_toArray, List.set_cons_zero, List.set_cons_succ]
          refine g_end ?_
          intro w4 hC4 hh4
          have S4 : Hid (Stays [(gr, Obj.cells Z3 54 (0, 0)), ((gr + 1), Obj.cells sufT 54 (0, 0)), (gx, Obj.cells #[.string ⟨#[84, 105]⟩, .int .i64 0, .int .i64 40] 54 (0, 0))] w w4) := Lib.hid (stays_cons (stays_row hC4 (List.mem_cons_self ..)) (stays_cons (stays_row hC4 (List.mem_cons_of_mem _ (List.mem_cons_self ..))) (stays_cons (stays_row hC4 (List.mem_cons_of_mem _ (List.mem_cons_of_mem _ (List.mem_cons_self ..)))) (stays_nil (stays_below hC4)))))
          clear S3
          clear hC4 hh4
          go_upto_region 5 with fail
          refine reg_plain (Stays [((gr + 1), Obj.cells sufT 54 (0, 0)), (gx, Obj.cells #[.string ⟨#[84, 105]⟩, .int .i64 0, .int .i64 40] 54 (0, 0))] w) (Turns [((gr + 1), Obj.cells sufT 54 (0, 0)), (gx, Obj.cells #[.string ⟨#[84, 105]⟩, .int .i64 0, .int .i64 40] 54 (0, 0))] w) (kdOf [(1, .touch)]) (Own.has none0 gr (Obj.cells Z3 54 (0, 0))) (stays_good _ _) (stays_cons (stays_row S4.out (List.mem_cons_of_mem _ (List.mem_cons_self ..))) (stays_cons (stays_row S4.out (List.mem_cons_of_mem _ (List.mem_cons_of_mem _ (List.mem_cons_self ..)))) (stays_nil (stays_below S4.out)))) (holds_has (holds0 _) (stays_row S4.out (List.mem_cons_self ..)) (turns_cons (turns_head (turns_tail Tr.out |> fun _ => Tr.out)) (turns_cons (turns_head tx.out).symm (turns_nil Tr.out.2)))) ?_
          (refine g_load 54 _ gx 54 #[.string ⟨#[84, 105]⟩, .int .i64 0, .int .i64 40] (0, 0) _ rfl rfl rfl rfl (fun w' hC => stays_row hC (List.mem_cons_of_mem _ (List.mem_cons_self ..))) Try.underlying54 rfl (rfl) ?_)
          simp only [Act.put, List.setIfInBounds_toArray, List.set_cons_zero, List.set_cons_succ]
          refine g_store gr none 54 54 _ _ Z3 #[.string ⟨#[84, 105]⟩, .int .i64 0, .int .i64 40] rfl rfl rfl rfl rfl (has_same _ _ _) (by kernel_rfl) (rfl) (rfl) ((by simp [Value.oneCell'])) ?_
          simp only [Act.put]
          refine g_look rfl rfl ?_ (fun w' hC => ?_) ?_
          rotate_left
          · go_simp
            first | done | rfl
          simp only [Act.put, List.setIfInBounds_toArray, List.set_cons_zero, List.set_cons_succ]
          refine g_end ?_
          intro w5 hC5 hh5
          have S5 : Hid (Stays [(gr, Obj.cells #[.string ⟨#[84, 105]⟩, .int .i64 0, .int .i64 40] 54 (0, 0)), ((gr + 1), Obj.cells sufT 54 (0, 0)), (gx, Obj.cells #[.string ⟨#[84, 105]⟩, .int .i64 0, .int .i64 40] 54 (0, 0))] w w5) := Lib.hid (stays_cons ((hh5 _ _ _ (own_new _ _ _ _)).1) (stays_cons (stays_row hC5 (List.mem_cons_self ..)) (stays_cons (stays_row hC5 (List.mem_cons_of_mem _ (List.mem_cons_self ..))) (stays_nil (stays_below hC5)))))
          clear S4
          clear hC5 hh5
          go_wp2_with fail
          refine bodyPost_ret (v := .tuple #[.agg #[.string ⟨#[84, 105]⟩, .int .i64 0, .int .i64 40], .bool true]) (results_suf28 (stays_head S5.out)) rfl ⟨congrArg Ending.returned (by rfl), stays_below S5.out⟩
        · go_upto_region 4 with fail
          refine reg_plain (Stays [(gr, Obj.cells Z3 54 (0, 0)), ((gr + 1), Obj.cells sufT 54 (0, 0)), (gx, Obj.cells #[.string ⟨#[84, 105]⟩, .int .i64 0, .int .i64 40] 54 (0, 0))] w) (Turns [(gr, Obj.cells Z3 54 (0, 0)), ((gr + 1), Obj.cells sufT 54 (0, 0)), (gx, Obj.cells #[.string ⟨#[84, 105]⟩, .int .i64 0, .int .i64 40] 54 (0, 0))] w) (kdOf []) none0 (stays_good _ _) (S3.out) (holds0 _) ?_
          refine g_look rfl rfl ?_ (fun w' hC => ?_) ?_
          rotate_left
          · clear hC
            go_simp
            first | done | rfl | exact ⟨rfl, rfl⟩
          simp only [Act.put, List.setIfInBounds_toArray, List.set_cons_zero, List.set_cons_succ]
          refine g_look rfl rfl ?_ (fun w' hC => ?_) ?_
          rotate_left
          · have c : w'.heap[gx]? = some (.cells #[.string ⟨#[84, 105]⟩, .int .i64 0, .int .i64 40] 54 (0, 0)) := stays_head (stays_tail (stays_tail hC))
            have c0 : w'.cell? ⟨gx, 0, none⟩ = some (.string ⟨#[84, 105]⟩) := (cell_of_row _ _ _ _ _ _ c).trans rfl
            clear hC c
            go_simp
            first | done | rfl
          simp only [Act.put, List.setIfInBounds_toArray, List.set_cons_zero, List.set_cons_succ]
          refine g_look rfl rfl ?_ (fun w' hC => ?_) ?_
          rotate_left
          · go_simp
            first | done | rfl
          simp only [Act.put, List.setIfInBounds_toArray, List.set_cons_zero, List.set_cons_succ]
          refine g_look rfl rfl (.bool false) (fun w' hC => ?_) ?_
          · clear hC
            go_simp
            first | done | exact beq_eq_false_iff_ne.2 (fun e => heq e.symm) | (intro e; exact heq e.symm) | exact fun e => heq e.symm
          simp only [Act.put, List.setIfInBounds_toArray, List.set_cons_zero, List.set_cons_succ]
          refine g_end ?_
          intro w4 hC4 hh4
          have S4 : Hid (Stays [(gr, Obj.cells Z3 54 (0, 0)), ((gr + 1), Obj.cells sufT 54 (0, 0))] w w4) := Lib.hid (stays_cons (stays_row hC4 (List.mem_cons_self ..)) (stays_cons (stays_row hC4 (List.mem_cons_of_mem _ (List.mem_cons_self ..))) (stays_nil (stays_below hC4))))
          clear S3
          clear hC4 hh4
          have HN2 : Hid (∀ r ∈ sufL.take 3, r.1 ≠ l) := Lib.hid (by
            intro r hr
            by_cases hk' : r ∈ sufL.take 2
            · exact HN.out r hk'
            · have : r = ([84, 105], 0, 40) := by
                simp [sufL] at hr hk'
                simp_all
              rw [this]
              exact fun e => heq e.symm)
          go_wp2_with fail
          go_roundw
          case rel => exact ⟨3, by omega, rfl, HN2, S4⟩
          case measure => show 16 - 3 < 16 - 2; omega
      · go_upto_region 3 with fail
        refine reg_plain (Stays [(gr, Obj.cells Z3 54 (0, 0)), ((gr + 1), Obj.cells sufT 54 (0, 0))] w) (Turns [(gr, Obj.cells Z3 54 (0, 0)), ((gr + 1), Obj.cells sufT 54 (0, 0))] w) (kdOf [(2, .make (fun _ => allocM (.cells Z3 54))), (3, .touch)]) none0 (stays_good _ _) (S2.out) (holds0 _) ?_
        refine g_look rfl rfl (.pointer (some ⟨gr + 1, 9, none⟩)) (fun w' hC => ?_) ?_
        · clear hC
          go_simp
          first | done | rfl | exact ⟨rfl, rfl⟩
        simp only [Act.put, List.setIfInBounds_toArray, List.set_cons_zero, List.set_cons_succ]
        refine g_look rfl rfl (.agg #[.string ⟨#[71, 105]⟩, .int .i64 0, .int .i64 30]) (fun w' hC => ?_) ?_
        · have c : w'.heap[gr + 1]? = some (.cells sufT 54 (0, 0)) := stays_head (stays_tail hC)
          have c0 : w'.cell? ⟨gr + 1, 9, none⟩ = some (.string ⟨#[71, 105]⟩) := (cell_of_row _ _ _ _ _ _ c).trans rfl
          have c1 : w'.cell? ⟨gr + 1, 10, none⟩ = some (.int .i64 0) := (cell_of_row _ _ _ _ _ _ c).trans rfl
          have c2 : w'.cell? ⟨gr + 1, 11, none⟩ = some (.int .i64 30) := (cell_of_row _ _ _ _ _ _ c).trans rfl
          clear hC c
          go_simp
          first | done | rfl
        simp only [Act.put, List.setIfInBounds_toArray, List.set_cons_zero, List.set_cons_succ]
        refine g_alloc (stays_good _ _) (.cells Z3 54) rfl rfl (fun w' hC => ?_) (fun gx tx nx => ?_)
        · clear hC
          go_simp
          first | done | rfl | exact ⟨rfl, rfl⟩
        clear nx
        replace tx := Lib.hid tx
        simp only [Act.put, List.setIfInBounds_toArray, List.set_cons_zero, List.set_cons_succ]
        refine g_store gx (some 2) 54 54 _ _ Z3 #[.string ⟨#[71, 105]⟩, .int .i64 0, .int .i64 30] rfl rfl rfl rfl rfl (own_new _ _ _ _) (by kernel_rfl) (rfl) (rfl) ((by simp [Value.oneCell'])) ?_
        simp only [Act.put]
        refine g_end ?_
        intro w3 hC3 hh3
        have S3 : Hid (Stays [(gr, Obj.cells Z3 54 (0, 0)), ((gr + 1), Obj.cells sufT 54 (0, 0)), (gx, Obj.cells #[.string ⟨#[71, 105]⟩, .int .i64 0, .int .i64 30] 54 (0, 0))] w w3) := Lib.hid (stays_cons (stays_row hC3 (List.mem_cons_self ..)) (stays_cons (stays_row hC3 (List.mem_cons_of_mem _ (List.mem_cons_self ..))) (stays_cons ((hh3 _ _ _ (own_new _ _ _ _)).1) (stays_nil (stays_below hC3)))))
        clear S2
        clear hC3 hh3
        by_cases heq : l = [71, 105]
        · subst heq
          go_upto_region 4 with fail
          refine reg_plain (Stays [(gr, Obj.cells Z3 54 (0, 0)), ((gr + 1), Obj.cells sufT 54 (0, 0)), (gx, Obj.cells #[.string ⟨#[71, 105]⟩, .int .i64 0, .int .i64 30] 54 (0, 0))] w) (Turns [(gr, Obj.cells Z3 54 (0, 0)), ((gr + 1), Obj.cells sufT 54 (0, 0)), (gx, Obj.cells #[.string ⟨#[71, 105]⟩, .int .i64 0, .int .i64 30] 54 (0, 0))] w) (kdOf []) none0 (stays_good _ _) (S3.out) (holds0 _) ?_
          refine g_look rfl rfl ?_ (fun w' hC => ?_) ?_
          rotate_left
          · clear hC
            go_simp
            first | done | rfl | exact ⟨rfl, rfl⟩
          simp only [Act.put, List.setIfInBounds_toArray, List.set_cons_zero, List.set_cons_succ]
          refine g_look rfl rfl ?_ (fun w' hC => ?_) ?_
          rotate_left
          · have c : w'.heap[gx]? = some (.cells #[.string ⟨#[71, 105]⟩, .int .i64 0, .int .i64 30] 54 (0, 0)) := stays_head (stays_tail (stays_tail hC))
            have c0 : w'.cell? ⟨gx, 0, none⟩ = some (.string ⟨#[71, 105]⟩) := (cell_of_row _ _ _ _ _ _ c).trans rfl
            clear hC c
            go_simp
            first | done | rfl
          simp only [Act.put, List.setIfInBounds_toArray, List.set_cons_zero, List.set_cons_succ]
          refine g_look rfl rfl ?_ (fun w' hC => ?_) ?_
          rotate_left
          · go_simp
            first | done | rfl
          simp only [Act.put, List.setIfInBounds_toArray, List.set_cons_zero, List.set_cons_succ]
          refine g_look rfl rfl (.bool true) (fun w' hC => ?_) ?_
          · clear hC
            go_simp
            first | done | rfl
          simp only [Act.put, List.setIfInBounds_toArray, List.set_cons_zero, List.set_cons_succ]
          refine g_end ?_
          intro w4 hC4 hh4
          have S4 : Hid (Stays [(gr, Obj.cells Z3 54 (0, 0)), ((gr + 1), Obj.cells sufT 54 (0, 0)), (gx, Obj.cells #[.string ⟨#[71, 105]⟩, .int .i64 0, .int .i64 30] 54 (0, 0))] w w4) := Lib.hid (stays_cons (stays_row hC4 (List.mem_cons_self ..)) (stays_cons (stays_row hC4 (List.mem_cons_of_mem _ (List.mem_cons_self ..))) (stays_cons (stays_row hC4 (List.mem_cons_of_mem _ (List.mem_cons_of_mem _ (List.mem_cons_self ..)))) (stays_nil (stays_below hC4)))))
          clear S3
          clear hC4 hh4
          go_upto_region 5 with fail
          refine reg_plain (Stays [((gr + 1), Obj.cells sufT 54 (0, 0)), (gx, Obj.cells #[.string ⟨#[71, 105]⟩, .int .i64 0, .int .i64 30] 54 (0, 0))] w) (Turns [((gr + 1), Obj.cells sufT 54 (0, 0)), (gx, Obj.cells #[.string ⟨#[71, 105]⟩, .int .i64 0, .int .i64 30] 54 (0, 0))] w) (kdOf [(1, .touch)]) (Own.has none0 gr (Obj.cells Z3 54 (0, 0))) (stays_good _ _) (stays_cons (stays_row S4.out (List.mem_cons_of_mem _ (List.mem_cons_self ..))) (stays_cons (stays_row S4.out (List.mem_cons_of_mem _ (List.mem_cons_of_mem _ (List.mem_cons_self ..)))) (stays_nil (stays_below S4.out)))) (holds_has (holds0 _) (stays_row S4.out (List.mem_cons_self ..)) (turns_cons (turns_head (turns_tail Tr.out |> fun _ => Tr.out)) (turns_cons (turns_head tx.out).symm (turns_nil Tr.out.2)))) ?_
          (refine g_load 54 _ gx 54 #[.string ⟨#[71, 105]⟩, .int .i64 0, .int .i64 30] (0, 0) _ rfl rfl rfl rfl (fun w' hC => stays_row hC (List.mem_cons_of_mem _ (List.mem_cons_self ..))) Try.underlying54 rfl (rfl) ?_)
          simp only [Act.put, List.setIfInBounds_toArray, List.set_cons_zero, List.set_cons_succ]
          refine g_store gr none 54 54 _ _ Z3 #[.string ⟨#[71, 105]⟩, .int .i64 0, .int .i64 30] rfl rfl rfl rfl rfl (has_same _ _ _) (by kernel_rfl) (rfl) (rfl) ((by simp [Value.oneCell'])) ?_
          simp only [Act.put]
          refine g_look rfl rfl ?_ (fun w' hC => ?_) ?_
          rotate_left
          · go_simp
            first | done | rfl
          simp only [Act.put, List.setIfInBounds_toArray, List.set_cons_zero, List.set_cons_succ]
          refine g_end ?_
          intro w5 hC5 hh5
          have S5 : Hid (Stays [(gr, Obj.cells #[.string ⟨#[71, 105]⟩, .int .i64 0, .int .i64 30] 54 (0, 0)), ((gr + 1), Obj.cells sufT 54 (0, 0)), (gx, Obj.cells #[.string ⟨#[71, 105]⟩, .int .i64 0, .int .i64 30] 54 (0, 0))] w w5) := Lib.hid (stays_cons ((hh5 _ _ _ (own_new _ _ _ _)).1) (stays_cons (stays_row hC5 (List.mem_cons_self ..)) (stays_cons (stays_row hC5 (List.mem_cons_of_mem _ (List.mem_cons_self ..))) (stays_nil (stays_below hC5)))))
          clear S4
          clear hC5 hh5
          go_wp2_with fail
          refine bodyPost_ret (v := .tuple #[.agg #[.string ⟨#[71, 105]⟩, .int .i64 0, .int .i64 30], .bool true]) (results_suf28 (stays_head S5.out)) rfl ⟨congrArg Ending.returned (by rfl), stays_below S5.out⟩
        · go_upto_region 4 with fail
          refine reg_plain (Stays [(gr, Obj.cells Z3 54 (0, 0)), ((gr + 1), Obj.cells sufT 54 (0, 0)), (gx, Obj.cells #[.string ⟨#[71, 105]⟩, .int .i64 0, .int .i64 30] 54 (0, 0))] w) (Turns [(gr, Obj.cells Z3 54 (0, 0)), ((gr + 1), Obj.cells sufT 54 (0, 0)), (gx, Obj.cells #[.string ⟨#[71, 105]⟩, .int .i64 0, .int .i64 30] 54 (0, 0))] w) (kdOf []) none0 (stays_good _ _) (S3.out) (holds0 _) ?_
          refine g_look rfl rfl ?_ (fun w' hC => ?_) ?_
          rotate_left
          · clear hC
            go_simp
            first | done | rfl | exact ⟨rfl, rfl⟩
          simp only [Act.put, List.setIfInBounds_toArray, List.set_cons_zero, List.set_cons_succ]
          refine g_look rfl rfl ?_ (fun w' hC => ?_) ?_
          rotate_left
          · have c : w'.heap[gx]? = some (.cells #[.string ⟨#[71, 105]⟩, .int .i64 0, .int .i64 30] 54 (0, 0)) := stays_head (stays_tail (stays_tail hC))
            have c0 : w'.cell? ⟨gx, 0, none⟩ = some (.string ⟨#[71, 105]⟩) := (cell_of_row _ _ _ _ _ _ c).trans rfl
            clear hC c
            go_simp
            first | done | rfl
          simp only [Act.put, List.setIfInBounds_toArray, List.set_cons_zero, List.set_cons_succ]
          refine g_look rfl rfl ?_ (fun w' hC => ?_) ?_
          rotate_left
          · go_simp
            first | done | rfl
          simp only [Act.put, List.setIfInBounds_toArray, List.set_cons_zero, List.set_cons_succ]
          refine g_look rfl rfl (.bool false) (fun w' hC => ?_) ?_
          · clear hC
            go_simp
            first | done | exact beq_eq_false_iff_ne.2 (fun e => heq e.symm) | (intro e; exact heq e.symm) | exact fun e => heq e.symm
          simp only [Act.put, List.setIfInBounds_toArray, List.set_cons_zero, List.set_cons_succ]
          refine g_end ?_
          intro w4 hC4 hh4
          have S4 : Hid (Stays [(gr, Obj.cells Z3 54 (0, 0)), ((gr + 1), Obj.cells sufT 54 (0, 0))] w w4) := Lib.hid (stays_cons (stays_row hC4 (List.mem_cons_self ..)) (stays_cons (stays_row hC4 (List.mem_cons_of_mem _ (List.mem_cons_self ..))) (stays_nil (stays_below hC4))))
          clear S3
          clear hC4 hh4
          have HN2 : Hid (∀ r ∈ sufL.take 4, r.1 ≠ l) := Lib.hid (by
            intro r hr
            by_cases hk' : r ∈ sufL.take 3
            · exact HN.out r hk'
            · have : r = ([71, 105], 0, 30) := by
                simp [sufL] at hr hk'
                simp_all
              rw [this]
              exact fun e => heq e.symm)
          go_wp2_with fail
          go_roundw
          case rel => exact ⟨4, by omega, rfl, HN2, S4⟩
          case measure => show 16 - 4 < 16 - 3; omega
      · go_upto_region 3 with fail
        refine reg_plain (Stays [(gr, Obj.cells Z3 54 (0, 0)), ((gr + 1), Obj.cells sufT 54 (0, 0))] w) (Turns [(gr, Obj.cells Z3 54 (0, 0)), ((gr + 1), Obj.cells sufT 54 (0, 0))] w) (kdOf [(2, .make (fun _ => allocM (.cells Z3 54))), (3, .touch)]) none0 (stays_good _ _) (S2.out) (holds0 _) ?_
        refine g_look rfl rfl (.pointer (some ⟨gr + 1, 12, none⟩)) (fun w' hC => ?_) ?_
        · clear hC
          go_simp
          first | done | rfl | exact ⟨rfl, rfl⟩
        simp only [Act.put, List.setIfInBounds_toArray, List.set_cons_zero, List.set_cons_succ]
        refine g_look rfl rfl (.agg #[.string ⟨#[77, 105]⟩, .int .i64 0, .int .i64 20]) (fun w' hC => ?_) ?_
        · have c : w'.heap[gr + 1]? = some (.cells sufT 54 (0, 0)) := stays_head (stays_tail hC)
          have c0 : w'.cell? ⟨gr + 1, 12, none⟩ = some (.string ⟨#[77, 105]⟩) := (cell_of_row _ _ _ _ _ _ c).trans rfl
          have c1 : w'.cell? ⟨gr + 1, 13, none⟩ = some (.int .i64 0) := (cell_of_row _ _ _ _ _ _ c).trans rfl
          have c2 : w'.cell? ⟨gr + 1, 14, none⟩ = some (.int .i64 20) := (cell_of_row _ _ _ _ _ _ c).trans rfl
          clear hC c
          go_simp
          first | done | rfl
        simp only [Act.put, List.setIfInBounds_toArray, List.set_cons_zero, List.set_cons_succ]
        refine g_alloc (stays_good _ _) (.cells Z3 54) rfl rfl (fun w' hC => ?_) (fun gx tx nx => ?_)
        · clear hC
          go_simp
          first | done | rfl | exact ⟨rfl, rfl⟩
        clear nx
        replace tx := Lib.hid tx
        simp only [Act.put, List.setIfInBounds_toArray, List.set_cons_zero, List.set_cons_succ]
        refine g_store gx (some 2) 54 54 _ _ Z3 #[.string ⟨#[77, 105]⟩, .int .i64 0, .int .i64 20] rfl rfl rfl rfl rfl (own_new _ _ _ _) (by kernel_rfl) (rfl) (rfl) ((by simp [Value.oneCell'])) ?_
        simp only [Act.put]
        refine g_end ?_
        intro w3 hC3 hh3
        have S3 : Hid (Stays [(gr, Obj.cells Z3 54 (0, 0)), ((gr + 1), Obj.cells sufT 54 (0, 0)), (gx, Obj.cells #[.string ⟨#[77, 105]⟩, .int .i64 0, .int .i64 20] 54 (0, 0))] w w3) := Lib.hid (stays_cons (stays_row hC3 (List.mem_cons_self ..)) (stays_cons (stays_row hC3 (List.mem_cons_of_mem _ (List.mem_cons_self ..))) (stays_cons ((hh3 _ _ _ (own_new _ _ _ _)).1) (stays_nil (stays_below hC3)))))
        clear S2
        clear hC3 hh3
        by_cases heq : l = [77, 105]
        · subst heq
          go_upto_region 4 with fail
          refine reg_plain (Stays [(gr, Obj.cells Z3 54 (0, 0)), ((gr + 1), Obj.cells sufT 54 (0, 0)), (gx, Obj.cells #[.string ⟨#[77, 105]⟩, .int .i64 0, .int .i64 20] 54 (0, 0))] w) (Turns [(gr, Obj.cells Z3 54 (0, 0)), ((gr + 1), Obj.cells sufT 54 (0, 0)), (gx, Obj.cells #[.string ⟨#[77, 105]⟩, .int .i64 0, .int .i64 20] 54 (0, 0))] w) (kdOf []) none0 (stays_good _ _) (S3.out) (holds0 _) ?_
          refine g_look rfl rfl ?_ (fun w' hC => ?_) ?_
          rotate_left
          · clear hC
            go_simp
            first | done | rfl | exact ⟨rfl, rfl⟩
          simp only [Act.put, List.setIfInBounds_toArray, List.set_cons_zero, List.set_cons_succ]
          refine g_look rfl rfl ?_ (fun w' hC => ?_) ?_
          rotate_left
          · have c : w'.heap[gx]? = some (.cells #[.string ⟨#[77, 105]⟩, .int .i64 0, .int .i64 20] 54 (0, 0)) := stays_head (stays_tail (stays_tail hC))
            have c0 : w'.cell? ⟨gx, 0, none⟩ = some (.string ⟨#[77, 105]⟩) := (cell_of_row _ _ _ _ _ _ c).trans rfl
            clear hC c
            go_simp
            first | done | rfl
          simp only [Act.put, List.setIfInBounds_toArray, List.set_cons_zero, List.set_cons_succ]
          refine g_look rfl rfl ?_ (fun w' hC => ?_) ?_
          rotate_left
          · go_simp
            first | done | rfl
          simp only [Act.put, List.setIfInBounds_toArray, List.set_cons_zero, List.set_cons_succ]
          refine g_look rfl rfl (.bool true) (fun w' hC => ?_) ?_
          · clear hC
            go_simp
            first | done | rfl
          simp only [Act.put, List.setIfInBounds_toArray, List.set_cons_zero, List.set_cons_succ]
          refine g_end ?_
          intro w4 hC4 hh4
          have S4 : Hid (Stays [(gr, Obj.cells Z3 54 (0, 0)), ((gr + 1), Obj.cells sufT 54 (0, 0)), (gx, Obj.cells #[.string ⟨#[77, 105]⟩, .int .i64 0, .int .i64 20] 54 (0, 0))] w w4) := Lib.hid (stays_cons (stays_row hC4 (List.mem_cons_self ..)) (stays_cons (stays_row hC4 (List.mem_cons_of_mem _ (List.mem_cons_self ..))) (stays_cons (stays_row hC4 (List.mem_cons_of_mem _ (List.mem_cons_of_mem _ (List.mem_cons_self ..)))) (stays_nil (stays_below hC4)))))
          clear S3
          clear hC4 hh4
          go_upto_region 5 with fail
          refine reg_plain (Stays [((gr + 1), Obj.cells sufT 54 (0, 0)), (gx, Obj.cells #[.string ⟨#[77, 105]⟩, .int .i64 0, .int .i64 20] 54 (0, 0))] w) (Turns [((gr + 1), Obj.cells sufT 54 (0, 0)), (gx, Obj.cells #[.string ⟨#[77, 105]⟩, .int .i64 0, .int .i64 20] 54 (0, 0))] w) (kdOf [(1, .touch)]) (Own.has none0 gr (Obj.cells Z3 54 (0, 0))) (stays_good _ _) (stays_cons (stays_row S4.out (List.mem_cons_of_mem _ (List.mem_cons_self ..))) (stays_cons (stays_row S4.out (List.mem_cons_of_mem _ (List.mem_cons_of_mem _ (List.mem_cons_self ..)))) (stays_nil (stays_below S4.out)))) (holds_has (holds0 _) (stays_row S4.out (List.mem_cons_self ..)) (turns_cons (turns_head (turns_tail Tr.out |> fun _ => Tr.out)) (turns_cons (turns_head tx.out).symm (turns_nil Tr.out.2)))) ?_
          (refine g_load 54 _ gx 54 #[.string ⟨#[77, 105]⟩, .int .i64 0, .int .i64 20] (0, 0) _ rfl rfl rfl rfl (fun w' hC => stays_row hC (List.mem_cons_of_mem _ (List.mem_cons_self ..))) Try.underlying54 rfl (rfl) ?_)
          simp only [Act.put, List.setIfInBounds_toArray, List.set_cons_zero, List.set_cons_succ]
          refine g_store gr none 54 54 _ _ Z3 #[.string ⟨#[77, 105]⟩, .int .i64 0, .int .i64 20] rfl rfl rfl rfl rfl (has_same _ _ _) (by kernel_rfl) (rfl) (rfl) ((by simp [Value.oneCell'])) ?_
          simp only [Act.put]
          refine g_look rfl rfl ?_ (fun w' hC => ?_) ?_
          rotate_left
          · go_simp
            first | done | rfl
          simp only [Act.put, List.setIfInBounds_toArray, List.set_cons_zero, List.set_cons_succ]
          refine g_end ?_
          intro w5 hC5 hh5
          have S5 : Hid (Stays [(gr, Obj.cells #[.string ⟨#[77, 105]⟩, .int .i64 0, .int .i64 20] 54 (0, 0)), ((gr + 1), Obj.cells sufT 54 (0, 0)), (gx, Obj.cells #[.string ⟨#[77, 105]⟩, .int .i64 0, .int .i64 20] 54 (0, 0))] w w5) := Lib.hid (stays_cons ((hh5 _ _ _ (own_new _ _ _ _)).1) (stays_cons (stays_row hC5 (List.mem_cons_self ..)) (stays_cons (stays_row hC5 (List.mem_cons_of_mem _ (List.mem_cons_self ..))) (stays_nil (stays_below hC5)))))
          clear S4
          clear hC5 hh5
          go_wp2_with fail
          refine bodyPost_ret (v := .tuple #[.agg #[.string ⟨#[77, 105]⟩, .int .i64 0, .int .i64 20], .bool true]) (results_suf28 (stays_head S5.out)) rfl ⟨congrArg Ending.returned (by rfl), stays_below S5.out⟩
        · go_upto_region 4 with fail
          refine reg_plain (Stays [(gr, Obj.cells Z3 54 (0, 0)), ((gr + 1), Obj.cells sufT 54 (0, 0)), (gx, Obj.cells #[.string ⟨#[77, 105]⟩, .int .i64 0, .int .i64 20] 54 (0, 0))] w) (Turns [(gr, Obj.cells Z3 54 (0, 0)), ((gr + 1), Obj.cells sufT 54 (0, 0)), (gx, Obj.cells #[.string ⟨#[77, 105]⟩, .int .i64 0, .int .i64 20] 54 (0, 0))] w) (kdOf []) none0 (stays_good _ _) (S3.out) (holds0 _) ?_
          refine g_look rfl rfl ?_ (fun w' hC => ?_) ?_
          rotate_left
          · clear hC
            go_simp
            first | done | rfl | exact ⟨rfl, rfl⟩
          simp only [Act.put, List.setIfInBounds_toArray, List.set_cons_zero, List.set_cons_succ]
          refine g_look rfl rfl ?_ (fun w' hC => ?_) ?_
          rotate_left
          · have c : w'.heap[gx]? = some (.cells #[.string ⟨#[77, 105]⟩, .int .i64 0, .int .i64 20] 54 (0, 0)) := stays_head (stays_tail (stays_tail hC))
            have c0 : w'.cell? ⟨gx, 0, none⟩ = some (.string ⟨#[77, 105]⟩) := (cell_of_row _ _ _ _ _ _ c).trans rfl
            clear hC c
            go_simp
            first | done | rfl
          simp only [Act.put, List.setIfInBounds_toArray, List.set_cons_zero, List.set_cons_succ]
          refine g_look rfl rfl ?_ (fun w' hC => ?_) ?_
          rotate_left
          · go_simp
            first | done | rfl
          simp only [Act.put, List.setIfInBounds_toArray, List.set_cons_zero, List.set_cons_succ]
          refine g_look rfl rfl (.bool false) (fun w' hC => ?_) ?_
          · clear hC
            go_simp
            first | done | exact beq_eq_false_iff_ne.2 (fun e => heq e.symm) | (intro e; exact heq e.symm) | exact fun e => heq e.symm
          simp only [Act.put, List.setIfInBounds_toArray, List.set_cons_zero, List.set_cons_succ]
          refine g_end ?_
          intro w4 hC4 hh4
          have S4 : Hid (Stays [(gr, Obj.cells Z3 54 (0, 0)), ((gr + 1), Obj.cells sufT 54 (0, 0))] w w4) := Lib.hid (stays_cons (stays_row hC4 (List.mem_cons_self ..)) (stays_cons (stays_row hC4 (List.mem_cons_of_mem _ (List.mem_cons_self ..))) (stays_nil (stays_below hC4))))
          clear S3
          clear hC4 hh4
          have HN2 : Hid (∀ r ∈ sufL.take 5, r.1 ≠ l) := Lib.hid (by
            intro r hr
            by_cases hk' : r ∈ sufL.take 4
            · exact HN.out r hk'
            · have : r = ([77, 105], 0, 20) := by
                simp [sufL] at hr hk'
                simp_all
              rw [this]
              exact fun e => heq e.symm)
          go_wp2_with fail
          go_roundw
          case rel => exact ⟨5, by omega, rfl, HN2, S4⟩
          case measure => show 16 - 5 < 16 - 4; omega
      · go_upto_region 3 with fail
        refine reg_plain (Stays [(gr, Obj.cells Z3 54 (0, 0)), ((gr + 1), Obj.cells sufT 54 (0, 0))] w) (Turns [(gr, Obj.cells Z3 54 (0, 0)), ((gr + 1), Obj.cells sufT 54 (0, 0))] w) (kdOf [(2, .make (fun _ => allocM (.cells Z3 54))), (3, .touch)]) none0 (stays_good _ _) (S2.out) (holds0 _) ?_
        refine g_look rfl rfl (.pointer (some ⟨gr + 1, 15, none⟩)) (fun w' hC => ?_) ?_
        · clear hC
          go_simp
          first | done | rfl | exact ⟨rfl, rfl⟩
        simp only [Act.put, List.setIfInBounds_toArray, List.set_cons_zero, List.set_cons_succ]
        refine g_look rfl rfl (.agg #[.string ⟨#[75, 105]⟩, .int .i64 0, .int .i64 10]) (fun w' hC => ?_) ?_
        · have c : w'.heap[gr + 1]? = some (.cells sufT 54 (0, 0)) := stays_head (stays_tail hC)
          have c0 : w'.cell? ⟨gr + 1, 15, none⟩ = some (.string ⟨#[75, 105]⟩) := (cell_of_row _ _ _ _ _ _ c).trans rfl
          have c1 : w'.cell? ⟨gr + 1, 16, none⟩ = some (.int .i64 0) := (cell_of_row _ _ _ _ _ _ c).trans rfl
          have c2 : w'.cell? ⟨gr + 1, 17, none⟩ = some (.int .i64 10) := (cell_of_row _ _ _ _ _ _ c).trans rfl
          clear hC c
          go_simp
          first | done | rfl
        simp only [Act.put, List.setIfInBounds_toArray, List.set_cons_zero, List.set_cons_succ]
        refine g_alloc (stays_good _ _) (.cells Z3 54) rfl rfl (fun w' hC => ?_) (fun gx tx nx => ?_)
        · clear hC
          go_simp
          first | done | rfl | exact ⟨rfl, rfl⟩
        clear nx
        replace tx := Lib.hid tx
        simp only [Act.put, List.setIfInBounds_toArray, List.set_cons_zero, List.set_cons_succ]
        refine g_store gx (some 2) 54 54 _ _ Z3 #[.string ⟨#[75, 105]⟩, .int .i64 0, .int .i64 10] rfl rfl rfl rfl rfl (own_new _ _ _ _) (by kernel_rfl) (rfl) (rfl) ((by simp [Value.oneCell'])) ?_
        simp only [Act.put]
        refine g_end ?_
        intro w3 hC3 hh3
        have S3 : Hid (Stays [(gr, Obj.cells Z3 54 (0, 0)), ((gr + 1), Obj.cells sufT 54 (0, 0)), (gx, Obj.cells #[.string ⟨#[75, 105]⟩, .int .i64 0, .int .i64 10] 54 (0, 0))] w w3) := Lib.hid (stays_cons (stays_row hC3 (List.mem_cons_self ..)) (stays_cons (stays_row hC3 (List.mem_cons_of_mem _ (List.mem_cons_self ..))) (stays_cons ((hh3 _ _ _ (own_new _ _ _ _)).1) (stays_nil (stays_below hC3)))))
        clear S2
        clear hC3 hh3
        by_cases heq : l = [75, 105]
        · subst heq
          go_upto_region 4 with fail
          refine reg_plain (Stays [(gr, Obj.cells Z3 54 (0, 0)), ((gr + 1), Obj.cells sufT 54 (0, 0)), (gx, Obj.cells #[.string ⟨#[75, 105]⟩, .int .i64 0, .int .i64 10] 54 (0, 0))] w) (Turns [(gr, Obj.cells Z3 54 (0, 0)), ((gr + 1), Obj.cells sufT 54 (0, 0)), (gx, Obj.cells #[.string ⟨#[75, 105]⟩, .int .i64 0, .int .i64 10] 54 (0, 0))] w) (kdOf []) none0 (stays_good _ _) (S3.out) (holds0 _) ?_
          refine g_look rfl rfl ?_ (fun w' hC => ?_) ?_
          rotate_left
          · clear hC
            go_simp
            first | done | rfl | exact ⟨rfl, rfl⟩
          simp only [Act.put, List.setIfInBounds_toArray, List.set_cons_zero, List.set_cons_succ]
          refine g_look rfl rfl ?_ (fun w' hC => ?_) ?_
          rotate_left
          · have c : w'.heap[gx]? = some (.cells #[.string ⟨#[75, 105]⟩, .int .i64 0, .int .i64 10] 54 (0, 0)) := stays_head (stays_tail (stays_tail hC))
            have c0 : w'.cell? ⟨gx, 0, none⟩ = some (.string ⟨#[75, 105]⟩) := (cell_of_row _ _ _ _ _ _ c).trans rfl
            clear hC c
            go_simp
            first | done | rfl
          simp only [Act.put, List.setIfInBounds_toArray, List.set_cons_zero, List.set_cons_succ]
          refine g_look rfl rfl ?_ (fun w' hC => ?_) ?_
          rotate_left
          · go_simp
            first | done | rfl
          simp only [Act.put, List.setIfInBounds_toArray, List.set_cons_zero, List.set_cons_succ]
          refine g_look rfl rfl (.bool true) (fun w' hC => ?_) ?_
          · clear hC
            go_simp
            first | done | rfl
          simp only [Act.put, List.setIfInBounds_toArray, List.set_cons_zero, List.set_cons_succ]
          refine g_end ?_
          intro w4 hC4 hh4
          have S4 : Hid (Stays [(gr, Obj.cells Z3 54 (0, 0)), ((gr + 1), Obj.cells sufT 54 (0, 0)), (gx, Obj.cells #[.string ⟨#[75, 105]⟩, .int .i64 0, .int .i64 10] 54 (0, 0))] w w4) := Lib.hid (stays_cons (stays_row hC4 (List.mem_cons_self ..)) (stays_cons (stays_row hC4 (List.mem_cons_of_mem _ (List.mem_cons_self ..))) (stays_cons (stays_row hC4 (List.mem_cons_of_mem _ (List.mem_cons_of_mem _ (List.mem_cons_self ..)))) (stays_nil (stays_below hC4)))))
          clear S3
          clear hC4 hh4
          go_upto_region 5 with fail
          refine reg_plain (Stays [((gr + 1), Obj.cells sufT 54 (0, 0)), (gx, Obj.cells #[.string ⟨#[75, 105]⟩, .int .i64 0, .int .i64 10] 54 (0, 0))] w) (Turns [((gr + 1), Obj.cells sufT 54 (0, 0)), (gx, Obj.cells #[.string ⟨#[75, 105]⟩, .int .i64 0, .int .i64 10] 54 (0, 0))] w) (kdOf [(1, .touch)]) (Own.has none0 gr (Obj.cells Z3 54 (0, 0))) (stays_good _ _) (stays_cons (stays_row S4.out (List.mem_cons_of_mem _ (List.mem_cons_self ..))) (stays_cons (stays_row S4.out (List.mem_cons_of_mem _ (List.mem_cons_of_mem _ (List.mem_cons_self ..)))) (stays_nil (stays_below S4.out)))) (holds_has (holds0 _) (stays_row S4.out (List.mem_cons_self ..)) (turns_cons (turns_head (turns_tail Tr.out |> fun _ => Tr.out)) (turns_cons (turns_head tx.out).symm (turns_nil Tr.out.2)))) ?_
          (refine g_load 54 _ gx 54 #[.string ⟨#[75, 105]⟩, .int .i64 0, .int .i64 10] (0, 0) _ rfl rfl rfl rfl (fun w' hC => stays_row hC (List.mem_cons_of_mem _ (List.mem_cons_self ..))) Try.underlying54 rfl (rfl) ?_)
          simp only [Act.put, List.setIfInBounds_toArray, List.set_cons_zero, List.set_cons_succ]
          refine g_store gr none 54 54 _ _ Z3 #[.string ⟨#[75, 105]⟩, .int .i64 0, .int .i64 10] rfl rfl rfl rfl rfl (has_same _ _ _) (by kernel_rfl) (rfl) (rfl) ((by simp [Value.oneCell'])) ?_
          simp only [Act.put]
          refine g_look rfl rfl ?_ (fun w' hC => ?_) ?_
          rotate_left
          · go_simp
            first | done | rfl
          simp only [Act.put, List.setIfInBounds_toArray, List.set_cons_zero, List.set_cons_succ]
          refine g_end ?_
          intro w5 hC5 hh5
          have S5 : Hid (Stays [(gr, Obj.cells #[.string ⟨#[75, 105]⟩, .int .i64 0, .int .i64 10] 54 (0, 0)), ((gr + 1), Obj.cells sufT 54 (0, 0)), (gx, Obj.cells #[.string ⟨#[75, 105]⟩, .int .i64 0, .int .i64 10] 54 (0, 0))] w w5) := Lib.hid (stays_cons ((hh5 _ _ _ (own_new _ _ _ _)).1) (stays_cons (stays_row hC5 (List.mem_cons_self ..)) (stays_cons (stays_row hC5 (List.mem_cons_of_mem _ (List.mem_cons_self ..))) (stays_nil (stays_below hC5)))))
          clear S4
          clear hC5 hh5
          go_wp2_with fail
          refine bodyPost_ret (v := .tuple #[.agg #[.string ⟨#[75, 105]⟩, .int .i64 0, .int .i64 10], .bool true]) (results_suf28 (stays_head S5.out)) rfl ⟨congrArg Ending.returned (by rfl), stays_below S5.out⟩
        · go_upto_region 4 with fail
          refine reg_plain (Stays [(gr, Obj.cells Z3 54 (0, 0)), ((gr + 1), Obj.cells sufT 54 (0, 0)), (gx, Obj.cells #[.string ⟨#[75, 105]⟩, .int .i64 0, .int .i64 10] 54 (0, 0))] w) (Turns [(gr, Obj.cells Z3 54 (0, 0)), ((gr + 1), Obj.cells sufT 54 (0, 0)), (gx, Obj.cells #[.string ⟨#[75, 105]⟩, .int .i64 0, .int .i64 10] 54 (0, 0))] w) (kdOf []) none0 (stays_good _ _) (S3.out) (holds0 _) ?_
          refine g_look rfl rfl ?_ (fun w' hC => ?_) ?_
          rotate_left
          · clear hC
            go_simp
            first | done | rfl | exact ⟨rfl, rfl⟩
          simp only [Act.put, List.setIfInBounds_toArray, List.set_cons_zero, List.set_cons_succ]
          refine g_look rfl rfl ?_ (fun w' hC => ?_) ?_
          rotate_left
          · have c : w'.heap[gx]? = some (.cells #[.string ⟨#[75, 105]⟩, .int .i64 0, .int .i64 10] 54 (0, 0)) := stays_head (stays_tail (stays_tail hC))
            have c0 : w'.cell? ⟨gx, 0, none⟩ = some (.string ⟨#[75, 105]⟩) := (cell_of_row _ _ _ _ _ _ c).trans rfl
            clear hC c
            go_simp
            first | done | rfl
          simp only [Act.put, List.setIfInBounds_toArray, List.set_cons_zero, List.set_cons_succ]
          refine g_look rfl rfl ?_ (fun w' hC => ?_) ?_
          rotate_left
          · go_simp
            first | done | rfl
          simp only [Act.put, List.setIfInBounds_toArray, List.set_cons_zero, List.set_cons_succ]
          refine g_look rfl rfl (.bool false) (fun w' hC => ?_) ?_
          · clear hC
            go_simp
            first | done | exact beq_eq_false_iff_ne.2 (fun e => heq e.symm) | (intro e; exact heq e.symm) | exact fun e => heq e.symm
          simp only [Act.put, List.setIfInBounds_toArray, List.set_cons_zero, List.set_cons_succ]
          refine g_end ?_
          intro w4 hC4 hh4
          have S4 : Hid (Stays [(gr, Obj.cells Z3 54 (0, 0)), ((gr + 1), Obj.cells sufT 54 (0, 0))] w w4) := Lib.hid (stays_cons (stays_row hC4 (List.mem_cons_self ..)) (stays_cons (stays_row hC4 (List.mem_cons_of_mem _ (List.mem_cons_self ..))) (stays_nil (stays_below hC4))))
          clear S3
          clear hC4 hh4
          have HN2 : Hid (∀ r ∈ sufL.take 6, r.1 ≠ l) := Lib.hid (by
            intro r hr
            by_cases hk' : r ∈ sufL.take 5
            · exact HN.out r hk'
            · have : r = ([75, 105], 0, 10) := by
                simp [sufL] at hr hk'
                simp_all
              rw [this]
              exact fun e => heq e.symm)
          go_wp2_with fail
          go_roundw
          case rel => exact ⟨6, by omega, rfl, HN2, S4⟩
          case measure => show 16 - 6 < 16 - 5; omega
      · go_upto_region 3 with fail
        refine reg_plain (Stays [(gr, Obj.cells Z3 54 (0, 0)), ((gr + 1), Obj.cells sufT 54 (0, 0))] w) (Turns [(gr, Obj.cells Z3 54 (0, 0)), ((gr + 1), Obj.cells sufT 54 (0, 0))] w) (kdOf [(2, .make (fun _ => allocM (.cells Z3 54))), (3, .touch)]) none0 (stays_good _ _) (S2.out) (holds0 _) ?_
        refine g_look rfl rfl (.pointer (some ⟨gr + 1, 18, none⟩)) (fun w' hC => ?_) ?_
        · clear hC
          go_simp
          first | done | rfl | exact ⟨rfl, rfl⟩
        simp only [Act.put, List.setIfInBounds_toArray, List.set_cons_zero, List.set_cons_succ]
        refine g_look rfl rfl (.agg #[.string ⟨#[69]⟩, .int .i64 18, .int .i64 0]) (fun w' hC => ?_) ?_
        · have c : w'.heap[gr + 1]? = some (.cells sufT 54 (0, 0)) := stays_head (stays_tail hC)
          have c0 : w'.cell? ⟨gr + 1, 18, none⟩ = some (.string ⟨#[69]⟩) := (cell_of_row _ _ _ _ _ _ c).trans rfl
          have c1 : w'.cell? ⟨gr + 1, 19, none⟩ = some (.int .i64 18) := (cell_of_row _ _ _ _ _ _ c).trans rfl
          have c2 : w'.cell? ⟨gr + 1, 20, none⟩ = some (.int .i64 0) := (cell_of_row _ _ _ _ _ _ c).trans rfl
          clear hC c
          go_simp
          first | done | rfl
        simp only [Act.put, List.setIfInBounds_toArray, List.set_cons_zero, List.set_cons_succ]
        refine g_alloc (stays_good _ _) (.cells Z3 54) rfl rfl (fun w' hC => ?_) (fun gx tx nx => ?_)
        · clear hC
          go_simp
          first | done | rfl | exact ⟨rfl, rfl⟩
        clear nx
        replace tx := Lib.hid tx
        simp only [Act.put, List.setIfInBounds_toArray, List.set_cons_zero, List.set_cons_succ]
        refine g_store gx (some 2) 54 54 _ _ Z3 #[.string ⟨#[69]⟩, .int .i64 18, .int .i64 0] rfl rfl rfl rfl rfl (own_new _ _ _ _) (by kernel_rfl) (rfl) (rfl) ((by simp [Value.oneCell'])) ?_
        simp only [Act.put]
        refine g_end ?_
        intro w3 hC3 hh3
        have S3 : Hid (Stays [(gr, Obj.cells Z3 54 (0, 0)), ((gr + 1), Obj.cells sufT 54 (0, 0)), (gx, Obj.cells #[.string ⟨#[69]⟩, .int .i64 18, .int .i64 0] 54 (0, 0))] w w3) := Lib.hid (stays_cons (stays_row hC3 (List.mem_cons_self ..)) (stays_cons (stays_row hC3 (List.mem_cons_of_mem _ (List.mem_cons_self ..))) (stays_cons ((hh3 _ _ _ (own_new _ _ _ _)).1) (stays_nil (stays_below hC3)))))
        clear S2
        clear hC3 hh3
        by_cases heq : l = [69]
        · subst heq
          go_upto_region 4 with fail
          refine reg_plain (Stays [(gr, Obj.cells Z3 54 (0, 0)), ((gr + 1), Obj.cells sufT 54 (0, 0)), (gx, Obj.cells #[.string ⟨#[69]⟩, .int .i64 18, .int .i64 0] 54 (0, 0))] w) (Turns [(gr, Obj.cells Z3 54 (0, 0)), ((gr + 1), Obj.cells sufT 54 (0, 0)), (gx, Obj.cells #[.string ⟨#[69]⟩, .int .i64 18, .int .i64 0] 54 (0, 0))] w) (kdOf []) none0 (stays_good _ _) (S3.out) (holds0 _) ?_
          refine g_look rfl rfl ?_ (fun w' hC => ?_) ?_
          rotate_left
          · clear hC
            go_simp
            first | done | rfl | exact ⟨rfl, rfl⟩
          simp only [Act.put, List.setIfInBounds_toArray, List.set_cons_zero, List.set_cons_succ]
          refine g_look rfl rfl ?_ (fun w' hC => ?_) ?_
          rotate_left
          · have c : w'.heap[gx]? = some (.cells #[.string ⟨#[69]⟩, .int .i64 18, .int .i64 0] 54 (0, 0)) := stays_head (stays_tail (stays_tail hC))
            have c0 : w'.cell? ⟨gx, 0, none⟩ = some (.string ⟨#[69]⟩) := (cell_of_row _ _ _ _ _ _ c).trans rfl
            clear hC c
            go_simp
            first | done | rfl
          simp only [Act.put, List.setIfInBounds_toArray, List.set_cons_zero, List.set_cons_succ]
          refine g_look rfl rfl ?_ (fun w' hC => ?_) ?_
          rotate_left
          · go_simp
            first | done | rfl
          simp only [Act.put, List.setIfInBounds_toArray, List.set_cons_zero, List.set_cons_succ]
          refine g_look rfl rfl (.bool true) (fun w' hC => ?_) ?_
          · clear hC
            go_simp
            first | done | rfl
          simp only [Act.put, List.setIfInBounds_toArray, List.set_cons_zero, List.set_cons_succ]
          refine g_end ?_
          intro w4 hC4 hh4
          have S4 : Hid (Stays [(gr, Obj.cells Z3 54 (0, 0)), ((gr + 1), Obj.cells sufT 54 (0, 0)), (gx, Obj.cells #[.string ⟨#[69]⟩, .int .i64 18, .int .i64 0] 54 (0, 0))] w w4) := Lib.hid (stays_cons (stays_row hC4 (List.mem_cons_self ..)) (stays_cons (stays_row hC4 (List.mem_cons_of_mem _ (List.mem_cons_self ..))) (stays_cons (stays_row hC4 (List.mem_cons_of_mem _ (List.mem_cons_of_mem _ (List.mem_cons_self ..)))) (stays_nil (stays_below hC4)))))
          clear S3
          clear hC4 hh4
          go_upto_region 5 with fail
          refine reg_plain (Stays [((gr + 1), Obj.cells sufT 54 (0, 0)), (gx, Obj.cells #[.string ⟨#[69]⟩, .int .i64 18, .int .i64 0] 54 (0, 0))] w) (Turns [((gr + 1), Obj.cells sufT 54 (0, 0)), (gx, Obj.cells #[.string ⟨#[69]⟩, .int .i64 18, .int .i64 0] 54 (0, 0))] w) (kdOf [(1, .touch)]) (Own.has none0 gr (Obj.cells Z3 54 (0, 0))) (stays_good _ _) (stays_cons (stays_row S4.out (List.mem_cons_of_mem _ (List.mem_cons_self ..))) (stays_cons (stays_row S4.out (List.mem_cons_of_mem _ (List.mem_cons_of_mem _ (List.mem_cons_self ..)))) (stays_nil (stays_below S4.out)))) (holds_has (holds0 _) (stays_row S4.out (List.mem_cons_self ..)) (turns_cons (turns_head (turns_tail Tr.out |> fun _ => Tr.out)) (turns_cons (turns_head tx.out).symm (turns_nil Tr.out.2)))) ?_
          (refine g_load 54 _ gx 54 #[.string ⟨#[69]⟩, .int .i64 18, .int .i64 0] (0, 0) _ rfl rfl rfl rfl (fun w' hC => stays_row hC (List.mem_cons_of_mem _ (List.mem_cons_self ..))) Try.underlying54 rfl (rfl) ?_)
          simp only [Act.put, List.setIfInBounds_toArray, List.set_cons_zero, List.set_cons_succ]
          refine g_store gr none 54 54 _ _ Z3 #[.string ⟨#[69]⟩, .int .i64 18, .int .i64 0] rfl rfl rfl rfl rfl (has_same _ _ _) (by kernel_rfl) (rfl) (rfl) ((by simp [Value.oneCell'])) ?_
          simp only [Act.put]
          refine g_look rfl rfl ?_ (fun w' hC => ?_) ?_
          rotate_left
          · go_simp
            first | done | rfl
          simp only [Act.put, List.setIfInBounds_toArray, List.set_cons_zero, List.set_cons_succ]
          refine g_end ?_
          intro w5 hC5 hh5
          have S5 : Hid (Stays [(gr, Obj.cells #[.string ⟨#[69]⟩, .int .i64 18, .int .i64 0] 54 (0, 0)), ((gr + 1), Obj.cells sufT 54 (0, 0)), (gx, Obj.cells #[.string ⟨#[69]⟩, .int .i64 18, .int .i64 0] 54 (0, 0))] w w5) := Lib.hid (stays_cons ((hh5 _ _ _ (own_new _ _ _ _)).1) (stays_cons (stays_row hC5 (List.mem_cons_self ..)) (stays_cons (stays_row hC5 (List.mem_cons_of_mem _ (List.mem_cons_self ..))) (stays_nil (stays_below hC5)))))
          clear S4
          clear hC5 hh5
          go_wp2_with fail
          refine bodyPost_ret (v := .tuple #[.agg #[.string ⟨#[69]⟩, .int .i64 18, .int .i64 0], .bool true]) (results_suf28 (stays_head S5.out)) rfl ⟨congrArg Ending.returned (by rfl), stays_below S5.out⟩
        · go_upto_region 4 with fail
          refine reg_plain (Stays [(gr, Obj.cells Z3 54 (0, 0)), ((gr + 1), Obj.cells sufT 54 (0, 0)), (gx, Obj.cells #[.string ⟨#[69]⟩, .int .i64 18, .int .i64 0] 54 (0, 0))] w) (Turns [(gr, Obj.cells Z3 54 (0, 0)), ((gr + 1), Obj.cells sufT 54 (0, 0)), (gx, Obj.cells #[.string ⟨#[69]⟩, .int .i64 18, .int .i64 0] 54 (0, 0))] w) (kdOf []) none0 (stays_good _ _) (S3.out) (holds0 _) ?_
          refine g_look rfl rfl ?_ (fun w' hC => ?_) ?_
          rotate_left
          · clear hC
            go_simp
            first | done | rfl | exact ⟨rfl, rfl⟩
          simp only [Act.put, List.setIfInBounds_toArray, List.set_cons_zero, List.set_cons_succ]
          refine g_look rfl rfl ?_ (fun w' hC => ?_) ?_
          rotate_left
          · have c : w'.heap[gx]? = some (.cells #[.string ⟨#[69]⟩, .int .i64 18, .int .i64 0] 54 (0, 0)) := stays_head (stays_tail (stays_tail hC))
            have c0 : w'.cell? ⟨gx, 0, none⟩ = some (.string ⟨#[69]⟩) := (cell_of_row _ _ _ _ _ _ c).trans rfl
            clear hC c
            go_simp
            first | done | rfl
          simp only [Act.put, List.setIfInBounds_toArray, List.set_cons_zero, List.set_cons_succ]
          refine g_look rfl rfl ?_ (fun w' hC => ?_) ?_
          rotate_left
          · go_simp
            first | done | rfl
          simp only [Act.put, List.setIfInBounds_toArray, List.set_cons_zero, List.set_cons_succ]
          refine g_look rfl rfl (.bool false) (fun w' hC => ?_) ?_
          · clear hC
            go_simp
            first | done | exact beq_eq_false_iff_ne.2 (fun e => heq e.symm) | (intro e; exact heq e.symm) | exact fun e => heq e.symm
          simp only [Act.put, List.setIfInBounds_toArray, List.set_cons_zero, List.set_cons_succ]
          refine g_end ?_
          intro w4 hC4 hh4
          have S4 : Hid (Stays [(gr, Obj.cells Z3 54 (0, 0)), ((gr + 1), Obj.cells sufT 54 (0, 0))] w w4) := Lib.hid (stays_cons (stays_row hC4 (List.mem_cons_self ..)) (stays_cons (stays_row hC4 (List.mem_cons_of_mem _ (List.mem_cons_self ..))) (stays_nil (stays_below hC4))))
          clear S3
          clear hC4 hh4
          have HN2 : Hid (∀ r ∈ sufL.take 7, r.1 ≠ l) := Lib.hid (by
            intro r hr
            by_cases hk' : r ∈ sufL.take 6
            · exact HN.out r hk'
            · have : r = ([69], 18, 0) := by
                simp [sufL] at hr hk'
                simp_all
              rw [this]
              exact fun e => heq e.symm)
          go_wp2_with fail
          go_roundw
          case rel => exact ⟨7, by omega, rfl, HN2, S4⟩
          case measure => show 16 - 7 < 16 - 6; omega
      · go_upto_region 3 with fail
        refine reg_plain (Stays [(gr, Obj.cells Z3 54 (0, 0)), ((gr + 1), Obj.cells sufT 54 (0, 0))] w) (Turns [(gr, Obj.cells Z3 54 (0, 0)), ((gr + 1), Obj.cells sufT 54 (0, 0))] w) (kdOf [(2, .make (fun _ => allocM (.cells Z3 54))), (3, .touch)]) none0 (stays_good _ _) (S2.out) (holds0 _) ?_
        refine g_look rfl rfl (.pointer (some ⟨gr + 1, 21, none⟩)) (fun w' hC => ?_) ?_
        · clear hC
          go_simp
          first | done | rfl | exact ⟨rfl, rfl⟩
        simp only [Act.put, List.setIfInBounds_toArray, List.set_cons_zero, List.set_cons_succ]
        refine g_look rfl rfl (.agg #[.string ⟨#[80]⟩, .int .i64 15, .int .i64 0]) (fun w' hC => ?_) ?_
        · have c : w'.heap[gr + 1]? = some (.cells sufT 54 (0, 0)) := stays_head (stays_tail hC)
          have c0 : w'.cell? ⟨gr + 1, 21, none⟩ = some (.string ⟨#[80]⟩) := (cell_of_row _ _ _ _ _ _ c).trans rfl
          have c1 : w'.cell? ⟨gr + 1, 22, none⟩ = some (.int .i64 15) := (cell_of_row _ _ _ _ _ _ c).trans rfl
          have c2 : w'.cell? ⟨gr + 1, 23, none⟩ = some (.int .i64 0) := (cell_of_row _ _ _ _ _ _ c).trans rfl
          clear hC c
          go_simp
          first | done | rfl
        simp only [Act.put, List.setIfInBounds_toArray, List.set_cons_zero, List.set_cons_succ]
        refine g_alloc (stays_good _ _) (.cells Z3 54) rfl rfl (fun w' hC => ?_) (fun gx tx nx => ?_)
        · clear hC
          go_simp
          first | done | rfl | exact ⟨rfl, rfl⟩
        clear nx
        replace tx := Lib.hid tx
        simp only [Act.put, List.setIfInBounds_toArray, List.set_cons_zero, List.set_cons_succ]
        refine g_store gx (some 2) 54 54 _ _ Z3 #[.string ⟨#[80]⟩, .int .i64 15, .int .i64 0] rfl rfl rfl rfl rfl (own_new _ _ _ _) (by kernel_rfl) (rfl) (rfl) ((by simp [Value.oneCell'])) ?_
        simp only [Act.put]
        refine g_end ?_
        intro w3 hC3 hh3
        have S3 : Hid (Stays [(gr, Obj.cells Z3 54 (0, 0)), ((gr + 1), Obj.cells sufT 54 (0, 0)), (gx, Obj.cells #[.string ⟨#[80]⟩, .int .i64 15, .int .i64 0] 54 (0, 0))] w w3) := Lib.hid (stays_cons (stays_row hC3 (List.mem_cons_self ..)) (stays_cons (stays_row hC3 (List.mem_cons_of_mem _ (List.mem_cons_self ..))) (stays_cons ((hh3 _ _ _ (own_new _ _ _ _)).1) (stays_nil (stays_below hC3)))))
        clear S2
        clear hC3 hh3
        by_cases heq : l = [80]
        · subst heq
          go_upto_region 4 with fail
          refine reg_plain (Stays [(gr, Obj.cells Z3 54 (0, 0)), ((gr + 1), Obj.cells sufT 54 (0, 0)), (gx, Obj.cells #[.string ⟨#[80]⟩, .int .i64 15, .int .i64 0] 54 (0, 0))] w) (Turns [(gr, Obj.cells Z3 54 (0, 0)), ((gr + 1), Obj.cells sufT 54 (0, 0)), (gx, Obj.cells #[.string ⟨#[80]⟩, .int .i64 15, .int .i64 0] 54 (0, 0))] w) (kdOf []) none0 (stays_good _ _) (S3.out) (holds0 _) ?_
          refine g_look rfl rfl ?_ (fun w' hC => ?_) ?_
          rotate_left
          · clear hC
            go_simp
            first | done | rfl | exact ⟨rfl, rfl⟩
          simp only [Act.put, List.setIfInBounds_toArray, List.set_cons_zero, List.set_cons_succ]
          refine g_look rfl rfl ?_ (fun w' hC => ?_) ?_
          rotate_left
          · have c : w'.heap[gx]? = some (.cells #[.string ⟨#[80]⟩, .int .i64 15, .int .i64 0] 54 (0, 0)) := stays_head (stays_tail (stays_tail hC))
            have c0 : w'.cell? ⟨gx, 0, none⟩ = some (.string ⟨#[80]⟩) := (cell_of_row _ _ _ _ _ _ c).trans rfl
            clear hC c
            go_simp
            first | done | rfl
          simp only [Act.put, List.setIfInBounds_toArray, List.set_cons_zero, List.set_cons_succ]
          refine g_look rfl rfl ?_ (fun w' hC => ?_) ?_
          rotate_left
          · go_simp
            first | done | rfl
          simp only [Act.put, List.setIfInBounds_toArray, List.set_cons_zero, List.set_cons_succ]
          refine g_look rfl rfl (.bool true) (fun w' hC => ?_) ?_
          · clear hC
            go_simp
            first | done | rfl
          simp only [Act.put, List.setIfInBounds_toArray, List.set_cons_zero, List.set_cons_succ]
          refine g_end ?_
          intro w4 hC4 hh4
          have S4 : Hid (Stays [(gr, Obj.cells Z3 54 (0, 0)), ((gr + 1), Obj.cells sufT 54 (0, 0)), (gx, Obj.cells #[.string ⟨#[80]⟩, .int .i64 15, .int .i64 0] 54 (0, 0))] w w4) := Lib.hid (stays_cons (stays_row hC4 (List.mem_cons_self ..)) (stays_cons (stays_row hC4 (List.mem_cons_of_mem _ (List.mem_cons_self ..))) (stays_cons (stays_row hC4 (List.mem_cons_of_mem _ (List.mem_cons_of_mem _ (List.mem_cons_self ..)))) (stays_nil (stays_below hC4)))))
          clear S3
          clear hC4 hh4
          go_upto_region 5 with fail
          refine reg_plain (Stays [((gr + 1), Obj.cells sufT 54 (0, 0)), (gx, Obj.cells #[.string ⟨#[80]⟩, .int .i64 15, .int .i64 0] 54 (0, 0))] w) (Turns [((gr + 1), Obj.cells sufT 54 (0, 0)), (gx, Obj.cells #[.string ⟨#[80]⟩, .int .i64 15, .int .i64 0] 54 (0, 0))] w) (kdOf [(1, .touch)]) (Own.has none0 gr (Obj.cells Z3 54 (0, 0))) (stays_good _ _) (stays_cons (stays_row S4.out (List.mem_cons_of_mem _ (List.mem_cons_self ..))) (stays_cons (stays_row S4.out (List.mem_cons_of_mem _ (List.mem_cons_of_mem _ (List.mem_cons_self ..)))) (stays_nil (stays_below S4.out)))) (holds_has (holds0 _) (stays_row S4.out (List.mem_cons_self ..)) (turns_cons (turns_head (turns_tail Tr.out |> fun _ => Tr.out)) (turns_cons (turns_head tx.out).symm (turns_nil Tr.out.2)))) ?_
          (refine g_load 54 _ gx 54 #[.string ⟨#[80]⟩, .int .i64 15, .int .i64 0] (0, 0) _ rfl rfl rfl rfl (fun w' hC => stays_row hC (List.mem_cons_of_mem _ (List.mem_cons_self ..))) Try.underlying54 rfl (rfl) ?_)
          simp only [Act.put, List.setIfInBounds_toArray, List.set_cons_zero, List.set_cons_succ]
          refine g_store gr none 54 54 _ _ Z3 #[.string ⟨#[80]⟩, .int .i64 15, .int .i64 0] rfl rfl rfl rfl rfl (has_same _ _ _) (by kernel_rfl) (rfl) (rfl) ((by simp [Value.oneCell'])) ?_
          simp only [Act.put]
          refine g_look rfl rfl ?_ (fun w' hC => ?_) ?_
          rotate_left
          · go_simp
            first | done | rfl
          simp only [Act.put, List.setIfInBounds_toArray, List.set_cons_zero, List.set_cons_succ]
          refine g_end ?_
          intro w5 hC5 hh5
          have S5 : Hid (Stays [(gr, Obj.cells #[.string ⟨#[80]⟩, .int .i64 15, .int .i64 0] 54 (0, 0)), ((gr + 1), Obj.cells sufT 54 (0, 0)), (gx, Obj.cells #[.string ⟨#[80]⟩, .int .i64 15, .int .i64 0] 54 (0, 0))] w w5) := Lib.hid (stays_cons ((hh5 _ _ _ (own_new _ _ _ _)).1) (stays_cons (stays_row hC5 (List.mem_cons_self ..)) (stays_cons (stays_row hC5 (List.mem_cons_of_mem _ (List.mem_cons_self ..))) (stays_nil (stays_below hC5)))))
          clear S4
          clear hC5 hh5
          go_wp2_with fail
          refine bodyPost_ret (v := .tuple #[.agg #[.string ⟨#[80]⟩, .int .i64 15, .int .i64 0], .bool true]) (results_suf28 (stays_head S5.out)) rfl ⟨congrArg Ending.returned (by rfl), stays_below S5.out⟩
        · go_upto_region 4 with fail
          refine reg_plain (Stays [(gr, Obj.cells Z3 54 (0, 0)), ((gr + 1), Obj.cells sufT 54 (0, 0)), (gx, Obj.cells #[.string ⟨#[80]⟩, .int .i64 15, .int .i64 0] 54 (0, 0))] w) (Turns [(gr, Obj.cells Z3 54 (0, 0)), ((gr + 1), Obj.cells sufT 54 (0, 0)), (gx, Obj.cells #[.string ⟨#[80]⟩, .int .i64 15, .int .i64 0] 54 (0, 0))] w) (kdOf []) none0 (stays_good _ _) (S3.out) (holds0 _) ?_
          refine g_look rfl rfl ?_ (fun w' hC => ?_) ?_
          rotate_left
          · clear hC
            go_simp
            first | done | rfl | exact ⟨rfl, rfl⟩
          simp only [Act.put, List.setIfInBounds_toArray, List.set_cons_zero, List.set_cons_succ]
          refine g_look rfl rfl ?_ (fun w' hC => ?_) ?_
          rotate_left
          · have c : w'.heap[gx]? = some (.cells #[.string ⟨#[80]⟩, .int .i64 15, .int .i64 0] 54 (0, 0)) := stays_head (stays_tail (stays_tail hC))
            have c0 : w'.cell? ⟨gx, 0, none⟩ = some (.string ⟨#[80]⟩) := (cell_of_row _ _ _ _ _ _ c).trans rfl
            clear hC c
            go_simp
            first | done | rfl
          simp only [Act.put, List.setIfInBounds_toArray, List.set_cons_zero, List.set_cons_succ]
          refine g_look rfl rfl ?_ (fun w' hC => ?_) ?_
          rotate_left
          · go_simp
            first | done | rfl
          simp only [Act.put, List.setIfInBounds_toArray, List.set_cons_zero, List.set_cons_succ]
          refine g_look rfl rfl (.bool false) (fun w' hC => ?_) ?_
          · clear hC
            go_simp
            first | done | exact beq_eq_false_iff_ne.2 (fun e => heq e.symm) | (intro e; exact heq e.symm) | exact fun e => heq e.symm
          simp only [Act.put, List.setIfInBounds_toArray, List.set_cons_zero, List.set_cons_succ]
          refine g_end ?_
          intro w4 hC4 hh4
          have S4 : Hid (Stays [(gr, Obj.cells Z3 54 (0, 0)), ((gr + 1), Obj.cells sufT 54 (0, 0))] w w4) := Lib.hid (stays_cons (stays_row hC4 (List.mem_cons_self ..)) (stays_cons (stays_row hC4 (List.mem_cons_of_mem _ (List.mem_cons_self ..))) (stays_nil (stays_below hC4))))
          clear S3
          clear hC4 hh4
          have HN2 : Hid (∀ r ∈ sufL.take 8, r.1 ≠ l) := Lib.hid (by
            intro r hr
            by_cases hk' : r ∈ sufL.take 7
            · exact HN.out r hk'
            · have : r = ([80], 15, 0) := by
                simp [sufL] at hr hk'
                simp_all
              rw [this]
              exact fun e => heq e.symm)
          go_wp2_with fail
          go_roundw
          case rel => exact ⟨8, by omega, rfl, HN2, S4⟩
          case measure => show 16 - 8 < 16 - 7; omega
      · go_upto_region 3 with fail
        refine reg_plain (Stays [(gr, Obj.cells Z3 54 (0, 0)), ((gr + 1), Obj.cells sufT 54 (0, 0))] w) (Turns [(gr, Obj.cells Z3 54 (0, 0)), ((gr + 1), Obj.cells sufT 54 (0, 0))] w) (kdOf [(2, .make (fun _ => allocM (.cells Z3 54))), (3, .touch)]) none0 (stays_good _ _) (S2.out) (holds0 _) ?_
        refine g_look rfl rfl (.pointer (some ⟨gr + 1, 24, none⟩)) (fun w' hC => ?_) ?_
        · clear hC
          go_simp
          first | done | rfl | exact ⟨rfl, rfl⟩
        simp only [Act.put, List.setIfInBounds_toArray, List.set_cons_zero, List.set_cons_succ]
        refine g_look rfl rfl (.agg #[.string ⟨#[84]⟩, .int .i64 12, .int .i64 0]) (fun w' hC => ?_) ?_
        · have c : w'.heap[gr + 1]? = some (.cells sufT 54 (0, 0)) := stays_head (stays_tail hC)
          have c0 : w'.cell? ⟨gr + 1, 24, none⟩ = some (.string ⟨#[84]⟩) := (cell_of_row _ _ _ _ _ _ c).trans rfl
          have c1 : w'.cell? ⟨gr + 1, 25, none⟩ = some (.int .i64 12) := (cell_of_row _ _ _ _ _ _ c).trans rfl
          have c2 : w'.cell? ⟨gr + 1, 26, none⟩ = some (.int .i64 0) := (cell_of_row _ _ _ _ _ _ c).trans rfl
          clear hC c
          go_simp
          first | done | rfl
        simp only [Act.put, List.setIfInBounds_toArray, List.set_cons_zero, List.set_cons_succ]
        refine g_alloc (stays_good _ _) (.cells Z3 54) rfl rfl (fun w' hC => ?_) (fun gx tx nx => ?_)
        · clear hC
          go_simp
          first | done | rfl | exact ⟨rfl, rfl⟩
        clear nx
        replace tx := Lib.hid tx
        simp only [Act.put, List.setIfInBounds_toArray, List.set_cons_zero, List.set_cons_succ]
        refine g_store gx (some 2) 54 54 _ _ Z3 #[.string ⟨#[84]⟩, .int .i64 12, .int .i64 0] rfl rfl rfl rfl rfl (own_new _ _ _ _) (by kernel_rfl) (rfl) (rfl) ((by simp [Value.oneCell'])) ?_
        simp only [Act.put]
        refine g_end ?_
        intro w3 hC3 hh3
        have S3 : Hid (Stays [(gr, Obj.cells Z3 54 (0, 0)), ((gr + 1), Obj.cells sufT 54 (0, 0)), (gx, Obj.cells #[.string ⟨#[84]⟩, .int .i64 12, .int .i64 0] 54 (0, 0))] w w3) := Lib.hid (stays_cons (stays_row hC3 (List.mem_cons_self ..)) (stays_cons (stays_row hC3 (List.mem_cons_of_mem _ (List.mem_cons_self ..))) (stays_cons ((hh3 _ _ _ (own_new _ _ _ _)).1) (stays_nil (stays_below hC3)))))
        clear S2
        clear hC3 hh3
        by_cases heq : l = [84]
        · subst heq
          go_upto_region 4 with fail
          refine reg_plain (Stays [(gr, Obj.cells Z3 54 (0, 0)), ((gr + 1), Obj.cells sufT 54 (0, 0)), (gx, Obj.cells #[.string ⟨#[84]⟩, .int .i64 12, .int .i64 0] 54 (0, 0))] w) (Turns [(gr, Obj.cells Z3 54 (0, 0)), ((gr + 1), Obj.cells sufT 54 (0, 0)), (gx, Obj.cells #[.string ⟨#[84]⟩, .int .i64 12, .int .i64 0] 54 (0, 0))] w) (kdOf []) none0 (stays_good _ _) (S3.out) (holds0 _) ?_
          refine g_look rfl rfl ?_ (fun w' hC => ?_) ?_
          rotate_left
          · clear hC
            go_simp
            first | done | rfl | exact ⟨rfl, rfl⟩
          simp only [Act.put, List.setIfInBounds_toArray, List.set_cons_zero, List.set_cons_succ]
          refine g_look rfl rfl ?_ (fun w' hC => ?_) ?_
          rotate_left
          · have c : w'.heap[gx]? = some (.cells #[.string ⟨#[84]⟩, .int .i64 12, .int .i64 0] 54 (0, 0)) := stays_head (stays_tail (stays_tail hC))
            have c0 : w'.cell? ⟨gx, 0, none⟩ = some (.string ⟨#[84]⟩) := (cell_of_row _ _ _ _ _ _ c).trans rfl
            clear hC c
            go_simp
            first | done | rfl
          simp only [Act.put, List.setIfInBounds_toArray, List.set_cons_zero, List.set_cons_succ]
          refine g_look rfl rfl ?_ (fun w' hC => ?_) ?_
          rotate_left
          · go_simp
            first | done | rfl
          simp only [Act.put, List.setIfInBounds_toArray, List.set_cons_zero, List.set_cons_succ]
          refine g_look rfl rfl (.bool true) (fun w' hC => ?_) ?_
          · clear hC
            go_simp
            first | done | rfl
          simp only [Act.put, List.setIfInBounds_toArray, List.set_cons_zero, List.set_cons_succ]
          refine g_end ?_
          intro w4 hC4 hh4
          have S4 : Hid (Stays [(gr, Obj.cells Z3 54 (0, 0)), ((gr + 1), Obj.cells sufT 54 (0, 0)), (gx, Obj.cells #[.string ⟨#[84]⟩, .int .i64 12, .int .i64 0] 54 (0, 0))] w w4) := Lib.hid (stays_cons (stays_row hC4 (List.mem_cons_self ..)) (stays_cons (stays_row hC4 (List.mem_cons_of_mem _ (List.mem_cons_self ..))) (stays_cons (stays_row hC4 (List.mem_cons_of_mem _ (List.mem_cons_of_mem _ (List.mem_cons_self ..)))) (stays_nil (stays_below hC4)))))
          clear S3
          clear hC4 hh4
          go_upto_region 5 with fail
          refine reg_plain (Stays [((gr + 1), Obj.cells sufT 54 (0, 0)), (gx, Obj.cells #[.string ⟨#[84]⟩, .int .i64 12, .int .i64 0] 54 (0, 0))] w) (Turns [((gr + 1), Obj.cells sufT 54 (0, 0)), (gx, Obj.cells #[.string ⟨#[84]⟩, .int .i64 12, .int .i64 0] 54 (0, 0))] w) (kdOf [(1, .touch)]) (Own.has none0 gr (Obj.cells Z3 54 (0, 0))) (stays_good _ _) (stays_cons (stays_row S4.out (List.mem_cons_of_mem _ (List.mem_cons_self ..))) (stays_cons (stays_row S4.out (List.mem_cons_of_mem _ (List.mem_cons_of_mem _ (List.mem_cons_self ..)))) (stays_nil (stays_below S4.out)))) (holds_has (holds0 _) (stays_row S4.out (List.mem_cons_self ..)) (turns_cons (turns_head (turns_tail Tr.out |> fun _ => Tr.out)) (turns_cons (turns_head tx.out).symm (turns_nil Tr.out.2)))) ?_
          (refine g_load 54 _ gx 54 #[.string ⟨#[84]⟩, .int .i64 12, .int .i64 0] (0, 0) _ rfl rfl rfl rfl (fun w' hC => stays_row hC (List.mem_cons_of_mem _ (List.mem_cons_self ..))) Try.underlying54 rfl (rfl) ?_)
          simp only [Act.put, List.setIfInBounds_toArray, List.set_cons_zero, List.set_cons_succ]
          refine g_store gr none 54 54 _ _ Z3 #[.string ⟨#[84]⟩, .int .i64 12, .int .i64 0] rfl rfl rfl rfl rfl (has_same _ _ _) (by kernel_rfl) (rfl) (rfl) ((by simp [Value.oneCell'])) ?_
          simp only [Act.put]
          refine g_look rfl rfl ?_ (fun w' hC => ?_) ?_
          rotate_left
          · go_simp
            first | done | rfl
          simp only [Act.put, List.setIfInBounds_toArray, List.set_cons_zero, List.set_cons_succ]
          refine g_end ?_
          intro w5 hC5 hh5
          have S5 : Hid (Stays [(gr, Obj.cells #[.string ⟨#[84]⟩, .int .i64 12, .int .i64 0] 54 (0, 0)), ((gr + 1), Obj.cells sufT 54 (0, 0)), (gx, Obj.cells #[.string ⟨#[84]⟩, .int .i64 12, .int .i64 0] 54 (0, 0))] w w5) := Lib.hid (stays_cons ((hh5 _ _ _ (own_new _ _ _ _)).1) (stays_cons (stays_row hC5 (List.mem_cons_self ..)) (stays_cons (stays_row hC5 (List.mem_cons_of_mem _ (List.mem_cons_self ..))) (stays_nil (stays_below hC5)))))
          clear S4
          clear hC5 hh5
          go_wp2_with fail
          refine bodyPost_ret (v := .tuple #[.agg #[.string ⟨#[84]⟩, .int .i64 12, .int .i64 0], .bool true]) (results_suf28 (stays_head S5.out)) rfl ⟨congrArg Ending.returned (by rfl), stays_below S5.out⟩
        · go_upto_region 4 with fail
          refine reg_plain (Stays [(gr, Obj.cells Z3 54 (0, 0)), ((gr + 1), Obj.cells sufT 54 (0, 0)), (gx, Obj.cells #[.string ⟨#[84]⟩, .int .i64 12, .int .i64 0] 54 (0, 0))] w) (Turns [(gr, Obj.cells Z3 54 (0, 0)), ((gr + 1), Obj.cells sufT 54 (0, 0)), (gx, Obj.cells #[.string ⟨#[84]⟩, .int .i64 12, .int .i64 0] 54 (0, 0))] w) (kdOf []) none0 (stays_good _ _) (S3.out) (holds0 _) ?_
          refine g_look rfl rfl ?_ (fun w' hC => ?_) ?_
          rotate_left
          · clear hC
            go_simp
            first | done | rfl | exact ⟨rfl, rfl⟩
          simp only [Act.put, List.setIfInBounds_toArray, List.set_cons_zero, List.set_cons_succ]
          refine g_look rfl rfl ?_ (fun w' hC => ?_) ?_
          rotate_left
          · have c : w'.heap[gx]? = some (.cells #[.string ⟨#[84]⟩, .int .i64 12, .int .i64 0] 54 (0, 0)) := stays_head (stays_tail (stays_tail hC))
            have c0 : w'.cell? ⟨gx, 0, none⟩ = some (.string ⟨#[84]⟩) := (cell_of_row _ _ _ _ _ _ c).trans rfl
            clear hC c
            go_simp
            first | done | rfl
          simp only [Act.put, List.setIfInBounds_toArray, List.set_cons_zero, List.set_cons_succ]
          refine g_look rfl rfl ?_ (fun w' hC => ?_) ?_
          rotate_left
          · go_simp
            first | done | rfl
          simp only [Act.put, List.setIfInBounds_toArray, List.set_cons_zero, List.set_cons_succ]
          refine g_look rfl rfl (.bool false) (fun w' hC => ?_) ?_
          · clear hC
            go_simp
            first | done | exact beq_eq_false_iff_ne.2 (fun e => heq e.symm) | (intro e; exact heq e.symm) | exact fun e => heq e.symm
          simp only [Act.put, List.setIfInBounds_toArray, List.set_cons_zero, List.set_cons_succ]
          refine g_end ?_
          intro w4 hC4 hh4
          have S4 : Hid (Stays [(gr, Obj.cells Z3 54 (0, 0)), ((gr + 1), Obj.cells sufT 54 (0, 0))] w w4) := Lib.hid (stays_cons (stays_row hC4 (List.mem_cons_self ..)) (stays_cons (stays_row hC4 (List.mem_cons_of_mem _ (List.mem_cons_self ..))) (stays_nil (stays_below hC4))))
          clear S3
          clear hC4 hh4
          have HN2 : Hid (∀ r ∈ sufL.take 9, r.1 ≠ l) := Lib.hid (by
            intro r hr
            by_cases hk' : r ∈ sufL.take 8
            · exact HN.out r hk'
            · have : r = ([84], 12, 0) := by
                simp [sufL] at hr hk'
                simp_all
              rw [this]
              exact fun e => heq e.symm)
          go_wp2_with fail
          go_roundw
          case rel => exact ⟨9, by omega, rfl, HN2, S4⟩
          case measure => show 16 - 9 < 16 - 8; omega
      · go_upto_region 3 with fail
        refine reg_plain (Stays [(gr, Obj.cells Z3 54 (0, 0)), ((gr + 1), Obj.cells sufT 54 (0, 0))] w) (Turns [(gr, Obj.cells Z3 54 (0, 0)), ((gr + 1), Obj.cells sufT 54 (0, 0))] w) (kdOf [(2, .make (fun _ => allocM (.cells Z3 54))), (3, .touch)]) none0 (stays_good _ _) (S2.out) (holds0 _) ?_
        refine g_look rfl rfl (.pointer (some ⟨gr + 1, 27, none⟩)) (fun w' hC => ?_) ?_
        · clear hC
          go_simp
          first | done | rfl | exact ⟨rfl, rfl⟩
        simp only [Act.put, List.setIfInBounds_toArray, List.set_cons_zero, List.set_cons_succ]
        refine g_look rfl rfl (.agg #[.string ⟨#[71]⟩, .int .i64 9, .int .i64 0]) (fun w' hC => ?_) ?_
        · have c : w'.heap[gr + 1]? = some (.cells sufT 54 (0, 0)) := stays_head (stays_tail hC)
          have c0 : w'.cell? ⟨gr + 1, 27, none⟩ = some (.string ⟨#[71]⟩) := (cell_of_row _ _ _ _ _ _ c).trans rfl
          have c1 : w'.cell? ⟨gr + 1, 28, none⟩ = some (.int .i64 9) := (cell_of_row _ _ _ _ _ _ c).trans rfl
          have c2 : w'.cell? ⟨gr + 1, 29, none⟩ = some (.int .i64 0) := (cell_of_row _ _ _ _ _ _ c).trans rfl
          clear hC c
          go_simp
          first | done | rfl
        simp only [Act.put, List.setIfInBounds_toArray, List.set_cons_zero, List.set_cons_succ]
        refine g_alloc (stays_good _ _) (.cells Z3 54) rfl rfl (fun w' hC => ?_) (fun gx tx nx => ?_)
        · clear hC
          go_simp
          first | done | rfl | exact ⟨rfl, rfl⟩
        clear nx
        replace tx := Lib.hid tx
        simp only [Act.put, List.setIfInBounds_toArray, List.set_cons_zero, List.set_cons_succ]
        refine g_store gx (some 2) 54 54 _ _ Z3 #[.string ⟨#[71]⟩, .int .i64 9, .int .i64 0] rfl rfl rfl rfl rfl (own_new _ _ _ _) (by kernel_rfl) (rfl) (rfl) ((by simp [Value.oneCell'])) ?_
        simp only [Act.put]
        refine g_end ?_
        intro w3 hC3 hh3
        have S3 : Hid (Stays [(gr, Obj.cells Z3 54 (0, 0)), ((gr + 1), Obj.cells sufT 54 (0, 0)), (gx, Obj.cells #[.string ⟨#[71]⟩, .int .i64 9, .int .i64 0] 54 (0, 0))] w w3) := Lib.hid (stays_cons (stays_row hC3 (List.mem_cons_self ..)) (stays_cons (stays_row hC3 (List.mem_cons_of_mem _ (List.mem_cons_self ..))) (stays_cons ((hh3 _ _ _ (own_new _ _ _ _)).1) (stays_nil (stays_below hC3)))))
        clear S2
        clear hC3 hh3
        by_cases heq : l = [71]
        · subst heq
          go_upto_region 4 with fail
          refine reg_plain (Stays [(gr, Obj.cells Z3 54 (0, 0)), ((gr + 1), Obj.cells sufT 54 (0, 0)), (gx, Obj.cells #[.string ⟨#[71]⟩, .int .i64 9, .int .i64 0] 54 (0, 0))] w) (Turns [(gr, Obj.cells Z3 54 (0, 0)), ((gr + 1), Obj.cells sufT 54 (0, 0)), (gx, Obj.cells #[.string ⟨#[71]⟩, .int .i64 9, .int .i64 0] 54 (0, 0))] w) (kdOf []) none0 (stays_good _ _) (S3.out) (holds0 _) ?_
          refine g_look rfl rfl ?_ (fun w' hC => ?_) ?_
          rotate_left
          · clear hC
            go_simp
            first | done | rfl | exact ⟨rfl, rfl⟩
          simp only [Act.put, List.setIfInBounds_toArray, List.set_cons_zero, List.set_cons_succ]
          refine g_look rfl rfl ?_ (fun w' hC => ?_) ?_
          rotate_left
          · have c : w'.heap[gx]? = some (.cells #[.string ⟨#[71]⟩, .int .i64 9, .int .i64 0] 54 (0, 0)) := stays_head (stays_tail (stays_tail hC))
            have c0 : w'.cell? ⟨gx, 0, none⟩ = some (.string ⟨#[71]⟩) := (cell_of_row _ _ _ _ _ _ c).trans rfl
            clear hC c
            go_simp
            first | done | rfl
          simp only [Act.put, List.setIfInBounds_toArray, List.set_cons_zero, List.set_cons_succ]
          refine g_look rfl rfl ?_ (fun w' hC => ?_) ?_
          rotate_left
          · go_simp
            first | done | rfl
          simp only [Act.put, List.setIfInBounds_toArray, List.set_cons_zero, List.set_cons_succ]
          refine g_look rfl rfl (.bool true) (fun w' hC => ?_) ?_
          · clear hC
            go_simp
            first | done | rfl
          simp only [Act.put, List.setIfInBounds_toArray, List.set_cons_zero, List.set_cons_succ]
          refine g_end ?_
          intro w4 hC4 hh4
          have S4 : Hid (Stays [(gr, Obj.cells Z3 54 (0, 0)), ((gr + 1), Obj.cells sufT 54 (0, 0)), (gx, Obj.cells #[.string ⟨#[71]⟩, .int .i64 9, .int .i64 0] 54 (0, 0))] w w4) := Lib.hid (stays_cons (stays_row hC4 (List.mem_cons_self ..)) (stays_cons (stays_row hC4 (List.mem_cons_of_mem _ (List.mem_cons_self ..))) (stays_cons (stays_row hC4 (List.mem_cons_of_mem _ (List.mem_cons_of_mem _ (List.mem_cons_self ..)))) (stays_nil (stays_below hC4)))))
          clear S3
          clear hC4 hh4
          go_upto_region 5 with fail
          refine reg_plain (Stays [((gr + 1), Obj.cells sufT 54 (0, 0)), (gx, Obj.cells #[.string ⟨#[71]⟩, .int .i64 9, .int .i64 0] 54 (0, 0))] w) (Turns [((gr + 1), Obj.cells sufT 54 (0, 0)), (gx, Obj.cells #[.string ⟨#[71]⟩, .int .i64 9, .int .i64 0] 54 (0, 0))] w) (kdOf [(1, .touch)]) (Own.has none0 gr (Obj.cells Z3 54 (0, 0))) (stays_good _ _) (stays_cons (stays_row S4.out (List.mem_cons_of_mem _ (List.mem_cons_self ..))) (stays_cons (stays_row S4.out (List.mem_cons_of_mem _ (List.mem_cons_of_mem _ (List.mem_cons_self ..)))) (stays_nil (stays_below S4.out)))) (holds_has (holds0 _) (stays_row S4.out (List.mem_cons_self ..)) (turns_cons (turns_head (turns_tail Tr.out |> fun _ => Tr.out)) (turns_cons (turns_head tx.out).symm (turns_nil Tr.out.2)))) ?_
          (refine g_load 54 _ gx 54 #[.string ⟨#[71]⟩, .int .i64 9, .int .i64 0] (0, 0) _ rfl rfl rfl rfl (fun w' hC => stays_row hC (List.mem_cons_of_mem _ (List.mem_cons_self ..))) Try.underlying54 rfl (rfl) ?_)
          simp only [Act.put, List.setIfInBounds_toArray, List.set_cons_zero, List.set_cons_succ]
          refine g_store gr none 54 54 _ _ Z3 #[.string ⟨#[71]⟩, .int .i64 9, .int .i64 0] rfl rfl rfl rfl rfl (has_same _ _ _) (by kernel_rfl) (rfl) (rfl) ((by simp [Value.oneCell'])) ?_
          simp only [Act.put]
          refine g_look rfl rfl ?_ (fun w' hC => ?_) ?_
          rotate_left
          · go_simp
            first | done | rfl
          simp only [Act.put, List.setIfInBounds_toArray, List.set_cons_zero, List.set_cons_succ]
          refine g_end ?_
          intro w5 hC5 hh5
          have S5 : Hid (Stays [(gr, Obj.cells #[.string ⟨#[71]⟩, .int .i64 9, .int .i64 0] 54 (0, 0)), ((gr + 1), Obj.cells sufT 54 (0, 0)), (gx, Obj.cells #[.string ⟨#[71]⟩, .int .i64 9, .int .i64 0] 54 (0, 0))] w w5) := Lib.hid (stays_cons ((hh5 _ _ _ (own_new _ _ _ _)).1) (stays_cons (stays_row hC5 (List.mem_cons_self ..)) (stays_cons (stays_row hC5 (List.mem_cons_of_mem _ (List.mem_cons_self ..))) (stays_nil (stays_below hC5)))))
          clear S4
          clear hC5 hh5
          go_wp2_with fail
          refine bodyPost_ret (v := .tuple #[.agg #[.string ⟨#[71]⟩, .int .i64 9, .int .i64 0], .bool true]) (results_suf28 (stays_head S5.out)) rfl ⟨congrArg Ending.returned (by rfl), stays_below S5.out⟩
        · go_upto_region 4 with fail
          refine reg_plain (Stays [(gr, Obj.cells Z3 54 (0, 0)), ((gr + 1), Obj.cells sufT 54 (0, 0)), (gx, Obj.cells #[.string ⟨#[71]⟩, .int .i64 9, .int .i64 0] 54 (0, 0))] w) (Turns [(gr, Obj.cells Z3 54 (0, 0)), ((gr + 1), Obj.cells sufT 54 (0, 0)), (gx, Obj.cells #[.string ⟨#[71]⟩, .int .i64 9, .int .i64 0] 54 (0, 0))] w) (kdOf []) none0 (stays_good _ _) (S3.out) (holds0 _) ?_
          refine g_look rfl rfl ?_ (fun w' hC => ?_) ?_
          rotate_left
          · clear hC
            go_simp
            first | done | rfl | exact ⟨rfl, rfl⟩
          simp only [Act.put, List.setIfInBounds_toArray, List.set_cons_zero, List.set_cons_succ]
          refine g_look rfl rfl ?_ (fun w' hC => ?_) ?_
          rotate_left
          · have c : w'.heap[gx]? = some (.cells #[.string ⟨#[71]⟩, .int .i64 9, .int .i64 0] 54 (0, 0)) := stays_head (stays_tail (stays_tail hC))
            have c0 : w'.cell? ⟨gx, 0, none⟩ = some (.string ⟨#[71]⟩) := (cell_of_row _ _ _ _ _ _ c).trans rfl
            clear hC c
            go_simp
            first | done | rfl
          simp only [Act.put, List.setIfInBounds_toArray, List.set_cons_zero, List.set_cons_succ]
          refine g_look rfl rfl ?_ (fun w' hC => ?_) ?_
          rotate_left
          · go_simp
            first | done | rfl
          simp only [Act.put, List.setIfInBounds_toArray, List.set_cons_zero, List.set_cons_succ]
          refine g_look rfl rfl (.bool false) (fun w' hC => ?_) ?_
          · clear hC
            go_simp
            first | done | exact beq_eq_false_iff_ne.2 (fun e => heq e.symm) | (intro e; exact heq e.symm) | exact fun e => heq e.symm
          simp only [Act.put, List.setIfInBounds_toArray, List.set_cons_zero, List.set_cons_succ]
          refine g_end ?_
          intro w4 hC4 hh4
          have S4 : Hid (Stays [(gr, Obj.cells Z3 54 (0, 0)), ((gr + 1), Obj.cells sufT 54 (0, 0))] w w4) := Lib.hid (stays_cons (stays_row hC4 (List.mem_cons_self ..)) (stays_cons (stays_row hC4 (List.mem_cons_of_mem _ (List.mem_cons_self ..))) (stays_nil (stays_below hC4))))
          clear S3
          clear hC4 hh4
          have HN2 : Hid (∀ r ∈ sufL.take 10, r.1 ≠ l) := Lib.hid (by
            intro r hr
            by_cases hk' : r ∈ sufL.take 9
            · exact HN.out r hk'
            · have : r = ([71], 9, 0) := by
                simp [sufL] at hr hk'
                simp_all
              rw [this]
              exact fun e => heq e.symm)
          go_wp2_with fail
          go_roundw
          case rel => exact ⟨10, by omega, rfl, HN2, S4⟩
          case measure => show 16 - 10 < 16 - 9; omega
      · go_upto_region 3 with fail
        refine reg_plain (Stays [(gr, Obj.cells Z3 54 (0, 0)), ((gr + 1), Obj.cells sufT 54 (0, 0))] w) (Turns [(gr, Obj.cells Z3 54 (0, 0)), ((gr + 1), Obj.cells sufT 54 (0, 0))] w) (kdOf [(2, .make (fun _ => allocM (.cells Z3 54))), (3, .touch)]) none0 (stays_good _ _) (S2.out) (holds0 _) ?_
        refine g_look rfl rfl (.pointer (some ⟨gr + 1, 30, none⟩)) (fun w' hC => ?_) ?_
        · clear hC
          go_simp
          first | done | rfl | exact ⟨rfl, rfl⟩
        simp only [Act.put, List.setIfInBounds_toArray, List.set_cons_zero, List.set_cons_succ]
        refine g_look rfl rfl (.agg #[.string ⟨#[77]⟩, .int .i64 6, .int .i64 0]) (fun w' hC => ?_) ?_
        · have c : w'.heap[gr + 1]? = some (.cells sufT 54 (0, 0)) := stays_head (stays_tail hC)
          have c0 : w'.cell? ⟨gr + 1, 30, none⟩ = some (.string ⟨#[77]⟩) := (cell_of_row _ _ _ _ _ _ c).trans rfl
          have c1 : w'.cell? ⟨gr + 1, 31, none⟩ = some (.int .i64 6) := (cell_of_row _ _ _ _ _ _ c).trans rfl
          have c2 : w'.cell? ⟨gr + 1, 32, none⟩ = some (.int .i64 0) := (cell_of_row _ _ _ _ _ _ c).trans rfl
          clear hC c
          go_simp
          first | done | rfl
        simp only [Act.put, List.setIfInBounds_toArray, List.set_cons_zero, List.set_cons_succ]
        refine g_alloc (stays_good _ _) (.cells Z3 54) rfl rfl (fun w' hC => ?_) (fun gx tx nx => ?_)
        · clear hC
          go_simp
          first | done | rfl | exact ⟨rfl, rfl⟩
        clear nx
        replace tx := Lib.hid tx
        simp only [Act.put, List.setIfInBounds_toArray, List.set_cons_zero, List.set_cons_succ]
        refine g_store gx (some 2) 54 54 _ _ Z3 #[.string ⟨#[77]⟩, .int .i64 6, .int .i64 0] rfl rfl rfl rfl rfl (own_new _ _ _ _) (by kernel_rfl) (rfl) (rfl) ((by simp [Value.oneCell'])) ?_
        simp only [Act.put]
        refine g_end ?_
        intro w3 hC3 hh3
        have S3 : Hid (Stays [(gr, Obj.cells Z3 54 (0, 0)), ((gr + 1), Obj.cells sufT 54 (0, 0)), (gx, Obj.cells #[.string ⟨#[77]⟩, .int .i64 6, .int .i64 0] 54 (0, 0))] w w3) := Lib.hid (stays_cons (stays_row hC3 (List.mem_cons_self ..)) (stays_cons (stays_row hC3 (List.mem_cons_of_mem _ (List.mem_cons_self ..))) (stays_cons ((hh3 _ _ _ (own_new _ _ _ _)).1) (stays_nil (stays_below hC3)))))
        clear S2
        clear hC3 hh3
        by_cases heq : l = [77]
        · subst heq
          go_upto_region 4 with fail
          refine reg_plain (Stays [(gr, Obj.cells Z3 54 (0, 0)), ((gr + 1), Obj.cells sufT 54 (0, 0)), (gx, Obj.cells #[.string ⟨#[77]⟩, .int .i64 6, .int .i64 0] 54 (0, 0))] w) (Turns [(gr, Obj.cells Z3 54 (0, 0)), ((gr + 1), Obj.cells sufT 54 (0, 0)), (gx, Obj.cells #[.string ⟨#[77]⟩, .int .i64 6, .int .i64 0] 54 (0, 0))] w) (kdOf []) none0 (stays_good _ _) (S3.out) (holds0 _) ?_
          refine g_look rfl rfl ?_ (fun w' hC => ?_) ?_
          rotate_left
          · clear hC
            go_simp
            first | done | rfl | exact ⟨rfl, rfl⟩
          simp only [Act.put, List.setIfInBounds_toArray, List.set_cons_zero, List.set_cons_succ]
          refine g_look rfl rfl ?_ (fun w' hC => ?_) ?_
          rotate_left
          · have c : w'.heap[gx]? = some (.cells #[.string ⟨#[77]⟩, .int .i64 6, .int .i64 0] 54 (0, 0)) := stays_head (stays_tail (stays_tail hC))
            have c0 : w'.cell? ⟨gx, 0, none⟩ = some (.string ⟨#[77]⟩) := (cell_of_row _ _ _ _ _ _ c).trans rfl
            clear hC c
            go_simp
            first | done | rfl
          simp only [Act.put, List.setIfInBounds_toArray, List.set_cons_zero, List.set_cons_succ]
          refine g_look rfl rfl ?_ (fun w' hC => ?_) ?_
          rotate_left
          · go_simp
            first | done | rfl
          simp only [Act.put, List.setIfInBounds_toArray, List.set_cons_zero, List.set_cons_succ]
          refine g_look rfl rfl (.bool true) (fun w' hC => ?_) ?_
          · clear hC
            go_simp
            first | done | rfl
          simp only [Act.put, List.setIfInBounds_toArray, List.set_cons_zero, List.set_cons_succ]
          refine g_end ?_
          intro w4 hC4 hh4
          have S4 : Hid (Stays [(gr, Obj.cells Z3 54 (0, 0)), ((gr + 1), Obj.cells sufT 54 (0, 0)), (gx, Obj.cells #[.string ⟨#[77]⟩, .int .i64 6, .int .i64 0] 54 (0, 0))] w w4) := Lib.hid (stays_cons (stays_row hC4 (List.mem_cons_self ..)) (stays_cons (stays_row hC4 (List.mem_cons_of_mem _ (List.mem_cons_self ..))) (stays_cons (stays_row hC4 (List.mem_cons_of_mem _ (List.mem_cons_of_mem _ (List.mem_cons_self ..)))) (stays_nil (stays_below hC4)))))
          clear S3
          clear hC4 hh4
          go_upto_region 5 with fail
          refine reg_plain (Stays [((gr + 1), Obj.cells sufT 54 (0, 0)), (gx, Obj.cells #[.string ⟨#[77]⟩, .int .i64 6, .int .i64 0] 54 (0, 0))] w) (Turns [((gr + 1), Obj.cells sufT 54 (0, 0)), (gx, Obj.cells #[.string ⟨#[77]⟩, .int .i64 6, .int .i64 0] 54 (0, 0))] w) (kdOf [(1, .touch)]) (Own.has none0 gr (Obj.cells Z3 54 (0, 0))) (stays_good _ _) (stays_cons (stays_row S4.out (List.mem_cons_of_mem _ (List.mem_cons_self ..))) (stays_cons (stays_row S4.out (List.mem_cons_of_mem _ (List.mem_cons_of_mem _ (List.mem_cons_self ..)))) (stays_nil (stays_below S4.out)))) (holds_has (holds0 _) (stays_row S4.out (List.mem_cons_self ..)) (turns_cons (turns_head (turns_tail Tr.out |> fun _ => Tr.out)) (turns_cons (turns_head tx.out).symm (turns_nil Tr.out.2)))) ?_
          (refine g_load 54 _ gx 54 #[.string ⟨#[77]⟩, .int .i64 6, .int .i64 0] (0, 0) _ rfl rfl rfl rfl (fun w' hC => stays_row hC (List.mem_cons_of_mem _ (List.mem_cons_self ..))) Try.underlying54 rfl (rfl) ?_)
          simp only [Act.put, List.setIfInBounds_toArray, List.set_cons_zero, List.set_cons_succ]
          refine g_store gr none 54 54 _ _ Z3 #[.string ⟨#[77]⟩, .int .i64 6, .int .i64 0] rfl rfl rfl rfl rfl (has_same _ _ _) (by kernel_rfl) (rfl) (rfl) ((by simp [Value.oneCell'])) ?_
          simp only [Act.put]
          refine g_look rfl rfl ?_ (fun w' hC => ?_) ?_
          rotate_left
          · go_simp
            first | done | rfl
          simp only [Act.put, List.setIfInBounds_toArray, List.set_cons_zero, List.set_cons_succ]
          refine g_end ?_
          intro w5 hC5 hh5
          have S5 : Hid (Stays [(gr, Obj.cells #[.string ⟨#[77]⟩, .int .i64 6, .int .i64 0] 54 (0, 0)), ((gr + 1), Obj.cells sufT 54 (0, 0)), (gx, Obj.cells #[.string ⟨#[77]⟩, .int .i64 6, .int .i64 0] 54 (0, 0))] w w5) := Lib.hid (stays_cons ((hh5 _ _ _ (own_new _ _ _ _)).1) (stays_cons (stays_row hC5 (List.mem_cons_self ..)) (stays_cons (stays_row hC5 (List.mem_cons_of_mem _ (List.mem_cons_self ..))) (stays_nil (stays_below hC5)))))
          clear S4
          clear hC5 hh5
          go_wp2_with fail
          refine bodyPost_ret (v := .tuple #[.agg #[.string ⟨#[77]⟩, .int .i64 6, .int .i64 0], .bool true]) (results_suf28 (stays_head S5.out)) rfl ⟨congrArg Ending.returned (by rfl), stays_below S5.out⟩
        · go_upto_region 4 with fail
          refine reg_plain (Stays [(gr, Obj.cells Z3 54 (0, 0)), ((gr + 1), Obj.cells sufT 54 (0, 0)), (gx, Obj.cells #[.string ⟨#[77]⟩, .int .i64 6, .int .i64 0] 54 (0, 0))] w) (Turns [(gr, Obj.cells Z3 54 (0, 0)), ((gr + 1), Obj.cells sufT 54 (0, 0)), (gx, Obj.cells #[.string ⟨#[77]⟩, .int .i64 6, .int .i64 0] 54 (0, 0))] w) (kdOf []) none0 (stays_good _ _) (S3.out) (holds0 _) ?_
          refine g_look rfl rfl ?_ (fun w' hC => ?_) ?_
          rotate_left
          · clear hC
            go_simp
            first | done | rfl | exact ⟨rfl, rfl⟩
          simp only [Act.put, List.setIfInBounds_toArray, List.set_cons_zero, List.set_cons_succ]
          refine g_look rfl rfl ?_ (fun w' hC => ?_) ?_
          rotate_left
          · have c : w'.heap[gx]? = some (.cells #[.string ⟨#[77]⟩, .int .i64 6, .int .i64 0] 54 (0, 0)) := stays_head (stays_tail (stays_tail hC))
            have c0 : w'.cell? ⟨gx, 0, none⟩ = some (.string ⟨#[77]⟩) := (cell_of_row _ _ _ _ _ _ c).trans rfl
            clear hC c
            go_simp
            first | done | rfl
          simp only [Act.put, List.setIfInBounds_toArray, List.set_cons_zero, List.set_cons_succ]
          refine g_look rfl rfl ?_ (fun w' hC => ?_) ?_
          rotate_left
          · go_simp
            first | done | rfl
          simp only [Act.put, List.setIfInBounds_toArray, List.set_cons_zero, List.set_cons_succ]
          refine g_look rfl rfl (.bool false) (fun w' hC => ?_) ?_
          · clear hC
            go_simp
            first | done | exact beq_eq_false_iff_ne.2 (fun e => heq e.symm) | (intro e; exact heq e.symm) | exact fun e => heq e.symm
          simp only [Act.put, List.setIfInBounds_toArray, List.set_cons_zero, List.set_cons_succ]
          refine g_end ?_
          intro w4 hC4 hh4
          have S4 : Hid (Stays [(gr, Obj.cells Z3 54 (0, 0)), ((gr + 1), Obj.cells sufT 54 (0, 0))] w w4) := Lib.hid (stays_cons (stays_row hC4 (List.mem_cons_self ..)) (stays_cons (stays_row hC4 (List.mem_cons_of_mem _ (List.mem_cons_self ..))) (stays_nil (stays_below hC4))))
          clear S3
          clear hC4 hh4
          have HN2 : Hid (∀ r ∈ sufL.take 11, r.1 ≠ l) := Lib.hid (by
            intro r hr
            by_cases hk' : r ∈ sufL.take 10
            · exact HN.out r hk'
            · have : r = ([77], 6, 0) := by
                simp [sufL] at hr hk'
                simp_all
              rw [this]
              exact fun e => heq e.symm)
          go_wp2_with fail
          go_roundw
          case rel => exact ⟨11, by omega, rfl, HN2, S4⟩
          case measure => show 16 - 11 < 16 - 10; omega
      · go_upto_region 3 with fail
        refine reg_plain (Stays [(gr, Obj.cells Z3 54 (0, 0)), ((gr + 1), Obj.cells sufT 54 (0, 0))] w) (Turns [(gr, Obj.cells Z3 54 (0, 0)), ((gr + 1), Obj.cells sufT 54 (0, 0))] w) (kdOf [(2, .make (fun _ => allocM (.cells Z3 54))), (3, .touch)]) none0 (stays_good _ _) (S2.out) (holds0 _) ?_
        refine g_look rfl rfl (.pointer (some ⟨gr + 1, 33, none⟩)) (fun w' hC => ?_) ?_
        · clear hC
          go_simp
          first | done | rfl | exact ⟨rfl, rfl⟩
        simp only [Act.put, List.setIfInBounds_toArray, List.set_cons_zero, List.set_cons_succ]
        refine g_look rfl rfl (.agg #[.string ⟨#[107]⟩, .int .i64 3, .int .i64 0]) (fun w' hC => ?_) ?_
        · have c : w'.heap[gr + 1]? = some (.cells sufT 54 (0, 0)) := stays_head (stays_tail hC)
          have c0 : w'.cell? ⟨gr + 1, 33, none⟩ = some (.string ⟨#[107]⟩) := (cell_of_row _ _ _ _ _ _ c).trans rfl
          have c1 : w'.cell? ⟨gr + 1, 34, none⟩ = some (.int .i64 3) := (cell_of_row _ _ _ _ _ _ c).trans rfl
          have c2 : w'.cell? ⟨gr + 1, 35, none⟩ = some (.int .i64 0) := (cell_of_row _ _ _ _ _ _ c).trans rfl
          clear hC c
          go_simp
          first | done | rfl
        simp only [Act.put, List.setIfInBounds_toArray, List.set_cons_zero, List.set_cons_succ]
        refine g_alloc (stays_good _ _) (.cells Z3 54) rfl rfl (fun w' hC => ?_) (fun gx tx nx => ?_)
        · clear hC
          go_simp
          first | done | rfl | exact ⟨rfl, rfl⟩
        clear nx
        replace tx := Lib.hid tx
        simp only [Act.put, List.setIfInBounds_toArray, List.set_cons_zero, List.set_cons_succ]
        refine g_store gx (some 2) 54 54 _ _ Z3 #[.string ⟨#[107]⟩, .int .i64 3, .int .i64 0] rfl rfl rfl rfl rfl (own_new _ _ _ _) (by kernel_rfl) (rfl) (rfl) ((by simp [Value.oneCell'])) ?_
        simp only [Act.put]
        refine g_end ?_
        intro w3 hC3 hh3
        have S3 : Hid (Stays [(gr, Obj.cells Z3 54 (0, 0)), ((gr + 1), Obj.cells sufT 54 (0, 0)), (gx, Obj.cells #[.string ⟨#[107]⟩, .int .i64 3, .int .i64 0] 54 (0, 0))] w w3) := Lib.hid (stays_cons (stays_row hC3 (List.mem_cons_self ..)) (stays_cons (stays_row hC3 (List.mem_cons_of_mem _ (List.mem_cons_self ..))) (stays_cons ((hh3 _ _ _ (own_new _ _ _ _)).1) (stays_nil (stays_below hC3)))))
        clear S2
        clear hC3 hh3
        by_cases heq : l = [107]
        · subst heq
          go_upto_region 4 with fail
          refine reg_plain (Stays [(gr, Obj.cells Z3 54 (0, 0)), ((gr + 1), Obj.cells sufT 54 (0, 0)), (gx, Obj.cells #[.string ⟨#[107]⟩, .int .i64 3, .int .i64 0] 54 (0, 0))] w) (Turns [(gr, Obj.cells Z3 54 (0, 0)), ((gr + 1), Obj.cells sufT 54 (0, 0)), (gx, Obj.cells #[.string ⟨#[107]⟩, .int .i64 3, .int .i64 0] 54 (0, 0))] w) (kdOf []) none0 (stays_good _ _) (S3.out) (holds0 _) ?_
          refine g_look rfl rfl ?_ (fun w' hC => ?_) ?_
          rotate_left
          · clear hC
            go_simp
            first | done | rfl | exact ⟨rfl, rfl⟩
          simp only [Act.put, List.setIfInBounds_toArray, List.set_cons_zero, List.set_cons_succ]
          refine g_look rfl rfl ?_ (fun w' hC => ?_) ?_
          rotate_left
          · have c : w'.heap[gx]? = some (.cells #[.string ⟨#[107]⟩, .int .i64 3, .int .i64 0] 54 (0, 0)) := stays_head (stays_tail (stays_tail hC))
            have c0 : w'.cell? ⟨gx, 0, none⟩ = some (.string ⟨#[107]⟩) := (cell_of_row _ _ _ _ _ _ c).trans rfl
            clear hC c
            go_simp
            first | done | rfl
          simp only [Act.put, List.setIfInBounds_toArray, List.set_cons_zero, List.set_cons_succ]
          refine g_look rfl rfl ?_ (fun w' hC => ?_) ?_
          rotate_left
          · go_simp
            first | done | rfl
          simp only [Act.put, List.setIfInBounds_toArray, List.set_cons_zero, List.set_cons_succ]
          refine g_look rfl rfl (.bool true) (fun w' hC => ?_) ?_
          · clear hC
            go_simp
            first | done | rfl
          simp only [Act.put, List.setIfInBounds_toArray, List.set_cons_zero, List.set_cons_succ]
          refine g_end ?_
          intro w4 hC4 hh4
          have S4 : Hid (Stays [(gr, Obj.cells Z3 54 (0, 0)), ((gr + 1), Obj.cells sufT 54 (0, 0)), (gx, Obj.cells #[.string ⟨#[107]⟩, .int .i64 3, .int .i64 0] 54 (0, 0))] w w4) := Lib.hid (stays_cons (stays_row hC4 (List.mem_cons_self ..)) (stays_cons (stays_row hC4 (List.mem_cons_of_mem _ (List.mem_cons_self ..))) (stays_cons (stays_row hC4 (List.mem_cons_of_mem _ (List.mem_cons_of_mem _ (List.mem_cons_self ..)))) (stays_nil (stays_below hC4)))))
          clear S3
          clear hC4 hh4
          go_upto_region 5 with fail
          refine reg_plain (Stays [((gr + 1), Obj.cells sufT 54 (0, 0)), (gx, Obj.cells #[.string ⟨#[107]⟩, .int .i64 3, .int .i64 0] 54 (0, 0))] w) (Turns [((gr + 1), Obj.cells sufT 54 (0, 0)), (gx, Obj.cells #[.string ⟨#[107]⟩, .int .i64 3, .int .i64 0] 54 (0, 0))] w) (kdOf [(1, .touch)]) (Own.has none0 gr (Obj.cells Z3 54 (0, 0))) (stays_good _ _) (stays_cons (stays_row S4.out (List.mem_cons_of_mem _ (List.mem_cons_self ..))) (stays_cons (stays_row S4.out (List.mem_cons_of_mem _ (List.mem_cons_of_mem _ (List.mem_cons_self ..)))) (stays_nil (stays_below S4.out)))) (holds_has (holds0 _) (stays_row S4.out (List.mem_cons_self ..)) (turns_cons (turns_head (turns_tail Tr.out |> fun _ => Tr.out)) (turns_cons (turns_head tx.out).symm (turns_nil Tr.out.2)))) ?_
          (refine g_load 54 _ gx 54 #[.string ⟨#[107]⟩, .int .i64 3, .int .i64 0] (0, 0) _ rfl rfl rfl rfl (fun w' hC => stays_row hC (List.mem_cons_of_mem _ (List.mem_cons_self ..))) Try.underlying54 rfl (rfl) ?_)
          simp only [Act.put, List.setIfInBounds_toArray, List.set_cons_zero, List.set_cons_succ]
          refine g_store gr none 54 54 _ _ Z3 #[.string ⟨#[107]⟩, .int .i64 3, .int .i64 0] rfl rfl rfl rfl rfl (has_same _ _ _) (by kernel_rfl) (rfl) (rfl) ((by simp [Value.oneCell'])) ?_
          simp only [Act.put]
          refine g_look rfl rfl ?_ (fun w' hC => ?_) ?_
          rotate_left
          · go_simp
            first | done | rfl
          simp only [Act.put, List.setIfInBounds_toArray, List.set_cons_zero, List.set_cons_succ]
          refine g_end ?_
          intro w5 hC5 hh5
          have S5 : Hid (Stays [(gr, Obj.cells #[.string ⟨#[107]⟩, .int .i64 3, .int .i64 0] 54 (0, 0)), ((gr + 1), Obj.cells sufT 54 (0, 0)), (gx, Obj.cells #[.string ⟨#[107]⟩, .int .i64 3, .int .i64 0] 54 (0, 0))] w w5) := Lib.hid (stays_cons ((hh5 _ _ _ (own_new _ _ _ _)).1) (stays_cons (stays_row hC5 (List.mem_cons_self ..)) (stays_cons (stays_row hC5 (List.mem_cons_of_mem _ (List.mem_cons_self ..))) (stays_nil (stays_below hC5)))))
          clear S4
          clear hC5 hh5
          go_wp2_with fail
          refine bodyPost_ret (v := .tuple #[.agg #[.string ⟨#[107]⟩, .int .i64 3, .int .i64 0], .bool true]) (results_suf28 (stays_head S5.out)) rfl ⟨congrArg Ending.returned (by rfl), stays_below S5.out⟩
        · go_upto_region 4 with fail
          refine reg_plain (Stays [(gr, Obj.cells Z3 54 (0, 0)), ((gr + 1), Obj.cells sufT 54 (0, 0)), (gx, Obj.cells #[.string ⟨#[107]⟩, .int .i64 3, .int .i64 0] 54 (0, 0))] w) (Turns [(gr, Obj.cells Z3 54 (0, 0)), ((gr + 1), Obj.cells sufT 54 (0, 0)), (gx, Obj.cells #[.string ⟨#[107]⟩, .int .i64 3, .int .i64 0] 54 (0, 0))] w) (kdOf []) none0 (stays_good _ _) (S3.out) (holds0 _) ?_
          refine g_look rfl rfl ?_ (fun w' hC => ?_) ?_
          rotate_left
          · clear hC
            go_simp
            first | done | rfl | exact ⟨rfl, rfl⟩
          simp only [Act.put, List.setIfInBounds_toArray, List.set_cons_zero, List.set_cons_succ]
          refine g_look rfl rfl ?_ (fun w' hC => ?_) ?_
          rotate_left
          · have c : w'.heap[gx]? = some (.cells #[.string ⟨#[107]⟩, .int .i64 3, .int .i64 0] 54 (0, 0)) := stays_head (stays_tail (stays_tail hC))
            have c0 : w'.cell? ⟨gx, 0, none⟩ = some (.string ⟨#[107]⟩) := (cell_of_row _ _ _ _ _ _ c).trans rfl
            clear hC c
            go_simp
            first | done | rfl
          simp only [Act.put, List.setIfInBounds_toArray, List.set_cons_zero, List.set_cons_succ]
          refine g_look rfl rfl ?_ (fun w' hC => ?_) ?_
          rotate_left
          · go_simp
            first | done | rfl
          simp only [Act.put, List.setIfInBounds_toArray, List.set_cons_zero, List.set_cons_succ]
          refine g_look rfl rfl (.bool false) (fun w' hC => ?_) ?_
          · clear hC
            go_simp
            first | done | exact beq_eq_false_iff_ne.2 (fun e => heq e.symm) | (intro e; exact heq e.symm) | exact fun e => heq e.symm
          simp only [Act.put, List.setIfInBounds_toArray, List.set_cons_zero, List.set_cons_succ]
          refine g_end ?_
          intro w4 hC4 hh4
          have S4 : Hid (Stays [(gr, Obj.cells Z3 54 (0, 0)), ((gr + 1), Obj.cells sufT 54 (0, 0))] w w4) := Lib.hid (stays_cons (stays_row hC4 (List.mem_cons_self ..)) (stays_cons (stays_row hC4 (List.mem_cons_of_mem _ (List.mem_cons_self ..))) (stays_nil (stays_below hC4))))
          clear S3
          clear hC4 hh4
          have HN2 : Hid (∀ r ∈ sufL.take 12, r.1 ≠ l) := Lib.hid (by
            intro r hr
            by_cases hk' : r ∈ sufL.take 11
            · exact HN.out r hk'
            · have : r = ([107], 3, 0) := by
                simp [sufL] at hr hk'
                simp_all
              rw [this]
              exact fun e => heq e.symm)
          go_wp2_with fail
          go_roundw
          case rel => exact ⟨12, by omega, rfl, HN2, S4⟩
          case measure => show 16 - 12 < 16 - 11; omega
      · go_upto_region 3 with fail
        refine reg_plain (Stays [(gr, Obj.cells Z3 54 (0, 0)), ((gr + 1), Obj.cells sufT 54 (0, 0))] w) (Turns [(gr, Obj.cells Z3 54 (0, 0)), ((gr + 1), Obj.cells sufT 54 (0, 0))] w) (kdOf [(2, .make (fun _ => allocM (.cells Z3 54))), (3, .touch)]) none0 (stays_good _ _) (S2.out) (holds0 _) ?_
        refine g_look rfl rfl (.pointer (some ⟨gr + 1, 36, none⟩)) (fun w' hC => ?_) ?_
        · clear hC
          go_simp
          first | done | rfl | exact ⟨rfl, rfl⟩
        simp only [Act.put, List.setIfInBounds_toArray, List.set_cons_zero, List.set_cons_succ]
        refine g_look rfl rfl (.agg #[.string ⟨#[]⟩, .int .i64 0, .int .i64 0]) (fun w' hC => ?_) ?_
        · have c : w'.heap[gr + 1]? = some (.cells sufT 54 (0, 0)) := stays_head (stays_tail hC)
          have c0 : w'.cell? ⟨gr + 1, 36, none⟩ = some (.string ⟨#[]⟩) := (cell_of_row _ _ _ _ _ _ c).trans rfl
          have c1 : w'.cell? ⟨gr + 1, 37, none⟩ = some (.int .i64 0) := (cell_of_row _ _ _ _ _ _ c).trans rfl
          have c2 : w'.cell? ⟨gr + 1, 38, none⟩ = some (.int .i64 0) := (cell_of_row _ _ _ _ _ _ c).trans rfl
          clear hC c
          go_simp
          first | done | rfl
        simp only [Act.put, List.setIfInBounds_toArray, List.set_cons_zero, List.set_cons_succ]
        refine g_alloc (stays_good _ _) (.cells Z3 54) rfl rfl (fun w' hC => ?_) (fun gx tx nx => ?_)
        · clear hC
          go_simp
          first | done | rfl | exact ⟨rfl, rfl⟩
        clear nx
        replace tx := Lib.hid tx
        simp only [Act.put, List.setIfInBounds_toArray, List.set_cons_zero, List.set_cons_succ]
        refine g_store gx (some 2) 54 54 _ _ Z3 #[.string ⟨#[]⟩, .int .i64 0, .int .i64 0] rfl rfl rfl rfl rfl (own_new _ _ _ _) (by kernel_rfl) (rfl) (rfl) ((by simp [Value.oneCell'])) ?_
        simp only [Act.put]
        refine g_end ?_
        intro w3 hC3 hh3
        have S3 : Hid (Stays [(gr, Obj.cells Z3 54 (0, 0)), ((gr + 1), Obj.cells sufT 54 (0, 0)), (gx, Obj.cells #[.string ⟨#[]⟩, .int .i64 0, .int .i64 0] 54 (0, 0))] w w3) := Lib.hid (stays_cons (stays_row hC3 (List.mem_cons_self ..)) (stays_cons (stays_row hC3 (List.mem_cons_of_mem _ (List.mem_cons_self ..))) (stays_cons ((hh3 _ _ _ (own_new _ _ _ _)).1) (stays_nil (stays_below hC3)))))
        clear S2
        clear hC3 hh3
        by_cases heq : l = []
        · subst heq
          go_upto_region 4 with fail
          refine reg_plain (Stays [(gr, Obj.cells Z3 54 (0, 0)), ((gr + 1), Obj.cells sufT 54 (0, 0)), (gx, Obj.cells #[.string ⟨#[]⟩, .int .i64 0, .int .i64 0] 54 (0, 0))] w) (Turns [(gr, Obj.cells Z3 54 (0, 0)), ((gr + 1), Obj.cells sufT 54 (0, 0)), (gx, Obj.cells #[.string ⟨#[]⟩, .int .i64 0, .int .i64 0] 54 (0, 0))] w) (kdOf []) none0 (stays_good _ _) (S3.out) (holds0 _) ?_
          refine g_look rfl rfl ?_ (fun w' hC => ?_) ?_
          rotate_left
          · clear hC
            go_simp
            first | done | rfl | exact ⟨rfl, rfl⟩
          simp only [Act.put, List.setIfInBounds_toArray, List.set_cons_zero, List.set_cons_succ]
          refine g_look rfl rfl ?_ (fun w' hC => ?_) ?_
          rotate_left
          · have c : w'.heap[gx]? = some (.cells #[.string ⟨#[]⟩, .int .i64 0, .int .i64 0] 54 (0, 0)) := stays_head (stays_tail (stays_tail hC))
            have c0 : w'.cell? ⟨gx, 0, none⟩ = some (.string ⟨#[]⟩) := (cell_of_row _ _ _ _ _ _ c).trans rfl
            clear hC c
            go_simp
            first | done | rfl
          simp only [Act.put, List.setIfInBounds_toArray, List.set_cons_zero, List.set_cons_succ]
          refine g_look rfl rfl ?_ (fun w' hC => ?_) ?_
          rotate_left
          · go_simp
            first | done | rfl
          simp only [Act.put, List.setIfInBounds_toArray, List.set_cons_zero, List.set_cons_succ]
          refine g_look rfl rfl (.bool true) (fun w' hC => ?_) ?_
          · clear hC
            go_simp
            first | done | rfl
          simp only [Act.put, List.setIfInBounds_toArray, List.set_cons_zero, List.set_cons_succ]
          refine g_end ?_
          intro w4 hC4 hh4
          have S4 : Hid (Stays [(gr, Obj.cells Z3 54 (0, 0)), ((gr + 1), Obj.cells sufT 54 (0, 0)), (gx, Obj.cells #[.string ⟨#[]⟩, .int .i64 0, .int .i64 0] 54 (0, 0))] w w4) := Lib.hid (stays_cons (stays_row hC4 (List.mem_cons_self ..)) (stays_cons (stays_row hC4 (List.mem_cons_of_mem _ (List.mem_cons_self ..))) (stays_cons (stays_row hC4 (List.mem_cons_of_mem _ (List.mem_cons_of_mem _ (List.mem_cons_self ..)))) (stays_nil (stays_below hC4)))))
          clear S3
          clear hC4 hh4
          go_upto_region 5 with fail
          refine reg_plain (Stays [((gr + 1), Obj.cells sufT 54 (0, 0)), (gx, Obj.cells #[.string ⟨#[]⟩, .int .i64 0, .int .i64 0] 54 (0, 0))] w) (Turns [((gr + 1), Obj.cells sufT 54 (0, 0)), (gx, Obj.cells #[.string ⟨#[]⟩, .int .i64 0, .int .i64 0] 54 (0, 0))] w) (kdOf [(1, .touch)]) (Own.has none0 gr (Obj.cells Z3 54 (0, 0))) (stays_good _ _) (stays_cons (stays_row S4.out (List.mem_cons_of_mem _ (List.mem_cons_self ..))) (stays_cons (stays_row S4.out (List.mem_cons_of_mem _ (List.mem_cons_of_mem _ (List.mem_cons_self ..)))) (stays_nil (stays_below S4.out)))) (holds_has (holds0 _) (stays_row S4.out (List.mem_cons_self ..)) (turns_cons (turns_head (turns_tail Tr.out |> fun _ => Tr.out)) (turns_cons (turns_head tx.out).symm (turns_nil Tr.out.2)))) ?_
          (refine g_load 54 _ gx 54 #[.string ⟨#[]⟩, .int .i64 0, .int .i64 0] (0, 0) _ rfl rfl rfl rfl (fun w' hC => stays_row hC (List.mem_cons_of_mem _ (List.mem_cons_self ..))) Try.underlying54 rfl (rfl) ?_)
          simp only [Act.put, List.setIfInBounds_toArray, List.set_cons_zero, List.set_cons_succ]
          refine g_store gr none 54 54 _ _ Z3 #[.string ⟨#[]⟩, .int .i64 0, .int .i64 0] rfl rfl rfl rfl rfl (has_same _ _ _) (by kernel_rfl) (rfl) (rfl) ((by simp [Value.oneCell'])) ?_
          simp only [Act.put]
          refine g_look rfl rfl ?_ (fun w' hC => ?_) ?_
          rotate_left
          · go_simp
            first | done | rfl
          simp only [Act.put, List.setIfInBounds_toArray, List.set_cons_zero, List.set_cons_succ]
          refine g_end ?_
          intro w5 hC5 hh5
          have S5 : Hid (Stays [(gr, Obj.cells #[.string ⟨#[]⟩, .int .i64 0, .int .i64 0] 54 (0, 0)), ((gr + 1), Obj.cells sufT 54 (0, 0)), (gx, Obj.cells #[.string ⟨#[]⟩, .int .i64 0, .int .i64 0] 54 (0, 0))] w w5) := Lib.hid (stays_cons ((hh5 _ _ _ (own_new _ _ _ _)).1) (stays_cons (stays_row hC5 (List.mem_cons_self ..)) (stays_cons (stays_row hC5 (List.mem_cons_of_mem _ (List.mem_cons_self ..))) (stays_nil (stays_below hC5)))))
          clear S4
          clear hC5 hh5
          go_wp2_with fail
          refine bodyPost_ret (v := .tuple #[.agg #[.string ⟨#[]⟩, .int .i64 0, .int .i64 0], .bool true]) (results_suf28 (stays_head S5.out)) rfl ⟨congrArg Ending.returned (by rfl), stays_below S5.out⟩
        · go_upto_region 4 with fail
          refine reg_plain (Stays [(gr, Obj.cells Z3 54 (0, 0)), ((gr + 1), Obj.cells sufT 54 (0, 0)), (gx, Obj.cells #[.string ⟨#[]⟩, .int .i64 0, .int .i64 0] 54 (0, 0))] w) (Turns [(gr, Obj.cells Z3 54 (0, 0)), ((gr + 1), Obj.cells sufT 54 (0, 0)), (gx, Obj.cells #[.string ⟨#[]⟩, .int .i64 0, .int .i64 0] 54 (0, 0))] w) (kdOf []) none0 (stays_good _ _) (S3.out) (holds0 _) ?_
          refine g_look rfl rfl ?_ (fun w' hC => ?_) ?_
          rotate_left
          · clear hC
            go_simp
            first | done | rfl | exact ⟨rfl, rfl⟩
          simp only [Act.put, List.setIfInBounds_toArray, List.set_cons_zero, List.set_cons_succ]
          refine g_look rfl rfl ?_ (fun w' hC => ?_) ?_
          rotate_left
          · have c : w'.heap[gx]? = some (.cells #[.string ⟨#[]⟩, .int .i64 0, .int .i64 0] 54 (0, 0)) := stays_head (stays_tail (stays_tail hC))
            have c0 : w'.cell? ⟨gx, 0, none⟩ = some (.string ⟨#[]⟩) := (cell_of_row _ _ _ _ _ _ c).trans rfl
            clear hC c
            go_simp
            first | done | rfl
          simp only [Act.put, List.setIfInBounds_toArray, List.set_cons_zero, List.set_cons_succ]
          refine g_look rfl rfl ?_ (fun w' hC => ?_) ?_
          rotate_left
          · go_simp
            first | done | rfl
          simp only [Act.put, List.setIfInBounds_toArray, List.set_cons_zero, List.set_cons_succ]
          refine g_look rfl rfl (.bool false) (fun w' hC => ?_) ?_
          · clear hC
            go_simp
            first | done | exact beq_eq_false_iff_ne.2 (fun e => heq e.symm) | (intro e; exact heq e.symm) | exact fun e => heq e.symm
          simp only [Act.put, List.setIfInBounds_toArray, List.set_cons_zero, List.set_cons_succ]
          refine g_end ?_
          intro w4 hC4 hh4
          have S4 : Hid (Stays [(gr, Obj.cells Z3 54 (0, 0)), ((gr + 1), Obj.cells sufT 54 (0, 0))] w w4) := Lib.hid (stays_cons (stays_row hC4 (List.mem_cons_self ..)) (stays_cons (stays_row hC4 (List.mem_cons_of_mem _ (List.mem_cons_self ..))) (stays_nil (stays_below hC4))))
          clear S3
          clear hC4 hh4
          have HN2 : Hid (∀ r ∈ sufL.take 13, r.1 ≠ l) := Lib.hid (by
            intro r hr
            by_cases hk' : r ∈ sufL.take 12
            · exact HN.out r hk'
            · have : r = ([], 0, 0) := by
                simp [sufL] at hr hk'
                simp_all
              rw [this]
              exact fun e => heq e.symm)
          go_wp2_with fail
          go_roundw
          case rel => exact ⟨13, by omega, rfl, HN2, S4⟩
          case measure => show 16 - 13 < 16 - 12; omega
      · go_upto_region 3 with fail
        refine reg_plain (Stays [(gr, Obj.cells Z3 54 (0, 0)), ((gr + 1), Obj.cells sufT 54 (0, 0))] w) (Turns [(gr, Obj.cells Z3 54 (0, 0)), ((gr + 1), Obj.cells sufT 54 (0, 0))] w) (kdOf [(2, .make (fun _ => allocM (.cells Z3 54))), (3, .touch)]) none0 (stays_good _ _) (S2.out) (holds0 _) ?_
        refine g_look rfl rfl (.pointer (some ⟨gr + 1, 39, none⟩)) (fun w' hC => ?_) ?_
        · clear hC
          go_simp
          first | done | rfl | exact ⟨rfl, rfl⟩
        simp only [Act.put, List.setIfInBounds_toArray, List.set_cons_zero, List.set_cons_succ]
        refine g_look rfl rfl (.agg #[.string ⟨#[109]⟩, .int .i64 (-3), .int .i64 0]) (fun w' hC => ?_) ?_
        · have c : w'.heap[gr + 1]? = some (.cells sufT 54 (0, 0)) := stays_head (stays_tail hC)
          have c0 : w'.cell? ⟨gr + 1, 39, none⟩ = some (.string ⟨#[109]⟩) := (cell_of_row _ _ _ _ _ _ c).trans rfl
          have c1 : w'.cell? ⟨gr + 1, 40, none⟩ = some (.int .i64 (-3)) := (cell_of_row _ _ _ _ _ _ c).trans rfl
          have c2 : w'.cell? ⟨gr + 1, 41, none⟩ = some (.int .i64 0) := (cell_of_row _ _ _ _ _ _ c).trans rfl
          clear hC c
          go_simp
          first | done | rfl
        simp only [Act.put, List.setIfInBounds_toArray, List.set_cons_zero, List.set_cons_succ]
        refine g_alloc (stays_good _ _) (.cells Z3 54) rfl rfl (fun w' hC => ?_) (fun gx tx nx => ?_)
        · clear hC
          go_simp
          first | done | rfl | exact ⟨rfl, rfl⟩
        clear nx
        replace tx := Lib.hid tx
        simp only [Act.put, List.setIfInBounds_toArray, List.set_cons_zero, List.set_cons_succ]
        refine g_store gx (some 2) 54 54 _ _ Z3 #[.string ⟨#[109]⟩, .int .i64 (-3), .int .i64 0] rfl rfl rfl rfl rfl (own_new _ _ _ _) (by kernel_rfl) (rfl) (rfl) ((by simp [Value.oneCell'])) ?_
        simp only [Act.put]
        refine g_end ?_
        intro w3 hC3 hh3
        have S3 : Hid (Stays [(gr, Obj.cells Z3 54 (0, 0)), ((gr + 1), Obj.cells sufT 54 (0, 0)), (gx, Obj.cells #[.string ⟨#[109]⟩, .int .i64 (-3), .int .i64 0] 54 (0, 0))] w w3) := Lib.hid (stays_cons (stays_row hC3 (List.mem_cons_self ..)) (stays_cons (stays_row hC3 (List.mem_cons_of_mem _ (List.mem_cons_self ..))) (stays_cons ((hh3 _ _ _ (own_new _ _ _ _)).1) (stays_nil (stays_below hC3)))))
        clear S2
        clear hC3 hh3
        by_cases heq : l = [109]
        · subst heq
          go_upto_region 4 with fail
          refine reg_plain (Stays [(gr, Obj.cells Z3 54 (0, 0)), ((gr + 1), Obj.cells sufT 54 (0, 0)), (gx, Obj.cells #[.string ⟨#[109]⟩, .int .i64 (-3), .int .i64 0] 54 (0, 0))] w) (Turns [(gr, Obj.cells Z3 54 (0, 0)), ((gr + 1), Obj.cells sufT 54 (0, 0)), (gx, Obj.cells #[.string ⟨#[109]⟩, .int .i64 (-3), .int .i64 0] 54 (0, 0))] w) (kdOf []) none0 (stays_good _ _) (S3.out) (holds0 _) ?_
          refine g_look rfl rfl ?_ (fun w' hC => ?_) ?_
          rotate_left
          · clear hC
            go_simp
            first | done | rfl | exact ⟨rfl, rfl⟩
          simp only [Act.put, List.setIfInBounds_toArray, List.set_cons_zero, List.set_cons_succ]
          refine g_look rfl rfl ?_ (fun w' hC => ?_) ?_
          rotate_left
          · have c : w'.heap[gx]? = some (.cells #[.string ⟨#[109]⟩, .int .i64 (-3), .int .i64 0] 54 (0, 0)) := stays_head (stays_tail (stays_tail hC))
            have c0 : w'.cell? ⟨gx, 0, none⟩ = some (.string ⟨#[109]⟩) := (cell_of_row _ _ _ _ _ _ c).trans rfl
            clear hC c
            go_simp
            first | done | rfl
          simp only [Act.put, List.setIfInBounds_toArray, List.set_cons_zero, List.set_cons_succ]
          refine g_look rfl rfl ?_ (fun w' hC => ?_) ?_
          rotate_left
          · go_simp
            first | done | rfl
          simp only [Act.put, List.setIfInBounds_toArray, List.set_cons_zero, List.set_cons_succ]
          refine g_look rfl rfl (.bool true) (fun w' hC => ?_) ?_
          · clear hC
            go_simp
            first | done | rfl
          simp only [Act.put, List.setIfInBounds_toArray, List.set_cons_zero, List.set_cons_succ]
          refine g_end ?_
          intro w4 hC4 hh4
          have S4 : Hid (Stays [(gr, Obj.cells Z3 54 (0, 0)), ((gr + 1), Obj.cells sufT 54 (0, 0)), (gx, Obj.cells #[.string ⟨#[109]⟩, .int .i64 (-3), .int .i64 0] 54 (0, 0))] w w4) := Lib.hid (stays_cons (stays_row hC4 (List.mem_cons_self ..)) (stays_cons (stays_row hC4 (List.mem_cons_of_mem _ (List.mem_cons_self ..))) (stays_cons (stays_row hC4 (List.mem_cons_of_mem _ (List.mem_cons_of_mem _ (List.mem_cons_self ..)))) (stays_nil (stays_below hC4)))))
          clear S3
          clear hC4 hh4
          go_upto_region 5 with fail
          refine reg_plain (Stays [((gr + 1), Obj.cells sufT 54 (0, 0)), (gx, Obj.cells #[.string ⟨#[109]⟩, .int .i64 (-3), .int .i64 0] 54 (0, 0))] w) (Turns [((gr + 1), Obj.cells sufT 54 (0, 0)), (gx, Obj.cells #[.string ⟨#[109]⟩, .int .i64 (-3), .int .i64 0] 54 (0, 0))] w) (kdOf [(1, .touch)]) (Own.has none0 gr (Obj.cells Z3 54 (0, 0))) (stays_good _ _) (stays_cons (stays_row S4.out (List.mem_cons_of_mem _ (List.mem_cons_self ..))) (stays_cons (stays_row S4.out (List.mem_cons_of_mem _ (List.mem_cons_of_mem _ (List.mem_cons_self ..)))) (stays_nil (stays_below S4.out)))) (holds_has (holds0 _) (stays_row S4.out (List.mem_cons_self ..)) (turns_cons (turns_head (turns_tail Tr.out |> fun _ => Tr.out)) (turns_cons (turns_head tx.out).symm (turns_nil Tr.out.2)))) ?_
          (refine g_load 54 _ gx 54 #[.string ⟨#[109]⟩, .int .i64 (-3), .int .i64 0] (0, 0) _ rfl rfl rfl rfl (fun w' hC => stays_row hC (List.mem_cons_of_mem _ (List.mem_cons_self ..))) Try.underlying54 rfl (rfl) ?_)
          simp only [Act.put, List.setIfInBounds_toArray, List.set_cons_zero, List.set_cons_succ]
          refine g_store gr none 54 54 _ _ Z3 #[.string ⟨#[109]⟩, .int .i64 (-3), .int .i64 0] rfl rfl rfl rfl rfl (has_same _ _ _) (by kernel_rfl) (rfl) (rfl) ((by simp [Value.oneCell'])) ?_
          simp only [Act.put]
          refine g_look rfl rfl ?_ (fun w' hC => ?_) ?_
          rotate_left
          · go_simp
            first | done | rfl
          simp only [Act.put, List.setIfInBounds_toArray, List.set_cons_zero, List.set_cons_succ]
          refine g_end ?_
          intro w5 hC5 hh5
          have S5 : Hid (Stays [(gr, Obj.cells #[.string ⟨#[109]⟩, .int .i64 (-3), .int .i64 0] 54 (0, 0)), ((gr + 1), Obj.cells sufT 54 (0, 0)), (gx, Obj.cells #[.string ⟨#[109]⟩, .int .i64 (-3), .int .i64 0] 54 (0, 0))] w w5) := Lib.hid (stays_cons ((hh5 _ _ _ (own_new _ _ _ _)).1) (stays_cons (stays_row hC5 (List.mem_cons_self ..)) (stays_cons (stays_row hC5 (List.mem_cons_of_mem _ (List.mem_cons_self ..))) (stays_nil (stays_below hC5)))))
          clear S4
          clear hC5 hh5
          go_wp2_with fail
          refine bodyPost_ret (v := .tuple #[.agg #[.string ⟨#[109]⟩, .int .i64 (-3), .int .i64 0], .bool true]) (results_suf28 (stays_head S5.out)) rfl ⟨congrArg Ending.returned (by rfl), stays_below S5.out⟩
        · go_upto_region 4 with fail
          refine reg_plain (Stays [(gr, Obj.cells Z3 54 (0, 0)), ((gr + 1), Obj.cells sufT 54 (0, 0)), (gx, Obj.cells #[.string ⟨#[109]⟩, .int .i64 (-3), .int .i64 0] 54 (0, 0))] w) (Turns [(gr, Obj.cells Z3 54 (0, 0)), ((gr + 1), Obj.cells sufT 54 (0, 0)), (gx, Obj.cells #[.string ⟨#[109]⟩, .int .i64 (-3), .int .i64 0] 54 (0, 0))] w) (kdOf []) none0 (stays_good _ _) (S3.out) (holds0 _) ?_
          refine g_look rfl rfl ?_ (fun w' hC => ?_) ?_
          rotate_left
          · clear hC
            go_simp
            first | done | rfl | exact ⟨rfl, rfl⟩
          simp only [Act.put, List.setIfInBounds_toArray, List.set_cons_zero, List.set_cons_succ]
          refine g_look rfl rfl ?_ (fun w' hC => ?_) ?_
          rotate_left
          · have c : w'.heap[gx]? = some (.cells #[.string ⟨#[109]⟩, .int .i64 (-3), .int .i64 0] 54 (0, 0)) := stays_head (stays_tail (stays_tail hC))
            have c0 : w'.cell? ⟨gx, 0, none⟩ = some (.string ⟨#[109]⟩) := (cell_of_row _ _ _ _ _ _ c).trans rfl
            clear hC c
            go_simp
            first | done | rfl
          simp only [Act.put, List.setIfInBounds_toArray, List.set_cons_zero, List.set_cons_succ]
          refine g_look rfl rfl ?_ (fun w' hC => ?_) ?_
          rotate_left
          · go_simp
            first | done | rfl
          simp only [Act.put, List.setIfInBounds_toArray, List.set_cons_zero, List.set_cons_succ]
          refine g_look rfl rfl (.bool false) (fun w' hC => ?_) ?_
          · clear hC
            go_simp
            first | done | exact beq_eq_false_iff_ne.2 (fun e => heq e.symm) | (intro e; exact heq e.symm) | exact fun e => heq e.symm
          simp only [Act.put, List.setIfInBounds_toArray, List.set_cons_zero, List.set_cons_succ]
          refine g_end ?_
          intro w4 hC4 hh4
          have S4 : Hid (Stays [(gr, Obj.cells Z3 54 (0, 0)), ((gr + 1), Obj.cells sufT 54 (0, 0))] w w4) := Lib.hid (stays_cons (stays_row hC4 (List.mem_cons_self ..)) (stays_cons (stays_row hC4 (List.mem_cons_of_mem _ (List.mem_cons_self ..))) (stays_nil (stays_below hC4))))
          clear S3
          clear hC4 hh4
          have HN2 : Hid (∀ r ∈ sufL.take 14, r.1 ≠ l) := Lib.hid (by
            intro r hr
            by_cases hk' : r ∈ sufL.take 13
            · exact HN.out r hk'
            · have : r = ([109], (-3), 0) := by
                simp [sufL] at hr hk'
                simp_all
              rw [this]
              exact fun e => heq e.symm)
          go_wp2_with fail
          go_roundw
          case rel => exact ⟨14, by omega, rfl, HN2, S4⟩
          case measure => show 16 - 14 < 16 - 13; omega
      · go_upto_region 3 with fail
        refine reg_plain (Stays [(gr, Obj.cells Z3 54 (0, 0)), ((gr + 1), Obj.cells sufT 54 (0, 0))] w) (Turns [(gr, Obj.cells Z3 54 (0, 0)), ((gr + 1), Obj.cells sufT 54 (0, 0))] w) (kdOf [(2, .make (fun _ => allocM (.cells Z3 54))), (3, .touch)]) none0 (stays_good _ _) (S2.out) (holds0 _) ?_
        refine g_look rfl rfl (.pointer (some ⟨gr + 1, 42, none⟩)) (fun w' hC => ?_) ?_
        · clear hC
          go_simp
          first | done | rfl | exact ⟨rfl, rfl⟩
        simp only [Act.put, List.setIfInBounds_toArray, List.set_cons_zero, List.set_cons_succ]
        refine g_look rfl rfl (.agg #[.string ⟨#[117]⟩, .int .i64 (-6), .int .i64 0]) (fun w' hC => ?_) ?_
        · have c : w'.heap[gr + 1]? = some (.cells sufT 54 (0, 0)) := stays_head (stays_tail hC)
          have c0 : w'.cell? ⟨gr + 1, 42, none⟩ = some (.string ⟨#[117]⟩) := (cell_of_row _ _ _ _ _ _ c).trans rfl
          have c1 : w'.cell? ⟨gr + 1, 43, none⟩ = some (.int .i64 (-6)) := (cell_of_row _ _ _ _ _ _ c).trans rfl
          have c2 : w'.cell? ⟨gr + 1, 44, none⟩ = some (.int .i64 0) := (cell_of_row _ _ _ _ _ _ c).trans rfl
          clear hC c
          go_simp
          first | done | rfl
        simp only [Act.put, List.setIfInBounds_toArray, List.set_cons_zero, List.set_cons_succ]
        refine g_alloc (stays_good _ _) (.cells Z3 54) rfl rfl (fun w' hC => ?_) (fun gx tx nx => ?_)
        · clear hC
          go_simp
          first | done | rfl | exact ⟨rfl, rfl⟩
        clear nx
        replace tx := Lib.hid tx
        simp only [Act.put, List.setIfInBounds_toArray, List.set_cons_zero, List.set_cons_succ]
        refine g_store gx (some 2) 54 54 _ _ Z3 #[.string ⟨#[117]⟩, .int .i64 (-6), .int .i64 0] rfl rfl rfl rfl rfl (own_new _ _ _ _) (by kernel_rfl) (rfl) (rfl) ((by simp [Value.oneCell'])) ?_
        simp only [Act.put]
        refine g_end ?_
        intro w3 hC3 hh3
        have S3 : Hid (Stays [(gr, Obj.cells Z3 54 (0, 0)), ((gr + 1), Obj.cells sufT 54 (0, 0)), (gx, Obj.cells #[.string ⟨#[117]⟩, .int .i64 (-6), .int .i64 0] 54 (0, 0))] w w3) := Lib.hid (stays_cons (stays_row hC3 (List.mem_cons_self ..)) (stays_cons (stays_row hC3 (List.mem_cons_of_mem _ (List.mem_cons_self ..))) (stays_cons ((hh3 _ _ _ (own_new _ _ _ _)).1) (stays_nil (stays_below hC3)))))
        clear S2
        clear hC3 hh3
        by_cases heq : l = [117]
        · subst heq
          go_upto_region 4 with fail
          refine reg_plain (Stays [(gr, Obj.cells Z3 54 (0, 0)), ((gr + 1), Obj.cells sufT 54 (0, 0)), (gx, Obj.cells #[.string ⟨#[117]⟩, .int .i64 (-6), .int .i64 0] 54 (0, 0))] w) (Turns [(gr, Obj.cells Z3 54 (0, 0)), ((gr + 1), Obj.cells sufT 54 (0, 0)), (gx, Obj.cells #[.string ⟨#[117]⟩, .int .i64 (-6), .int .i64 0] 54 (0, 0))] w) (kdOf []) none0 (stays_good _ _) (S3.out) (holds0 _) ?_
          refine g_look rfl rfl ?_ (fun w' hC => ?_) ?_
          rotate_left
          · clear hC
            go_simp
            first | done | rfl | exact ⟨rfl, rfl⟩
          simp only [Act.put, List.setIfInBounds_toArray, List.set_cons_zero, List.set_cons_succ]
          refine g_look rfl rfl ?_ (fun w' hC => ?_) ?_
          rotate_left
          · have c : w'.heap[gx]? = some (.cells #[.string ⟨#[117]⟩, .int .i64 (-6), .int .i64 0] 54 (0, 0)) := stays_head (stays_tail (stays_tail hC))
            have c0 : w'.cell? ⟨gx, 0, none⟩ = some (.string ⟨#[117]⟩) := (cell_of_row _ _ _ _ _ _ c).trans rfl
            clear hC c
            go_simp
            first | done | rfl
          simp only [Act.put, List.setIfInBounds_toArray, List.set_cons_zero, List.set_cons_succ]
          refine g_look rfl rfl ?_ (fun w' hC => ?_) ?_
          rotate_left
          · go_simp
            first | done | rfl
          simp only [Act.put, List.setIfInBounds_toArray, List.set_cons_zero, List.set_cons_succ]
          refine g_look rfl rfl (.bool true) (fun w' hC => ?_) ?_
          · clear hC
            go_simp
            first | done | rfl
          simp only [Act.put, List.setIfInBounds_toArray, List.set_cons_zero, List.set_cons_succ]
          refine g_end ?_
          intro w4 hC4 hh4
          have S4 : Hid (Stays [(gr, Obj.cells Z3 54 (0, 0)), ((gr + 1), Obj.cells sufT 54 (0, 0)), (gx, Obj.cells #[.string ⟨#[117]⟩, .int .i64 (-6), .int .i64 0] 54 (0, 0))] w w4) := Lib.hid (stays_cons (stays_row hC4 (List.mem_cons_self ..)) (stays_cons (stays_row hC4 (List.mem_cons_of_mem _ (List.mem_cons_self ..))) (stays_cons (stays_row hC4 (List.mem_cons_of_mem _ (List.mem_cons_of_mem _ (List.mem_cons_self ..)))) (stays_nil (stays_below hC4)))))
          clear S3
          clear hC4 hh4
          go_upto_region 5 with fail
          refine reg_plain (Stays [((gr + 1), Obj.cells sufT 54 (0, 0)), (gx, Obj.cells #[.string ⟨#[117]⟩, .int .i64 (-6), .int .i64 0] 54 (0, 0))] w) (Turns [((gr + 1), Obj.cells sufT 54 (0, 0)), (gx, Obj.cells #[.string ⟨#[117]⟩, .int .i64 (-6), .int .i64 0] 54 (0, 0))] w) (kdOf [(1, .touch)]) (Own.has none0 gr (Obj.cells Z3 54 (0, 0))) (stays_good _ _) (stays_cons (stays_row S4.out (List.mem_cons_of_mem _ (List.mem_cons_self ..))) (stays_cons (stays_row S4.out (List.mem_cons_of_mem _ (List.mem_cons_of_mem _ (List.mem_cons_self ..)))) (stays_nil (stays_below S4.out)))) (holds_has (holds0 _) (stays_row S4.out (List.mem_cons_self ..)) (turns_cons (turns_head (turns_tail Tr.out |> fun _ => Tr.out)) (turns_cons (turns_head tx.out).symm (turns_nil Tr.out.2)))) ?_
          (refine g_load 54 _ gx 54 #[.string ⟨#[117]⟩, .int .i64 (-6), .int .i64 0] (0, 0) _ rfl rfl rfl rfl (fun w' hC => stays_row hC (List.mem_cons_of_mem _ (List.mem_cons_self ..))) Try.underlying54 rfl (rfl) ?_)
          simp only [Act.put, List.setIfInBounds_toArray, List.set_cons_zero, List.set_cons_succ]
          refine g_store gr none 54 54 _ _ Z3 #[.string ⟨#[117]⟩, .int .i64 (-6), .int .i64 0] rfl rfl rfl rfl rfl (has_same _ _ _) (by kernel_rfl) (rfl) (rfl) ((by simp [Value.oneCell'])) ?_
          simp only [Act.put]
          refine g_look rfl rfl ?_ (fun w' hC => ?_) ?_
          rotate_left
          · go_simp
            first | done | rfl
          simp only [Act.put, List.setIfInBounds_toArray, List.set_cons_zero, List.set_cons_succ]
          refine g_end ?_
          intro w5 hC5 hh5
          have S5 : Hid (Stays [(gr, Obj.cells #[.string ⟨#[117]⟩, .int .i64 (-6), .int .i64 0] 54 (0, 0)), ((gr + 1), Obj.cells sufT 54 (0, 0)), (gx, Obj.cells #[.string ⟨#[117]⟩, .int .i64 (-6), .int .i64 0] 54 (0, 0))] w w5) := Lib.hid (stays_cons ((hh5 _ _ _ (own_new _ _ _ _)).1) (stays_cons (stays_row hC5 (List.mem_cons_self ..)) (stays_cons (stays_row hC5 (List.mem_cons_of_mem _ (List.mem_cons_self ..))) (stays_nil (stays_below hC5)))))
          clear S4
          clear hC5 hh5
          go_wp2_with fail
          refine bodyPost_ret (v := .tuple #[.agg #[.string ⟨#[117]⟩, .int .i64 (-6), .int .i64 0], .bool true]) (results_suf28 (stays_head S5.out)) rfl ⟨congrArg Ending.returned (by rfl), stays_below S5.out⟩
        · go_upto_region 4 with fail
          refine reg_plain (Stays [(gr, Obj.cells Z3 54 (0, 0)), ((gr + 1), Obj.cells sufT 54 (0, 0)), (gx, Obj.cells #[.string ⟨#[117]⟩, .int .i64 (-6), .int .i64 0] 54 (0, 0))] w) (Turns [(gr, Obj.cells Z3 54 (0, 0)), ((gr + 1), Obj.cells sufT 54 (0, 0)), (gx, Obj.cells #[.string ⟨#[117]⟩, .int .i64 (-6), .int .i64 0] 54 (0, 0))] w) (kdOf []) none0 (stays_good _ _) (S3.out) (holds0 _) ?_
          refine g_look rfl rfl ?_ (fun w' hC => ?_) ?_
          rotate_left
          · clear hC
            go_simp
            first | done | rfl | exact ⟨rfl, rfl⟩
          simp only [Act.put, List.setIfInBounds_toArray, List.set_cons_zero, List.set_cons_succ]
          refine g_look rfl rfl ?_ (fun w' hC => ?_) ?_
          rotate_left
          · have c : w'.heap[gx]? = some (.cells #[.string ⟨#[117]⟩, .int .i64 (-6), .int .i64 0] 54 (0, 0)) := stays_head (stays_tail (stays_tail hC))
            have c0 : w'.cell? ⟨gx, 0, none⟩ = some (.string ⟨#[117]⟩) := (cell_of_row _ _ _ _ _ _ c).trans rfl
            clear hC c
            go_simp
            first | done | rfl
          simp only [Act.put, List.setIfInBounds_toArray, List.set_cons_zero, List.set_cons_succ]
          refine g_look rfl rfl ?_ (fun w' hC => ?_) ?_
          rotate_left
          · go_simp
            first | done | rfl
          simp only [Act.put, List.setIfInBounds_toArray, List.set_cons_zero, List.set_cons_succ]
          refine g_look rfl rfl (.bool false) (fun w' hC => ?_) ?_
          · clear hC
            go_simp
            first | done | exact beq_eq_false_iff_ne.2 (fun e => heq e.symm) | (intro e; exact heq e.symm) | exact fun e => heq e.symm
          simp only [Act.put, List.setIfInBounds_toArray, List.set_cons_zero, List.set_cons_succ]
          refine g_end ?_
          intro w4 hC4 hh4
          have S4 : Hid (Stays [(gr, Obj.cells Z3 54 (0, 0)), ((gr + 1), Obj.cells sufT 54 (0, 0))] w w4) := Lib.hid (stays_cons (stays_row hC4 (List.mem_cons_self ..)) (stays_cons (stays_row hC4 (List.mem_cons_of_mem _ (List.mem_cons_self ..))) (stays_nil (stays_below hC4))))
          clear S3
          clear hC4 hh4
          have HN2 : Hid (∀ r ∈ sufL.take 15, r.1 ≠ l) := Lib.hid (by
            intro r hr
            by_cases hk' : r ∈ sufL.take 14
            · exact HN.out r hk'
            · have : r = ([117], (-6), 0) := by
                simp [sufL] at hr hk'
                simp_all
              rw [this]
              exact fun e => heq e.symm)
          go_wp2_with fail
          go_roundw
          case rel => exact ⟨15, by omega, rfl, HN2, S4⟩
          case measure => show 16 - 15 < 16 - 14; omega
      · go_upto_region 3 with fail
        refine reg_plain (Stays [(gr, Obj.cells Z3 54 (0, 0)), ((gr + 1), Obj.cells sufT 54 (0, 0))] w) (Turns [(gr, Obj.cells Z3 54 (0, 0)), ((gr + 1), Obj.cells sufT 54 (0, 0))] w) (kdOf [(2, .make (fun _ => allocM (.cells Z3 54))), (3, .touch)]) none0 (stays_good _ _) (S2.out) (holds0 _) ?_
        refine g_look rfl rfl (.pointer (some ⟨gr + 1, 45, none⟩)) (fun w' hC => ?_) ?_
        · clear hC
          go_simp
          first | done | rfl | exact ⟨rfl, rfl⟩
        simp only [Act.put, List.setIfInBounds_toArray, List.set_cons_zero, List.set_cons_succ]
        refine g_look rfl rfl (.agg #[.string ⟨#[110]⟩, .int .i64 (-9), .int .i64 0]) (fun w' hC => ?_) ?_
        · have c : w'.heap[gr + 1]? = some (.cells sufT 54 (0, 0)) := stays_head (stays_tail hC)
          have c0 : w'.cell? ⟨gr + 1, 45, none⟩ = some (.string ⟨#[110]⟩) := (cell_of_row _ _ _ _ _ _ c).trans rfl
          have c1 : w'.cell? ⟨gr + 1, 46, none⟩ = some (.int .i64 (-9)) := (cell_of_row _ _ _ _ _ _ c).trans rfl
          have c2 : w'.cell? ⟨gr + 1, 47, none⟩ = some (.int .i64 0) := (cell_of_row _ _ _ _ _ _ c).trans rfl
          clear hC c
          go_simp
          first | done | rfl
        simp only [Act.put, List.setIfInBounds_toArray, List.set_cons_zero, List.set_cons_succ]
        refine g_alloc (stays_good _ _) (.cells Z3 54) rfl rfl (fun w' hC => ?_) (fun gx tx nx => ?_)
        · clear hC
          go_simp
          first | done | rfl | exact ⟨rfl, rfl⟩
        clear nx
        replace tx := Lib.hid tx
        simp only [Act.put, List.setIfInBounds_toArray, List.set_cons_zero, List.set_cons_succ]
        refine g_store gx (some 2) 54 54 _ _ Z3 #[.string ⟨#[110]⟩, .int .i64 (-9), .int .i64 0] rfl rfl rfl rfl rfl (own_new _ _ _ _) (by kernel_rfl) (rfl) (rfl) ((by simp [Value.oneCell'])) ?_
        simp only [Act.put]
        refine g_end ?_
        intro w3 hC3 hh3
        have S3 : Hid (Stays [(gr, Obj.cells Z3 54 (0, 0)), ((gr + 1), Obj.cells sufT 54 (0, 0)), (gx, Obj.cells #[.string ⟨#[110]⟩, .int .i64 (-9), .int .i64 0] 54 (0, 0))] w w3) := Lib.hid (stays_cons (stays_row hC3 (List.mem_cons_self ..)) (stays_cons (stays_row hC3 (List.mem_cons_of_mem _ (List.mem_cons_self ..))) (stays_cons ((hh3 _ _ _ (own_new _ _ _ _)).1) (stays_nil (stays_below hC3)))))
        clear S2
        clear hC3 hh3
        by_cases heq : l = [110]
        · subst heq
          go_upto_region 4 with fail
          refine reg_plain (Stays [(gr, Obj.cells Z3 54 (0, 0)), ((gr + 1), Obj.cells sufT 54 (0, 0)), (gx, Obj.cells #[.string ⟨#[110]⟩, .int .i64 (-9), .int .i64 0] 54 (0, 0))] w) (Turns [(gr, Obj.cells Z3 54 (0, 0)), ((gr + 1), Obj.cells sufT 54 (0, 0)), (gx, Obj.cells #[.string ⟨#[110]⟩, .int .i64 (-9), .int .i64 0] 54 (0, 0))] w) (kdOf []) none0 (stays_good _ _) (S3.out) (holds0 _) ?_
          refine g_look rfl rfl ?_ (fun w' hC => ?_) ?_
          rotate_left
          · clear hC
            go_simp
            first | done | rfl | exact ⟨rfl, rfl⟩
          simp only [Act.put, List.setIfInBounds_toArray, List.set_cons_zero, List.set_cons_succ]
          refine g_look rfl rfl ?_ (fun w' hC => ?_) ?_
          rotate_left
          · have c : w'.heap[gx]? = some (.cells #[.string ⟨#[110]⟩, .int .i64 (-9), .int .i64 0] 54 (0, 0)) := stays_head (stays_tail (stays_tail hC))
            have c0 : w'.cell? ⟨gx, 0, none⟩ = some (.string ⟨#[110]⟩) := (cell_of_row _ _ _ _ _ _ c).trans rfl
            clear hC c
            go_simp
            first | done | rfl
          simp only [Act.put, List.setIfInBounds_toArray, List.set_cons_zero, List.set_cons_succ]
          refine g_look rfl rfl ?_ (fun w' hC => ?_) ?_
          rotate_left
          · go_simp
            first | done | rfl
          simp only [Act.put, List.setIfInBounds_toArray, List.set_cons_zero, List.set_cons_succ]
          refine g_look rfl rfl (.bool true) (fun w' hC => ?_) ?_
          · clear hC
            go_simp
            first | done | rfl
          simp only [Act.put, List.setIfInBounds_toArray, List.set_cons_zero, List.set_cons_succ]
          refine g_end ?_
          intro w4 hC4 hh4
          have S4 : Hid (Stays [(gr, Obj.cells Z3 54 (0, 0)), ((gr + 1), Obj.cells sufT 54 (0, 0)), (gx, Obj.cells #[.string ⟨#[110]⟩, .int .i64 (-9), .int .i64 0] 54 (0, 0))] w w4) := Lib.hid (stays_cons (stays_row hC4 (List.mem_cons_self ..)) (stays_cons (stays_row hC4 (List.mem_cons_of_mem _ (List.mem_cons_self ..))) (stays_cons (stays_row hC4 (List.mem_cons_of_mem _ (List.mem_cons_of_mem _ (List.mem_cons_self ..)))) (stays_nil (stays_below hC4)))))
          clear S3
          clear hC4 hh4
          go_upto_region 5 with fail
          refine reg_plain (Stays [((gr + 1), Obj.cells sufT 54 (0, 0)), (gx, Obj.cells #[.string ⟨#[110]⟩, .int .i64 (-9), .int .i64 0] 54 (0, 0))] w) (Turns [((gr + 1), Obj.cells sufT 54 (0, 0)), (gx, Obj.cells #[.string ⟨#[110]⟩, .int .i64 (-9), .int .i64 0] 54 (0, 0))] w) (kdOf [(1, .touch)]) (Own.has none0 gr (Obj.cells Z3 54 (0, 0))) (stays_good _ _) (stays_cons (stays_row S4.out (List.mem_cons_of_mem _ (List.mem_cons_self ..))) (stays_cons (stays_row S4.out (List.mem_cons_of_mem _ (List.mem_cons_of_mem _ (List.mem_cons_self ..)))) (stays_nil (stays_below S4.out)))) (holds_has (holds0 _) (stays_row S4.out (List.mem_cons_self ..)) (turns_cons (turns_head (turns_tail Tr.out |> fun _ => Tr.out)) (turns_cons (turns_head tx.out).symm (turns_nil Tr.out.2)))) ?_
          (refine g_load 54 _ gx 54 #[.string ⟨#[110]⟩, .int .i64 (-9), .int .i64 0] (0, 0) _ rfl rfl rfl rfl (fun w' hC => stays_row hC (List.mem_cons_of_mem _ (List.mem_cons_self ..))) Try.underlying54 rfl (rfl) ?_)
          simp only [Act.put, List.setIfInBounds_toArray, List.set_cons_zero, List.set_cons_succ]
          refine g_store gr none 54 54 _ _ Z3 #[.string ⟨#[110]⟩, .int .i64 (-9), .int .i64 0] rfl rfl rfl rfl rfl (has_same _ _ _) (by kernel_rfl) (rfl) (rfl) ((by simp [Value.oneCell'])) ?_
          simp only [Act.put]
          refine g_look rfl rfl ?_ (fun w' hC => ?_) ?_
          rotate_left
          · go_simp
            first | done | rfl
          simp only [Act.put, List.setIfInBounds_toArray, List.set_cons_zero, List.set_cons_succ]
          refine g_end ?_
          intro w5 hC5 hh5
          have S5 : Hid (Stays [(gr, Obj.cells #[.string ⟨#[110]⟩, .int .i64 (-9), .int .i64 0] 54 (0, 0)), ((gr + 1), Obj.cells sufT 54 (0, 0)), (gx, Obj.cells #[.string ⟨#[110]⟩, .int .i64 (-9), .int .i64 0] 54 (0, 0))] w w5) := Lib.hid (stays_cons ((hh5 _ _ _ (own_new _ _ _ _)).1) (stays_cons (stays_row hC5 (List.mem_cons_self ..)) (stays_cons (stays_row hC5 (List.mem_cons_of_mem _ (List.mem_cons_self ..))) (stays_nil (stays_below hC5)))))
          clear S4
          clear hC5 hh5
          go_wp2_with fail
          refine bodyPost_ret (v := .tuple #[.agg #[.string ⟨#[110]⟩, .int .i64 (-9), .int .i64 0], .bool true]) (results_suf28 (stays_head S5.out)) rfl ⟨congrArg Ending.returned (by rfl), stays_below S5.out⟩
        · go_upto_region 4 with fail
          refine reg_plain (Stays [(gr, Obj.cells Z3 54 (0, 0)), ((gr + 1), Obj.cells sufT 54 (0, 0)), (gx, Obj.cells #[.string ⟨#[110]⟩, .int .i64 (-9), .int .i64 0] 54 (0, 0))] w) (Turns [(gr, Obj.cells Z3 54 (0, 0)), ((gr + 1), Obj.cells sufT 54 (0, 0)), (gx, Obj.cells #[.string ⟨#[110]⟩, .int .i64 (-9), .int .i64 0] 54 (0, 0))] w) (kdOf []) none0 (stays_good _ _) (S3.out) (holds0 _) ?_
          refine g_look rfl rfl ?_ (fun w' hC => ?_) ?_
          rotate_left
          · clear hC
            go_simp
            first | done | rfl | exact ⟨rfl, rfl⟩
          simp only [Act.put, List.setIfInBounds_toArray, List.set_cons_zero, List.set_cons_succ]
          refine g_look rfl rfl ?_ (fun w' hC => ?_) ?_
          rotate_left
          · have c : w'.heap[gx]? = some (.cells #[.string ⟨#[110]⟩, .int .i64 (-9), .int .i64 0] 54 (0, 0)) := stays_head (stays_tail (stays_tail hC))
            have c0 : w'.cell? ⟨gx, 0, none⟩ = some (.string ⟨#[110]⟩) := (cell_of_row _ _ _ _ _ _ c).trans rfl
            clear hC c
            go_simp
            first | done | rfl
          simp only [Act.put, List.setIfInBounds_toArray, List.set_cons_zero, List.set_cons_succ]
          refine g_look rfl rfl ?_ (fun w' hC => ?_) ?_
          rotate_left
          · go_simp
            first | done | rfl
          simp only [Act.put, List.setIfInBounds_toArray, List.set_cons_zero, List.set_cons_succ]
          refine g_look rfl rfl (.bool false) (fun w' hC => ?_) ?_
          · clear hC
            go_simp
            first | done | exact beq_eq_false_iff_ne.2 (fun e => heq e.symm) | (intro e; exact heq e.symm) | exact fun e => heq e.symm
          simp only [Act.put, List.setIfInBounds_toArray, List.set_cons_zero, List.set_cons_succ]
          refine g_end ?_
          intro w4 hC4 hh4
          have S4 : Hid (Stays [(gr, Obj.cells Z3 54 (0, 0)), ((gr + 1), Obj.cells sufT 54 (0, 0))] w w4) := Lib.hid (stays_cons (stays_row hC4 (List.mem_cons_self ..)) (stays_cons (stays_row hC4 (List.mem_cons_of_mem _ (List.mem_cons_self ..))) (stays_nil (stays_below hC4))))
          clear S3
          clear hC4 hh4
          have HN2 : Hid (∀ r ∈ sufL.take 16, r.1 ≠ l) := Lib.hid (by
            intro r hr
            by_cases hk' : r ∈ sufL.take 15
            · exact HN.out r hk'
            · have : r = ([110], (-9), 0) := by
                simp [sufL] at hr hk'
                simp_all
              rw [this]
              exact fun e => heq e.symm)
          go_wp2_with fail
          go_roundw
          case rel => exact ⟨16, by omega, rfl, HN2, S4⟩
          case measure => show 16 - 16 < 16 - 15; omega
    · obtain rfl : k = 16 := by omega
      have hlti : ¬ ((16 : Nat) : Int) < 16 := by decide
      have hf : sufL.find? (fun r => decide (r.1 = l)) = none := by
        rw [List.find?_eq_none]
        intro r hr
        have := HN.out r hr
        simpa using this
      cases l with
      | nil => exact absurd rfl (HN.out ([], 0, 0) (by simp [sufL]))
      | cons a t =>
        have hV : scaleV (a :: t) = if a = 101 ∨ a = 69 then (match expV t with
            | .tuple xs => .tuple #[.agg #[.string ⟨#[]⟩, xs.getD 0 undef, .int .i64 0], xs.getD 1 undef]
            | v => v)
          else .tuple #[agg3 [] 0 0, .bool false] := by rw [scaleV, hf]
        have HV := Lib.hid hV
        clear hV hf
        obtain ⟨x, ok, hx⟩ : ∃ (x : Int) (ok : Bool), expV t = .tuple #[.int .i64 x, .bool ok] := by
          unfold expV
          split
          · exact ⟨_, _, rfl⟩
          · exact ⟨_, _, rfl⟩
        have HX := Lib.hid hx
        clear hx
        have hb : byteL (a :: t) 0 = a.toNat := rfl
        have l1 : 0 < (a :: t).length := by simp
        have l2 : 1 ≤ t.length + 1 := by omega
        have l3 : (1 : Int) ≤ (t.length : Int) + 1 := by omega
        by_cases h1 : a = 101
        · subst h1
          have hb1 : byteL ((101 : UInt8) :: t) 0 = 101 := rfl
          have HLT : Hid (t.length ≤ maxLen) := Lib.hid (by have := HL.out; simp at this; omega)
          go_upto_region 7 with fail
          refine reg_plain (Stays [(gr, Obj.cells Z3 54 (0, 0)), ((gr + 1), Obj.cells sufT 54 (0, 0))] w) (Turns [(gr, Obj.cells Z3 54 (0, 0)), ((gr + 1), Obj.cells sufT 54 (0, 0))] w) (kdOf []) none0 (stays_good _ _) (S2.out) (holds0 _) ?_
          refine g_look rfl rfl ?_ (fun w' hC => ?_) ?_
          rotate_left
          · go_simp
            first | done | rfl
          simp only [Act.put, List.setIfInBounds_toArray, List.set_cons_zero, List.set_cons_succ]
          refine g_look rfl rfl (.bool true) (fun w' hC => ?_) ?_
          · clear hC
            go_simp
            first | done | rfl
          simp only [Act.put, List.setIfInBounds_toArray, List.set_cons_zero, List.set_cons_succ]
          refine g_look rfl rfl ?_ (fun w' hC => ?_) ?_
          rotate_left
          · go_simp
            first | done | rfl
          simp only [Act.put, List.setIfInBounds_toArray, List.set_cons_zero, List.set_cons_succ]
          first
          | (refine g_skip rfl ?_)
          | (refine g_look rfl rfl ?_ (fun w' hC => ?_) ?_
             rotate_left
             · go_simp
               first | done | rfl)
          simp only [Act.put, List.setIfInBounds_toArray, List.set_cons_zero, List.set_cons_succ]
          first
          | (refine g_skip rfl ?_)
          | (refine g_look rfl rfl (.int .u8 101) (fun w' hC => ?_) ?_
             · clear hC
               go_simp
               first | done | rfl)
          simp only [Act.put, List.setIfInBounds_toArray, List.set_cons_zero, List.set_cons_succ]
          first
          | (refine g_skip rfl ?_)
          | (refine g_look rfl rfl (.bool true) (fun w' hC => ?_) ?_
             · clear hC
               go_simp
               first | done | rfl | omega | (simp; omega))
          simp only [Act.put, List.setIfInBounds_toArray, List.set_cons_zero, List.set_cons_succ]
          first
          | (refine g_skip rfl ?_)
          | (refine g_look rfl rfl ?_ (fun w' hC => ?_) ?_
             rotate_left
             · go_simp
               first | done | rfl)
          simp only [Act.put, List.setIfInBounds_toArray, List.set_cons_zero, List.set_cons_succ]
          first
          | (refine g_skip rfl ?_)
          | (refine g_look rfl rfl ?_ (fun w' hC => ?_) ?_
             rotate_left
             · go_simp
               first | done | rfl)
          simp only [Act.put, List.setIfInBounds_toArray, List.set_cons_zero, List.set_cons_succ]
          first
          | (refine g_skip rfl ?_)
          | (refine g_look rfl rfl (.int .u8 101) (fun w' hC => ?_) ?_
             · clear hC
               go_simp
               first | done | rfl)
          simp only [Act.put, List.setIfInBounds_toArray, List.set_cons_zero, List.set_cons_succ]
          first
          | (refine g_skip rfl ?_)
          | (refine g_look rfl rfl (.bool false) (fun w' hC => ?_) ?_
             · clear hC
               go_simp
               first | done | rfl | omega | (simp; omega))
          simp only [Act.put, List.setIfInBounds_toArray, List.set_cons_zero, List.set_cons_succ]
          first
          | (refine g_skip rfl ?_)
          | (refine g_look rfl rfl ?_ (fun w' hC => ?_) ?_
             rotate_left
             · go_simp
               first | done | rfl)
          simp only [Act.put, List.setIfInBounds_toArray, List.set_cons_zero, List.set_cons_succ]
          refine g_look rfl rfl ?_ (fun w' hC => ?_) ?_
          rotate_left
          · go_simp
            first | done | rfl
          simp only [Act.put, List.setIfInBounds_toArray, List.set_cons_zero, List.set_cons_succ]
          refine g_end ?_
          intro w3 hC3 hh3
          have S3 : Hid (Stays [(gr, Obj.cells Z3 54 (0, 0)), ((gr + 1), Obj.cells sufT 54 (0, 0))] w w3) := Lib.hid (stays_cons (stays_row hC3 (List.mem_cons_self ..)) (stays_cons (stays_row hC3 (List.mem_cons_of_mem _ (List.mem_cons_self ..))) (stays_nil (stays_below hC3))))
          clear S2
          clear hC3 hh3
          go_upto_region 8 with fail
          refine reg_plain (Stays [(gr, Obj.cells Z3 54 (0, 0)), ((gr + 1), Obj.cells sufT 54 (0, 0))] w) (Turns [(gr, Obj.cells Z3 54 (0, 0)), ((gr + 1), Obj.cells sufT 54 (0, 0))] w) (kdOf [(2, .make (fun _ => callM (.tuple #[.int .i64 x, .bool ok])))]) none0 (stays_good _ _) (S3.out) (holds0 _) ?_
          refine g_look rfl rfl ?_ (fun w' hC => ?_) ?_
          rotate_left
          · go_simp
            first | done | rfl
          simp only [Act.put, List.setIfInBounds_toArray, List.set_cons_zero, List.set_cons_succ]
          refine g_look rfl rfl (.string ⟨t.toArray⟩) (fun w' hC => ?_) ?_
          · clear hC
            go_simp
            first | done | exact drop_one _ t | (rw [drop_one]; done) | (simp [drop_one]; done)
          simp only [Act.put, List.setIfInBounds_toArray, List.set_cons_zero, List.set_cons_succ]
          refine g_call (stays_good _ _) (.tuple #[.int .i64 x, .bool ok]) rfl rfl (fun w' hC => ?_) ?_
          · clear hC
            go_simp
            refine (exponent_any _ t HLT.out).mono (fun e w2 h => ?_)
            obtain ⟨h1, h2⟩ := h
            rw [HX.out] at h1
            exact gives h1 h2
          simp only [Act.put, List.setIfInBounds_toArray, List.set_cons_zero, List.set_cons_succ]
          refine g_look rfl rfl ?_ (fun w' hC => ?_) ?_
          rotate_left
          · go_simp
            first | done | rfl
          simp only [Act.put, List.setIfInBounds_toArray, List.set_cons_zero, List.set_cons_succ]
          refine g_look rfl rfl ?_ (fun w' hC => ?_) ?_
          rotate_left
          · go_simp
            first | done | rfl
          simp only [Act.put, List.setIfInBounds_toArray, List.set_cons_zero, List.set_cons_succ]
          refine g_look rfl rfl ?_ (fun w' hC => ?_) ?_
          rotate_left
          · go_simp
            first | done | rfl
          simp only [Act.put, List.setIfInBounds_toArray, List.set_cons_zero, List.set_cons_succ]
          refine g_look rfl rfl ?_ (fun w' hC => ?_) ?_
          rotate_left
          · go_simp
            first | done | rfl
          simp only [Act.put, List.setIfInBounds_toArray, List.set_cons_zero, List.set_cons_succ]
          refine g_look rfl rfl ?_ (fun w' hC => ?_) ?_
          rotate_left
          · go_simp
            first | done | rfl
          simp only [Act.put, List.setIfInBounds_toArray, List.set_cons_zero, List.set_cons_succ]
          refine g_end ?_
          intro w4 hC4 hh4
          have S4 : Hid (Stays [(gr, Obj.cells Z3 54 (0, 0)), ((gr + 1), Obj.cells sufT 54 (0, 0))] w w4) := Lib.hid (stays_cons (stays_row hC4 (List.mem_cons_self ..)) (stays_cons (stays_row hC4 (List.mem_cons_of_mem _ (List.mem_cons_self ..))) (stays_nil (stays_below hC4))))
          clear S3
          clear hC4 hh4
          go_upto_region 9 with fail
          refine reg_plain (Stays [((gr + 1), Obj.cells sufT 54 (0, 0))] w) (Turns [((gr + 1), Obj.cells sufT 54 (0, 0))] w) (kdOf [(3, .touch)]) (Own.has none0 gr (Obj.cells Z3 54 (0, 0))) (stays_good _ _) (stays_cons (stays_row S4.out (List.mem_cons_of_mem _ (List.mem_cons_self ..))) (stays_nil (stays_below S4.out))) (holds_has (holds0 _) (stays_row S4.out (List.mem_cons_self ..)) (turns_cons (turns_head Tr.out) (turns_nil Tr.out.2))) ?_
          refine g_look rfl rfl ?_ (fun w' hC => ?_) ?_
          rotate_left
          · go_simp
            first | done | rfl
          simp only [Act.put, List.setIfInBounds_toArray, List.set_cons_zero, List.set_cons_succ]
          refine g_look rfl rfl ?_ (fun w' hC => ?_) ?_
          rotate_left
          · go_simp
            first | done | rfl
          simp only [Act.put, List.setIfInBounds_toArray, List.set_cons_zero, List.set_cons_succ]
          refine g_look rfl rfl ?_ (fun w' hC => ?_) ?_
          rotate_left
          · go_simp
            first | done | rfl
          simp only [Act.put, List.setIfInBounds_toArray, List.set_cons_zero, List.set_cons_succ]
          refine g_store gr none 54 54 _ _ Z3 #[.string ⟨#[]⟩, .int .i64 x, .int .i64 0] rfl rfl rfl rfl rfl (has_same _ _ _) (by kernel_rfl) (rfl) (rfl) ((by simp [Value.oneCell'])) ?_
          simp only [Act.put]
          refine g_look rfl rfl ?_ (fun w' hC => ?_) ?_
          rotate_left
          · go_simp
            first | done | rfl
          simp only [Act.put, List.setIfInBounds_toArray, List.set_cons_zero, List.set_cons_succ]
          refine g_end ?_
          intro w5 hC5 hh5
          have S5 : Hid (Stays [(gr, Obj.cells #[.string ⟨#[]⟩, .int .i64 x, .int .i64 0] 54 (0, 0)), ((gr + 1), Obj.cells sufT 54 (0, 0))] w w5) := Lib.hid (stays_cons ((hh5 _ _ _ (own_new _ _ _ _)).1) (stays_cons (stays_row hC5 (List.mem_cons_self ..)) (stays_nil (stays_below hC5))))
          clear S4
          clear hC5 hh5
          go_wp2_with fail
          refine bodyPost_ret (v := .tuple #[.agg #[.string ⟨#[]⟩, .int .i64 x, .int .i64 0], .bool ok]) (results_suf28 (stays_head S5.out)) rfl ⟨congrArg Ending.returned (by rw [HV.out, if_pos (by simp), HX.out]; rfl), stays_below S5.out⟩
        · by_cases h2 : a = 69
          · subst h2
            have hb1 : byteL ((69 : UInt8) :: t) 0 = 69 := rfl
            have HLT : Hid (t.length ≤ maxLen) := Lib.hid (by have := HL.out; simp at this; omega)
            go_upto_region 7 with fail
            refine reg_plain (Stays [(gr, Obj.cells Z3 54 (0, 0)), ((gr + 1), Obj.cells sufT 54 (0, 0))] w) (Turns [(gr, Obj.cells Z3 54 (0, 0)), ((gr + 1), Obj.cells sufT 54 (0, 0))] w) (kdOf []) none0 (stays_good _ _) (S2.out) (holds0 _) ?_
            refine g_look rfl rfl ?_ (fun w' hC => ?_) ?_
            rotate_left
            · go_simp
              first | done | rfl
            simp only [Act.put, List.setIfInBounds_toArray, List.set_cons_zero, List.set_cons_succ]
            refine g_look rfl rfl (.bool true) (fun w' hC => ?_) ?_
            · clear hC
              go_simp
              first | done | rfl
            simp only [Act.put, List.setIfInBounds_toArray, List.set_cons_zero, List.set_cons_succ]
            refine g_look rfl rfl ?_ (fun w' hC => ?_) ?_
            rotate_left
            · go_simp
              first | done | rfl
            simp only [Act.put, List.setIfInBounds_toArray, List.set_cons_zero, List.set_cons_succ]
            first
            | (refine g_skip rfl ?_)
            | (refine g_look rfl rfl ?_ (fun w' hC => ?_) ?_
               rotate_left
               · go_simp
                 first | done | rfl)
            simp only [Act.put, List.setIfInBounds_toArray, List.set_cons_zero, List.set_cons_succ]
            first
            | (refine g_skip rfl ?_)
            | (refine g_look rfl rfl (.int .u8 69) (fun w' hC => ?_) ?_
               · clear hC
                 go_simp
                 first | done | rfl)
            simp only [Act.put, List.setIfInBounds_toArray, List.set_cons_zero, List.set_cons_succ]
            first
            | (refine g_skip rfl ?_)
            | (refine g_look rfl rfl (.bool false) (fun w' hC => ?_) ?_
               · clear hC
                 go_simp
                 first | done | rfl | omega | (simp; omega))
            simp only [Act.put, List.setIfInBounds_toArray, List.set_cons_zero, List.set_cons_succ]
            first
            | (refine g_skip rfl ?_)
            | (refine g_look rfl rfl ?_ (fun w' hC => ?_) ?_
               rotate_left
               · go_simp
                 first | done | rfl)
            simp only [Act.put, List.setIfInBounds_toArray, List.set_cons_zero, List.set_cons_succ]
            first
            | (refine g_skip rfl ?_)
            | (refine g_look rfl rfl ?_ (fun w' hC => ?_) ?_
               rotate_left
               · go_simp
                 first | done | rfl)
            simp only [Act.put, List.setIfInBounds_toArray, List.set_cons_zero, List.set_cons_succ]
            first
            | (refine g_skip rfl ?_)
            | (refine g_look rfl rfl (.int .u8 69) (fun w' hC => ?_) ?_
               · clear hC
                 go_simp
                 first | done | rfl)
            simp only [Act.put, List.setIfInBounds_toArray, List.set_cons_zero, List.set_cons_succ]
            first
            | (refine g_skip rfl ?_)
            | (refine g_look rfl rfl (.bool true) (fun w' hC => ?_) ?_
               · clear hC
                 go_simp
                 first | done | rfl | omega | (simp; omega))
            simp only [Act.put, List.setIfInBounds_toArray, List.set_cons_zero, List.set_cons_succ]
            first
            | (refine g_skip rfl ?_)
            | (refine g_look rfl rfl ?_ (fun w' hC => ?_) ?_
               rotate_left
               · go_simp
                 first | done | rfl)
            simp only [Act.put, List.setIfInBounds_toArray, List.set_cons_zero, List.set_cons_succ]
            refine g_look rfl rfl ?_ (fun w' hC => ?_) ?_
            rotate_left
            · go_simp
              first | done | rfl
            simp only [Act.put, List.setIfInBounds_toArray, List.set_cons_zero, List.set_cons_succ]
            refine g_end ?_
            intro w3 hC3 hh3
            have S3 : Hid (Stays [(gr, Obj.cells Z3 54 (0, 0)), ((gr + 1), Obj.cells sufT 54 (0, 0))] w w3) := Lib.hid (stays_cons (stays_row hC3 (List.mem_cons_self ..)) (stays_cons (stays_row hC3 (List.mem_cons_of_mem _ (List.mem_cons_self ..))) (stays_nil (stays_below hC3))))
            clear S2
            clear hC3 hh3
            go_upto_region 8 with fail
            refine reg_plain (Stays [(gr, Obj.cells Z3 54 (0, 0)), ((gr + 1), Obj.cells sufT 54 (0, 0))] w) (Turns [(gr, Obj.cells Z3 54 (0, 0)), ((gr + 1), Obj.cells sufT 54 (0, 0))] w) (kdOf [(2, .make (fun _ => callM (.tuple #[.int .i64 x, .bool ok])))]) none0 (stays_good _ _) (S3.out) (holds0 _) ?_
            refine g_look rfl rfl ?_ (fun w' hC => ?_) ?_
            rotate_left
            · go_simp
              first | done | rfl
            simp only [Act.put, List.setIfInBounds_toArray, List.set_cons_zero, List.set_cons_succ]
            refine g_look rfl rfl (.string ⟨t.toArray⟩) (fun w' hC => ?_) ?_
            · clear hC
              go_simp
              first | done | exact drop_one _ t | (rw [drop_one]; done) | (simp [drop_one]; done)
            simp only [Act.put, List.setIfInBounds_toArray, List.set_cons_zero, List.set_cons_succ]
            refine g_call (stays_good _ _) (.tuple #[.int .i64 x, .bool ok]) rfl rfl (fun w' hC => ?_) ?_
            · clear hC
              go_simp
              refine (exponent_any _ t HLT.out).mono (fun e w2 h => ?_)
              obtain ⟨h1, h2⟩ := h
              rw [HX.out] at h1
              exact gives h1 h2
            simp only [Act.put, List.setIfInBounds_toArray, List.set_cons_zero, List.set_cons_succ]
            refine g_look rfl rfl ?_ (fun w' hC => ?_) ?_
            rotate_left
            · go_simp
              first | done | rfl
            simp only [Act.put, List.setIfInBounds_toArray, List.set_cons_zero, List.set_cons_succ]
            refine g_look rfl rfl ?_ (fun w' hC => ?_) ?_
            rotate_left
            · go_simp
              first | done | rfl
            simp only [Act.put, List.setIfInBounds_toArray, List.set_cons_zero, List.set_cons_succ]
            refine g_look rfl rfl ?_ (fun w' hC => ?_) ?_
            rotate_left
            · go_simp
              first | done | rfl
            simp only [Act.put, List.setIfInBounds_toArray, List.set_cons_zero, List.set_cons_succ]
            refine g_look rfl rfl ?_ (fun w' hC => ?_) ?_
            rotate_left
            · go_simp
              first | done | rfl
            simp only [Act.put, List.setIfInBounds_toArray, List.set_cons_zero, List.set_cons_succ]
            refine g_look rfl rfl ?_ (fun w' hC => ?_) ?_
            rotate_left
            · go_simp
              first | done | rfl
            simp only [Act.put, List.setIfInBounds_toArray, List.set_cons_zero, List.set_cons_succ]
            refine g_end ?_
            intro w4 hC4 hh4
            have S4 : Hid (Stays [(gr, Obj.cells Z3 54 (0, 0)), ((gr + 1), Obj.cells sufT 54 (0, 0))] w w4) := Lib.hid (stays_cons (stays_row hC4 (List.mem_cons_self ..)) (stays_cons (stays_row hC4 (List.mem_cons_of_mem _ (List.mem_cons_self ..))) (stays_nil (stays_below hC4))))
            clear S3
            clear hC4 hh4
            go_upto_region 9 with fail
            refine reg_plain (Stays [((gr + 1), Obj.cells sufT 54 (0, 0))] w) (Turns [((gr + 1), Obj.cells sufT 54 (0, 0))] w) (kdOf [(3, .touch)]) (Own.has none0 gr (Obj.cells Z3 54 (0, 0))) (stays_good _ _) (stays_cons (stays_row S4.out (List.mem_cons_of_mem _ (List.mem_cons_self ..))) (stays_nil (stays_below S4.out))) (holds_has (holds0 _) (stays_row S4.out (List.mem_cons_self ..)) (turns_cons (turns_head Tr.out) (turns_nil Tr.out.2))) ?_
            refine g_look rfl rfl ?_ (fun w' hC => ?_) ?_
            rotate_left
            · go_simp
              first | done | rfl
            simp only [Act.put, List.setIfInBounds_toArray, List.set_cons_zero, List.set_cons_succ]
            refine g_look rfl rfl ?_ (fun w' hC => ?_) ?_
            rotate_left
            · go_simp
              first | done | rfl
            simp only [Act.put, List.setIfInBounds_toArray, List.set_cons_zero, List.set_cons_succ]
            refine g_look rfl rfl ?_ (fun w' hC => ?_) ?_
            rotate_left
            · go_simp
              first | done | rfl
            simp only [Act.put, List.setIfInBounds_toArray, List.set_cons_zero, List.set_cons_succ]
            refine g_store gr none 54 54 _ _ Z3 #[.string ⟨#[]⟩, .int .i64 x, .int .i64 0] rfl rfl rfl rfl rfl (has_same _ _ _) (by kernel_rfl) (rfl) (rfl) ((by simp [Value.oneCell'])) ?_
            simp only [Act.put]
            refine g_look rfl rfl ?_ (fun w' hC => ?_) ?_
            rotate_left
            · go_simp
              first | done | rfl
            simp only [Act.put, List.setIfInBounds_toArray, List.set_cons_zero, List.set_cons_succ]
            refine g_end ?_
            intro w5 hC5 hh5
            have S5 : Hid (Stays [(gr, Obj.cells #[.string ⟨#[]⟩, .int .i64 x, .int .i64 0] 54 (0, 0)), ((gr + 1), Obj.cells sufT 54 (0, 0))] w w5) := Lib.hid (stays_cons ((hh5 _ _ _ (own_new _ _ _ _)).1) (stays_cons (stays_row hC5 (List.mem_cons_self ..)) (stays_nil (stays_below hC5))))
            clear S4
            clear hC5 hh5
            go_wp2_with fail
            refine bodyPost_ret (v := .tuple #[.agg #[.string ⟨#[]⟩, .int .i64 x, .int .i64 0], .bool ok]) (results_suf28 (stays_head S5.out)) rfl ⟨congrArg Ending.returned (by rw [HV.out, if_pos (by simp), HX.out]; rfl), stays_below S5.out⟩
          · have hb2 : ¬ (a.toNat : Int) = 101 := fun e => h1 (UInt8.toNat_inj.1 (by show a.toNat = 101; omega))
            have hb3 : ¬ (a.toNat : Int) = 69 := fun e => h2 (UInt8.toNat_inj.1 (by show a.toNat = 69; omega))
            go_upto_region 7 with fail
            refine reg_plain (Stays [(gr, Obj.cells Z3 54 (0, 0)), ((gr + 1), Obj.cells sufT 54 (0, 0))] w) (Turns [(gr, Obj.cells Z3 54 (0, 0)), ((gr + 1), Obj.cells sufT 54 (0, 0))] w) (kdOf []) none0 (stays_good _ _) (S2.out) (holds0 _) ?_
            refine g_look rfl rfl ?_ (fun w' hC => ?_) ?_
            rotate_left
            · go_simp
              first | done | rfl
            simp only [Act.put, List.setIfInBounds_toArray, List.set_cons_zero, List.set_cons_succ]
            refine g_look rfl rfl (.bool true) (fun w' hC => ?_) ?_
            · clear hC
              go_simp
              first | done | rfl
            simp only [Act.put, List.setIfInBounds_toArray, List.set_cons_zero, List.set_cons_succ]
            refine g_look rfl rfl ?_ (fun w' hC => ?_) ?_
            rotate_left
            · go_simp
              first | done | rfl
            simp only [Act.put, List.setIfInBounds_toArray, List.set_cons_zero, List.set_cons_succ]
            first
            | (refine g_skip rfl ?_)
            | (refine g_look rfl rfl ?_ (fun w' hC => ?_) ?_
               rotate_left
               · go_simp
                 first | done | rfl)
            simp only [Act.put, List.setIfInBounds_toArray, List.set_cons_zero, List.set_cons_succ]
            first
            | (refine g_skip rfl ?_)
            | (refine g_look rfl rfl (.int .u8 (a.toNat : Int)) (fun w' hC => ?_) ?_
               · clear hC
                 go_simp
                 first | done | rfl)
            simp only [Act.put, List.setIfInBounds_toArray, List.set_cons_zero, List.set_cons_succ]
            first
            | (refine g_skip rfl ?_)
            | (refine g_look rfl rfl (.bool false) (fun w' hC => ?_) ?_
               · clear hC
                 go_simp
                 first | done | rfl | omega | (simp; omega))
            simp only [Act.put, List.setIfInBounds_toArray, List.set_cons_zero, List.set_cons_succ]
            first
            | (refine g_skip rfl ?_)
            | (refine g_look rfl rfl ?_ (fun w' hC => ?_) ?_
               rotate_left
               · go_simp
                 first | done | rfl)
            simp only [Act.put, List.setIfInBounds_toArray, List.set_cons_zero, List.set_cons_succ]
            first
            | (refine g_skip rfl ?_)
            | (refine g_look rfl rfl ?_ (fun w' hC => ?_) ?_
               rotate_left
               · go_simp
                 first | done | rfl)
            simp only [Act.put, List.setIfInBounds_toArray, List.set_cons_zero, List.set_cons_succ]
            first
            | (refine g_skip rfl ?_)
            | (refine g_look rfl rfl (.int .u8 (a.toNat : Int)) (fun w' hC => ?_) ?_
               · clear hC
                 go_simp
                 first | done | rfl)
            simp only [Act.put, List.setIfInBounds_toArray, List.set_cons_zero, List.set_cons_succ]
            first
            | (refine g_skip rfl ?_)
            | (refine g_look rfl rfl (.bool false) (fun w' hC => ?_) ?_
               · clear hC
                 go_simp
                 first | done | rfl | omega | (simp; omega))
            simp only [Act.put, List.setIfInBounds_toArray, List.set_cons_zero, List.set_cons_succ]
            first
            | (refine g_skip rfl ?_)
            | (refine g_look rfl rfl ?_ (fun w' hC => ?_) ?_
               rotate_left
               · go_simp
                 first | done | rfl)
            simp only [Act.put, List.setIfInBounds_toArray, List.set_cons_zero, List.set_cons_succ]
            refine g_look rfl rfl ?_ (fun w' hC => ?_) ?_
            rotate_left
            · go_simp
              first | done | rfl
            simp only [Act.put, List.setIfInBounds_toArray, List.set_cons_zero, List.set_cons_succ]
            refine g_end ?_
            intro w3 hC3 hh3
            have S3 : Hid (Stays [(gr, Obj.cells Z3 54 (0, 0)), ((gr + 1), Obj.cells sufT 54 (0, 0))] w w3) := Lib.hid (stays_cons (stays_row hC3 (List.mem_cons_self ..)) (stays_cons (stays_row hC3 (List.mem_cons_of_mem _ (List.mem_cons_self ..))) (stays_nil (stays_below hC3))))
            clear S2
            clear hC3 hh3
            go_upto_region 10 with fail
            refine reg_plain (Stays [((gr + 1), Obj.cells sufT 54 (0, 0))] w) (Turns [((gr + 1), Obj.cells sufT 54 (0, 0))] w) (kdOf [(1, .touch)]) (Own.has none0 gr (Obj.cells Z3 54 (0, 0))) (stays_good _ _) (stays_cons (stays_row S3.out (List.mem_cons_of_mem _ (List.mem_cons_self ..))) (stays_nil (stays_below S3.out))) (holds_has (holds0 _) (stays_row S3.out (List.mem_cons_self ..)) (turns_cons (turns_head Tr.out) (turns_nil Tr.out.2))) ?_
            refine g_look rfl rfl ?_ (fun w' hC => ?_) ?_
            rotate_left
            · go_simp
              first | done | rfl
            simp only [Act.put, List.setIfInBounds_toArray, List.set_cons_zero, List.set_cons_succ]
            refine g_store gr none 54 54 _ _ Z3 #[.string ⟨#[]⟩, .int .i64 0, .int .i64 0] rfl rfl rfl rfl rfl (has_same _ _ _) (by kernel_rfl) (rfl) (rfl) ((by simp [Value.oneCell'])) ?_
            simp only [Act.put]
            refine g_look rfl rfl ?_ (fun w' hC => ?_) ?_
            rotate_left
            · go_simp
              first | done | rfl
            simp only [Act.put, List.setIfInBounds_toArray, List.set_cons_zero, List.set_cons_succ]
            refine g_end ?_
            intro w4 hC4 hh4
            have S4 : Hid (Stays [(gr, Obj.cells #[.string ⟨#[]⟩, .int .i64 0, .int .i64 0] 54 (0, 0)), ((gr + 1), Obj.cells sufT 54 (0, 0))] w w4) := Lib.hid (stays_cons ((hh4 _ _ _ (own_new _ _ _ _)).1) (stays_cons (stays_row hC4 (List.mem_cons_self ..)) (stays_nil (stays_below hC4))))
            clear S3
            clear hC4 hh4
            go_wp2_with fail
            refine bodyPost_ret (v := .tuple #[.agg #[.string ⟨#[]⟩, .int .i64 0, .int .i64 0], .bool false]) (results_suf28 (stays_head S4.out)) rfl ⟨congrArg Ending.returned (by rw [HV.out, if_neg (by simp [h1, h2])]; rfl), stays_below S4.out⟩
end Go.Proofs.Ythpdfacdjgkmpaa.Wi
