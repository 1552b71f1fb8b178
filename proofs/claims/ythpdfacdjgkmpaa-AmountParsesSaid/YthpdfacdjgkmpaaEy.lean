/- Any text is parsed as the document says, by a walk. -/
import Derived.Test.YthpdfacdjgkmpaaEx
namespace Go.Proofs.Ythpdfacdjgkmpaa.Wi
open Go.RowKit K

attribute [local go_sem] lookTo stepTo Maker.step
attribute [local go_sem ↓] st_size
theorem err_open (e : Int) : ∃ a b k : Int, errV e = .tuple #[.agg #[.int .u64 a, .int .u64 b], .int .i64 k] := ⟨0, 0, e, rfl⟩
theorem parseW_open (W P S : List UInt8) : ∃ a b k : Int, parseW W P S = .tuple #[.agg #[.int .u64 a, .int .u64 b], .int .i64 k] := by
  unfold parseW
  split
  · exact err_open _
  · split
    · exact err_open _
    · split
      · exact err_open _
      · split
        · exact ⟨_, _, _, rfl⟩
        · exact err_open _
theorem parseV_open (l : List UInt8) : ∃ a b k : Int, parseV l = .tuple #[.agg #[.int .u64 a, .int .u64 b], .int .i64 k] := by
  unfold parseV
  split
  · exact err_open _
  · split
    · exact parseW_open _ _ _
    · exact parseW_open _ _ _
set_option maxHeartbeats 4000000 in
set_option maxRecDepth 100000 in
theorem parses_list (w : World) (l : List UInt8) (hl : l.length ≤ maxLen) : Calls Try.prog 3 #[.string ⟨l.toArray⟩] w (Ret w (.bool true)) := by
  obtain ⟨n, hn⟩ : ∃ n, l.length = n := ⟨_, rfl⟩
  obtain ⟨a, b, k, hv⟩ := parseV_open l
  have HV := Lib.hid hv
  have HL := Lib.hid hl
  have HN := Lib.hid hn
  clear hv hl
  have S0 : Hid (Stays [] w w) := Lib.hid (stays_nil (Below.refl _ _))
  go_enter Try.func3, Try.ntmps3
  go_upto_region 0 with fail
  refine reg_plain (Stays [] w) (Turns [] w) (kdOf []) none0 (stays_good _ _) (S0.out) (holds0 _) ?_
  refine g_look rfl rfl ?_ (fun w' hC => ?_) ?_
  rotate_left
  · go_simp
    first | done | rfl
  simp only [Act.put, sa, sb, sc]
  refine g_end ?_
  intro w1 hC1 hh1
  have S1 : Hid (Stays [] w w1) := Lib.hid (stays_nil (stays_below hC1))
  clear hC1 hh1
  go_upto_region 1 with fail
  refine reg_plain (Stays [] w) (Turns [] w) (kdOf [(0, .make (fun _ => callM (.bool true)))]) none0 (stays_good _ _) (S1.out) (holds0 _) ?_
  refine g_call (stays_good _ _) (.bool true) rfl rfl (fun w' hC => ?_) ?_
  · clear hC
    go_simp
    refine (first_any _).mono (fun e w2 h => ?_)
    obtain ⟨h1, h2⟩ := h
    exact gives h1 h2
  simp only [Act.put, sa, sb, sc]
  refine g_look rfl rfl ?_ (fun w' hC => ?_) ?_
  rotate_left
  · go_simp
    first | done | rfl
  simp only [Act.put, sa, sb, sc]
  refine g_end ?_
  intro w2 hC2 hh2
  have S2 : Hid (Stays [] w w2) := Lib.hid (stays_nil (stays_below hC2))
  clear S1
  clear hC2 hh2
  by_cases hlong : 300 < n
  · have hi : (300 : Int) < (n : Int) := Int.ofNat_lt.2 hlong
    go_upto_region 3 with fail
    refine reg_plain (Stays [] w) (Turns [] w) (kdOf []) none0 (stays_good _ _) (S2.out) (holds0 _) ?_
    refine g_look rfl rfl ?_ (fun w' hC => ?_) ?_
    rotate_left
    · go_simp
      first | done | rfl
    simp only [Act.put, sa, sb, sc]
    refine g_look rfl rfl (.int .i64 (n : Int)) (fun w' hC => ?_) ?_
    · clear hC
      go_simp
      first | done | rfl | exact hn | (rw [hn]; done) | (simp [hn]; done)
    simp only [Act.put, sa, sb, sc]
    refine g_look rfl rfl (.bool true) (fun w' hC => ?_) ?_
    · clear hC
      go_simp
      first | done | rfl | exact hi | (simpa using hi)
    simp only [Act.put, sa, sb, sc]
    refine g_end ?_
    intro w3 hC3 hh3
    have S3 : Hid (Stays [] w w3) := Lib.hid (stays_nil (stays_below hC3))
    clear S2
    clear hC3 hh3
    go_upto_region 4 with fail
    refine reg_plain (Stays [] w) (Turns [] w) (kdOf []) none0 (stays_good _ _) (S3.out) (holds0 _) ?_
    refine g_look rfl rfl ?_ (fun w' hC => ?_) ?_
    rotate_left
    · go_simp
      first | done | rfl
    simp only [Act.put, sa, sb, sc]
    refine g_end ?_
    intro w4 hC4 hh4
    have S4 : Hid (Stays [] w w4) := Lib.hid (stays_nil (stays_below hC4))
    clear S3
    clear hC4 hh4
    go_wp2_with fail
    refine bodyPost_ret (v := .bool true) (by simp [results, Try.results3, go_sem]) rfl ⟨rfl, stays_below S4.out⟩
  · have hi : ¬ (300 : Int) < (n : Int) := fun h => hlong (Int.ofNat_lt.1 h)
    have HL3 : Hid (l.length ≤ 300) := Lib.hid (by rw [hn]; omega)
    go_upto_region 3 with fail
    refine reg_plain (Stays [] w) (Turns [] w) (kdOf []) none0 (stays_good _ _) (S2.out) (holds0 _) ?_
    refine g_look rfl rfl ?_ (fun w' hC => ?_) ?_
    rotate_left
    · go_simp
      first | done | rfl
    simp only [Act.put, sa, sb, sc]
    refine g_look rfl rfl (.int .i64 (n : Int)) (fun w' hC => ?_) ?_
    · clear hC
      go_simp
      first | done | rfl | exact hn | (rw [hn]; done) | (simp [hn]; done)
    simp only [Act.put, sa, sb, sc]
    refine g_look rfl rfl (.bool false) (fun w' hC => ?_) ?_
    · clear hC
      go_simp
      first | done | rfl | exact hi | (simpa using hi)
    simp only [Act.put, sa, sb, sc]
    refine g_end ?_
    intro w3 hC3 hh3
    have S3 : Hid (Stays [] w w3) := Lib.hid (stays_nil (stays_below hC3))
    clear S2
    clear hC3 hh3
    go_upto_region 5 with fail
    refine reg_plain (Stays [] w) (Turns [] w) (kdOf [(1, .make (fun _ => callM (.tuple #[.agg #[.int .u64 a, .int .u64 b], .int .i64 k]))), (5, .make (fun _ => allocM (.cells #[.int .u64 0, .int .u64 0] 25))), (6, .touch)]) none0 (stays_good _ _) (S3.out) (holds0 _) ?_
    refine g_look rfl rfl ?_ (fun w' hC => ?_) ?_
    rotate_left
    · go_simp
      first | done | rfl
    simp only [Act.put, sa, sb, sc]
    refine g_call (stays_good _ _) (.tuple #[.agg #[.int .u64 a, .int .u64 b], .int .i64 k]) rfl rfl (fun w' hC => ?_) ?_
    · clear hC
      go_simp
      refine (parse_any _ l HL.out).mono (fun e w2 h => ?_)
      obtain ⟨h1, h2⟩ := h
      rw [HV.out] at h1
      exact gives h1 h2
    simp only [Act.put, sa, sb, sc]
    refine g_look rfl rfl ?_ (fun w' hC => ?_) ?_
    rotate_left
    · go_simp
      first | done | rfl
    simp only [Act.put, sa, sb, sc]
    refine g_look rfl rfl ?_ (fun w' hC => ?_) ?_
    rotate_left
    · go_simp
      first | done | rfl
    simp only [Act.put, sa, sb, sc]
    refine g_look rfl rfl ?_ (fun w' hC => ?_) ?_
    rotate_left
    · go_simp
      first | done | rfl
    simp only [Act.put, sa, sb, sc]
    refine g_alloc (stays_good _ _) (.cells #[.int .u64 0, .int .u64 0] 25) rfl rfl (fun w' hC => ?_) (fun gx tx nx => ?_)
    · clear hC
      go_simp
      first | done | rfl | exact ⟨rfl, rfl⟩
    clear nx
    replace tx := Lib.hid tx
    simp only [Act.put, sa, sb, sc]
    refine g_store gx (some 5) 25 25 _ _ #[.int .u64 0, .int .u64 0] #[.int .u64 a, .int .u64 b] rfl rfl rfl rfl rfl (own_new _ _ _ _) (by kernel_rfl) (rfl) (rfl) (one25 _ _) ?_
    simp only [Act.put]
    refine g_look rfl rfl ?_ (fun w' hC => ?_) ?_
    rotate_left
    · go_simp
      first | done | rfl
    simp only [Act.put, sa, sb, sc]
    refine g_end ?_
    intro w4 hC4 hh4
    have S4 : Hid (Stays [(gx, Obj.cells #[.int .u64 a, .int .u64 b] 25 (0, 0))] w w4) := Lib.hid (stays_cons ((hh4 _ _ _ (own_new _ _ _ _)).1) (stays_nil (stays_below hC4)))
    clear S3
    clear hC4 hh4
    go_upto_region 6 with fail
    refine reg_plain (Stays [(gx, Obj.cells #[.int .u64 a, .int .u64 b] 25 (0, 0))] w) (Turns [(gx, Obj.cells #[.int .u64 a, .int .u64 b] 25 (0, 0))] w) (kdOf [(1, .make (fun _ => callM (.tuple #[.agg #[.int .u64 a, .int .u64 b], .int .i64 k]))), (5, .make (fun _ => allocM (.cells #[.int .u64 0, .int .u64 0] 25))), (6, .touch)]) none0 (stays_good _ _) (S4.out) (holds0 _) ?_
    refine g_look rfl rfl ?_ (fun w' hC => ?_) ?_
    rotate_left
    · go_simp
      first | done | rfl
    simp only [Act.put, sa, sb, sc]
    refine g_call (stays_good _ _) (.tuple #[.agg #[.int .u64 a, .int .u64 b], .int .i64 k]) rfl rfl (fun w' hC => ?_) ?_
    · clear hC
      go_simp
      refine (dparse_any _ l HL3.out).mono (fun e w2 h => ?_)
      obtain ⟨h1, h2⟩ := h
      rw [HV.out] at h1
      exact gives h1 h2
    simp only [Act.put, sa, sb, sc]
    refine g_look rfl rfl ?_ (fun w' hC => ?_) ?_
    rotate_left
    · go_simp
      first | done | rfl
    simp only [Act.put, sa, sb, sc]
    refine g_look rfl rfl ?_ (fun w' hC => ?_) ?_
    rotate_left
    · go_simp
      first | done | rfl
    simp only [Act.put, sa, sb, sc]
    refine g_look rfl rfl ?_ (fun w' hC => ?_) ?_
    rotate_left
    · go_simp
      first | done | rfl
    simp only [Act.put, sa, sb, sc]
    refine g_alloc (stays_good _ _) (.cells #[.int .u64 0, .int .u64 0] 25) rfl rfl (fun w' hC => ?_) (fun gy ty ny => ?_)
    · clear hC
      go_simp
      first | done | rfl | exact ⟨rfl, rfl⟩
    clear ny
    replace ty := Lib.hid ty
    simp only [Act.put, sa, sb, sc]
    refine g_store gy (some 5) 25 25 _ _ #[.int .u64 0, .int .u64 0] #[.int .u64 a, .int .u64 b] rfl rfl rfl rfl rfl (own_new _ _ _ _) (by kernel_rfl) (rfl) (rfl) (one25 _ _) ?_
    simp only [Act.put]
    refine g_look rfl rfl ?_ (fun w' hC => ?_) ?_
    rotate_left
    · go_simp
      first | done | rfl
    simp only [Act.put, sa, sb, sc]
    refine g_end ?_
    intro w5 hC5 hh5
    have S5 : Hid (Stays [(gx, Obj.cells #[.int .u64 a, .int .u64 b] 25 (0, 0)), (gy, Obj.cells #[.int .u64 a, .int .u64 b] 25 (0, 0))] w w5) := Lib.hid (stays_cons (stays_row hC5 (List.mem_cons_self ..)) (stays_cons ((hh5 _ _ _ (own_new _ _ _ _)).1) (stays_nil (stays_below hC5))))
    clear S4
    clear hC5 hh5
    go_upto_region 7 with fail
    refine reg_plain (Stays [(gx, Obj.cells #[.int .u64 a, .int .u64 b] 25 (0, 0)), (gy, Obj.cells #[.int .u64 a, .int .u64 b] 25 (0, 0))] w) (Turns [(gx, Obj.cells #[.int .u64 a, .int .u64 b] 25 (0, 0)), (gy, Obj.cells #[.int .u64 a, .int .u64 b] 25 (0, 0))] w) (kdOf []) none0 (stays_good _ _) (S5.out) (holds0 _) ?_
    refine g_look rfl rfl ?_ (fun w' hC => ?_) ?_
    rotate_left
    · go_simp
      first | done | rfl
    simp only [Act.put, sa, sb, sc]
    refine g_look rfl rfl ?_ (fun w' hC => ?_) ?_
    rotate_left
    · go_simp
      first | done | rfl
    simp only [Act.put, sa, sb, sc]
    refine g_look rfl rfl (.bool true) (fun w' hC => ?_) ?_
    · clear hC
      go_simp
      first | done | rfl | (simp; done)
    simp only [Act.put, sa, sb, sc]
    refine g_look rfl rfl ?_ (fun w' hC => ?_) ?_
    rotate_left
    · go_simp
      first | done | rfl
    simp only [Act.put, sa, sb, sc]
    first | (refine g_skip rfl ?_) | (refine g_load 25 _ gx 25 #[.int .u64 a, .int .u64 b] (0, 0) _ rfl rfl rfl rfl (fun w' hC => stays_row hC (List.mem_cons_self ..)) Try.underlying25 rfl (rfl) ?_)
    simp only [Act.put, sa, sb, sc]
    first | (refine g_skip rfl ?_) | (refine g_load 25 _ gy 25 #[.int .u64 a, .int .u64 b] (0, 0) _ rfl rfl rfl rfl (fun w' hC => stays_row hC (List.mem_cons_of_mem _ (List.mem_cons_self ..))) Try.underlying25 rfl (rfl) ?_)
    simp only [Act.put, sa, sb, sc]
    first
    | (refine g_skip rfl ?_)
    | (refine g_look rfl rfl (.bool true) (fun w' hC => ?_) ?_
       · clear hC
         go_simp
         first | done | rfl | (simp; done))
    simp only [Act.put, sa, sb, sc]
    refine g_look rfl rfl ?_ (fun w' hC => ?_) ?_
    rotate_left
    · go_simp
      first | done | rfl
    simp only [Act.put, sa, sb, sc]
    refine g_look rfl rfl ?_ (fun w' hC => ?_) ?_
    rotate_left
    · go_simp
      first | done | rfl
    simp only [Act.put, sa, sb, sc]
    refine g_end ?_
    intro w6 hC6 hh6
    have S6 : Hid (Stays [(gx, Obj.cells #[.int .u64 a, .int .u64 b] 25 (0, 0)), (gy, Obj.cells #[.int .u64 a, .int .u64 b] 25 (0, 0))] w w6) := Lib.hid (stays_cons (stays_row hC6 (List.mem_cons_self ..)) (stays_cons (stays_row hC6 (List.mem_cons_of_mem _ (List.mem_cons_self ..))) (stays_nil (stays_below hC6))))
    clear S5
    clear hC6 hh6
    go_wp2_with fail
    refine bodyPost_ret (v := .bool true) (by simp [results, Try.results3, go_sem]) rfl ⟨rfl, stays_below S6.out⟩
theorem parses_any (w : World) (s : ByteArray) (hs : s.size ≤ maxLen) : Calls Try.prog 3 #[.string s] w (Ret w (.bool true)) := by
  have h : s = ⟨s.data.toList.toArray⟩ := ByteArray.ext (by simp)
  have hl : s.data.toList.length ≤ maxLen := by rw [Array.length_toList]; exact hs
  rw [h]
  exact parses_list w _ hl
end Go.Proofs.Ythpdfacdjgkmpaa.Wi
