/- The document's numbers: a number times a small one, and a digit, by a walk. -/
import Derived.Test.YthpdfacdjgkmpaaEs
import Derived.Test.YthpdfacdjgkmpaaApp
namespace Go.Proofs.Ythpdfacdjgkmpaa.Wi
open Go.RowKit K

def ints (ds : List Nat) : List Value := ds.map fun (d : Nat) => Value.int .i64 (d : Int)
theorem ints_len (ds : List Nat) : (ints ds).length = ds.length := by simp [ints]
theorem ints_app (a b : List Nat) : ints (a ++ b) = ints a ++ ints b := by simp [ints]
/-- A slice reads as these digits, the least first. -/
def NRead (w : World) (v : Value) (ds : List Nat) : Prop := ∃ (p : Option Addr) (c : Nat), v = .slice p ds.length c ∧ ds.length ≤ c ∧ c ≤ maxLen ∧ (p = none → c = 0) ∧
  ∀ (j d : Nat), ds[j]? = some d → ∃ g o : Nat, p = some ⟨g, o, none⟩ ∧ w.cell? ⟨g, o + j, none⟩ = some (.int .i64 (d : Int))
theorem nread_below {w w' : World} {v : Value} {ds : List Nat} (h : NRead w v ds) (hb : Below w.heap.size w w') : NRead w' v ds := by
  obtain ⟨p, c, h1, h2, h3, h4, h5⟩ := h
  refine ⟨p, c, h1, h2, h3, h4, fun j d hj => ?_⟩
  obtain ⟨g, o, hp, hc⟩ := h5 j d hj
  exact ⟨g, o, hp, by rw [hb.cell (World.block_lt_of_cell? w _ hc)]; exact hc⟩
theorem nread_own {w : World} {base : Nat} {v : Value} {ds : List Nat} {n : Nat} (h : w.ownsRow base 3 1 v n (ints ds)) (hn : n = ds.length) : NRead w v ds := by
  subst hn
  obtain ⟨_, h1 | ⟨g, cap, cur, rfl, _, hg, hc, hm, hs, ht⟩⟩ := h
  · obtain ⟨h1, h2⟩ := h1
    have hd : ds = [] := List.eq_nil_of_length_eq_zero h2
    subst hd
    exact ⟨none, 0, h1, by simp, by unfold maxLen; omega, fun _ => rfl, fun j d hj => by simp at hj⟩
  · refine ⟨_, cap, rfl, hc, hm, fun h => (by cases h), fun j d hj => ⟨g, 0, rfl, ?_⟩⟩
    rw [Nat.zero_add, cell_of_row _ _ _ _ _ _ hg]
    have h2 : (ints ds)[j]? = some (.int .i64 (d : Int)) := by simp [ints, hj]
    rw [← ht, List.getElem?_take] at h2
    split at h2
    · simpa using h2
    · cases h2
/-- The digit above. -/
def topD (p : Nat) : List Nat := if p = 0 then [] else [p]
/-- Times a small number, and so much besides. -/
def mulN : List Nat → Nat → Nat → List Nat
  | [], _, p => topD p
  | d :: ds, k, p => (p + d * k) % 10 :: mulN ds k ((p + d * k) / 10)
def valN : List Nat → Nat
  | [] => 0
  | d :: ds => d + 10 * valN ds
theorem mul_facts : ∀ (ds : List Nat) (k p : Nat), (∀ d ∈ ds, d ≤ 9) → k ≤ 10 → p ≤ 9 → valN (mulN ds k p) = valN ds * k + p ∧ (∀ d ∈ mulN ds k p, d ≤ 9) ∧ (mulN ds k p).length ≤ ds.length + 1
  | [], k, p, _, _, hp => by
    unfold mulN topD
    split
    · rename_i h; subst h; simp [valN]
    · simp [valN, hp]
  | d :: ds, k, p, hd, hk, hp => by
    have h9 := hd d (List.mem_cons_self ..)
    have hdk : d * k ≤ 9 * 10 := Nat.mul_le_mul h9 hk
    have ih := mul_facts ds k ((p + d * k) / 10) (fun x hx => hd x (List.mem_cons_of_mem _ hx)) hk (by omega)
    rw [mulN]
    refine ⟨?_, ?_, by simp only [List.length_cons]; omega⟩
    · rw [valN, ih.1, valN]
      have : (d + 10 * valN ds) * k = d * k + 10 * (valN ds * k) := by rw [Nat.add_mul, Nat.mul_assoc]
      rw [this]
      omega
    · intro x hx
      rcases List.mem_cons.1 hx with rfl | hx
      · omega
      · exact ih.2.1 x hx
theorem times_step {d k p : Nat} (hd : d ≤ 9) (hk : k ≤ 10) (hp : p ≤ 9) : wrap64 ((d : Int) * (k : Int)) = ((d * k : Nat) : Int) ∧ wrap64 ((p : Int) + ((d * k : Nat) : Int)) = ((p + d * k : Nat) : Int) ∧ (p + d * k) / 10 ≤ 9 ∧ Int.tmod ((p + d * k : Nat) : Int) 10 = (((p + d * k) % 10 : Nat) : Int) ∧ Int.tdiv ((p + d * k : Nat) : Int) 10 = (((p + d * k) / 10 : Nat) : Int) ∧ wrap64 (((p + d * k) / 10 : Nat) : Int) = (((p + d * k) / 10 : Nat) : Int) := by
  have hdk : d * k ≤ 9 * 10 := Nat.mul_le_mul hd hk
  have e : (d : Int) * (k : Int) = ((d * k : Nat) : Int) := by simp
  rw [e]
  generalize d * k = m at *
  refine ⟨wrap_small (by omega) (by omega), by rw [wrap_small (by omega) (by omega)]; simp, by omega, ?_, ?_, wrap_small (by omega) (by omega)⟩
  · exact Int.ofNat_tmod _ _
  · exact Int.ofNat_tdiv _ _
theorem info3 : (Try.prog.info? 3).map (fun i => (i.zero, i.size, i.bytes)) = some (some (.int .i64 0), 1, 8) := by kernel_rfl
theorem own_empty3 {w : World} : (w.alloc (.cells #[] 3)).ownsRow w.heap.size 3 1 (.slice (some ⟨w.heap.size, 0, none⟩) 0 0) 0 [] :=
  ⟨by simp, Or.inr ⟨_, 0, #[], rfl, Nat.le_refl _, blk_new rfl, Nat.le_refl _, by unfold maxLen; omega, by simp, by simp⟩⟩
theorem one_int (x : Int) : ∀ u ∈ [Value.int .i64 x], u.oneCell' = true := by
  intro u hu
  rw [List.mem_singleton.1 hu]
  rfl
theorem div_wrap {s q : Nat} (hq : s / 10 = q) (h9 : q ≤ 9) : wrap64 ((s : Int) / 10) = (q : Int) := by
  have e : (s : Int) / 10 = (q : Int) := by omega
  rw [e]
  exact wrap_small (by omega) (by omega)
theorem top_step {p : Nat} (h : p ≤ 9) (h0 : ¬ p = 0) : Int.tmod (p : Int) 10 = (p : Int) ∧ wrap64 ((p : Int) / 10) = 0 ∧ (intOf (.int .i64 0)).toNat < (intOf (.int .i64 (p : Int))).toNat := by
  refine ⟨?_, ?_, ?_⟩
  · exact Int.tmod_eq_of_lt (by omega) (by omega)
  · rw [show (p : Int) / 10 = 0 by omega]; exact wrap_small (by decide) (by decide)
  · show (0 : Int).toNat < (p : Int).toNat; omega
/-- A number comes back. -/
def NumTo (w : World) (ds : List Nat) (e : Ending) (w' : World) : Prop := ∃ v, e = .returned v ∧ NRead w' v ds ∧ Below w.heap.size w w'
set_option maxHeartbeats 4000000 in
set_option maxRecDepth 100000 in
theorem ntimes_any (w : World) (v : Value) (ds : List Nat) (k p0 : Nat) (h : NRead w v ds) (hd : ∀ d ∈ ds, d ≤ 9) (hl : ds.length ≤ 1000) (hk : k ≤ 10) (hp : p0 ≤ 9) : Calls Try.prog 35 #[v, .int .i64 (k : Int), .int .i64 (p0 : Int)] w (NumTo w (mulN ds k p0)) := by
  obtain ⟨p, c, rfl, h2, h3, h4, h5⟩ := h
  obtain ⟨T, hT⟩ : ∃ T, mulN ds k p0 = T := ⟨_, rfl⟩
  rw [hT]
  obtain ⟨n, hn⟩ : ∃ n, ds.length = n := ⟨_, rfl⟩
  have H5 := Lib.hid h5
  have HD := Lib.hid hd
  have HL := Lib.hid hl
  have HN := Lib.hid hn
  have HT := Lib.hid hT
  have HK := Lib.hid hk
  have HP := Lib.hid hp
  rw [hn]
  clear h2 h3 h4 h5 hd hl hn hT hk hp
  have HO0 := Lib.hid (own_empty3 (w := w))
  have HB0 := Lib.hid (b_alloc (Below.refl w.heap.size w) (.cells #[] 3))
  go_enter Try.func35, Try.ntmps35
  go_wp2_with fail
  go_loopw [2, 7, 13] (fun q s i wr => ∃ (j p : Nat) (o : List Nat), j ≤ n ∧ i = .int .i64 (j : Int) ∧ q = .int .i64 (p : Int) ∧ Hid (p ≤ 9) ∧ Hid (o.length = j) ∧ Hid (o ++ mulN (ds.drop j) k p = T) ∧ Hid (wr.ownsRow w.heap.size 3 1 s j (ints o)) ∧ Hid (Below w.heap.size w wr)) (fun _ _ i _ => n - (intOf i).toNat)
  case atStart => exact ⟨0, p0, [], Nat.zero_le _, rfl, rfl, HP, Lib.hid rfl, HT, HO0, HB0⟩
  case round =>
    obtain ⟨j, p1, o, hj, rfl, rfl, HP1, HOL, HM, HO, HB⟩ := hrel
    clear HO0 HB0
    by_cases hlt : j < n
    · obtain ⟨d, hdj⟩ : ∃ d, ds[j]? = some d := ⟨_, List.getElem?_eq_getElem (by have := HN.out; omega)⟩
      have hd9 := HD.out d (List.mem_of_getElem? hdj)
      obtain ⟨g, o0, hpp, hcell⟩ := H5.out j d hdj
      subst hpp
      have hcell' : wr.cell? ⟨g, o0 + j, none⟩ = some (.int .i64 (d : Int)) := by rw [HB.out.cell (World.block_lt_of_cell? w _ hcell)]; exact hcell
      have hdrop : ds.drop j = d :: ds.drop (j + 1) := by
        have h1 : j < ds.length := by have := HN.out; omega
        rw [List.drop_eq_getElem_cons h1]
        rw [List.getElem?_eq_getElem h1] at hdj
        rw [Option.some.inj hdj]
      have HJ : Hid (j + 1 ≤ maxLen ∧ (j + 1) * 8 ≤ 140737488355328) := Lib.hid (by have := HL.out; have := HN.out; unfold maxLen; omega)
      have HWJ : Hid ( wrap64 ((j : Int) + 1) = (j : Int) + 1) := Lib.hid (by have := HL.out; have := HN.out; exact wrap_small (by omega) (by omega))
      have hjl : (j : Int) < (n : Int) := by omega
      obtain ⟨t1, t2, t3, t4, t5, t6⟩ := times_step (p := p1) hd9 HK.out HP1.out
      have HM2 := HM.out
      rw [hdrop, mulN] at HM2
      obtain ⟨s, hs⟩ : ∃ s, p1 + d * k = s := ⟨_, rfl⟩
      have t2' : wrap64 ((p1 : Int) + wrap64 ((d : Int) * (k : Int))) = (s : Int) := by rw [t1, t2, hs]
      rw [hs] at t3 t4 t5 t6 HM2
      obtain ⟨r, hr⟩ : ∃ r, s % 10 = r := ⟨_, rfl⟩
      obtain ⟨q, hq⟩ : ∃ q, s / 10 = q := ⟨_, rfl⟩
      rw [hr] at t4 HM2
      rw [hq] at t3 t5 t6 HM2
      have HM3 := Lib.hid HM2
      have HQ9 := Lib.hid t3
      have HLE := Lib.hid (round_end hlt)
      have HT7 : Hid (wrap64 ((s : Int) / 10) = (q : Int)) := Lib.hid (div_wrap hq t3)
      have HT2 := Lib.hid t2'
      have HT4 := Lib.hid t4
      have HT5 := Lib.hid t5
      have HT6 := Lib.hid t6
      clear t1 t2 t2' t4 t5 t6
      clear hcell hdj hd9 hdrop HM2 HM t3 hs hr hq HD H5 hlt hj
      go_upto_region 6 with fail
      simp only [HT2.out]
      refine wp_region_lit ?_
      refine wpList_plain rfl (fun K hK => ?_)
      go_simp
      refine hK _ _ ?_
      clear hK K
      refine wpList_plain rfl (fun K hK => ?_)
      go_simp
      refine hK _ _ ?_
      clear hK K
      refine wpList_plain rfl (fun K hK => ?_)
      go_simp
      rw [HT4.out]
      refine hK _ _ ?_
      clear hK K
      refine wpList_plain rfl (fun K hK => ?_)
      go_simp
      refine hK _ _ ?_
      clear hK K
      refine wpList_app _ rfl _ _ _ rfl w.heap.size 3 (.int .i64 0) 1 8 Try.underlying60 info3 rfl (by decide) _ j (ints o) rfl ⟨wr.heap.size, 0, none⟩ 1 1 [.int .i64 (r : Int)] rfl rfl (one_int _) (by decide) HJ.out.1 HJ.out.2 (own_below HO.out (b_alloc (Below.refl _ _) _)) (news_one (blk_new rfl)) (b_alloc HB.out _).size ?_
      intro g2 cap w2 hA
      have HA := Lib.hid hA
      clear hA
      go_wp2_with fail
      rw [HWJ.out, HT7.out]
      go_roundw
      case rel => exact ⟨j + 1, q, o ++ [r], HLE.out.1, rfl, rfl, HQ9, Lib.hid (by rw [List.length_append, HOL.out]; rfl), Lib.hid (by rw [List.append_assoc]; exact HM3.out), Lib.hid (by rw [ints_app]; exact HA.out.own), Lib.hid (HA.out.below (b_alloc HB.out _) (Nat.le_refl _))⟩
      case measure => exact HLE.out.2
    · obtain ⟨rfl, hlti⟩ := end_k hj hlt
      have HM2 := HM.out
      rw [show ds.drop j = [] by rw [← HN.out, List.drop_length], mulN] at HM2
      have HM3 := Lib.hid HM2
      have HOB : Hid (o.length ≤ 1000 ∨ p1 = 0) := Lib.hid (.inl (by rw [HOL.out, ← HN.out]; exact HL.out))
      have HO2 : Hid (wr.ownsRow w.heap.size 3 1 u7 o.length (ints o)) := Lib.hid (by rw [HOL.out]; exact HO.out)
      clear HM HM2 HO HOL HN HL hj hlt H5 HD HT HP HK
      go_wp2_with fail
      go_loopw [2, 7] (fun q s wx => ∃ (p : Nat) (o : List Nat), q = .int .i64 (p : Int) ∧ Hid (p ≤ 9) ∧ Hid (o ++ topD p = T) ∧ Hid (wx.ownsRow w.heap.size 3 1 s o.length (ints o)) ∧ Hid (o.length ≤ 1000 ∨ p = 0) ∧ Hid (Below w.heap.size w wx)) (fun q _ _ => (intOf q).toNat)
      case atStart => exact ⟨p1, o, rfl, HP1, HM3, HO2, HOB, HB⟩
      case round =>
        obtain ⟨p2, o2, rfl, HP2, HM4, HO4, HOB4, HB4⟩ := hrel
        clear HP1 HM3 HO2 HOB HB
        by_cases h0 : p2 = 0
        · subst h0
          have hz : ¬ (0 : Int) < ((0 : Nat) : Int) := by decide
          go_wp2_with fail
          refine bodyPost_ret (v := u7) (by simp [results, Try.results35, go_sem]) rfl ⟨u7, rfl, ?_, HB4.out⟩
          have := HM4.out
          rw [topD, if_pos rfl, List.append_nil] at this
          rw [← this]
          exact nread_own HO4.out rfl
        · have hz : (0 : Int) < (p2 : Int) := by omega
          obtain ⟨t4, t7, hms⟩ := top_step HP2.out h0
          have HT4 := Lib.hid t4
          have HT7 := Lib.hid t7
          have HMS := Lib.hid hms
          have HM5 : Hid ((o2 ++ [p2]) ++ topD 0 = T) := Lib.hid (by have := HM4.out; rw [topD, if_neg h0] at this; rw [topD, if_pos rfl, List.append_nil]; exact this)
          have HJ : Hid (o2.length + 1 ≤ maxLen ∧ (o2.length + 1) * 8 ≤ 140737488355328) := Lib.hid (by have := HOB4.out; unfold maxLen; omega)
          clear t4 t7 hms h0
          go_upto_region 10 with fail
          refine wp_region_lit ?_
          refine wpList_plain rfl (fun K hK => ?_)
          go_simp
          refine hK _ _ ?_
          clear hK K
          refine wpList_plain rfl (fun K hK => ?_)
          go_simp
          refine hK _ _ ?_
          clear hK K
          refine wpList_plain rfl (fun K hK => ?_)
          go_simp
          rw [HT4.out]
          refine hK _ _ ?_
          clear hK K
          refine wpList_plain rfl (fun K hK => ?_)
          go_simp
          refine hK _ _ ?_
          clear hK K
          refine wpList_app _ rfl _ _ _ rfl w.heap.size 3 (.int .i64 0) 1 8 Try.underlying60 info3 rfl (by decide) _ o2.length (ints o2) rfl ⟨wr.heap.size, 0, none⟩ 1 1 [.int .i64 (p2 : Int)] rfl rfl (one_int _) (by decide) HJ.out.1 HJ.out.2 (own_below HO4.out (b_alloc (Below.refl _ _) _)) (news_one (blk_new rfl)) (b_alloc HB4.out _).size ?_
          intro g2 cap w2 hA
          have HA := Lib.hid hA
          clear hA
          go_wp2_with fail
          rw [HT7.out]
          go_roundw
          case rel => exact ⟨0, o2 ++ [p2], rfl, Lib.hid (Nat.zero_le _), HM5, Lib.hid (by rw [ints_app, List.length_append]; exact HA.out.own), Lib.hid (.inr rfl), Lib.hid (HA.out.below (b_alloc HB4.out _) (Nat.le_refl _))⟩
          case measure => exact HMS.out
end Go.Proofs.Ythpdfacdjgkmpaa.Wi
