/- Disks: what was to be written, by a walk. -/
import Derived.Test.YtijcdpefcdgklaaEa
namespace Go.Proofs.Ytijcdpefcdgklaa.Di
open Go.RowKit K

/-- Each slice reads as its bytes. -/
def Lists (w : World) (vs : List Value) (ls : List (List UInt8)) : Prop := vs.length = ls.length ∧ ∀ (i : Nat) v l, vs[i]? = some v → ls[i]? = some l → Reads w v l
/-- Each slice owns its row. -/
def Owns (w : World) (base : Nat) (vs : List Value) (ls : List (List UInt8)) : Prop := vs.length = ls.length ∧ ∀ (i : Nat) v l, vs[i]? = some v → ls[i]? = some l → w.ownsRow base 5 1 v l.length (bys l)
def WritesTo (w : World) (ls : List (List UInt8)) (e : Ending) (w' : World) : Prop := ∃ v vs, e = .returned v ∧ w'.ownsRow w.heap.size 22 1 v ls.length vs ∧ Owns w' w.heap.size vs ls ∧ Below w.heap.size w w'
theorem owns_below {w w' : World} {base : Nat} {vs : List Value} {ls : List (List UInt8)} (h : Owns w base vs ls) (hb : Below w.heap.size w w') : Owns w' base vs ls :=
  ⟨h.1, fun i v l hv hl => own_below (h.2 i v l hv hl) hb⟩
theorem owns_app {w w' : World} {base : Nat} {v v' : Value} {n m : Nat} {xs news : List Value} {vs : List Value} {ls : List (List UInt8)} (h : Owns w base vs ls) (hA : App w w' base 22 1 v v' n m xs news) : Owns w' base vs ls := by
  refine ⟨h.1, fun i u l hv hl => ?_⟩
  have ho := h.2 i u l hv hl
  refine hA.other ho ?_
  cases hu : u.ownBlock with
  | none => exact .inl rfl
  | some k =>
    refine .inr fun hk => ?_
    obtain ⟨c1, r1, _⟩ := own_block ho hu
    obtain ⟨c2, r2, _⟩ := own_block hA.own0 hk.symm
    exact blk_ne r1 r2 (by decide) rfl
theorem owns_snoc {w : World} {base : Nat} {vs : List Value} {ls : List (List UInt8)} {v : Value} {l : List UInt8} (h : Owns w base vs ls) (hv : w.ownsRow base 5 1 v l.length (bys l)) : Owns w base (vs ++ [v]) (ls ++ [l]) := by
  refine ⟨by rw [List.length_append, List.length_append, h.1]; rfl, fun i u m hu hm => ?_⟩
  by_cases hi : i < vs.length
  · rw [List.getElem?_append_left hi] at hu
    rw [List.getElem?_append_left (by rw [← h.1]; exact hi)] at hm
    exact h.2 i u m hu hm
  · rw [List.getElem?_append_right (by omega)] at hu
    rw [List.getElem?_append_right (by rw [← h.1]; omega), ← h.1] at hm
    cases hk : i - vs.length with
    | zero =>
      rw [hk] at hu hm
      cases hu; cases hm
      exact hv
    | succ q => rw [hk] at hu; simp at hu
theorem own_under {w : World} {b b' : Nat} {e : TypeId} {size n : Nat} {v : Value} {xs : List Value} (h : w.ownsRow b e size v n xs) (hb : b' ≤ b) : w.ownsRow b' e size v n xs := by
  obtain ⟨h1, h2 | ⟨g, cap, cur, rfl, hg, h3⟩⟩ := h
  · exact ⟨h1, .inl h2⟩
  · exact ⟨h1, .inr ⟨g, cap, cur, rfl, Nat.le_trans hb hg, h3⟩⟩
theorem inc_w {j : Nat} (h : j ≤ 1000) : wrap64 ((j : Int) + 1) = (j : Int) + 1 := by
  simp only [wrap64]
  omega
theorem rnd {n k : Nat} (h : k < n) : k + 1 ≤ n ∧ n - ((k : Int) + 1).toNat < n - (k : Int).toNat := ⟨h, by omega⟩
attribute [local go_sem ↓] eq22 eq22n eq37 eq37n eq25 ne25
set_option maxHeartbeats 4000000 in
set_option maxRecDepth 100000 in
theorem writes_any {w : World} {base : Nat} {d : Dk} (h : At w base d) (ls : List (List UInt8)) (hr : Lists w d.vs ls) (hl : ls.length ≤ 1000) (hb : ∀ l ∈ ls, l.length ≤ 1000000) : Calls Try.prog 15 #[.pointer (some ⟨d.g, 0, none⟩)] w (WritesTo w ls) := by
  obtain ⟨c0, c1, c2, c3, c4, c5⟩ := h.cells
  have HO := Lib.hid h.own
  obtain ⟨g, s0, s1, n0, a, b, left, down, wr0, wv, vs, k0, k1, ta, tb⟩ := d
  dsimp only at *
  obtain ⟨n, hn⟩ : ∃ n, vs.length = n := ⟨_, rfl⟩
  have hnl : ls.length = n := by rw [← hr.1]; exact hn
  have HR := Lib.hid hr
  have HB := Lib.hid hb
  have HN := Lib.hid hnl
  have HL : Hid (n ≤ 1000) := Lib.hid (by omega)
  have hsh : ∃ (p : Option Addr) (c : Nat), wv = .slice p n c ∧ ∀ (j : Nat) u, vs[j]? = some u → ∃ gg, p = some ⟨gg, 0, none⟩ ∧ w.cell? ⟨gg, j, none⟩ = some u := by
    have ho := HO.out
    rw [hn] at ho
    obtain ⟨hx, ⟨rfl, h0⟩ | ⟨gg, cap, cur, rfl, _, _, _, _, _, _⟩⟩ := id ho
    · exact ⟨none, 0, by rw [h0], fun j u hj => by rw [List.length_eq_zero_iff.1 (hn.trans h0)] at hj; simp at hj⟩
    · refine ⟨_, cap, rfl, fun j u hj => ⟨gg, rfl, ?_⟩⟩
      have h5 := ho.cells (g := gg) rfl j u hj
      have e1 : (⟨gg, 0, none⟩ : Addr).add j = ⟨gg, j, none⟩ := by unfold Addr.add; split <;> simp_all
      rw [e1] at h5
      exact h5
  obtain ⟨p, c, rfl, hcell⟩ := hsh
  have HC := Lib.hid hcell
  clear h hr hb hcell hn hnl
  go_enter Try.func15, Try.ntmps15
  go_wp2_with fail
  go_loopw [3, 13] (fun s i wr => ∃ (j : Nat) (us : List Value), j ≤ n ∧ i = .int .i64 (j : Int) ∧ Hid (us.length = j) ∧ Hid (wr.ownsRow w.heap.size 22 1 s j us) ∧ Hid (Owns wr w.heap.size us (ls.take j)) ∧ Hid (Below w.heap.size w wr)) (fun _ i _ => n - (intOf i).toNat)
  case atStart => exact ⟨0, [], Nat.zero_le _, rfl, Lib.hid rfl, Lib.hid (own_nil _ _ _ _), Lib.hid ⟨by simp, fun i v l hv => by simp at hv⟩, Lib.hid (Below.refl _ _)⟩
  case round =>
    obtain ⟨j, us, hj, rfl, HU, HO2, HW2, HBl⟩ := hrel
    by_cases hlt : j < n
    · obtain ⟨l, hlj⟩ : ∃ l, ls[j]? = some l := ⟨_, List.getElem?_eq_getElem (by rw [HN.out]; exact hlt)⟩
      obtain ⟨v, hvj⟩ : ∃ v, vs[j]? = some v := ⟨_, List.getElem?_eq_getElem (by rw [HR.out.1, HN.out]; exact hlt)⟩
      obtain ⟨gg, hpp, hcc⟩ := HC.out j v hvj
      subst hpp
      have hcw : wr.cell? ⟨gg, j, none⟩ = some v := by rw [HBl.out.cell (cell_lt hcc)]; exact hcc
      have HRD : Hid (Reads wr v l) := Lib.hid (reads_below (HR.out.2 j v l hvj hlj) HBl.out)
      have HL6 : Hid (l.length ≤ 1000000) := Lib.hid (HB.out l (List.mem_of_getElem? hlj))
      have hki : (j : Int) < (n : Int) := Int.ofNat_lt.2 hlt
      have HLE := Lib.hid (rnd hlt)
      have HWJ := Lib.hid (inc_w (j := j) (by have := HL.out; omega))
      have HJ : Hid (j + 1 ≤ maxLen ∧ (j + 1) * 24 ≤ 140737488355328) := Lib.hid (by have := HL.out; unfold maxLen; omega)
      have HTK : Hid (ls.take (j + 1) = ls.take j ++ [l]) := Lib.hid (by rw [List.take_add_one, hlj]; rfl)
      clear hcc hlj hvj hlt hj
      go_upto_region 7 with fail
      refine wp_region_lit ?_
      refine wpList_plain rfl (fun K hK => ?_)
      go_simp
      refine hK _ _ ?_
      clear hK K
      refine wpList_plain rfl (fun K hK => ?_)
      go_simp
      refine hK _ _ ?_
      clear hK K
      refine wpList_plain rfl (fun K hK => ?_)
      go_simp
      refine (clone_any _ v l HRD.out HL6.out).mono ?_
      rintro e w2 ⟨v2, rfl, ho2, hb2⟩
      refine hK _ _ ?_
      clear hK K
      have HO3 := Lib.hid (own_below HO2.out hb2)
      have HW3 := Lib.hid (owns_below HW2.out hb2)
      have HV2 := Lib.hid (own_under ho2 HBl.out.size)
      have HBl2 := Lib.hid (b_then HBl.out hb2)
      obtain ⟨p2, cc2, hv2, _⟩ := read_shape (reads_own HV2.out)
      subst hv2
      clear ho2 hb2 HO2 HW2 HBl
      refine wpList_plain rfl (fun K hK => ?_)
      go_simp
      refine hK _ _ ?_
      clear hK K
      refine wpList_app _ rfl _ _ _ rfl w.heap.size 22 (.slice none 0 0) 1 24 Try.underlying37 info22 rfl (by decide) _ j us rfl ⟨w2.heap.size, 0, none⟩ 1 1 [.slice p2 l.length cc2] rfl rfl (by intro u hu; rw [List.mem_singleton.1 hu]; rfl) (by decide) HJ.out.1 HJ.out.2 (own_below HO3.out (b_alloc (Below.refl _ _) _)) (news_one (blk_new rfl)) (b_alloc HBl2.out _).size ?_
      intro g2 cap w3 hA
      have HA := Lib.hid hA
      clear hA
      go_wp2_with fail
      rw [HWJ.out]
      go_roundw
      case rel => exact ⟨j + 1, us ++ [.slice p2 l.length cc2], HLE.out.1, rfl, Lib.hid (by rw [List.length_append, HU.out]; rfl), Lib.hid HA.out.own, Lib.hid (by rw [HTK.out]; exact owns_snoc (owns_app (owns_below HW3.out (b_alloc (Below.refl _ _) _)) HA.out) (HA.out.other (own_below HV2.out (b_alloc (Below.refl _ _) _)) (by
          cases hu : Value.ownBlock (.slice p2 l.length cc2) with
          | none => exact .inl rfl
          | some k =>
            refine .inr fun hk => ?_
            obtain ⟨c1, r1, _⟩ := own_block (own_below HV2.out (b_alloc (Below.refl w2.heap.size w2) (.cells #[.slice p2 l.length cc2] 22))) hu
            obtain ⟨c2, r2, _⟩ := own_block HA.out.own0 hk.symm
            exact blk_ne r1 r2 (by decide) rfl))), Lib.hid (HA.out.below (b_alloc HBl2.out _) (Nat.le_refl _))⟩
      case measure => exact HLE.out.2
    · obtain rfl : j = n := by omega
      have hki : ¬ (j : Int) < (j : Int) := by omega
      go_wp2_with fail
      refine bodyPost_ret (v := u3) (by simp [results, Try.results15, go_sem]) rfl ⟨u3, us, rfl, by rw [HN.out]; exact HO2.out, ?_, HBl.out⟩
      have h9 := HW2.out
      rw [← HN.out, List.take_length] at h9
      exact h9
end Go.Proofs.Ytijcdpefcdgklaa.Di
