/- DiskPlays: a walk. -/
import Derived.Test.YtijcdpefcdgklaaEh
import Derived.Test.YtijcdpefcdgklaaHeld
import Derived.Lib.PathFns
import Derived.Laws.Concat
namespace Go.Proofs.Ytijcdpefcdgklaa.Di
open Go.RowKit K

attribute [local go_sem ↓] eq22 eq22n eq37 eq37n eq25 ne25 st_size
attribute [local go_sem] lookTo stepTo Maker.step
theorem wrap_u64 (x : Int) : 0 ≤ IntKind.u64.wrap x ∧ IntKind.u64.wrap x < 18446744073709551616 := by
  simp [IntKind.wrap, IntKind.signed, IntKind.bits]; omega
theorem at_ex (x : Int) (n : Nat) (hn : 0 < n) : ∃ a : Nat, (IntKind.u64.wrap x).tmod (n : Int) = (a : Int) ∧ a < n := by
  have h := (wrap_u64 x).1
  rw [Int.tmod_eq_emod_of_nonneg h]
  have h1 := Int.emod_nonneg (IntKind.u64.wrap x) (show (n : Int) ≠ 0 by omega)
  have h2 := Int.emod_lt_of_pos (IntKind.u64.wrap x) (show (0 : Int) < n by omega)
  exact ⟨((IntKind.u64.wrap x) % n).toNat, by omega, by omega⟩
/-- All disks, and the two slices that hold them. -/
structure Both (w : World) (base n j m : Nat) (xs : List Bk) (g9 c9 g10 c10 : Nat) : Prop where
  st : St w base n j xs
  len : xs.length = m
  pos : 0 < m
  most : m ≤ 4
  own9 : w.ownsRow base 25 1 (.slice (some ⟨g9, 0, none⟩) m c9) m (ptrs xs)
  own10 : w.ownsRow base 44 6 (.slice (some ⟨g10, 0, none⟩) m c10) m (rcs xs)
theorem Both.below {w w' : World} {base n j m : Nat} {xs : List Bk} {g9 c9 g10 c10 : Nat} (h : Both w base n j m xs g9 c9 g10 c10) (hb : Below w.heap.size w w') : Both w' base n j m xs g9 c9 g10 c10 :=
  ⟨h.st.below hb, h.len, h.pos, h.most, own_below h.own9 hb, own_below h.own10 hb⟩
theorem own_set6 {w : World} {base m g c i : Nat} {xs : List Bk} {x x' : Bk} (ho : w.ownsRow base 44 6 (.slice (some ⟨g, 0, none⟩) m c) m (rcs xs)) (hx : xs[i]? = some x) (hm : xs.length = m) :
    (w.setCells g (i * 6) (rcells x')).ownsRow base 44 6 (.slice (some ⟨g, 0, none⟩) m c) m (rcs (xs.set i x')) ∧ w.grownBy (w.setCells g (i * 6) (rcells x')) (some g) := by
  have hlt := (List.getElem?_eq_some_iff.1 hx).1
  obtain ⟨h1, h2 | ⟨gg, cap, cur, hv, hb, hg, hc, hml, hs, ht⟩⟩ := ho
  · cases h2.1
  · simp only [Value.slice.injEq, Option.some.injEq, Addr.mk.injEq] at hv
    obtain ⟨⟨hgx, _⟩, _, hcx⟩ := hv
    subst hgx hcx
    have hcl : cur.toList.length = c * 6 := by simpa using hs
    obtain ⟨h2, h3, _⟩ := setCells_row (rcells x') (i * 6) w cur hg (by show i * 6 + 6 ≤ cur.size; omega)
    have h6 : (rcells x').length = 6 := rfl
    rw [h6] at h2
    refine ⟨⟨by rw [rcs_len, List.length_set, hm], Or.inr ⟨g, c, _, rfl, hb, h2, hc, hml, ?_, ?_⟩⟩, h3⟩
    · simp only [List.size_toArray, List.length_append, List.length_take, List.length_drop, hcl, h6]
      omega
    · have ha : (cur.toList.take (i * 6) ++ rcells x').length = i * 6 + 6 := by
        rw [List.length_append, List.length_take, hcl, h6]
        omega
      show List.take (m * 6) (cur.toList.take (i * 6) ++ rcells x' ++ cur.toList.drop (i * 6 + 6)) = _
      rw [rcs_set hx, ← ht, List.take_append, List.take_of_length_le (by omega), ha, List.take_take, Nat.min_eq_left (by omega), List.drop_take]
theorem Both.turn {S : Nat → Prop} {W W2 W3 : World} {base n j j' m i : Nat} {xs : List Bk} {x x' : Bk} {g9 c9 g10 c10 : Nat} (h : Both W base n j m xs g9 c9 g10 c10) (hx : xs[i]? = some x) (hst : St W2 base n j' (xs.set i x')) (hf : Fr S W W2) (hS : ∀ q, S q → Foot x.d q) (hb : Below W2.heap.size W2 W3) (hg : x'.d.g = x.d.g) :
    Both (W3.setCells g10 (i * 6) (rcells x')) base n j' m (xs.set i x') g9 c9 g10 c10 ∧ W3.grownBy (W3.setCells g10 (i * 6) (rcells x')) (some g10) ∧ base ≤ g10 := by
  have hA := (h.st.one i x hx).at_
  have f9 : W2.ownsRow base 25 1 (.slice (some ⟨g9, 0, none⟩) m c9) m (ptrs xs) := own_fr hf h.own9 (fun q hq hs => by
    obtain ⟨_, hc, _⟩ := own_block h.own9 hq
    exact foot_ne hA (hS q hs) hc (by decide) (by decide) (by decide) rfl)
  have f10 : W2.ownsRow base 44 6 (.slice (some ⟨g10, 0, none⟩) m c10) m (rcs xs) := own_fr hf h.own10 (fun q hq hs => by
    obtain ⟨_, hc, _⟩ := own_block h.own10 hq
    exact foot_ne hA (hS q hs) hc (by decide) (by decide) (by decide) rfl)
  have e10 := own_below f10 hb
  obtain ⟨h1, h2⟩ := own_set6 (x' := x') e10 hx h.len
  obtain ⟨_, r10, b10⟩ := own_block e10 rfl
  have hfr : Fr (fun q => q = g10) W3 (W3.setCells g10 (i * 6) (rcells x')) := Fr.of_grown h2 rfl
  refine ⟨⟨(hst.below hb).frame hfr ?_, by rw [List.length_set]; exact h.len, h.pos, h.most, ?_, h1⟩, h2, b10⟩
  · rintro q cs hc rfl
    rcases hc with hc | hc | hc | hc
    · exact blk_ne hc r10 (by decide) rfl
    · exact blk_ne hc r10 (by decide) rfl
    · exact blk_ne hc r10 (by decide) rfl
    · exact blk_ne hc r10 (by decide) rfl
  · rw [ptrs_set hx hg]
    refine own_fr hfr (own_below f9 hb) (fun q hq => ?_)
    rintro rfl
    obtain ⟨_, hc, _⟩ := own_block (own_below f9 hb) hq
    exact blk_ne hc r10 (by decide) rfl
theorem cell_fr {S : Nat → Prop} {w w' : World} (hf : Fr S w w') {g i : Nat} {v : Value} (h : w.cell? ⟨g, i, none⟩ = some v) (hs : ¬ S g) : w'.cell? ⟨g, i, none⟩ = some v := by
  have h1 := cell_lt h
  have h2 := hf.block g h1 hs
  unfold World.cell? at *
  rw [h2]
  exact h
theorem range_fr {S : Nat → Prop} {w w' : World} (hf : Fr S w w') {g o : Nat} {cs : List Value} (h : w.rangeAt g o cs) (hs : ¬ S g) : w'.rangeAt g o cs := fun j v hj => cell_fr hf (h j v hj) hs
theorem range_below {w w' : World} (hb : Below w.heap.size w w') {g o : Nat} {cs : List Value} (h : w.rangeAt g o cs) : w'.rangeAt g o cs := range_fr (S := fun _ => False) (Fr.of_below hb) h id
theorem cell_below {w w' : World} (hb : Below w.heap.size w w') {g i : Nat} {v : Value} (h : w.cell? ⟨g, i, none⟩ = some v) : w'.cell? ⟨g, i, none⟩ = some v := cell_fr (S := fun _ => False) (Fr.of_below hb) h id
theorem range10 {w : World} {base m g c i : Nat} {xs : List Bk} {x : Bk} (ho : w.ownsRow base 44 6 (.slice (some ⟨g, 0, none⟩) m c) m (rcs xs)) (hx : xs[i]? = some x) : w.rangeAt g (i * 6) (rcells x) := by
  intro j v hj
  have hj6 : j < 6 := (List.getElem?_eq_some_iff.1 hj).1
  exact own_cell ho (by rw [rcs_get hx hj6]; exact hj)
theorem there10 {w : World} {base m g c i : Nat} {xs : List Bk} {x : Bk} (ho : w.ownsRow base 44 6 (.slice (some ⟨g, 0, none⟩) m c) m (rcs xs)) (hx : xs[i]? = some x) : w.there g (i * 6) 6 := by
  obtain ⟨cur, hg, _⟩ := own_block ho rfl
  intro j hj
  refine ⟨?_, frozen_of_row _ _ _ _ _ hg⟩
  rw [range10 ho hx j _ (List.getElem?_eq_getElem (show j < (rcells x).length from hj))]
  rfl
theorem look_mid {o : Oper} {a : Act} {w : World} {x : Operand} {g i : Nat} {cs : List Value} (ho : o.op = .load 44 x) (hx : a.eval x = .pointer (some ⟨g, i, none⟩)) (hc : w.rangeAt g i cs) (hl : cs.length = 6) : lookTo w (.agg cs.toArray) ((execOp a.eval o).run Try.prog w) := by
  unfold execOp
  simp only [ho, hx, Instr.loadAt, Instr.sureAddr, Sem.run_bind, Sem.run_pure, Result.andThen_ok, run_loadVar_mid w g i 44 cs _ hc Try.underlying44 rfl (by rw [hl]; exact info44)]
  exact ⟨rfl, rfl⟩
theorem arm_same (x : Int) : (if x < -1 then -1 else x) = (if x < 0 then (-1 : Int) else x) := by split <;> split <;> omega
theorem arm_rng {x : Int} (h : -9223372036854775808 ≤ x ∧ x ≤ 9223372036854775807) : -1 ≤ (if x < 0 then (-1 : Int) else x) ∧ (if x < 0 then (-1 : Int) else x) ≤ 9223372036854775807 := by split <;> omega
theorem rcells_one (x : Bk) : (rcells x).toArray.all (·.oneCell') = true := by simp [rcells, Value.oneCell']
theorem fr_drew {S : Nat → Prop} {w w' : World} (h : Fr S w.drew w') : Fr S w w' := ⟨h.os, h.tape, h.output, h.size, h.block⟩
theorem below_undrew {w w' : World} (h : Below w.drew.heap.size w.drew w') : Below w.heap.size w w' := ⟨h.os, h.tape, h.output, h.size, h.block⟩
theorem turn_below {w W W2 W3 W4 : World} {S : Nat → Prop} {g : Nat} (h1 : Below w.heap.size w W) (h2 : Fr S W W2) (hs : ∀ q, S q → w.heap.size ≤ q) (h3 : Below W2.heap.size W2 W3) (h4 : W3.grownBy W4 (some g)) (hg : w.heap.size ≤ g) : Below w.heap.size w W4 :=
  b_row (b_then (h2.belowOf h1 hs) h3) h4 hg
theorem wp_app {w : World} {o : Oper} {a : Act} {K : Act → World → Prop} {Q : Exit → Act → World → Prop} (hgd : o.guard = none) (s x : Operand) (t : TypeId)
    (ho : o.op = .call { callee := .builtin .append, args := #[s, x], argTypes := #[t, t] })
    (base : Nat) (e : TypeId) (z : Value) (size bytes : Nat) (ht : Try.prog.underlying t = some (.slice e)) (hinfo : (Try.prog.info? e).map (fun i => (i.zero, i.size, i.bytes)) = some (some z, size, bytes))
    (hzs : z.cells.size = size) (hsz : 0 < size)
    (v : Value) (n : Nat) (xs : List Value) (hs : a.eval s = v)
    (ad : Addr) (m c : Nat) (news : List Value) (hx : a.eval x = .slice (some ad) m c) (hl : news.length = m * size) (h1 : ∀ u ∈ news, u.oneCell' = true)
    (hm : 0 < m) (h63 : n + m ≤ maxLen) (hbytes : (n + m) * bytes ≤ 140737488355328)
    (hown : w.ownsRow base e size v n xs) (hnews : ∀ j u, news[j]? = some u → w.cell? (ad.add j) = some u) (hbase : base ≤ w.heap.size)
    (h : ∀ g cap w', App w w' base e size v (.slice (some ⟨g, 0, none⟩) (n + m) cap) n m xs news → K (a.put o.dst (.slice (some ⟨g, 0, none⟩) (n + m) cap)) w') : o.wp Try.prog a w K Q := by
  have h2 := step_app (E := True) (ops := #[]) w hgd s x t ho base e z size bytes ht hinfo hzs hsz v n xs hs ad m c news hx hl h1 hm h63 hbytes hown hnews hbase (Q := Q) h
  rwa [if_pos (by simp [Region.wanted, hgd])] at h2
theorem info25 : (Try.prog.info? 25).map (fun i => (i.zero, i.size, i.bytes)) = some (some (.pointer none), 1, 8) := by kernel_rfl
theorem rcells_clone {x : Bk} {d : Dk} (ea : d.a = x.d.a) (eb : d.b = x.d.b) (el : d.left = x.d.left) (eo : d.down = x.d.down) (ew : d.wr = x.d.wr) : rcells ⟨d, x.ls, x.p, x.c⟩ = rcells x := by
  unfold rcells
  rw [ea, eb, el, eo, ew]
theorem conv_own {w : World} {base : Nat} {v : Value} {l : List UInt8} (h : w.ownsRow base 5 1 v l.length (bys l)) : (convert 22 9 v).run Try.prog w = .ok (.string ⟨l.toArray⟩) w := by
  have h0 := reads_own h
  rcases h0 with ⟨rfl, rfl⟩ | ⟨a, c, rfl, _, _, hc⟩
  · exact run_convert_bytes_string (P := Try.prog) w 22 9 5 none 0 0 Try.underlying22 Try.underlying5 Try.underlying9
  · exact run_convert_bytes_back (P := Try.prog) w 22 9 5 a c l Try.underlying22 Try.underlying5 Try.underlying9 (fun j hj => hc j _ (bys_get hj))
theorem conv_reads {w : World} {v : Value} {l : List UInt8} (h : Reads w v l) : (convert 22 9 v).run Try.prog w = .ok (.string ⟨l.toArray⟩) w := by
  rcases h with ⟨rfl, rfl⟩ | ⟨a, c, rfl, _, _, hc⟩
  · exact run_convert_bytes_string (P := Try.prog) w 22 9 5 none 0 0 Try.underlying22 Try.underlying5 Try.underlying9
  · exact run_convert_bytes_back (P := Try.prog) w 22 9 5 a c l Try.underlying22 Try.underlying5 Try.underlying9 (fun j hj => hc j _ (bys_get hj))
theorem ableI_no {down : Bool} {slot : Int} (h : down = true ∨ (slot ≠ 0 ∧ slot ≠ 1)) : ableI down slot = if down then 26 else 2 := by
  unfold ableI
  cases down with
  | true => rfl
  | false =>
    rcases h with h | h
    · cases h
    · rw [if_neg (by simp), if_pos (by omega), if_neg (by simp)]
theorem rwrite_none {w : World} {x : Bk} {slot : Int} {l : List UInt8} (h : x.d.down = true ∨ (slot ≠ 0 ∧ slot ≠ 1) ∨ x.d.a.length < l.length) : Calls Try.prog 20 #[.agg (rcells x).toArray, .int .i64 slot, .string ⟨l.toArray⟩] w (RetB w (.tuple #[.agg (rcells x).toArray, .int .i64 (if x.d.down then 26 else 2)])) := by
  obtain ⟨⟨g, s0, s1, n, a, b, left, down, wr, wv, vs, k0, k1, ta, tb⟩, ls, p, c⟩ := x
  cases down with
  | true => exact rwrite_off w ⟨a.toArray⟩ ⟨b.toArray⟩ left wr p ls.length c slot ⟨l.toArray⟩
  | false => exact rwrite_no w ⟨a.toArray⟩ ⟨b.toArray⟩ left wr p ls.length c slot ⟨l.toArray⟩ (by rw [st_size, st_size]; rcases h with h | h | h; cases h; exact Or.inl h; exact Or.inr h)
theorem write_none {w : World} {base : Nat} {d : Dk} {slot : Int} {v : Value} {l : List UInt8} (hA : At w base d) (hr : Reads w v l) (h : d.down = true ∨ (slot ≠ 0 ∧ slot ≠ 1) ∨ d.a.length < l.length) : Calls Try.prog 7 #[.pointer (some ⟨d.g, 0, none⟩), .int .i64 slot, v] w (Same w (.int .i64 (if d.down then 26 else 2))) := by
  by_cases h1 : d.down = true ∨ (slot ≠ 0 ∧ slot ≠ 1)
  · have h2 := ableI_no h1
    rw [← h2]
    exact write_able slot v hA (by rw [h2]; split <;> decide)
  · have hd : d.down = false := by cases hdd : d.down with | true => exact absurd (Or.inl hdd) h1 | false => rfl
    have hs : slot = 0 ∨ slot = 1 := by
      have : ¬ (slot ≠ 0 ∧ slot ≠ 1) := fun h3 => h1 (Or.inr h3)
      omega
    have hl : d.n < l.length := by
      rw [← hA.la]
      rcases h with h | h | h
      · exact absurd (Or.inl h) h1
      · exact absurd (Or.inr h) h1
      · exact h
    rw [hd]
    exact write_long slot v l hA (by rw [hd]; rcases hs with rfl | rfl <;> rfl) hr hl
theorem set_self {xs : List Bk} {i : Nat} {x : Bk} (h : xs[i]? = some x) : xs.set i x = xs := by
  refine List.ext_getElem? fun k => ?_
  by_cases hk : i = k
  · subst hk
    rw [List.getElem?_set_self (List.getElem?_eq_some_iff.1 h).1, h]
  · rw [List.getElem?_set_ne hk]
theorem st_grown {w w' : World} {base n j g : Nat} {xs : List Bk} {cs : Array Value} {t : TypeId} {fr : Nat × Nat} (h : St w base n j xs) (hg : w.heap[g]? = some (.cells cs t fr)) (h1 : t ≠ 56) (h2 : t ≠ 5) (h3 : t ≠ 22) (h4 : t ≠ 9) (hgr : w.grownBy w' (some g)) : St w' base n j xs := by
  refine h.frame (S := fun q => q = g) (Fr.of_grown hgr rfl) ?_
  rintro q ds hc rfl
  rcases hc with hc | hc | hc | hc
  · exact blk_ne hg hc h1 rfl
  · exact blk_ne hg hc h2 rfl
  · exact blk_ne hg hc h3 rfl
  · exact blk_ne hg hc h4 rfl
theorem info44z : (Try.prog.info? 44).map (fun i => (i.zero, i.size, i.bytes)) = some (some (.agg #[.string ⟨#[]⟩, .string ⟨#[]⟩, .int .i64 0, .bool false, .int .i64 0, .slice none 0 0]), 6, 80) := by kernel_rfl
theorem rwrite_bk {w : World} {base g i slot0 : Nat} {x : Bk} {slot : Int} {l : List UInt8} (_hr : w.rangeAt g (i * slot0) (rcells x)) (ho : w.ownsRow base 9 1 (.slice x.p x.ls.length x.c) x.ls.length (strs x.ls)) (hs : slot = 0 ∨ slot = 1) (hd : x.d.down = false) (hl : l.length ≤ x.d.a.length) (hab : x.d.b.length = x.d.a.length) (hle : -1 ≤ x.d.left ∧ x.d.left ≤ 9223372036854775807) (hw : x.d.a.length ≤ 262144 ∧ x.d.wr ≤ 60000 ∧ 0 ≤ x.d.wr ∧ x.ls.length ≤ 999) :
    Calls Try.prog 20 #[.agg (rcells x).toArray, .int .i64 slot, .string ⟨l.toArray⟩] w fun e w' => ∃ (p : Option Addr) (c : Nat), e = .returned (.tuple #[.agg (rcells ⟨x.d.wrote slot l (.slice none 0 0) (.slice none 0 0), x.ls ++ [l], p, c⟩).toArray, .int .i64 (if rgoes x.d.left l.length then 26 else 0)]) ∧ w'.ownsRow w.heap.size 9 1 (.slice p (x.ls.length + 1) c) (x.ls.length + 1) (strs (x.ls ++ [l])) ∧ Below w.heap.size w w' := by
  have h := rwrite_ok w base x.d.a x.d.b l x.d.left x.d.wr x.p x.c x.ls slot hs hl hab hw.1 hle ⟨hw.2.2.1, by have := hw.2.1; omega⟩ hw.2.2.2 ho
  have e1 : rv ⟨x.d.a.toArray⟩ ⟨x.d.b.toArray⟩ x.d.left false x.d.wr x.p x.ls.length x.c = .agg (rcells x).toArray := by unfold rcells; rw [hd]; rfl
  rw [e1] at h
  refine h.mono fun e w' ⟨p, c, h1, h2, h3⟩ => ⟨p, c, ?_, h2, h3⟩
  rw [h1]
  have e2 : (x.ls ++ [l]).length = x.ls.length + 1 := by simp
  unfold rcells
  show _ = Ending.returned (.tuple #[.agg #[_, _, _, _, _, .slice p (x.ls ++ [l]).length c], _])
  rw [e2]
  rfl
theorem Wrote.undrew {w : World} {base : Nat} {d : Dk} {slot : Int} {l : List UInt8} {e : Ending} {w' : World} {wv v : Value} (h : Wrote w.drew base d slot l e w' wv v) : Wrote w base d slot l e w' wv v := ⟨h.ret, h.at_, h.new, fr_drew h.fr, h.wb⟩
set_option maxHeartbeats 1000000 in
theorem image2 {w : World} {base : Nat} {d : Dk} (h : At w base d) : Calls Try.prog 8 #[.pointer (some ⟨d.g, 0, none⟩), .int .i64 2] w (Same w (.slice none 0 0)) := by
  obtain ⟨c0, c1, c2, c3, c4, c5⟩ := h.cells
  clear h
  go_enter Try.func8, Try.ntmps8
  go_wp2_with fail
  go_ret
  exact ⟨rfl, rfl⟩
theorem own_lit {w : World} {base g k e : Nat} {size n : Nat} {cs : Array Value} (hg : w.heap[g]? = some (.cells cs e (0, 0))) (hb : base ≤ g) (hs : cs.size = n * size) (hn : n ≤ maxLen) (hk : k = n) : w.ownsRow base e size (.slice (some ⟨g, 0, none⟩) n k) n cs.toList := by
  subst hk
  exact ⟨by simpa using hs, Or.inr ⟨g, k, cs, rfl, hb, hg, Nat.le_refl _, hn, hs, List.take_of_length_le (by simp [hs])⟩⟩
theorem both_start {w w1 w2 w3 : World} {n g0 s0 s1 : Nat} (hA : At w2 w1.heap.size ⟨g0, s0, s1, n, zs n, zs n, -1, false, 0, .slice none 0 0, [], n, n, [], []⟩) (hs : w.heap.size ≤ w1.heap.size) (hb2 : Below w.heap.size w w2) (hb3 : Below (w2.alloc (.cells #[.pointer (some ⟨g0, 0, none⟩)] 25)).heap.size (w2.alloc (.cells #[.pointer (some ⟨g0, 0, none⟩)] 25)) w3) :
    Both (w3.alloc (.cells #[.string (zt n), .string (zt n), .int .i64 (-1), .bool false, .int .i64 0, .slice none 0 0] 44)) w.heap.size n 0 1 [⟨⟨g0, s0, s1, n, zs n, zs n, -1, false, 0, .slice none 0 0, [], n, n, [], []⟩, [], none, 0⟩] w2.heap.size 1 w3.heap.size 1 := by
  have hb4 : Below w2.heap.size w2 (w3.alloc (.cells #[.string (zt n), .string (zt n), .int .i64 (-1), .bool false, .int .i64 0, .slice none 0 0] 44)) := b_alloc (b_then (b_alloc (Below.refl _ _) _) hb3) _
  have hs3 := hb3.size
  have hs2 := hb2.size
  simp at hs3
  refine ⟨⟨fun i x hx => ?_, fun i k x y hx hy hik => ?_, fun i k x y hx hy v hv => ?_⟩, rfl, by decide, by decide, ?_, ?_⟩
  · match i, hx with
    | 0, hx =>
      cases hx
      exact ⟨(hA.below hb4).under hs, ⟨rfl, fun i v l hv => by simp at hv⟩, (by intro u hu; cases hu), own_nil _ _ _ _, rfl, ⟨Int.le_refl (-1), show (-1 : Int) ≤ 9223372036854775807 by decide⟩, ⟨Int.le_refl 0, show (0 : Int) ≤ 600 * ((0 : Nat) : Int) by decide⟩, Nat.le_refl _, (by intro l hl; cases hl), (by intro v hv; cases hv)⟩
    | i + 1, hx => simp at hx
  · match i, k, hx, hy with
    | 0, 0, _, _ => exact absurd rfl hik
    | i + 1, _, hx, _ => simp at hx
    | 0, k + 1, _, hy => simp at hy
  · match k, hy with
    | 0, hy => cases hy; cases hv
    | k + 1, hy => simp at hy
  · exact own_lit (cs := #[.pointer (some ⟨g0, 0, none⟩)]) (blk_alloc (blk_below (blk_new rfl) hb3) _) hs2 rfl (by decide) rfl
  · exact own_lit (cs := #[.string (zt n), .string (zt n), .int .i64 (-1), .bool false, .int .i64 0, .slice none 0 0]) (blk_new rfl) (by omega) rfl (by decide) rfl
end Go.Proofs.Ytijcdpefcdgklaa.Di
