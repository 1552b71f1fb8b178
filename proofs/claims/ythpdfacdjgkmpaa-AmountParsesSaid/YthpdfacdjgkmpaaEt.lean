/- The document's numbers: their text, by a walk. -/
import Derived.Test.YthpdfacdjgkmpaaEr
namespace Go.Proofs.Ythpdfacdjgkmpaa.Wi
open Go.RowKit K

attribute [local go_sem ↓] idxL st_size one_size st_list conv1
/-- The digits' bytes, the greatest first. -/
def revS (ds : List Nat) : List UInt8 := (ds.map fun d => UInt8.ofNat (48 + d)).reverse
/-- Without noughts ahead. -/
def stripS : List UInt8 → List UInt8
  | a :: b :: t => if a = 48 then stripS (b :: t) else a :: b :: t
  | m => m
def ntextL (ds : List Nat) : List UInt8 := if stripS (revS ds) = [] then [48] else stripS (revS ds)
theorem rev_step {ds : List Nat} {i d : Nat} (h : ds[i]? = some d) : revS (ds.take (i + 1)) = UInt8.ofNat (48 + d) :: revS (ds.take i) := by
  rw [List.take_add_one, h]
  simp [revS]
theorem rev_len (ds : List Nat) : (revS ds).length = ds.length := by simp [revS]
theorem strip_snoc (x : UInt8) : ∀ s : List UInt8, s ≠ [] → stripS (s ++ [x]) = if stripS s = [48] then [x] else stripS s ++ [x]
  | [], h => absurd rfl h
  | [a], _ => by
    by_cases ha : a = 48
    · subst ha; simp [stripS]
    · simp [stripS, ha]
  | a :: b :: t, _ => by
    by_cases ha : a = 48
    · subst ha
      have := strip_snoc x (b :: t) (by simp)
      show stripS (48 :: b :: (t ++ [x])) = _
      rw [stripS, if_pos rfl, stripS, if_pos rfl]
      exact this
    · show stripS (a :: b :: (t ++ [x])) = _
      rw [stripS, if_neg ha, stripS, if_neg ha, if_neg (by simp [ha])]
      rfl
theorem rev_cons (d : Nat) (ds : List Nat) : revS (d :: ds) = revS ds ++ [UInt8.ofNat (48 + d)] := by simp [revS]
theorem strip_ne : ∀ s : List UInt8, s ≠ [] → stripS s ≠ []
  | [], h => absurd rfl h
  | [a], _ => by simp [stripS]
  | a :: b :: t, _ => by
    rw [stripS]
    split
    · exact strip_ne (b :: t) (by simp)
    · simp
theorem dec_48 {X : Nat} : Lib.decDigits X = [48] ↔ X = 0 := by
  constructor
  · intro h
    have := (dec_all X).2.1
    rw [h] at this
    rw [← this]
    rfl
  · rintro rfl
    rw [Lib.decDigits_one (by decide)]
    rfl
/-- The text is the number's decimal digits. -/
theorem ntext_dec : ∀ ds : List Nat, (∀ d ∈ ds, d ≤ 9) → (ds ≠ [] → stripS (revS ds) = Lib.decDigits (valN ds)) ∧ ntextL ds = Lib.decDigits (valN ds)
  | [], _ => ⟨fun h => absurd rfl h, by rw [valN, dec_48.2 rfl]; rfl⟩
  | d :: ds, hd => by
    have h9 := hd d (List.mem_cons_self ..)
    have key : stripS (revS (d :: ds)) = Lib.decDigits (valN (d :: ds)) := by
      rw [rev_cons, valN]
      cases ds with
      | nil =>
        rw [valN, Nat.mul_zero, Nat.add_zero, Lib.decDigits_one (by omega)]
        rfl
      | cons e es =>
        have ih := (ntext_dec (e :: es) (fun x hx => hd x (List.mem_cons_of_mem _ hx))).1 (by simp)
        rw [strip_snoc _ _ (by simp [revS]), ih]
        by_cases h0 : valN (e :: es) = 0
        · rw [if_pos (dec_48.2 h0), h0, Nat.mul_zero, Nat.add_zero, Lib.decDigits_one (by omega)]
        · rw [if_neg (fun h => h0 (dec_48.1 h)), dec_up (n := d + 10 * valN (e :: es)) (by omega), show (d + 10 * valN (e :: es)) / 10 = valN (e :: es) by omega, show (d + 10 * valN (e :: es)) % 10 = d by omega]
    refine ⟨fun _ => key, ?_⟩
    rw [ntextL, if_neg, key]
    rw [key]
    exact (dec_all _).2.2
theorem drop_two (a b : UInt8) (t : List UInt8) : (⟨(a :: b :: t).toArray⟩ : ByteArray).extract 1 (t.length + 1 + 1) = ⟨(b :: t).toArray⟩ := drop_one a (b :: t)
attribute [local go_sem ↓] drop_two
theorem idx0 (a : UInt8) (t : List UInt8) (h : 0 < (⟨(a :: t).toArray⟩ : ByteArray).size) : (⟨(a :: t).toArray⟩ : ByteArray)[0]'h = a := rfl
attribute [local go_sem] idx0
theorem txt_step {d i : Nat} (h : d ≤ 9) (hi : i ≤ 1000) : wrap64 (48 + (d : Int)) = 48 + (d : Int) ∧ IntKind.u8.wrap (48 + (d : Int)) = 48 + (d : Int) ∧ ¬ 9223372036854775807 < 1 + i ∧ wrap64 ((i : Int) + 1) = (i : Int) + 1 := by
  refine ⟨wrap_small (by omega) (by omega), ?_, by omega, wrap_small (by omega) (by omega)⟩
  simp [IntKind.wrap, IntKind.signed, IntKind.bits]
  omega
theorem txt_up {d : Nat} {m m' : List UInt8} (h9 : d ≤ 9) (h : m' = UInt8.ofNat (48 + d) :: m) : Value.string ((⟨#[48 + UInt8.ofNat d]⟩ : ByteArray) ++ ⟨m.toArray⟩) = .string ⟨m'.toArray⟩ := by
  have e : 48 + UInt8.ofNat d = UInt8.ofNat (48 + d) := by
    rcases (show d = 0 ∨ d = 1 ∨ d = 2 ∨ d = 3 ∨ d = 4 ∨ d = 5 ∨ d = 6 ∨ d = 7 ∨ d = 8 ∨ d = 9 by omega) with rfl | rfl | rfl | rfl | rfl | rfl | rfl | rfl | rfl | rfl <;> rfl
  rw [e, h]
  exact congrArg Value.string (ByteArray.ext (by simp))
set_option maxHeartbeats 4000000 in
set_option maxRecDepth 100000 in
theorem ntext_any (w : World) (v : Value) (ds : List Nat) (h : NRead w v ds) (hd : ∀ d ∈ ds, d ≤ 9) (hl : ds.length ≤ 1000) : Calls Try.prog 38 #[v] w (Ret w (.string ⟨(ntextL ds).toArray⟩)) := by
  obtain ⟨p, c, rfl, h2, h3, h4, h5⟩ := h
  obtain ⟨n, hn⟩ : ∃ n, ds.length = n := ⟨_, rfl⟩
  obtain ⟨T, hT⟩ : ∃ T, ntextL ds = T := ⟨_, rfl⟩
  have H5 := Lib.hid h5
  have HD := Lib.hid hd
  have HL := Lib.hid hl
  have HN := Lib.hid hn
  have HT := Lib.hid hT
  rw [hn, hT]
  clear h2 h3 h4 h5 hd hl hn hT
  go_enter Try.func38, Try.ntmps38
  go_wp2_with fail
  go_loopw [3, 8] (fun s i wr => ∃ (j : Nat), j ≤ n ∧ i = .int .i64 (j : Int) ∧ s = .string ⟨(revS (ds.take j)).toArray⟩ ∧ Hid (Below w.heap.size w wr)) (fun _ i _ => n - (intOf i).toNat)
  case atStart => exact ⟨0, Nat.zero_le _, rfl, rfl, Lib.hid (Below.refl _ _)⟩
  case round =>
    obtain ⟨j, hj, rfl, rfl, HB⟩ := hrel
    by_cases hlt : j < n
    · obtain ⟨d, hdj⟩ : ∃ d, ds[j]? = some d := ⟨_, List.getElem?_eq_getElem (by have := HN.out; omega)⟩
      have hd9 := HD.out d (List.mem_of_getElem? hdj)
      obtain ⟨g, o0, hpp, hcell⟩ := H5.out j d hdj
      subst hpp
      have hcell' : wr.cell? ⟨g, o0 + j, none⟩ = some (.int .i64 (d : Int)) := by rw [HB.out.cell (World.block_lt_of_cell? w _ hcell)]; exact hcell
      have hjl : (j : Int) < (n : Int) := by omega
      have HLE := Lib.hid (round_end hlt)
      have hml : (revS (ds.take j)).length = j := by rw [rev_len, List.length_take]; have := HN.out; omega
      have HUP := Lib.hid (txt_up hd9 (rev_step hdj))
      have hj1000 : j ≤ 1000 := by have := HN.out; have := HL.out; omega
      generalize revS (ds.take j) = m at *
      obtain ⟨e1, e2, e3, e4⟩ := txt_step hd9 hj1000
      clear hcell hdj hd9 hj1000
      go_wp2_with fail
      rw [HUP.out]
      go_roundw
      case rel => exact ⟨j + 1, HLE.out.1, rfl, rfl, Lib.hid (b_alloc HB.out _)⟩
      case measure => exact HLE.out.2
    · obtain ⟨rfl, hlti⟩ := end_k hj hlt
      have ht : ds.take j = ds := by rw [← HN.out, List.take_length]
      rw [ht]
      have hml : (revS ds).length ≤ 1000 := by rw [rev_len]; exact HL.out
      have HML := Lib.hid hml
      have HQ : Hid ((if stripS (revS ds) = [] then [48] else stripS (revS ds)) = T) := Lib.hid HT.out
      generalize revS ds = m0 at *
      clear ht hml HT hj hlt
      go_wp2_with fail
      go_loopw [3] (fun s wr => ∃ (m : List UInt8), s = .string ⟨m.toArray⟩ ∧ Hid ((if stripS m = [] then [48] else stripS m) = T) ∧ Hid (m.length ≤ 1000) ∧ Hid (Below w.heap.size w wr)) (fun s _ => slen s)
      case atStart => exact ⟨m0, rfl, HQ, HML, HB⟩
      case round =>
        obtain ⟨m, rfl, HM, HMl, HB2⟩ := hrel
        clear HB HQ HML
        cases m with
        | nil =>
          have h2 := HM.out
          rw [show stripS [] = [] from rfl, if_pos rfl] at h2
          have HM2 := Lib.hid h2
          clear h2
          go_wp2_with fail
          exact bodyPost_ret (v := .string ⟨#[48]⟩) (by simp [results, Try.results38, go_sem]) rfl ⟨by rw [← HM2.out], HB2.out⟩
        | cons a m1 =>
          cases m1 with
          | nil =>
            have h2 := HM.out
            rw [show stripS [a] = [a] from rfl, if_neg (by simp)] at h2
            have HM2 := Lib.hid h2
            clear h2
            go_wp2_with fail
            exact bodyPost_ret (v := .string ⟨#[a]⟩) (by simp [results, Try.results38, go_sem]) rfl ⟨by rw [← HM2.out], HB2.out⟩
          | cons b t =>
            have hl1 : (1 : Int) < (t.length : Int) + 1 + 1 := by omega
            have hl2 : 1 ≤ t.length + 1 + 1 := by omega
            have hl3 : (1 : Int) ≤ (t.length : Int) + 1 + 1 := by omega
            by_cases ha : a = 48
            · subst ha
              have h2 := HM.out
              rw [stripS, if_pos rfl] at h2
              have HM2 := Lib.hid h2
              have HMl2 : Hid ((b :: t).length ≤ 1000) := Lib.hid (by have := HMl.out; simp at this ⊢; omega)
              have hb : byteL (48 :: b :: t) 0 = 48 := rfl
              clear h2
              go_wp2_with fail
              go_roundw
              case rel => exact ⟨b :: t, rfl, HM2, HMl2, HB2⟩
              case measure => simp [slen, st_size]
            · have hb : byteL (a :: b :: t) 0 = a.toNat := rfl
              have hb48 : ¬ (a.toNat : Int) = 48 := fun e => ha (UInt8.toNat_inj.1 (by show a.toNat = 48; omega))
              have hbq : ((a.toNat : Int) == 48) = false := beq_eq_false_iff_ne.2 hb48
              have h2 := HM.out
              rw [stripS, if_neg ha, if_neg (by simp)] at h2
              have HM2 := Lib.hid h2
              clear h2
              go_wp2_with fail
              exact bodyPost_ret (v := .string ⟨(a :: b :: t).toArray⟩) (by simp [results, Try.results38, go_sem]) rfl ⟨by rw [← HM2.out], HB2.out⟩
end Go.Proofs.Ythpdfacdjgkmpaa.Wi
