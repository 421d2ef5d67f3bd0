/-
  The package codec's numbers read, walked.
-/
import Derived.Test.YtcnikobmepjgcaaCodec3
namespace Go.Proofs.Ytcnikobmepjgcaa.Codec
open Go.RowKit Go.Proofs.YtcnikobmepjgcaaBase Go.Proofs.YtcnikobmepjgcaaLex2 Go.Proofs.YtcnikobmepjgcaaNum
set_option linter.unusedVariables false
set_option linter.unusedSimpArgs false

theorem get_nb (d : ByteArray) : ∀ (n : Nat) (h : n < d.size), (d[n]'h).toNat = nb d.data.toList n := by
  intro n h
  unfold nb
  rw [List.getD_eq_getElem?_getD, List.getElem?_eq_getElem (by rw [len_data]; exact h)]
  simp
  rfl

theorem getN_err (p : Nat) (d : ByteArray) (s : RS) (w : World) (h : ReaderAt w p d s) (hd : DSize d) (h0 : s.err ≠ 0) :
    Calls Try.prog 54 #[.pointer (some ⟨p, 0, none⟩)] w fun r w' => r = .returned (.int .i64 (getN s).1) ∧ RMoved w w' p d (getN s).2 := by
  have HW := Lib.hid h
  obtain ⟨a, hb, ha, hr⟩ := h
  have c0 := cellOf (j := 0) hb
  have c1 := cellOf (j := 1) hb
  have c2 := cellOf (j := 2) hb
  simp at c0 c1 c2
  have h0' : (s.err == 0) = false := by simpa using h0
  have h0'' : decide (s.err = 0) = false := by simpa using h0
  have e1 : getN s = (0, s) := by unfold getN; rw [if_pos h0]
  rw [e1]
  clear hb hr e1
  go_enter Try.func54, Try.ntmps54
  go_wp2
  go_quiet (fail)
  go_wp2
  go_ret
  exact ⟨rfl, HW.out, (Kept.refl w _).drewN _⟩

theorem getN_end (p : Nat) (d : ByteArray) (s : RS) (w : World) (h : ReaderAt w p d s) (hd : DSize d) (h0 : s.err = 0) (h1 : s.rest = []) :
    Calls Try.prog 54 #[.pointer (some ⟨p, 0, none⟩)] w fun r w' => r = .returned (.int .i64 (getN s).1) ∧ RMoved w w' p d (getN s).2 := by
  have HW := Lib.hid h
  obtain ⟨a, hb, ha, hr⟩ := h
  have c0 := cellOf (j := 0) hb
  have c1 := cellOf (j := 1) hb
  have c2 := cellOf (j := 2) hb
  simp at c0 c1 c2
  rw [h0] at c2
  have hl : a = d.size := by
    have := congrArg List.length hr
    rw [h1, List.length_drop, len_data] at this
    simp at this
    omega
  have e1 : getN s = (0, s.fail 20) := by unfold getN; rw [if_neg (by simp [h0]), if_pos h1]
  have e2 : (s.fail 20).err = 20 := by simp [RS.fail, h0]
  have HE := Lib.hid e2
  rw [e1]
  subst hl
  clear hb hr e1 e2 h1
  go_enter Try.func54, Try.ntmps54
  go_wp2
  go_quiet (fail)
  go_wp2_with (fail)
  refine (rfail_any p d s 20 _ (HW.out.drewN _)).mono ?_
  rintro e w1 ⟨rfl, hm⟩
  have HM := Lib.hid hm
  obtain ⟨⟨a', hb', _, _⟩, _⟩ := hm
  have k2 := cellOf (j := 2) hb'
  simp at k2
  rw [HE.out] at k2
  clear hb'
  go_wp2
  go_ret
  exact ⟨rfl, HM.out.1, HM.out.2.pre_drewN⟩

theorem nb_drop (l : List UInt8) (a i : Nat) : nb (l.drop a) i = nb l (a + i) := by
  unfold nb; simp [List.getD_eq_getElem?_getD]
theorem nb_take (l : List UInt8) (a i : Nat) (h : i < a) : nb (l.take a) i = nb l i := by
  unfold nb; simp [List.getD_eq_getElem?_getD, h]

theorem bits_and_u8_nat (a b : Nat) (ha : a < 256) (hb : b < 256) : bits .and .u8 (a : Int) (b : Int) = ((a &&& b : Nat) : Int) := by
  have hx : a &&& b < 2 ^ 8 := Nat.and_lt_two_pow _ (by omega)
  have h1 : (BitVec.ofInt 8 (a : Int)).toNat = a := by
    rw [BitVec.ofInt_natCast, BitVec.toNat_ofNat]; exact Nat.mod_eq_of_lt (by omega)
  have h2 : (BitVec.ofInt 8 (b : Int)).toNat = b := by
    rw [BitVec.ofInt_natCast, BitVec.toNat_ofNat]; exact Nat.mod_eq_of_lt (by omega)
  show IntKind.u8.wrap ((BitVec.ofInt 8 (a : Int) &&& BitVec.ofInt 8 (b : Int)).toNat : Int) = _
  rw [BitVec.toNat_and, h1, h2, IntKind.wrap_u8]
  omega
theorem i64_x {x : Nat} (h : x < 4611686018427387904) : IntKind.i64.wrap (x : Int) = (x : Int) := IntWalk.i64_in _ (by omega)
theorem wrap64_x {x : Nat} (h : x < 4611686018427387904) : wrap64 (x : Int) = (x : Int) := by unfold wrap64; omega
theorem size_x {x : Nat} (h : x < 4611686018427387904) (w : World) : Calls Try.prog 82 #[.int .i64 x] w fun r w' => r = .returned (.int .i64 (cls x)) ∧ w' = w := size_any x (by omega) w
theorem acc_mono (l : List UInt8) : ∀ {i j : Nat}, i ≤ j → acc l i ≤ acc l j
  | i, 0, h => by rw [Nat.le_zero.1 h]; exact Nat.le_refl _
  | i, j + 1, h => by
    rcases Nat.lt_or_ge i (j + 1) with h1 | h1
    · have := acc_mono l (i := i) (j := j) (by omega)
      simp only [acc]; omega
    · rw [show i = j + 1 by omega]; exact Nat.le_refl _

theorem getN_short0 (p : Nat) (d : ByteArray) (s : RS) (w : World) (h : ReaderAt w p d s) (hd : DSize d) (h0 : s.err = 0) (h1 : s.rest ≠ []) (hk : nb s.rest 0 / 64 = 0) (hl : s.rest.length < 1) :
    Calls Try.prog 54 #[.pointer (some ⟨p, 0, none⟩)] w fun r w' => r = .returned (.int .i64 (getN s).1) ∧ RMoved w w' p d (getN s).2 := by
  have HW := Lib.hid h
  obtain ⟨a, hb, ha, hr⟩ := h
  have c0 := cellOf (j := 0) hb
  have c1 := cellOf (j := 1) hb
  have c2 := cellOf (j := 2) hb
  simp at c0 c1 c2
  rw [h0] at c2
  have hlt : a < d.size := by
    have : s.rest.length ≠ 0 := by simpa using h1
    rw [hr, List.length_drop, len_data] at this
    omega
  have q1 : (0 : Int) ≤ a := by omega
  have q2 : (a : Int) < d.size := by omega
  have q3 : ((a : Int) == d.size) = false := by simp; omega
  have q5 : decide ((a : Int) = d.size) = false := by simp; omega
  have q4 := get_nb d
  have qk : ((nb d.data.toList a : Nat) : Int) / 64 = 0 := by
    rw [hr, nb_drop] at hk
    simp at hk
    omega
  have et : takeN 1 s = ([], s.fail 20) := by unfold takeN; rw [if_neg (by simp [h0]), if_pos hl]
  have e1 : getN s = (0, s.fail 20) := by unfold getN; rw [if_neg (by simp [h0]), if_neg h1, hk, if_pos hl]
  have e2 : (s.fail 20).err = 20 := by simp [RS.fail, h0]
  rw [e1]
  have HT := Lib.hid et
  have HE := Lib.hid e2
  have HD := Lib.hid hd
  clear et e2 e1 hb hr hk hl h1 hd
  go_enter Try.func54, Try.ntmps54
  go_wp2
  go_quiet (fail)
  go_wp2
  go_quiet (fail)
  go_wp2_with (fail)
  refine (take_any p d s 1 _ (HW.out.drewN _) HD.out (by decide)).mono ?_
  rw [HT.out]
  rintro e w1 ⟨rfl, hm⟩
  have HM := Lib.hid hm
  obtain ⟨⟨a', hb', _, _⟩, _⟩ := hm
  have k2 := cellOf (j := 2) hb'
  simp at k2
  rw [HE.out] at k2
  clear hb'
  go_wp2
  go_ret
  exact ⟨rfl, HM.out.1, HM.out.2.pre_drewN⟩

set_option maxHeartbeats 1600000 in
theorem getN_long0 (p : Nat) (d : ByteArray) (s : RS) (w : World) (h : ReaderAt w p d s) (hd : DSize d) (h0 : s.err = 0) (h1 : s.rest ≠ []) (hk : nb s.rest 0 / 64 = 0) (hl : ¬ s.rest.length < 1) :
    Calls Try.prog 54 #[.pointer (some ⟨p, 0, none⟩)] w fun r w' => r = .returned (.int .i64 (getN s).1) ∧ RMoved w w' p d (getN s).2 := by
  have HW := Lib.hid h
  obtain ⟨a, hb, ha, hr⟩ := h
  have c0 := cellOf (j := 0) hb
  have c1 := cellOf (j := 1) hb
  have c2 := cellOf (j := 2) hb
  simp at c0 c1 c2
  rw [h0] at c2
  have hlt : a < d.size := by
    have : s.rest.length ≠ 0 := by simpa using h1
    rw [hr, List.length_drop, len_data] at this
    omega
  have q1 : (0 : Int) ≤ a := by omega
  have q2 : (a : Int) < d.size := by omega
  have q3 : ((a : Int) == d.size) = false := by simp; omega
  have q5 : decide ((a : Int) = d.size) = false := by simp; omega
  have q4 := get_nb d
  have qk : ((nb d.data.toList a : Nat) : Int) / 64 = 0 := by
    rw [hr, nb_drop] at hk
    simp at hk
    omega
  have et : takeN 1 s = (s.rest.take 1, ⟨s.rest.drop 1, 0⟩) := by unfold takeN; rw [if_neg (by simp [h0]), if_neg hl, h0]
  obtain ⟨t, ht⟩ : ∃ t : ByteArray, ⟨(s.rest.take 1).toArray⟩ = t := ⟨_, rfl⟩
  have hts : t.size = 1 := by rw [← ht, size_mk, List.length_take]; omega
  have htn : ∀ (n : Nat) (h : n < t.size), (t[n]'h).toNat = nb t.data.toList n := get_nb t
  have htv : ∀ i, i < 1 → nb t.data.toList i = nb s.rest i := fun i hi => by rw [← ht, toList_mk, nb_take _ _ _ hi]
  have hb0 : nb t.data.toList 0 = nb s.rest 0 := htv 0 (by decide)
  obtain ⟨v0, hv0⟩ : ∃ v0, acc s.rest 0 = v0 := ⟨_, rfl⟩
  have qn : bits .and .u8 ((nb t.data.toList 0 : Nat) : Int) 63 = (v0 : Int) := by
    have h1 := nb_lt s.rest 0
    have := bits_and_u8_nat (nb s.rest 0) 63 (by omega) (by omega)
    rw [hb0, ← hv0]
    simp only [acc]
    have h2 := Nat.and_two_pow_sub_one_eq_mod (nb s.rest 0) 6
    simp at h2
    rw [← h2]
    simpa using this
  have qv : v0 < 64 := by rw [← hv0]; simp [acc]; omega
  have qw : IntKind.u64.wrap (v0 : Int) = (v0 : Int) := by rw [IntKind.wrap_u64]; omega
  have HV0 := Lib.hid hv0
  clear hb0 hv0
  have HT := Lib.hid et
  have HD := Lib.hid hd
  have HTT := Lib.hid ht
  have HTV := Lib.hid htv
  have HK := Lib.hid hk
  have HL := Lib.hid hl
  have H1 := Lib.hid h1
  have H0 := Lib.hid h0
  clear et hb hr hk hl h1 hd ht htv
  go_enter Try.func54, Try.ntmps54
  go_wp2
  go_quiet (fail)
  go_wp2
  go_quiet (fail)
  go_wp2_with (fail)
  refine (take_any p d s 1 _ (HW.out.drewN _) HD.out (by decide)).mono ?_
  rw [HT.out]
  rintro e w1 ⟨rfl, hm⟩
  rw [HTT.out]
  have HM := Lib.hid hm
  obtain ⟨⟨a', hb', _, _⟩, _⟩ := hm
  have k2 := cellOf (j := 2) hb'
  simp at k2
  clear hb'
  go_wp2
  go_loop [5, 6] (fun vv iv => ∃ i : Nat, i < 1 ∧ iv = .int .i64 ((i + 1 : Nat) : Int) ∧ vv = .int .u64 (acc s.rest i)) (fun _ iv => (1 - intOf iv).toNat)
  case atStart => exact ⟨0, by decide, rfl, by rw [HV0.out]⟩
  case round =>
    obtain ⟨i, hi, rfl, rfl⟩ := hrel
    have hx1 : acc s.rest i ≤ acc s.rest (1 - 1) := acc_mono s.rest (by omega)
    have hx2 : acc s.rest (1 - 1) < 64 := by have := acc_lt s.rest (1 - 1); simpa using this
    by_cases hlast : i + 1 = 1
    · obtain ⟨x, hx⟩ : ∃ x, acc s.rest i = x := ⟨_, rfl⟩
      have hxx : acc s.rest (1 - 1) = x := by rw [← hx]; congr 1; omega
      rw [hx]
      have hxl : x < 64 := by omega
      have q6 : ((i + 1 : Nat) : Int) = 1 := by omega
      rw [q6]
      have hx62 : x < 4611686018427387904 := Nat.lt_of_lt_of_le hxl (by decide)
      have q7 := i64_x hx62
      have q9 := wrap64_x hx62
      have qz := size_x hx62
      clear hx62
      have QZ := Lib.hid qz
      have HXX := Lib.hid hxx
      clear hxx hx1 hx2 hx qz hlast q6
      by_cases hc : cls x = 0
      · have e1 : getN s = (x, ⟨s.rest.drop 1, 0⟩) := by
          unfold getN
          rw [if_neg (by simp [H0.out]), if_neg H1.out, HK.out, if_neg (by simpa using HL.out)]
          have := HXX.out
          simp only [Nat.reducePow, Nat.reduceSub] at this ⊢
          rw [this, if_pos hc, H0.out]
        have HC := Lib.hid hc
        have E1 := Lib.hid e1
        clear e1 hc
        go_wp2_with (go_at_call 82; refine (QZ.out _).mono ?_; rw [HC.out]; rintro e w' ⟨rfl, hww⟩; have HWW := Lib.hid hww; clear hww)
        go_ret
        have e2 := HWW.out
        rw [e2, E1.out]
        exact ⟨rfl, HM.out.1, HM.out.2.pre_drewN⟩
      · have e1 : getN s = (0, RS.fail ⟨s.rest.drop 1, 0⟩ 21) := by
          unfold getN
          rw [if_neg (by simp [H0.out]), if_neg H1.out, HK.out, if_neg (by simpa using HL.out)]
          have := HXX.out
          simp only [Nat.reducePow, Nat.reduceSub] at this ⊢
          rw [this, if_neg hc, H0.out]
        have E1 := Lib.hid e1
        have q8 : (((cls x : Nat) : Int) == 0) = false := by simp; omega
        have q10 : decide (((cls x : Nat) : Int) = 0) = false := by simp; omega
        clear e1 hc
        go_wp2_with (go_at_call 82; refine (QZ.out _).mono ?_; rintro e w' ⟨rfl, hww⟩; have HWW := Lib.hid hww; clear hww)
        rename_i w2
        have e2 := HWW.out
        rw [e2]
        refine (rfail_any p d _ 21 _ HM.out.1).mono ?_
        rintro e w3 ⟨rfl, hm3⟩
        have HM3 := Lib.hid hm3
        clear hm3
        go_wp2
        go_ret
        rw [E1.out]
        exact ⟨rfl, HM3.out.1, HM.out.2.pre_drewN.trans HM3.out.2 fun k hk => .inl hk⟩
    · try (exfalso; omega)
      all_goals (
        have q6 : ((i + 1 : Nat) : Int) < 1 := by omega
        have hx3 : acc s.rest i * 256 + nb s.rest (i + 1) ≤ acc s.rest (1 - 1) := acc_mono s.rest (i := i + 1) (by omega)
        have q7 : IntKind.u64.wrap ((acc s.rest i : Int) * 256) = (acc s.rest i : Int) * 256 := by rw [IntKind.wrap_u64]; omega
        have q8 : IntKind.u64.wrap ((nb t.data.toList (i + 1) : Nat) : Int) = ((nb t.data.toList (i + 1) : Nat) : Int) := by have := nb_lt t.data.toList (i + 1); rw [IntKind.wrap_u64]; omega
        have q9 : bits .or .u64 ((acc s.rest i : Int) * 256) ((nb t.data.toList (i + 1) : Nat) : Int) = ((acc s.rest (i + 1) : Nat) : Int) := by
          have hn := nb_lt t.data.toList (i + 1)
          have ho := or_tag (n := nb t.data.toList (i + 1)) (i := 8) (k := acc s.rest i) (by omega)
          have := bits_or_u64_nat (acc s.rest i * 256) (nb t.data.toList (i + 1)) (by omega) (by omega)
          rw [Nat.or_comm] at this
          simp only [Nat.reducePow] at ho
          rw [ho, HTV.out (i + 1) (by omega)] at this
          rw [HTV.out (i + 1) (by omega)]
          simp only [acc]
          rw [Nat.add_comm (acc s.rest i * 256)]
          simpa using this
        clear hx3 hx1 hx2
        go_wp2
        go_round
        case rel => exact ⟨i + 1, by omega, by go_num, rfl⟩
        case measure => simp [intOf]; omega)

theorem getN_short1 (p : Nat) (d : ByteArray) (s : RS) (w : World) (h : ReaderAt w p d s) (hd : DSize d) (h0 : s.err = 0) (h1 : s.rest ≠ []) (hk : nb s.rest 0 / 64 = 1) (hl : s.rest.length < 2) :
    Calls Try.prog 54 #[.pointer (some ⟨p, 0, none⟩)] w fun r w' => r = .returned (.int .i64 (getN s).1) ∧ RMoved w w' p d (getN s).2 := by
  have HW := Lib.hid h
  obtain ⟨a, hb, ha, hr⟩ := h
  have c0 := cellOf (j := 0) hb
  have c1 := cellOf (j := 1) hb
  have c2 := cellOf (j := 2) hb
  simp at c0 c1 c2
  rw [h0] at c2
  have hlt : a < d.size := by
    have : s.rest.length ≠ 0 := by simpa using h1
    rw [hr, List.length_drop, len_data] at this
    omega
  have q1 : (0 : Int) ≤ a := by omega
  have q2 : (a : Int) < d.size := by omega
  have q3 : ((a : Int) == d.size) = false := by simp; omega
  have q5 : decide ((a : Int) = d.size) = false := by simp; omega
  have q4 := get_nb d
  have qk : ((nb d.data.toList a : Nat) : Int) / 64 = 1 := by
    rw [hr, nb_drop] at hk
    simp at hk
    omega
  have et : takeN 2 s = ([], s.fail 20) := by unfold takeN; rw [if_neg (by simp [h0]), if_pos hl]
  have e1 : getN s = (0, s.fail 20) := by unfold getN; rw [if_neg (by simp [h0]), if_neg h1, hk, if_pos hl]
  have e2 : (s.fail 20).err = 20 := by simp [RS.fail, h0]
  rw [e1]
  have HT := Lib.hid et
  have HE := Lib.hid e2
  have HD := Lib.hid hd
  clear et e2 e1 hb hr hk hl h1 hd
  go_enter Try.func54, Try.ntmps54
  go_wp2
  go_quiet (fail)
  go_wp2
  go_quiet (fail)
  go_wp2_with (fail)
  refine (take_any p d s 2 _ (HW.out.drewN _) HD.out (by decide)).mono ?_
  rw [HT.out]
  rintro e w1 ⟨rfl, hm⟩
  have HM := Lib.hid hm
  obtain ⟨⟨a', hb', _, _⟩, _⟩ := hm
  have k2 := cellOf (j := 2) hb'
  simp at k2
  rw [HE.out] at k2
  clear hb'
  go_wp2
  go_ret
  exact ⟨rfl, HM.out.1, HM.out.2.pre_drewN⟩

set_option maxHeartbeats 1600000 in
theorem getN_long1 (p : Nat) (d : ByteArray) (s : RS) (w : World) (h : ReaderAt w p d s) (hd : DSize d) (h0 : s.err = 0) (h1 : s.rest ≠ []) (hk : nb s.rest 0 / 64 = 1) (hl : ¬ s.rest.length < 2) :
    Calls Try.prog 54 #[.pointer (some ⟨p, 0, none⟩)] w fun r w' => r = .returned (.int .i64 (getN s).1) ∧ RMoved w w' p d (getN s).2 := by
  have HW := Lib.hid h
  obtain ⟨a, hb, ha, hr⟩ := h
  have c0 := cellOf (j := 0) hb
  have c1 := cellOf (j := 1) hb
  have c2 := cellOf (j := 2) hb
  simp at c0 c1 c2
  rw [h0] at c2
  have hlt : a < d.size := by
    have : s.rest.length ≠ 0 := by simpa using h1
    rw [hr, List.length_drop, len_data] at this
    omega
  have q1 : (0 : Int) ≤ a := by omega
  have q2 : (a : Int) < d.size := by omega
  have q3 : ((a : Int) == d.size) = false := by simp; omega
  have q5 : decide ((a : Int) = d.size) = false := by simp; omega
  have q4 := get_nb d
  have qk : ((nb d.data.toList a : Nat) : Int) / 64 = 1 := by
    rw [hr, nb_drop] at hk
    simp at hk
    omega
  have et : takeN 2 s = (s.rest.take 2, ⟨s.rest.drop 2, 0⟩) := by unfold takeN; rw [if_neg (by simp [h0]), if_neg hl, h0]
  obtain ⟨t, ht⟩ : ∃ t : ByteArray, ⟨(s.rest.take 2).toArray⟩ = t := ⟨_, rfl⟩
  have hts : t.size = 2 := by rw [← ht, size_mk, List.length_take]; omega
  have htn : ∀ (n : Nat) (h : n < t.size), (t[n]'h).toNat = nb t.data.toList n := get_nb t
  have htv : ∀ i, i < 2 → nb t.data.toList i = nb s.rest i := fun i hi => by rw [← ht, toList_mk, nb_take _ _ _ hi]
  have hb0 : nb t.data.toList 0 = nb s.rest 0 := htv 0 (by decide)
  obtain ⟨v0, hv0⟩ : ∃ v0, acc s.rest 0 = v0 := ⟨_, rfl⟩
  have qn : bits .and .u8 ((nb t.data.toList 0 : Nat) : Int) 63 = (v0 : Int) := by
    have h1 := nb_lt s.rest 0
    have := bits_and_u8_nat (nb s.rest 0) 63 (by omega) (by omega)
    rw [hb0, ← hv0]
    simp only [acc]
    have h2 := Nat.and_two_pow_sub_one_eq_mod (nb s.rest 0) 6
    simp at h2
    rw [← h2]
    simpa using this
  have qv : v0 < 64 := by rw [← hv0]; simp [acc]; omega
  have qw : IntKind.u64.wrap (v0 : Int) = (v0 : Int) := by rw [IntKind.wrap_u64]; omega
  have HV0 := Lib.hid hv0
  clear hb0 hv0
  have HT := Lib.hid et
  have HD := Lib.hid hd
  have HTT := Lib.hid ht
  have HTV := Lib.hid htv
  have HK := Lib.hid hk
  have HL := Lib.hid hl
  have H1 := Lib.hid h1
  have H0 := Lib.hid h0
  clear et hb hr hk hl h1 hd ht htv
  go_enter Try.func54, Try.ntmps54
  go_wp2
  go_quiet (fail)
  go_wp2
  go_quiet (fail)
  go_wp2_with (fail)
  refine (take_any p d s 2 _ (HW.out.drewN _) HD.out (by decide)).mono ?_
  rw [HT.out]
  rintro e w1 ⟨rfl, hm⟩
  rw [HTT.out]
  have HM := Lib.hid hm
  obtain ⟨⟨a', hb', _, _⟩, _⟩ := hm
  have k2 := cellOf (j := 2) hb'
  simp at k2
  clear hb'
  go_wp2
  go_loop [5, 6] (fun vv iv => ∃ i : Nat, i < 2 ∧ iv = .int .i64 ((i + 1 : Nat) : Int) ∧ vv = .int .u64 (acc s.rest i)) (fun _ iv => (2 - intOf iv).toNat)
  case atStart => exact ⟨0, by decide, rfl, by rw [HV0.out]⟩
  case round =>
    obtain ⟨i, hi, rfl, rfl⟩ := hrel
    have hx1 : acc s.rest i ≤ acc s.rest (2 - 1) := acc_mono s.rest (by omega)
    have hx2 : acc s.rest (2 - 1) < 16384 := by have := acc_lt s.rest (2 - 1); simpa using this
    by_cases hlast : i + 1 = 2
    · obtain ⟨x, hx⟩ : ∃ x, acc s.rest i = x := ⟨_, rfl⟩
      have hxx : acc s.rest (2 - 1) = x := by rw [← hx]; congr 1; omega
      rw [hx]
      have hxl : x < 16384 := by omega
      have q6 : ((i + 1 : Nat) : Int) = 2 := by omega
      rw [q6]
      have hx62 : x < 4611686018427387904 := Nat.lt_of_lt_of_le hxl (by decide)
      have q7 := i64_x hx62
      have q9 := wrap64_x hx62
      have qz := size_x hx62
      clear hx62
      have QZ := Lib.hid qz
      have HXX := Lib.hid hxx
      clear hxx hx1 hx2 hx qz hlast q6
      by_cases hc : cls x = 1
      · have e1 : getN s = (x, ⟨s.rest.drop 2, 0⟩) := by
          unfold getN
          rw [if_neg (by simp [H0.out]), if_neg H1.out, HK.out, if_neg (by simpa using HL.out)]
          have := HXX.out
          simp only [Nat.reducePow, Nat.reduceSub] at this ⊢
          rw [this, if_pos hc, H0.out]
        have HC := Lib.hid hc
        have E1 := Lib.hid e1
        clear e1 hc
        go_wp2_with (go_at_call 82; refine (QZ.out _).mono ?_; rw [HC.out]; rintro e w' ⟨rfl, hww⟩; have HWW := Lib.hid hww; clear hww)
        go_ret
        have e2 := HWW.out
        rw [e2, E1.out]
        exact ⟨rfl, HM.out.1, HM.out.2.pre_drewN⟩
      · have e1 : getN s = (0, RS.fail ⟨s.rest.drop 2, 0⟩ 21) := by
          unfold getN
          rw [if_neg (by simp [H0.out]), if_neg H1.out, HK.out, if_neg (by simpa using HL.out)]
          have := HXX.out
          simp only [Nat.reducePow, Nat.reduceSub] at this ⊢
          rw [this, if_neg hc, H0.out]
        have E1 := Lib.hid e1
        have q8 : (((cls x : Nat) : Int) == 1) = false := by simp; omega
        have q10 : decide (((cls x : Nat) : Int) = 1) = false := by simp; omega
        clear e1 hc
        go_wp2_with (go_at_call 82; refine (QZ.out _).mono ?_; rintro e w' ⟨rfl, hww⟩; have HWW := Lib.hid hww; clear hww)
        rename_i w2
        have e2 := HWW.out
        rw [e2]
        refine (rfail_any p d _ 21 _ HM.out.1).mono ?_
        rintro e w3 ⟨rfl, hm3⟩
        have HM3 := Lib.hid hm3
        clear hm3
        go_wp2
        go_ret
        rw [E1.out]
        exact ⟨rfl, HM3.out.1, HM.out.2.pre_drewN.trans HM3.out.2 fun k hk => .inl hk⟩
    · try (exfalso; omega)
      all_goals (
        have q6 : ((i + 1 : Nat) : Int) < 2 := by omega
        have hx3 : acc s.rest i * 256 + nb s.rest (i + 1) ≤ acc s.rest (2 - 1) := acc_mono s.rest (i := i + 1) (by omega)
        have q7 : IntKind.u64.wrap ((acc s.rest i : Int) * 256) = (acc s.rest i : Int) * 256 := by rw [IntKind.wrap_u64]; omega
        have q8 : IntKind.u64.wrap ((nb t.data.toList (i + 1) : Nat) : Int) = ((nb t.data.toList (i + 1) : Nat) : Int) := by have := nb_lt t.data.toList (i + 1); rw [IntKind.wrap_u64]; omega
        have q9 : bits .or .u64 ((acc s.rest i : Int) * 256) ((nb t.data.toList (i + 1) : Nat) : Int) = ((acc s.rest (i + 1) : Nat) : Int) := by
          have hn := nb_lt t.data.toList (i + 1)
          have ho := or_tag (n := nb t.data.toList (i + 1)) (i := 8) (k := acc s.rest i) (by omega)
          have := bits_or_u64_nat (acc s.rest i * 256) (nb t.data.toList (i + 1)) (by omega) (by omega)
          rw [Nat.or_comm] at this
          simp only [Nat.reducePow] at ho
          rw [ho, HTV.out (i + 1) (by omega)] at this
          rw [HTV.out (i + 1) (by omega)]
          simp only [acc]
          rw [Nat.add_comm (acc s.rest i * 256)]
          simpa using this
        clear hx3 hx1 hx2
        go_wp2
        go_round
        case rel => exact ⟨i + 1, by omega, by go_num, rfl⟩
        case measure => simp [intOf]; omega)

theorem getN_short2 (p : Nat) (d : ByteArray) (s : RS) (w : World) (h : ReaderAt w p d s) (hd : DSize d) (h0 : s.err = 0) (h1 : s.rest ≠ []) (hk : nb s.rest 0 / 64 = 2) (hl : s.rest.length < 4) :
    Calls Try.prog 54 #[.pointer (some ⟨p, 0, none⟩)] w fun r w' => r = .returned (.int .i64 (getN s).1) ∧ RMoved w w' p d (getN s).2 := by
  have HW := Lib.hid h
  obtain ⟨a, hb, ha, hr⟩ := h
  have c0 := cellOf (j := 0) hb
  have c1 := cellOf (j := 1) hb
  have c2 := cellOf (j := 2) hb
  simp at c0 c1 c2
  rw [h0] at c2
  have hlt : a < d.size := by
    have : s.rest.length ≠ 0 := by simpa using h1
    rw [hr, List.length_drop, len_data] at this
    omega
  have q1 : (0 : Int) ≤ a := by omega
  have q2 : (a : Int) < d.size := by omega
  have q3 : ((a : Int) == d.size) = false := by simp; omega
  have q5 : decide ((a : Int) = d.size) = false := by simp; omega
  have q4 := get_nb d
  have qk : ((nb d.data.toList a : Nat) : Int) / 64 = 2 := by
    rw [hr, nb_drop] at hk
    simp at hk
    omega
  have et : takeN 4 s = ([], s.fail 20) := by unfold takeN; rw [if_neg (by simp [h0]), if_pos hl]
  have e1 : getN s = (0, s.fail 20) := by unfold getN; rw [if_neg (by simp [h0]), if_neg h1, hk, if_pos hl]
  have e2 : (s.fail 20).err = 20 := by simp [RS.fail, h0]
  rw [e1]
  have HT := Lib.hid et
  have HE := Lib.hid e2
  have HD := Lib.hid hd
  clear et e2 e1 hb hr hk hl h1 hd
  go_enter Try.func54, Try.ntmps54
  go_wp2
  go_quiet (fail)
  go_wp2
  go_quiet (fail)
  go_wp2_with (fail)
  refine (take_any p d s 4 _ (HW.out.drewN _) HD.out (by decide)).mono ?_
  rw [HT.out]
  rintro e w1 ⟨rfl, hm⟩
  have HM := Lib.hid hm
  obtain ⟨⟨a', hb', _, _⟩, _⟩ := hm
  have k2 := cellOf (j := 2) hb'
  simp at k2
  rw [HE.out] at k2
  clear hb'
  go_wp2
  go_ret
  exact ⟨rfl, HM.out.1, HM.out.2.pre_drewN⟩

set_option maxHeartbeats 1600000 in
theorem getN_long2 (p : Nat) (d : ByteArray) (s : RS) (w : World) (h : ReaderAt w p d s) (hd : DSize d) (h0 : s.err = 0) (h1 : s.rest ≠ []) (hk : nb s.rest 0 / 64 = 2) (hl : ¬ s.rest.length < 4) :
    Calls Try.prog 54 #[.pointer (some ⟨p, 0, none⟩)] w fun r w' => r = .returned (.int .i64 (getN s).1) ∧ RMoved w w' p d (getN s).2 := by
  have HW := Lib.hid h
  obtain ⟨a, hb, ha, hr⟩ := h
  have c0 := cellOf (j := 0) hb
  have c1 := cellOf (j := 1) hb
  have c2 := cellOf (j := 2) hb
  simp at c0 c1 c2
  rw [h0] at c2
  have hlt : a < d.size := by
    have : s.rest.length ≠ 0 := by simpa using h1
    rw [hr, List.length_drop, len_data] at this
    omega
  have q1 : (0 : Int) ≤ a := by omega
  have q2 : (a : Int) < d.size := by omega
  have q3 : ((a : Int) == d.size) = false := by simp; omega
  have q5 : decide ((a : Int) = d.size) = false := by simp; omega
  have q4 := get_nb d
  have qk : ((nb d.data.toList a : Nat) : Int) / 64 = 2 := by
    rw [hr, nb_drop] at hk
    simp at hk
    omega
  have et : takeN 4 s = (s.rest.take 4, ⟨s.rest.drop 4, 0⟩) := by unfold takeN; rw [if_neg (by simp [h0]), if_neg hl, h0]
  obtain ⟨t, ht⟩ : ∃ t : ByteArray, ⟨(s.rest.take 4).toArray⟩ = t := ⟨_, rfl⟩
  have hts : t.size = 4 := by rw [← ht, size_mk, List.length_take]; omega
  have htn : ∀ (n : Nat) (h : n < t.size), (t[n]'h).toNat = nb t.data.toList n := get_nb t
  have htv : ∀ i, i < 4 → nb t.data.toList i = nb s.rest i := fun i hi => by rw [← ht, toList_mk, nb_take _ _ _ hi]
  have hb0 : nb t.data.toList 0 = nb s.rest 0 := htv 0 (by decide)
  obtain ⟨v0, hv0⟩ : ∃ v0, acc s.rest 0 = v0 := ⟨_, rfl⟩
  have qn : bits .and .u8 ((nb t.data.toList 0 : Nat) : Int) 63 = (v0 : Int) := by
    have h1 := nb_lt s.rest 0
    have := bits_and_u8_nat (nb s.rest 0) 63 (by omega) (by omega)
    rw [hb0, ← hv0]
    simp only [acc]
    have h2 := Nat.and_two_pow_sub_one_eq_mod (nb s.rest 0) 6
    simp at h2
    rw [← h2]
    simpa using this
  have qv : v0 < 64 := by rw [← hv0]; simp [acc]; omega
  have qw : IntKind.u64.wrap (v0 : Int) = (v0 : Int) := by rw [IntKind.wrap_u64]; omega
  have HV0 := Lib.hid hv0
  clear hb0 hv0
  have HT := Lib.hid et
  have HD := Lib.hid hd
  have HTT := Lib.hid ht
  have HTV := Lib.hid htv
  have HK := Lib.hid hk
  have HL := Lib.hid hl
  have H1 := Lib.hid h1
  have H0 := Lib.hid h0
  clear et hb hr hk hl h1 hd ht htv
  go_enter Try.func54, Try.ntmps54
  go_wp2
  go_quiet (fail)
  go_wp2
  go_quiet (fail)
  go_wp2_with (fail)
  refine (take_any p d s 4 _ (HW.out.drewN _) HD.out (by decide)).mono ?_
  rw [HT.out]
  rintro e w1 ⟨rfl, hm⟩
  rw [HTT.out]
  have HM := Lib.hid hm
  obtain ⟨⟨a', hb', _, _⟩, _⟩ := hm
  have k2 := cellOf (j := 2) hb'
  simp at k2
  clear hb'
  go_wp2
  go_loop [5, 6] (fun vv iv => ∃ i : Nat, i < 4 ∧ iv = .int .i64 ((i + 1 : Nat) : Int) ∧ vv = .int .u64 (acc s.rest i)) (fun _ iv => (4 - intOf iv).toNat)
  case atStart => exact ⟨0, by decide, rfl, by rw [HV0.out]⟩
  case round =>
    obtain ⟨i, hi, rfl, rfl⟩ := hrel
    have hx1 : acc s.rest i ≤ acc s.rest (4 - 1) := acc_mono s.rest (by omega)
    have hx2 : acc s.rest (4 - 1) < 1073741824 := by have := acc_lt s.rest (4 - 1); simpa using this
    by_cases hlast : i + 1 = 4
    · obtain ⟨x, hx⟩ : ∃ x, acc s.rest i = x := ⟨_, rfl⟩
      have hxx : acc s.rest (4 - 1) = x := by rw [← hx]; congr 1; omega
      rw [hx]
      have hxl : x < 1073741824 := by omega
      have q6 : ((i + 1 : Nat) : Int) = 4 := by omega
      rw [q6]
      have hx62 : x < 4611686018427387904 := Nat.lt_of_lt_of_le hxl (by decide)
      have q7 := i64_x hx62
      have q9 := wrap64_x hx62
      have qz := size_x hx62
      clear hx62
      have QZ := Lib.hid qz
      have HXX := Lib.hid hxx
      clear hxx hx1 hx2 hx qz hlast q6
      by_cases hc : cls x = 2
      · have e1 : getN s = (x, ⟨s.rest.drop 4, 0⟩) := by
          unfold getN
          rw [if_neg (by simp [H0.out]), if_neg H1.out, HK.out, if_neg (by simpa using HL.out)]
          have := HXX.out
          simp only [Nat.reducePow, Nat.reduceSub] at this ⊢
          rw [this, if_pos hc, H0.out]
        have HC := Lib.hid hc
        have E1 := Lib.hid e1
        clear e1 hc
        go_wp2_with (go_at_call 82; refine (QZ.out _).mono ?_; rw [HC.out]; rintro e w' ⟨rfl, hww⟩; have HWW := Lib.hid hww; clear hww)
        go_ret
        have e2 := HWW.out
        rw [e2, E1.out]
        exact ⟨rfl, HM.out.1, HM.out.2.pre_drewN⟩
      · have e1 : getN s = (0, RS.fail ⟨s.rest.drop 4, 0⟩ 21) := by
          unfold getN
          rw [if_neg (by simp [H0.out]), if_neg H1.out, HK.out, if_neg (by simpa using HL.out)]
          have := HXX.out
          simp only [Nat.reducePow, Nat.reduceSub] at this ⊢
          rw [this, if_neg hc, H0.out]
        have E1 := Lib.hid e1
        have q8 : (((cls x : Nat) : Int) == 2) = false := by simp; omega
        have q10 : decide (((cls x : Nat) : Int) = 2) = false := by simp; omega
        clear e1 hc
        go_wp2_with (go_at_call 82; refine (QZ.out _).mono ?_; rintro e w' ⟨rfl, hww⟩; have HWW := Lib.hid hww; clear hww)
        rename_i w2
        have e2 := HWW.out
        rw [e2]
        refine (rfail_any p d _ 21 _ HM.out.1).mono ?_
        rintro e w3 ⟨rfl, hm3⟩
        have HM3 := Lib.hid hm3
        clear hm3
        go_wp2
        go_ret
        rw [E1.out]
        exact ⟨rfl, HM3.out.1, HM.out.2.pre_drewN.trans HM3.out.2 fun k hk => .inl hk⟩
    · try (exfalso; omega)
      all_goals (
        have q6 : ((i + 1 : Nat) : Int) < 4 := by omega
        have hx3 : acc s.rest i * 256 + nb s.rest (i + 1) ≤ acc s.rest (4 - 1) := acc_mono s.rest (i := i + 1) (by omega)
        have q7 : IntKind.u64.wrap ((acc s.rest i : Int) * 256) = (acc s.rest i : Int) * 256 := by rw [IntKind.wrap_u64]; omega
        have q8 : IntKind.u64.wrap ((nb t.data.toList (i + 1) : Nat) : Int) = ((nb t.data.toList (i + 1) : Nat) : Int) := by have := nb_lt t.data.toList (i + 1); rw [IntKind.wrap_u64]; omega
        have q9 : bits .or .u64 ((acc s.rest i : Int) * 256) ((nb t.data.toList (i + 1) : Nat) : Int) = ((acc s.rest (i + 1) : Nat) : Int) := by
          have hn := nb_lt t.data.toList (i + 1)
          have ho := or_tag (n := nb t.data.toList (i + 1)) (i := 8) (k := acc s.rest i) (by omega)
          have := bits_or_u64_nat (acc s.rest i * 256) (nb t.data.toList (i + 1)) (by omega) (by omega)
          rw [Nat.or_comm] at this
          simp only [Nat.reducePow] at ho
          rw [ho, HTV.out (i + 1) (by omega)] at this
          rw [HTV.out (i + 1) (by omega)]
          simp only [acc]
          rw [Nat.add_comm (acc s.rest i * 256)]
          simpa using this
        clear hx3 hx1 hx2
        go_wp2
        go_round
        case rel => exact ⟨i + 1, by omega, by go_num, rfl⟩
        case measure => simp [intOf]; omega)

theorem getN_short3 (p : Nat) (d : ByteArray) (s : RS) (w : World) (h : ReaderAt w p d s) (hd : DSize d) (h0 : s.err = 0) (h1 : s.rest ≠ []) (hk : nb s.rest 0 / 64 = 3) (hl : s.rest.length < 8) :
    Calls Try.prog 54 #[.pointer (some ⟨p, 0, none⟩)] w fun r w' => r = .returned (.int .i64 (getN s).1) ∧ RMoved w w' p d (getN s).2 := by
  have HW := Lib.hid h
  obtain ⟨a, hb, ha, hr⟩ := h
  have c0 := cellOf (j := 0) hb
  have c1 := cellOf (j := 1) hb
  have c2 := cellOf (j := 2) hb
  simp at c0 c1 c2
  rw [h0] at c2
  have hlt : a < d.size := by
    have : s.rest.length ≠ 0 := by simpa using h1
    rw [hr, List.length_drop, len_data] at this
    omega
  have q1 : (0 : Int) ≤ a := by omega
  have q2 : (a : Int) < d.size := by omega
  have q3 : ((a : Int) == d.size) = false := by simp; omega
  have q5 : decide ((a : Int) = d.size) = false := by simp; omega
  have q4 := get_nb d
  have qk : ((nb d.data.toList a : Nat) : Int) / 64 = 3 := by
    rw [hr, nb_drop] at hk
    simp at hk
    omega
  have et : takeN 8 s = ([], s.fail 20) := by unfold takeN; rw [if_neg (by simp [h0]), if_pos hl]
  have e1 : getN s = (0, s.fail 20) := by unfold getN; rw [if_neg (by simp [h0]), if_neg h1, hk, if_pos hl]
  have e2 : (s.fail 20).err = 20 := by simp [RS.fail, h0]
  rw [e1]
  have HT := Lib.hid et
  have HE := Lib.hid e2
  have HD := Lib.hid hd
  clear et e2 e1 hb hr hk hl h1 hd
  go_enter Try.func54, Try.ntmps54
  go_wp2
  go_quiet (fail)
  go_wp2
  go_quiet (fail)
  go_wp2_with (fail)
  refine (take_any p d s 8 _ (HW.out.drewN _) HD.out (by decide)).mono ?_
  rw [HT.out]
  rintro e w1 ⟨rfl, hm⟩
  have HM := Lib.hid hm
  obtain ⟨⟨a', hb', _, _⟩, _⟩ := hm
  have k2 := cellOf (j := 2) hb'
  simp at k2
  rw [HE.out] at k2
  clear hb'
  go_wp2
  go_ret
  exact ⟨rfl, HM.out.1, HM.out.2.pre_drewN⟩

set_option maxHeartbeats 1600000 in
theorem getN_long3 (p : Nat) (d : ByteArray) (s : RS) (w : World) (h : ReaderAt w p d s) (hd : DSize d) (h0 : s.err = 0) (h1 : s.rest ≠ []) (hk : nb s.rest 0 / 64 = 3) (hl : ¬ s.rest.length < 8) :
    Calls Try.prog 54 #[.pointer (some ⟨p, 0, none⟩)] w fun r w' => r = .returned (.int .i64 (getN s).1) ∧ RMoved w w' p d (getN s).2 := by
  have HW := Lib.hid h
  obtain ⟨a, hb, ha, hr⟩ := h
  have c0 := cellOf (j := 0) hb
  have c1 := cellOf (j := 1) hb
  have c2 := cellOf (j := 2) hb
  simp at c0 c1 c2
  rw [h0] at c2
  have hlt : a < d.size := by
    have : s.rest.length ≠ 0 := by simpa using h1
    rw [hr, List.length_drop, len_data] at this
    omega
  have q1 : (0 : Int) ≤ a := by omega
  have q2 : (a : Int) < d.size := by omega
  have q3 : ((a : Int) == d.size) = false := by simp; omega
  have q5 : decide ((a : Int) = d.size) = false := by simp; omega
  have q4 := get_nb d
  have qk : ((nb d.data.toList a : Nat) : Int) / 64 = 3 := by
    rw [hr, nb_drop] at hk
    simp at hk
    omega
  have et : takeN 8 s = (s.rest.take 8, ⟨s.rest.drop 8, 0⟩) := by unfold takeN; rw [if_neg (by simp [h0]), if_neg hl, h0]
  obtain ⟨t, ht⟩ : ∃ t : ByteArray, ⟨(s.rest.take 8).toArray⟩ = t := ⟨_, rfl⟩
  have hts : t.size = 8 := by rw [← ht, size_mk, List.length_take]; omega
  have htn : ∀ (n : Nat) (h : n < t.size), (t[n]'h).toNat = nb t.data.toList n := get_nb t
  have htv : ∀ i, i < 8 → nb t.data.toList i = nb s.rest i := fun i hi => by rw [← ht, toList_mk, nb_take _ _ _ hi]
  have hb0 : nb t.data.toList 0 = nb s.rest 0 := htv 0 (by decide)
  obtain ⟨v0, hv0⟩ : ∃ v0, acc s.rest 0 = v0 := ⟨_, rfl⟩
  have qn : bits .and .u8 ((nb t.data.toList 0 : Nat) : Int) 63 = (v0 : Int) := by
    have h1 := nb_lt s.rest 0
    have := bits_and_u8_nat (nb s.rest 0) 63 (by omega) (by omega)
    rw [hb0, ← hv0]
    simp only [acc]
    have h2 := Nat.and_two_pow_sub_one_eq_mod (nb s.rest 0) 6
    simp at h2
    rw [← h2]
    simpa using this
  have qv : v0 < 64 := by rw [← hv0]; simp [acc]; omega
  have qw : IntKind.u64.wrap (v0 : Int) = (v0 : Int) := by rw [IntKind.wrap_u64]; omega
  have HV0 := Lib.hid hv0
  clear hb0 hv0
  have HT := Lib.hid et
  have HD := Lib.hid hd
  have HTT := Lib.hid ht
  have HTV := Lib.hid htv
  have HK := Lib.hid hk
  have HL := Lib.hid hl
  have H1 := Lib.hid h1
  have H0 := Lib.hid h0
  clear et hb hr hk hl h1 hd ht htv
  go_enter Try.func54, Try.ntmps54
  go_wp2
  go_quiet (fail)
  go_wp2
  go_quiet (fail)
  go_wp2_with (fail)
  refine (take_any p d s 8 _ (HW.out.drewN _) HD.out (by decide)).mono ?_
  rw [HT.out]
  rintro e w1 ⟨rfl, hm⟩
  rw [HTT.out]
  have HM := Lib.hid hm
  obtain ⟨⟨a', hb', _, _⟩, _⟩ := hm
  have k2 := cellOf (j := 2) hb'
  simp at k2
  clear hb'
  go_wp2
  go_loop [5, 6] (fun vv iv => ∃ i : Nat, i < 8 ∧ iv = .int .i64 ((i + 1 : Nat) : Int) ∧ vv = .int .u64 (acc s.rest i)) (fun _ iv => (8 - intOf iv).toNat)
  case atStart => exact ⟨0, by decide, rfl, by rw [HV0.out]⟩
  case round =>
    obtain ⟨i, hi, rfl, rfl⟩ := hrel
    have hx1 : acc s.rest i ≤ acc s.rest (8 - 1) := acc_mono s.rest (by omega)
    have hx2 : acc s.rest (8 - 1) < 4611686018427387904 := by have := acc_lt s.rest (8 - 1); simpa using this
    by_cases hlast : i + 1 = 8
    · obtain ⟨x, hx⟩ : ∃ x, acc s.rest i = x := ⟨_, rfl⟩
      have hxx : acc s.rest (8 - 1) = x := by rw [← hx]; congr 1; omega
      rw [hx]
      have hxl : x < 4611686018427387904 := by omega
      have q6 : ((i + 1 : Nat) : Int) = 8 := by omega
      rw [q6]
      have hx62 : x < 4611686018427387904 := Nat.lt_of_lt_of_le hxl (by decide)
      have q7 := i64_x hx62
      have q9 := wrap64_x hx62
      have qz := size_x hx62
      clear hx62
      have QZ := Lib.hid qz
      have HXX := Lib.hid hxx
      clear hxx hx1 hx2 hx qz hlast q6
      by_cases hc : cls x = 3
      · have e1 : getN s = (x, ⟨s.rest.drop 8, 0⟩) := by
          unfold getN
          rw [if_neg (by simp [H0.out]), if_neg H1.out, HK.out, if_neg (by simpa using HL.out)]
          have := HXX.out
          simp only [Nat.reducePow, Nat.reduceSub] at this ⊢
          rw [this, if_pos hc, H0.out]
        have HC := Lib.hid hc
        have E1 := Lib.hid e1
        clear e1 hc
        go_wp2_with (go_at_call 82; refine (QZ.out _).mono ?_; rw [HC.out]; rintro e w' ⟨rfl, hww⟩; have HWW := Lib.hid hww; clear hww)
        go_ret
        have e2 := HWW.out
        rw [e2, E1.out]
        exact ⟨rfl, HM.out.1, HM.out.2.pre_drewN⟩
      · have e1 : getN s = (0, RS.fail ⟨s.rest.drop 8, 0⟩ 21) := by
          unfold getN
          rw [if_neg (by simp [H0.out]), if_neg H1.out, HK.out, if_neg (by simpa using HL.out)]
          have := HXX.out
          simp only [Nat.reducePow, Nat.reduceSub] at this ⊢
          rw [this, if_neg hc, H0.out]
        have E1 := Lib.hid e1
        have q8 : (((cls x : Nat) : Int) == 3) = false := by simp; omega
        have q10 : decide (((cls x : Nat) : Int) = 3) = false := by simp; omega
        clear e1 hc
        go_wp2_with (go_at_call 82; refine (QZ.out _).mono ?_; rintro e w' ⟨rfl, hww⟩; have HWW := Lib.hid hww; clear hww)
        rename_i w2
        have e2 := HWW.out
        rw [e2]
        refine (rfail_any p d _ 21 _ HM.out.1).mono ?_
        rintro e w3 ⟨rfl, hm3⟩
        have HM3 := Lib.hid hm3
        clear hm3
        go_wp2
        go_ret
        rw [E1.out]
        exact ⟨rfl, HM3.out.1, HM.out.2.pre_drewN.trans HM3.out.2 fun k hk => .inl hk⟩
    · try (exfalso; omega)
      all_goals (
        have q6 : ((i + 1 : Nat) : Int) < 8 := by omega
        have hx3 : acc s.rest i * 256 + nb s.rest (i + 1) ≤ acc s.rest (8 - 1) := acc_mono s.rest (i := i + 1) (by omega)
        have q7 : IntKind.u64.wrap ((acc s.rest i : Int) * 256) = (acc s.rest i : Int) * 256 := by rw [IntKind.wrap_u64]; omega
        have q8 : IntKind.u64.wrap ((nb t.data.toList (i + 1) : Nat) : Int) = ((nb t.data.toList (i + 1) : Nat) : Int) := by have := nb_lt t.data.toList (i + 1); rw [IntKind.wrap_u64]; omega
        have q9 : bits .or .u64 ((acc s.rest i : Int) * 256) ((nb t.data.toList (i + 1) : Nat) : Int) = ((acc s.rest (i + 1) : Nat) : Int) := by
          have hn := nb_lt t.data.toList (i + 1)
          have ho := or_tag (n := nb t.data.toList (i + 1)) (i := 8) (k := acc s.rest i) (by omega)
          have := bits_or_u64_nat (acc s.rest i * 256) (nb t.data.toList (i + 1)) (by omega) (by omega)
          rw [Nat.or_comm] at this
          simp only [Nat.reducePow] at ho
          rw [ho, HTV.out (i + 1) (by omega)] at this
          rw [HTV.out (i + 1) (by omega)]
          simp only [acc]
          rw [Nat.add_comm (acc s.rest i * 256)]
          simpa using this
        clear hx3 hx1 hx2
        go_wp2
        go_round
        case rel => exact ⟨i + 1, by omega, by go_num, rfl⟩
        case measure => simp [intOf]; omega)

theorem getN_any (p : Nat) (d : ByteArray) (s : RS) (w : World) (h : ReaderAt w p d s) (hd : DSize d) :
    Calls Try.prog 54 #[.pointer (some ⟨p, 0, none⟩)] w fun r w' => r = .returned (.int .i64 (getN s).1) ∧ RMoved w w' p d (getN s).2 := by
  by_cases h0 : s.err = 0
  · by_cases h1 : s.rest = []
    · exact getN_end p d s w h hd h0 h1
    · have hk : nb s.rest 0 / 64 = 0 ∨ nb s.rest 0 / 64 = 1 ∨ nb s.rest 0 / 64 = 2 ∨ nb s.rest 0 / 64 = 3 := by have := nb_lt s.rest 0; omega
      rcases hk with hk | hk | hk | hk
      · by_cases hl : s.rest.length < 1
        · exact getN_short0 p d s w h hd h0 h1 hk hl
        · exact getN_long0 p d s w h hd h0 h1 hk hl
      · by_cases hl : s.rest.length < 2
        · exact getN_short1 p d s w h hd h0 h1 hk hl
        · exact getN_long1 p d s w h hd h0 h1 hk hl
      · by_cases hl : s.rest.length < 4
        · exact getN_short2 p d s w h hd h0 h1 hk hl
        · exact getN_long2 p d s w h hd h0 h1 hk hl
      · by_cases hl : s.rest.length < 8
        · exact getN_short3 p d s w h hd h0 h1 hk hl
        · exact getN_long3 p d s w h hd h0 h1 hk hl
  · exact getN_err p d s w h hd h0
end Go.Proofs.Ytcnikobmepjgcaa.Codec
