/-
  CodecNumbers walked.
-/
import Derived.Test.YtcnikobmepjgcaaRef4
import Derived.Test.YtcnikobmepjgcaaCodCut
namespace Go.Proofs.Ytcnikobmepjgcaa.Codec
open Go.RowKit Go.Proofs.YtcnikobmepjgcaaBase Go.Proofs.YtcnikobmepjgcaaLex2 Go.Proofs.YtcnikobmepjgcaaNum
set_option linter.unusedVariables false
set_option linter.unusedSimpArgs false

theorem numbers_out (A : Option Addr) (n c : Nat) (m : Int) (w : World) (hn : n ≤ maxLen) (h : 5000 < n) : Calls Try.prog 3 #[.slice A n c, .int .i64 m] w fun e w' => e = .returned (.bool true) ∧ Below w.heap.size w w' := by
  unfold maxLen at hn
  have q : (5000 : Int) < n := by omega
  clear h
  go_enter Try.func3, Try.ntmps3
  go_wp2_with (fail)
  refine (anchor_any _).mono ?_
  rintro e w1 ⟨rfl, hk⟩
  have K1 := Lib.hid hk
  clear hk
  go_wp2
  go_ret
  exact ⟨rfl, K1.out.nil_below⟩

/-- What the numbers are written as by the reference. -/
def outN (l : List Int) : List UInt8 := l.flatMap bsN
theorem numRel_ok {l : List Int} {m : Int} {k : Nat} {o : List UInt8} {x : Int} (hx : okN x) (htk : l.take (k + 1) = l.take k ++ [x]) (h : l.length ≤ bnd m ∧ (∀ x ∈ l.take k, okN x) ∧ o = encN l.length ++ outN (l.take k)) :
    l.length ≤ bnd m ∧ (∀ x ∈ l.take (k + 1), okN x) ∧ o ++ bsN x = encN l.length ++ outN (l.take (k + 1)) := by
  obtain ⟨h1, h2, h3⟩ := h
  refine ⟨h1, ?_, ?_⟩
  · rw [htk]
    intro y hy
    rcases List.mem_append.1 hy with hy | hy
    · exact h2 y hy
    · rw [List.mem_singleton.1 hy]; exact hx
  · rw [htk, h3]; simp [outN]
theorem numRel_bad {l : List Int} {m : Int} {k : Nat} {x : Int} (htk : l.take (k + 1) = l.take k ++ [x]) (h : (bnd m < l.length ∨ ∃ x ∈ l.take k, ¬ okN x) ∨ ¬ okN x) : bnd m < l.length ∨ ∃ x ∈ l.take (k + 1), ¬ okN x := by
  rw [htk]
  rcases h with (h | ⟨y, hy, hn⟩) | h
  · exact .inl h
  · exact .inr ⟨y, List.mem_append.2 (.inl hy), hn⟩
  · exact .inr ⟨x, List.mem_append.2 (.inr (List.mem_singleton.2 rfl)), h⟩
/-- What holds at the head of the loop: so many numbers are written, all are in range or not. -/
def NumRel (l : List Int) (m : Int) (w : World) (ov okv iv : Value) (wr : World) : Prop :=
  ∃ (k : Nat) (o : List UInt8), k ≤ l.length ∧ iv = .int .i64 (k : Int) ∧ Kept w wr (fun _ => False) ∧ wr.ownsRow w.heap.size 5 1 ov o.length (bc o) ∧ o.length ≤ 8 + 8 * k ∧
    ((okv = .bool true ∧ l.length ≤ bnd m ∧ (∀ x ∈ l.take k, okN x) ∧ o = encN l.length ++ outN (l.take k)) ∨ (okv = .bool false ∧ (bnd m < l.length ∨ ∃ x ∈ l.take k, ¬ okN x)))

set_option maxHeartbeats 3200000 in
set_option maxRecDepth 100000 in
theorem numbers_in (l : List Int) (A : Option Addr) (c : Nat) (m : Int) (w : World) (hr : RowIn w A l.length (l.map (Value.int .i64))) (hn : l.length ≤ 5000) : Calls Try.prog 3 #[.slice A l.length c, .int .i64 m] w fun e w' => e = .returned (.bool true) ∧ Below w.heap.size w w' := by
  have q1 : ¬ (5000 : Int) < l.length := by omega
  have HR := Lib.hid hr
  have HN := Lib.hid hn
  clear hr hn
  go_enter Try.func3, Try.ntmps3
  go_wp2_with (fail)
  refine (anchor_any _).mono ?_
  rintro e w1 ⟨rfl, hk⟩
  have K1 := Lib.hid hk
  have HR1 := Lib.hid (HR.out.kept hk)
  clear hk
  go_wp2_with (fail)
  refine (rput_ok l.length _ (by have := HN.out; omega)).mono ?_
  rintro e w2 ⟨⟨A2, c2, rfl, hro⟩, hk⟩
  have K2 := Lib.hid hk
  have RO := Lib.hid hro
  have HL8 := Lib.hid (encN_le l.length)
  clear hk hro
  go_wp2_with (go_at_call 14; refine (rbound_any m _).mono ?_; rintro e w' ⟨rfl, hw⟩; obtain rfl := hw.symm)
  go_loopw [5, 6, 36] (fun ov okv iv wr => NumRel l m w1 ov okv iv wr) (fun _ _ iv _ => (l.length - intOf iv).toNat)
  case atStart =>
    refine ⟨0, encN l.length, Nat.zero_le _, rfl, K2.out, RO.out, HL8.out, ?_⟩
    by_cases hb : l.length ≤ bnd m
    · exact .inl ⟨by simp [hb], hb, fun x hx => by simp at hx, by simp [outN]⟩
    · exact .inr ⟨by simp [hb], .inl (by omega)⟩
  case round =>
    obtain ⟨k, o, hk, rfl, hkp, ho, hol, hst⟩ := hrel
    have HKP := Lib.hid hkp
    have HO := Lib.hid ho
    have HOL := Lib.hid hol
    have HST := Lib.hid hst
    clear hkp ho hol hst
    by_cases hlt : k < l.length
    · obtain ⟨b, off, hA, hbl, hx⟩ := (HR1.out.kept HKP.out).cell (by omega)
      subst hA
      obtain ⟨x, hxx⟩ : ∃ x, l[k]? = some x := ⟨_, List.getElem?_eq_getElem hlt⟩
      have cx := hx k (.int .i64 x) (by rw [List.getElem?_map, hxx]; rfl)
      have z1 : (0 : Int) ≤ k := by omega
      have z2 : (k : Int) < l.length := by omega
      have HXX := Lib.hid hxx
      have htk : l.take (k + 1) = l.take k ++ [x] := by rw [List.take_add_one, hxx]; rfl
      have HTK := Lib.hid htk
      clear hx hxx htk
      by_cases hxo : okN x
      · have HXO := Lib.hid hxo
        have hxo2 : 0 ≤ x ∧ x < 4611686018427387904 := hxo
        obtain ⟨xn, hxn⟩ : ∃ n : Nat, (n : Int) = x := ⟨x.toNat, by omega⟩
        have P := Lib.hid (rput_ok xn wr (by omega))
        rw [hxn] at P
        have hbs : bsN x = encN xn := by rw [← hxn]; rfl
        obtain ⟨t, ht⟩ : ∃ t : ByteArray, ⟨(bsN x).toArray⟩ = t := ⟨_, rfl⟩
        have EN := Lib.hid (enc_ok numC_good hxo)
        rw [ht] at EN
        rw [hbs] at ht
        have HT := Lib.hid ht
        have HBS := Lib.hid hbs
        clear hxo hxo2 hxn ht hbs
        rcases HST.out with ⟨hok, hst⟩ | ⟨hok, hst⟩
        · subst hok
          have HS2 := Lib.hid hst
          clear hst
          obtain ⟨sa, sc, hse, _, _⟩ := own_slice HO.out
          subst hse
          go_wp2_with (fail)
          refine P.out.mono ?_
          rintro e w3 ⟨⟨A3, c3, rfl, hro⟩, hk3⟩
          have RO3 := Lib.hid hro
          have K3 := Lib.hid hk3
          clear hro hk3 cx
          go_wp2_with (fail)
          refine (number_any _).mono ?_
          rintro e w4 ⟨cv4, rfl, hc, hk4⟩
          have HC := Lib.hid hc
          have K4 := Lib.hid (K3.out.nil_trans hk4)
          have RO4 := Lib.hid (own_keptF RO3.out hk4 (fun g _ h => h))
          clear hc hk4
          go_wp2_with (fail)
          refine (encode_int w4 cv4 numC x _ w4 HC.out numC_fair (Same.refl _) rfl (by unfold WRoom; simp [numC])).mono ?_
          rw [EN.out]
          rintro e w5 ⟨rfl, hk5⟩
          have K5 := Lib.hid (K4.out.nil_trans hk5)
          have RO5 := Lib.hid (own_keptF RO4.out hk5 (fun g _ h => h))
          have HO5 := Lib.hid (own_keptF HO.out K5.out (fun g _ h => h))
          have qc := run_convert_own (P := Try.prog) w5 24 9 5 wr.heap.size _ _ (encN xn) elemByte.under underU8 underStr RO5.out
          rw [HT.out] at qc
          clear hk5 HC
          go_wp2_with (at_builtin; apply hold)
          unfold Hold
          clear qc
          have hby : (o.length + (encN xn).length + (o.length + (encN xn).length) / 4 + 192) * 1 ≤ 281474976710656 := by have h1 := HOL.out; have h2 := encN_le xn; have h3 := HN.out; omega
          have hbase : w1.heap.size ≤ w5.heap.size := Nat.le_trans HKP.out.size K5.out.size
          refine wpList_append_ownS _ rfl (.tmp 73) (.tmp 74) 24 24 rfl w1.heap.size 5 (.int .u8 0) 1 1 elemByte (.slice sa o.length sc) o.length (bc o) rfl HO5.out (.slice A3 (encN xn).length c3) (encN xn).length (bc (encN xn)) rfl (src_own elemByte.under RO5.out (bc_one _)) hby hbase (fun v' w7 o1 g1 b1 => ?_)
          have K7 := Lib.hid (Kept.grown (HKP.out.nil_trans K5.out) g1 (fun g hg => .inr (HO5.out.lt g hg).1))
          have O7 : Hid (w7.ownsRow w1.heap.size 5 1 v' (o ++ encN xn).length (bc (o ++ encN xn))) := Lib.hid (by rw [List.length_append, bc_append]; exact o1)
          have OL7 : Hid ((o ++ encN xn).length ≤ 8 + 8 * (k + 1)) := Lib.hid (by have h1 := HOL.out; have h2 := encN_le xn; rw [List.length_append]; omega)
          clear o1 g1 b1 hby hbase
          go_wp2
          go_roundw
          case rel =>
            refine ⟨k + 1, o ++ encN xn, by omega, by go_num, K7.out, O7.out, OL7.out, .inl ⟨rfl, ?_⟩⟩
            have h := numRel_ok HXO.out HTK.out HS2.out
            rw [HBS.out] at h
            exact h
          case measure => simp only [intOf]; omega
        · subst hok
          have HS2 := Lib.hid hst
          clear hst
          obtain ⟨sa, sc, hse, _, _⟩ := own_slice HO.out
          subst hse
          go_wp2_with (fail)
          refine P.out.mono ?_
          rintro e w3 ⟨⟨A3, c3, rfl, hro⟩, hk3⟩
          have RO3 := Lib.hid hro
          have K3 := Lib.hid hk3
          clear hro hk3 cx
          go_wp2_with (fail)
          refine (number_any _).mono ?_
          rintro e w4 ⟨cv4, rfl, hc, hk4⟩
          have HC := Lib.hid hc
          have K4 := Lib.hid (K3.out.nil_trans hk4)
          have RO4 := Lib.hid (own_keptF RO3.out hk4 (fun g _ h => h))
          clear hc hk4
          go_wp2_with (fail)
          refine (encode_int w4 cv4 numC x _ w4 HC.out numC_fair (Same.refl _) rfl (by unfold WRoom; simp [numC])).mono ?_
          rw [EN.out]
          rintro e w5 ⟨rfl, hk5⟩
          have K5 := Lib.hid (K4.out.nil_trans hk5)
          have RO5 := Lib.hid (own_keptF RO4.out hk5 (fun g _ h => h))
          have HO5 := Lib.hid (own_keptF HO.out K5.out (fun g _ h => h))
          have qc := run_convert_own (P := Try.prog) w5 24 9 5 wr.heap.size _ _ (encN xn) elemByte.under underU8 underStr RO5.out
          rw [HT.out] at qc
          clear hk5 HC
          go_wp2_with (at_builtin; apply hold)
          unfold Hold
          clear qc
          have hby : (o.length + (encN xn).length + (o.length + (encN xn).length) / 4 + 192) * 1 ≤ 281474976710656 := by have h1 := HOL.out; have h2 := encN_le xn; have h3 := HN.out; omega
          have hbase : w1.heap.size ≤ w5.heap.size := Nat.le_trans HKP.out.size K5.out.size
          refine wpList_append_ownS _ rfl (.tmp 73) (.tmp 74) 24 24 rfl w1.heap.size 5 (.int .u8 0) 1 1 elemByte (.slice sa o.length sc) o.length (bc o) rfl HO5.out (.slice A3 (encN xn).length c3) (encN xn).length (bc (encN xn)) rfl (src_own elemByte.under RO5.out (bc_one _)) hby hbase (fun v' w7 o1 g1 b1 => ?_)
          have K7 := Lib.hid (Kept.grown (HKP.out.nil_trans K5.out) g1 (fun g hg => .inr (HO5.out.lt g hg).1))
          have O7 : Hid (w7.ownsRow w1.heap.size 5 1 v' (o ++ encN xn).length (bc (o ++ encN xn))) := Lib.hid (by rw [List.length_append, bc_append]; exact o1)
          have OL7 : Hid ((o ++ encN xn).length ≤ 8 + 8 * (k + 1)) := Lib.hid (by have h1 := HOL.out; have h2 := encN_le xn; rw [List.length_append]; omega)
          clear o1 g1 b1 hby hbase
          go_wp2
          go_roundw
          case rel => exact ⟨k + 1, o ++ encN xn, by omega, by go_num, K7.out, O7.out, OL7.out, .inr ⟨rfl, numRel_bad HTK.out (.inl HS2.out)⟩⟩
          case measure => simp only [intOf]; omega
      · have HXO := Lib.hid hxo
        have P := Lib.hid (rput_no x wr (by unfold okN at hxo; omega))
        have EN := Lib.hid (enc_no numC_good hxo)
        clear hxo
        rcases HST.out with ⟨hok, hst⟩ | ⟨hok, hst⟩
        · subst hok
          clear hst
          obtain ⟨sa, sc, hse, _, _⟩ := own_slice HO.out
          subst hse
          go_wp2_with (fail)
          refine P.out.mono ?_
          rintro e w3 ⟨rfl, hk3⟩
          have K3 := Lib.hid hk3
          clear hk3 cx
          go_wp2_with (fail)
          refine (number_any _).mono ?_
          rintro e w4 ⟨cv4, rfl, hc, hk4⟩
          have HC := Lib.hid hc
          have K4 := Lib.hid (K3.out.nil_trans hk4)
          clear hc hk4
          go_wp2_with (fail)
          refine (encode_int w4 cv4 numC x _ w4 HC.out numC_fair (Same.refl _) rfl (by unfold WRoom; simp [numC])).mono ?_
          rw [EN.out]
          rintro e w5 ⟨rfl, hk5⟩
          have K5 := Lib.hid (K4.out.nil_trans hk5)
          have HO5 := Lib.hid (own_keptF HO.out K5.out (fun g _ h => h))
          have qc := run_convert_own (P := Try.prog) w5 24 9 5 wr.heap.size 0 (.slice none 0 0) [] elemByte.under underU8 underStr (World.ownsRow_nil _ _ _ _)
          clear hk5 HC
          go_wp2_with (at_builtin; apply hold)
          unfold Hold
          clear qc
          have hby : (o.length + 0 + (o.length + 0) / 4 + 192) * 1 ≤ 281474976710656 := by have h1 := HOL.out; have h3 := HN.out; omega
          have hbase : w1.heap.size ≤ w5.heap.size := Nat.le_trans HKP.out.size K5.out.size
          refine wpList_append_ownS _ rfl (.tmp 73) (.tmp 74) 24 24 rfl w1.heap.size 5 (.int .u8 0) 1 1 elemByte (.slice sa o.length sc) o.length (bc o) rfl HO5.out (.slice none 0 0) 0 [] rfl (Src.ofNil _ elemByte.under 0) hby hbase (fun v' w7 o1 g1 b1 => ?_)
          have K7 := Lib.hid (Kept.grown (HKP.out.nil_trans K5.out) g1 (fun g hg => .inr (HO5.out.lt g hg).1))
          have O7 : Hid (w7.ownsRow w1.heap.size 5 1 v' o.length (bc o)) := Lib.hid (by rw [List.append_nil] at o1; exact o1)
          clear o1 g1 b1 hby hbase
          go_wp2
          go_roundw
          case rel => exact ⟨k + 1, o, by omega, by go_num, K7.out, O7.out, by have := HOL.out; omega, .inr ⟨rfl, numRel_bad HTK.out (.inr HXO.out)⟩⟩
          case measure => simp only [intOf]; omega
        · subst hok
          clear hst
          obtain ⟨sa, sc, hse, _, _⟩ := own_slice HO.out
          subst hse
          go_wp2_with (fail)
          refine P.out.mono ?_
          rintro e w3 ⟨rfl, hk3⟩
          have K3 := Lib.hid hk3
          clear hk3 cx
          go_wp2_with (fail)
          refine (number_any _).mono ?_
          rintro e w4 ⟨cv4, rfl, hc, hk4⟩
          have HC := Lib.hid hc
          have K4 := Lib.hid (K3.out.nil_trans hk4)
          clear hc hk4
          go_wp2_with (fail)
          refine (encode_int w4 cv4 numC x _ w4 HC.out numC_fair (Same.refl _) rfl (by unfold WRoom; simp [numC])).mono ?_
          rw [EN.out]
          rintro e w5 ⟨rfl, hk5⟩
          have K5 := Lib.hid (K4.out.nil_trans hk5)
          have HO5 := Lib.hid (own_keptF HO.out K5.out (fun g _ h => h))
          have qc := run_convert_own (P := Try.prog) w5 24 9 5 wr.heap.size 0 (.slice none 0 0) [] elemByte.under underU8 underStr (World.ownsRow_nil _ _ _ _)
          clear hk5 HC
          go_wp2_with (at_builtin; apply hold)
          unfold Hold
          clear qc
          have hby : (o.length + 0 + (o.length + 0) / 4 + 192) * 1 ≤ 281474976710656 := by have h1 := HOL.out; have h3 := HN.out; omega
          have hbase : w1.heap.size ≤ w5.heap.size := Nat.le_trans HKP.out.size K5.out.size
          refine wpList_append_ownS _ rfl (.tmp 73) (.tmp 74) 24 24 rfl w1.heap.size 5 (.int .u8 0) 1 1 elemByte (.slice sa o.length sc) o.length (bc o) rfl HO5.out (.slice none 0 0) 0 [] rfl (Src.ofNil _ elemByte.under 0) hby hbase (fun v' w7 o1 g1 b1 => ?_)
          have K7 := Lib.hid (Kept.grown (HKP.out.nil_trans K5.out) g1 (fun g hg => .inr (HO5.out.lt g hg).1))
          have O7 : Hid (w7.ownsRow w1.heap.size 5 1 v' o.length (bc o)) := Lib.hid (by rw [List.append_nil] at o1; exact o1)
          clear o1 g1 b1 hby hbase
          go_wp2
          go_roundw
          case rel => exact ⟨k + 1, o, by omega, by go_num, K7.out, O7.out, by have := HOL.out; omega, .inr ⟨rfl, numRel_bad HTK.out (.inr HXO.out)⟩⟩
          case measure => simp only [intOf]; omega
    · have hkl : k = l.length := by omega
      subst hkl
      have z2 : ¬ (l.length : Int) < l.length := by omega
      have h5 := HST.out
      rw [List.take_length] at h5
      rcases h5 with ⟨hok, h1, h2, h3⟩ | ⟨hok, h1⟩
      · subst hok
        have hokl : okL okN (bnd m) l := ⟨h1, h2⟩
        have EN := Lib.hid (enc_ok (cN_good m) hokl)
        have h4 : bsL bsN l = o := by rw [h3]; rfl
        rw [h4] at EN
        clear hokl h1 h2 h3 h4
        obtain ⟨sa, sc, hse, _, _⟩ := own_slice HO.out
        subst hse
        go_wp2_with (fail)
        refine (number_any _).mono ?_
        rintro e w3 ⟨cv3, rfl, hc, hk3⟩
        have HC := Lib.hid hc
        have K3 := Lib.hid hk3
        clear hc hk3
        go_wp2_with (fail)
        refine (listof_int numC numC_fair numC_one cv3 m w3 HC.out).mono ?_
        rintro e w4 ⟨cv4, rfl, hc, hk4⟩
        clear HC
        have HC : Hid (IsCodec w4 cv4 (cN m)) := Lib.hid hc
        have K4 := Lib.hid (K3.out.nil_trans hk4)
        clear hc hk4
        go_wp2_with (at_builtin; apply hold)
        unfold Hold
        have hm := HN.out
        have hse := own_empty w4 w4.heap.size 3 (Nat.le_refl _)
        have hs := src_row (c := c) (((HR1.out.kept HKP.out).kept K4.out).kept ((Kept.refl w4 (fun _ => False)).alloc (.cells #[] 3))) (t := 22) elem_int.under (ints_one l)
        refine wpList_append_ownS _ rfl (.tmp 81) (.tmp 82) 22 22 rfl w4.heap.size 3 (.int .i64 0) 1 8 elem_int (.slice (some ⟨w4.heap.size, 0, none⟩) 0 0) 0 [] rfl hse (.slice A l.length c) l.length (l.map (Value.int .i64)) rfl hs (by omega) (by simp) (fun v' w6 o1 g1 b1 => ?_)
        have K6 := Lib.hid (Kept.grown ((Kept.refl w4 (fun _ => False)).alloc (.cells #[] 3)) g1 (fun k hk => .inr (Nat.le_of_eq (Option.some.inj hk))))
        simp only [Nat.zero_add, List.nil_append] at o1
        obtain ⟨A6, c6, rfl, _, r6⟩ := row_own o1
        have R6 := Lib.hid r6
        clear hse hs o1 g1 b1 hm r6
        go_wp2_with (fail)
        refine (encode_ints w4 _ (cN m) l _ w6 HC.out (cN_fair m) K6.out.same (rep_of_row (fun G w x => rfl) R6.out) (by have h1 := HN.out; unfold WRoom; rw [cN_cost]; simp only [List.length_nil]; omega)).mono ?_
        rw [EN.out]
        rintro e w9 ⟨rfl, hk9⟩
        have K9 := Lib.hid (K4.out.nil_trans (K6.out.nil_trans hk9))
        clear hk9
        have qc := run_convert_own (P := Try.prog) w9 24 9 5 w1.heap.size _ _ o elemByte.under underU8 underStr (own_keptF HO.out K9.out (fun g _ h => h))
        go_wp2
        go_ret
        exact ⟨rfl, (K1.out.nil_trans (HKP.out.nil_trans K9.out)).nil_below⟩
      · subst hok
        have hokl : ¬ okL okN (bnd m) l := fun h => by
          rcases h1 with h1 | ⟨y, hy, hn⟩
          · have := h.1; omega
          · exact hn (h.2 y hy)
        have EN := Lib.hid (enc_no (cN_good m) hokl)
        clear hokl h1
        obtain ⟨sa, sc, hse, _, _⟩ := own_slice HO.out
        subst hse
        go_wp2_with (fail)
        refine (number_any _).mono ?_
        rintro e w3 ⟨cv3, rfl, hc, hk3⟩
        have HC := Lib.hid hc
        have K3 := Lib.hid hk3
        clear hc hk3
        go_wp2_with (fail)
        refine (listof_int numC numC_fair numC_one cv3 m w3 HC.out).mono ?_
        rintro e w4 ⟨cv4, rfl, hc, hk4⟩
        clear HC
        have HC : Hid (IsCodec w4 cv4 (cN m)) := Lib.hid hc
        have K4 := Lib.hid (K3.out.nil_trans hk4)
        clear hc hk4
        go_wp2_with (at_builtin; apply hold)
        unfold Hold
        have hm := HN.out
        have hse := own_empty w4 w4.heap.size 3 (Nat.le_refl _)
        have hs := src_row (c := c) (((HR1.out.kept HKP.out).kept K4.out).kept ((Kept.refl w4 (fun _ => False)).alloc (.cells #[] 3))) (t := 22) elem_int.under (ints_one l)
        refine wpList_append_ownS _ rfl (.tmp 81) (.tmp 82) 22 22 rfl w4.heap.size 3 (.int .i64 0) 1 8 elem_int (.slice (some ⟨w4.heap.size, 0, none⟩) 0 0) 0 [] rfl hse (.slice A l.length c) l.length (l.map (Value.int .i64)) rfl hs (by omega) (by simp) (fun v' w6 o1 g1 b1 => ?_)
        have K6 := Lib.hid (Kept.grown ((Kept.refl w4 (fun _ => False)).alloc (.cells #[] 3)) g1 (fun k hk => .inr (Nat.le_of_eq (Option.some.inj hk))))
        simp only [Nat.zero_add, List.nil_append] at o1
        obtain ⟨A6, c6, rfl, _, r6⟩ := row_own o1
        have R6 := Lib.hid r6
        clear hse hs o1 g1 b1 hm r6
        go_wp2_with (fail)
        refine (encode_ints w4 _ (cN m) l _ w6 HC.out (cN_fair m) K6.out.same (rep_of_row (fun G w x => rfl) R6.out) (by have h1 := HN.out; unfold WRoom; rw [cN_cost]; simp only [List.length_nil]; omega)).mono ?_
        rw [EN.out]
        rintro e w9 ⟨rfl, hk9⟩
        have K9 := Lib.hid (K4.out.nil_trans (K6.out.nil_trans hk9))
        clear hk9
        go_wp2
        go_ret
        exact ⟨rfl, (K1.out.nil_trans (HKP.out.nil_trans K9.out)).nil_below⟩

theorem numbers_any (A : Option Addr) (n c : Nat) (m : Int) (l : List Int) (w : World) (hr : RowIn w A n (l.map (Value.int .i64))) (hm : -9223372036854775808 ≤ m ∧ m ≤ 9223372036854775807) : Calls Try.prog 3 #[.slice A n c, .int .i64 m] w fun e w' => e = .returned (.bool true) ∧ Below w.heap.size w w' := by
  have hl : n = l.length := by have := hr.len; simpa using this
  subst hl
  by_cases h : 5000 < l.length
  · exact numbers_out A l.length c m w hr.max h
  · exact numbers_in l A c m w hr (by omega)
end Go.Proofs.Ytcnikobmepjgcaa.Codec
