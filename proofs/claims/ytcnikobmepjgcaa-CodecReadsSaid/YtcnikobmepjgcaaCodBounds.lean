/-
  CodecBounds walked.
-/
import Derived.Test.YtcnikobmepjgcaaCodB
import Derived.OwnWalk
namespace Go.Proofs.Ytcnikobmepjgcaa.Codec
open Go.RowKit Go.Proofs.YtcnikobmepjgcaaBase Go.Proofs.YtcnikobmepjgcaaLex2 Go.Proofs.YtcnikobmepjgcaaNum
set_option linter.unusedVariables false
set_option linter.unusedSimpArgs false

def cF (m : Int) : Cod (List Bool) := listC flagC (bnd m)
theorem cF_good (m : Int) : Good (cF m) (okL (fun _ => True) (bnd m)) (bsL bsF) := listC_good flagC_good (bnd_le m)
theorem cF_fair (m : Int) : Fair (cF m) := listC_fair flagC_fair _
theorem cF_cost (m : Int) (l : List Bool) : (cF m).cost l = 8 + 8 * l.length := by
  have : costs flagC l = 8 * l.length := by
    induction l with
    | nil => rfl
    | cons x l ih => simp only [costs, List.map_cons, List.sum_cons, List.length_cons] at ih ⊢; rw [ih]; simp only [flagC]; omega
  simp only [cF, listC, this]
theorem bsF_len (l : List Bool) : (bsL bsF l).length ≤ 8 + 8 * l.length := by
  have h1 := encN_le l.length
  have h2 : ∀ l : List Bool, (l.flatMap bsF).length ≤ 8 * l.length := by
    intro l
    induction l with
    | nil => simp
    | cons x l ih =>
      have := encN_le (if x then 1 else 0)
      simp only [List.flatMap_cons, List.length_append, List.length_cons, bsF] at ih ⊢
      omega
  have := h2 l
  simp only [bsL, List.length_append]
  omega
theorem okF (m : Int) (l : List Bool) (h : l.length ≤ bnd m) : okL (fun _ => True) (bnd m) l := ⟨h, fun _ _ => trivial⟩

theorem bounds_out (m n : Int) (w : World) (h : n < 0 ∨ 3000 < n) : Calls Try.prog 10 #[.int .i64 m, .int .i64 n] w fun e w' => e = .returned (.bool true) ∧ Below w.heap.size w w' := by
  have HH := Lib.hid h
  clear h
  go_enter Try.func10, Try.ntmps10
  go_wp2_with (fail)
  refine (anchor_any _).mono ?_
  rintro e w1 ⟨rfl, hk⟩
  have K1 := Lib.hid hk
  clear hk
  by_cases h1 : n < 0
  · go_wp2
    go_ret
    exact ⟨rfl, K1.out.nil_below⟩
  · have h2 := HH.out.resolve_left h1
    go_wp2
    go_ret
    exact ⟨rfl, K1.out.nil_below⟩
theorem bc_zero (n : Nat) : List.replicate n (Value.int .u8 0) = bc (List.replicate n (0 : UInt8)) := by simp [bc]
theorem bnd_max (m : Int) (n : Nat) (h : n ≤ 3000) : n ≤ bnd m ↔ (n : Int) ≤ max 0 m := by
  unfold bnd
  split
  · omega
  split <;> omega

/-- What is made: so many bytes 0 as a text, so many flags. -/
def zeroS (n : Nat) : ByteArray := ⟨(List.replicate n (0 : UInt8)).toArray⟩
theorem zeroS_size (n : Nat) : (zeroS n).size = n := by unfold zeroS; rw [size_mk]; simp
def zeroL (n : Nat) : List Bool := List.replicate n false

structure BoundFacts (m : Int) (n : Nat) (a b c : ByteArray) (ea dc dd : Int) (x y : ByteArray) : Prop where
  EA : encR (textC (bnd m)) (zeroS n) = (a, ea)
  EB : encR (cF m) (zeroL n) = (b, ea)
  EX : encR (textC (bnd 3000)) (zeroS n) = (x, 0)
  EY : encR (cF 3000) (zeroL n) = (y, 0)
  DC : decE (textC (bnd m)) x = dc
  DD : decE (cF m) y = dc
  D1 : DSize x
  D2 : DSize y

set_option maxHeartbeats 3200000 in
set_option maxRecDepth 100000 in
theorem bounds_over (m : Int) (n : Nat) (x y : ByteArray) (w : World) (hn : n ≤ 3000) (hm : ¬ (n : Int) ≤ max 0 m) (F : BoundFacts m n ⟨#[]⟩ ⟨#[]⟩ ⟨#[]⟩ 22 22 22 x y) : Calls Try.prog 10 #[.int .i64 m, .int .i64 n] w fun e w' => e = .returned (.bool true) ∧ Below w.heap.size w w' := by
  have HF := Lib.hid F
  have HN := Lib.hid hn
  have qm := Lib.hid hm
  clear F hn hm
  have q0 : ¬ (n : Int) < 0 := by omega
  have q1 : ¬ (3000 : Int) < n := by have := HN.out; omega
  go_enter Try.func10, Try.ntmps10
  go_wp2_with (fail)
  refine (anchor_any _).mono ?_
  rintro e w1 ⟨rfl, hk⟩
  have K1 := Lib.hid hk
  clear hk
  go_wp2_with (at_make; apply hold)
  unfold Hold
  obtain ⟨i8, h81, h82, h83, h84⟩ := elemByte.info
  obtain ⟨i4, h41, h42, h43, h44⟩ := elem_bool.info
  have J8 := Lib.hid (And.intro h81 (And.intro h82 (And.intro h83 h84)))
  have J4 := Lib.hid (And.intro h41 (And.intro h42 (And.intro h43 h44)))
  clear h81 h82 h83 h84 h41 h42 h43 h44
  refine wpList_make_full w1 rfl (.tmp 27) (.tmp 27) 24 rfl w1.heap.size 5 i8 _ 1 elemByte.under J8.out.1 J8.out.2.1 J8.out.2.2.1 .i64 .i64 n n n rfl rfl rfl rfl (by rw [J8.out.2.2.2]; have := HN.out; omega) (by have := HN.out; unfold maxLen; omega) (Nat.le_refl _) (fun w2 o2 g2 => ?_)
  rw [show (Value.int IntKind.u8 0).cells = #[Value.int IntKind.u8 0] from rfl, Nat.mul_one, toList_madeCells_one, bc_zero] at o2
  have qc := run_convert_own (P := Try.prog) w2 24 9 5 w1.heap.size n _ (List.replicate n (0 : UInt8)) elemByte.under underU8 underStr o2
  rw [show (⟨(List.replicate n (0 : UInt8)).toArray⟩ : ByteArray) = zeroS n from rfl] at qc
  have K2 := Lib.hid (Kept.grown (Kept.refl w1 (fun _ => False)) g2 (fun k hk => by cases hk))
  clear o2 g2
  go_wp2_with (at_make; apply hold)
  clear qc
  unfold Hold
  refine wpList_make_full w2 rfl (.tmp 30) (.tmp 30) 91 rfl w2.heap.size 4 i4 _ 1 elem_bool.under J4.out.1 J4.out.2.1 J4.out.2.2.1 .i64 .i64 n n n rfl rfl rfl rfl (by rw [J4.out.2.2.2]; have := HN.out; omega) (by have := HN.out; unfold maxLen; omega) (Nat.le_refl _) (fun w3 o3 g3 => ?_)
  rw [show (Value.bool false).cells = #[Value.bool false] from rfl, Nat.mul_one, toList_madeCells_one] at o3
  have K3 := Lib.hid (K2.out.nil_trans (Kept.grown (Kept.refl w2 (fun _ => False)) g3 (fun k hk => by cases hk)))
  obtain ⟨A, c, hA, _, r3⟩ := row_own o3
  obtain ⟨rfl, _, rfl⟩ := Value.slice.inj hA
  have R3 : Hid (RowIn w3 (some ⟨w2.heap.size, 0, none⟩) n ((zeroL n).map Value.bool)) := by unfold zeroL; rw [List.map_replicate]; exact Lib.hid r3
  clear o3 g3 hA r3
  go_wp2_with (fail)
  refine (text_any m _).mono ?_
  rintro e w4 ⟨cv4, rfl, hc, hk⟩
  have HC := Lib.hid hc
  have K4 := Lib.hid hk
  clear hc hk
  go_wp2_with (fail)
  refine (encode_str w4 cv4 (textC (bnd m)) (zeroS n) _ w4 HC.out (textC_fair _) (Same.refl _) rfl (by unfold WRoom; simp only [textC, List.length_nil, zeroS_size]; have := HN.out; omega)).mono ?_
  rw [HF.out.EA]
  rintro e w5 ⟨rfl, hk⟩
  have K5 := Lib.hid (K4.out.nil_trans hk)
  clear hk HC
  go_wp2_with (fail)
  refine (flag_any _).mono ?_
  rintro e w6 ⟨cv6, rfl, hc, hk⟩
  have HC := Lib.hid hc
  have K6 := Lib.hid (K5.out.nil_trans hk)
  clear hc hk
  go_wp2_with (fail)
  refine (listof_bool flagC flagC_fair flagC_one cv6 m w6 HC.out).mono ?_
  rintro e w7 ⟨cv7, rfl, hc, hk⟩
  clear HC
  have HC := Lib.hid hc
  have K7 := Lib.hid (K6.out.nil_trans hk)
  clear hc hk
  go_wp2_with (fail)
  refine (encode_bools w7 cv7 (cF m) (zeroL n) _ w7 HC.out (cF_fair m) (Same.refl _) (rep_of_row (fun G w x => rfl) (R3.out.kept K7.out)) (by unfold WRoom; rw [cF_cost]; simp only [List.length_nil, zeroL, List.length_replicate]; have := HN.out; omega)).mono ?_
  rw [HF.out.EB]
  rintro e w8 ⟨rfl, hk⟩
  have K8 := Lib.hid (K7.out.nil_trans hk)
  clear hk HC
  go_wp2_with (fail)
  refine (text_any 3000 _).mono ?_
  rintro e w9 ⟨cv9, rfl, hc, hk⟩
  have HC := Lib.hid hc
  have K9 := Lib.hid (K8.out.nil_trans hk)
  clear hc hk
  go_wp2_with (fail)
  refine (encode_str w9 cv9 (textC (bnd 3000)) (zeroS n) _ w9 HC.out (textC_fair _) (Same.refl _) rfl (by unfold WRoom; simp only [textC, List.length_nil, zeroS_size]; have := HN.out; omega)).mono ?_
  rw [HF.out.EX]
  rintro e w10 ⟨rfl, hk⟩
  have K10 := Lib.hid (K9.out.nil_trans hk)
  clear hk HC
  go_wp2_with (fail)
  refine (flag_any _).mono ?_
  rintro e w11 ⟨cv11, rfl, hc, hk⟩
  have HC := Lib.hid hc
  have K11 := Lib.hid (K10.out.nil_trans hk)
  clear hc hk
  go_wp2_with (fail)
  refine (listof_bool flagC flagC_fair flagC_one cv11 3000 w11 HC.out).mono ?_
  rintro e w12 ⟨cv12, rfl, hc, hk⟩
  clear HC
  have HC := Lib.hid hc
  have K12 := Lib.hid (K11.out.nil_trans hk)
  clear hc hk
  go_wp2_with (fail)
  refine (encode_bools w12 cv12 (cF 3000) (zeroL n) _ w12 HC.out (cF_fair 3000) (Same.refl _) (rep_of_row (fun G w x => rfl) (R3.out.kept K12.out)) (by unfold WRoom; rw [cF_cost]; simp only [List.length_nil, zeroL, List.length_replicate]; have := HN.out; omega)).mono ?_
  rw [HF.out.EY]
  rintro e w13 ⟨rfl, hk⟩
  have K13 := Lib.hid (K12.out.nil_trans hk)
  clear hk HC
  go_wp2_with (fail)
  refine (text_any m _).mono ?_
  rintro e w14 ⟨cv14, rfl, hc, hk⟩
  have HC := Lib.hid hc
  have K14 := Lib.hid (K13.out.nil_trans hk)
  clear hc hk
  go_wp2_with (fail)
  refine (decode_str w14 cv14 (textC (bnd m)) x w14 HC.out (textC_fair _) (Same.refl _) HF.out.D1).mono ?_
  rw [HF.out.DC]
  rintro e w15 ⟨hk, h⟩
  have K15 := Lib.hid (K14.out.nil_trans hk)
  obtain rfl := (h.resolve_right fun h => absurd h.1 (by decide)).2
  clear hk h
  clear HC
  go_wp2_with (fail)
  refine (flag_any _).mono ?_
  rintro e w16 ⟨cv16, rfl, hc, hk⟩
  have HC := Lib.hid hc
  have K16 := Lib.hid (K15.out.nil_trans hk)
  clear hc hk
  go_wp2_with (fail)
  refine (listof_bool flagC flagC_fair flagC_one cv16 m w16 HC.out).mono ?_
  rintro e w17 ⟨cv17, rfl, hc, hk⟩
  clear HC
  have HC := Lib.hid hc
  have K17 := Lib.hid (K16.out.nil_trans hk)
  clear hc hk
  go_wp2_with (fail)
  refine (decode_bools w17 cv17 (cF m) y w17 HC.out (cF_fair m) (Same.refl _) HF.out.D2).mono ?_
  rw [HF.out.DD]
  rintro e w18 ⟨hk, h⟩
  have K18 := Lib.hid (K17.out.nil_trans hk)
  obtain rfl := (h.resolve_right fun h => absurd h.1 (by decide)).2
  clear hk h
  have q2 : max 0 m < (n : Int) := by have := qm.out; omega
  go_wp2
  go_ret
  exact ⟨rfl, ((K1.out.nil_trans K3.out).nil_trans K18.out).nil_below⟩

set_option maxHeartbeats 3200000 in
set_option maxRecDepth 100000 in
theorem bounds_fits (m : Int) (n : Nat) (x y : ByteArray) (w : World) (hn : n ≤ 3000) (hm : (n : Int) ≤ max 0 m) (F : BoundFacts m n x y ⟨#[]⟩ 0 0 0 x y) (V : ((textC (bnd m)).get ⟨x.data.toList, 0⟩).1 = zeroS n) (V2 : ((cF m).get ⟨y.data.toList, 0⟩).1 = zeroL n) : Calls Try.prog 10 #[.int .i64 m, .int .i64 n] w fun e w' => e = .returned (.bool true) ∧ Below w.heap.size w w' := by
  have HV := Lib.hid V
  have HV2 := Lib.hid V2
  clear V V2
  have HF := Lib.hid F
  have HN := Lib.hid hn
  have qm := Lib.hid hm
  clear F hn hm
  have q0 : ¬ (n : Int) < 0 := by omega
  have q1 : ¬ (3000 : Int) < n := by have := HN.out; omega
  go_enter Try.func10, Try.ntmps10
  go_wp2_with (fail)
  refine (anchor_any _).mono ?_
  rintro e w1 ⟨rfl, hk⟩
  have K1 := Lib.hid hk
  clear hk
  go_wp2_with (at_make; apply hold)
  unfold Hold
  obtain ⟨i8, h81, h82, h83, h84⟩ := elemByte.info
  obtain ⟨i4, h41, h42, h43, h44⟩ := elem_bool.info
  have J8 := Lib.hid (And.intro h81 (And.intro h82 (And.intro h83 h84)))
  have J4 := Lib.hid (And.intro h41 (And.intro h42 (And.intro h43 h44)))
  clear h81 h82 h83 h84 h41 h42 h43 h44
  refine wpList_make_full w1 rfl (.tmp 27) (.tmp 27) 24 rfl w1.heap.size 5 i8 _ 1 elemByte.under J8.out.1 J8.out.2.1 J8.out.2.2.1 .i64 .i64 n n n rfl rfl rfl rfl (by rw [J8.out.2.2.2]; have := HN.out; omega) (by have := HN.out; unfold maxLen; omega) (Nat.le_refl _) (fun w2 o2 g2 => ?_)
  rw [show (Value.int IntKind.u8 0).cells = #[Value.int IntKind.u8 0] from rfl, Nat.mul_one, toList_madeCells_one, bc_zero] at o2
  have qc := run_convert_own (P := Try.prog) w2 24 9 5 w1.heap.size n _ (List.replicate n (0 : UInt8)) elemByte.under underU8 underStr o2
  rw [show (⟨(List.replicate n (0 : UInt8)).toArray⟩ : ByteArray) = zeroS n from rfl] at qc
  have K2 := Lib.hid (Kept.grown (Kept.refl w1 (fun _ => False)) g2 (fun k hk => by cases hk))
  clear o2 g2
  go_wp2_with (at_make; apply hold)
  clear qc
  unfold Hold
  refine wpList_make_full w2 rfl (.tmp 30) (.tmp 30) 91 rfl w2.heap.size 4 i4 _ 1 elem_bool.under J4.out.1 J4.out.2.1 J4.out.2.2.1 .i64 .i64 n n n rfl rfl rfl rfl (by rw [J4.out.2.2.2]; have := HN.out; omega) (by have := HN.out; unfold maxLen; omega) (Nat.le_refl _) (fun w3 o3 g3 => ?_)
  rw [show (Value.bool false).cells = #[Value.bool false] from rfl, Nat.mul_one, toList_madeCells_one] at o3
  have K3 := Lib.hid (K2.out.nil_trans (Kept.grown (Kept.refl w2 (fun _ => False)) g3 (fun k hk => by cases hk)))
  obtain ⟨A, c, hA, _, r3⟩ := row_own o3
  obtain ⟨rfl, _, rfl⟩ := Value.slice.inj hA
  have R3 : Hid (RowIn w3 (some ⟨w2.heap.size, 0, none⟩) n ((zeroL n).map Value.bool)) := by unfold zeroL; rw [List.map_replicate]; exact Lib.hid r3
  clear o3 g3 hA r3
  go_wp2_with (fail)
  refine (text_any m _).mono ?_
  rintro e w4 ⟨cv4, rfl, hc, hk⟩
  have HC := Lib.hid hc
  have K4 := Lib.hid hk
  clear hc hk
  go_wp2_with (fail)
  refine (encode_str w4 cv4 (textC (bnd m)) (zeroS n) _ w4 HC.out (textC_fair _) (Same.refl _) rfl (by unfold WRoom; simp only [textC, List.length_nil, zeroS_size]; have := HN.out; omega)).mono ?_
  rw [HF.out.EA]
  rintro e w5 ⟨rfl, hk⟩
  have K5 := Lib.hid (K4.out.nil_trans hk)
  clear hk HC
  go_wp2_with (fail)
  refine (flag_any _).mono ?_
  rintro e w6 ⟨cv6, rfl, hc, hk⟩
  have HC := Lib.hid hc
  have K6 := Lib.hid (K5.out.nil_trans hk)
  clear hc hk
  go_wp2_with (fail)
  refine (listof_bool flagC flagC_fair flagC_one cv6 m w6 HC.out).mono ?_
  rintro e w7 ⟨cv7, rfl, hc, hk⟩
  clear HC
  have HC := Lib.hid hc
  have K7 := Lib.hid (K6.out.nil_trans hk)
  clear hc hk
  go_wp2_with (fail)
  refine (encode_bools w7 cv7 (cF m) (zeroL n) _ w7 HC.out (cF_fair m) (Same.refl _) (rep_of_row (fun G w x => rfl) (R3.out.kept K7.out)) (by unfold WRoom; rw [cF_cost]; simp only [List.length_nil, zeroL, List.length_replicate]; have := HN.out; omega)).mono ?_
  rw [HF.out.EB]
  rintro e w8 ⟨rfl, hk⟩
  have K8 := Lib.hid (K7.out.nil_trans hk)
  clear hk HC
  go_wp2_with (fail)
  refine (text_any 3000 _).mono ?_
  rintro e w9 ⟨cv9, rfl, hc, hk⟩
  have HC := Lib.hid hc
  have K9 := Lib.hid (K8.out.nil_trans hk)
  clear hc hk
  go_wp2_with (fail)
  refine (encode_str w9 cv9 (textC (bnd 3000)) (zeroS n) _ w9 HC.out (textC_fair _) (Same.refl _) rfl (by unfold WRoom; simp only [textC, List.length_nil, zeroS_size]; have := HN.out; omega)).mono ?_
  rw [HF.out.EX]
  rintro e w10 ⟨rfl, hk⟩
  have K10 := Lib.hid (K9.out.nil_trans hk)
  clear hk HC
  go_wp2_with (fail)
  refine (flag_any _).mono ?_
  rintro e w11 ⟨cv11, rfl, hc, hk⟩
  have HC := Lib.hid hc
  have K11 := Lib.hid (K10.out.nil_trans hk)
  clear hc hk
  go_wp2_with (fail)
  refine (listof_bool flagC flagC_fair flagC_one cv11 3000 w11 HC.out).mono ?_
  rintro e w12 ⟨cv12, rfl, hc, hk⟩
  clear HC
  have HC := Lib.hid hc
  have K12 := Lib.hid (K11.out.nil_trans hk)
  clear hc hk
  go_wp2_with (fail)
  refine (encode_bools w12 cv12 (cF 3000) (zeroL n) _ w12 HC.out (cF_fair 3000) (Same.refl _) (rep_of_row (fun G w x => rfl) (R3.out.kept K12.out)) (by unfold WRoom; rw [cF_cost]; simp only [List.length_nil, zeroL, List.length_replicate]; have := HN.out; omega)).mono ?_
  rw [HF.out.EY]
  rintro e w13 ⟨rfl, hk⟩
  have K13 := Lib.hid (K12.out.nil_trans hk)
  clear hk HC
  go_wp2_with (fail)
  refine (text_any m _).mono ?_
  rintro e w14 ⟨cv14, rfl, hc, hk⟩
  have HC := Lib.hid hc
  have K14 := Lib.hid (K13.out.nil_trans hk)
  clear hc hk
  go_wp2_with (fail)
  refine (decode_str w14 cv14 (textC (bnd m)) x w14 HC.out (textC_fair _) (Same.refl _) HF.out.D1).mono ?_
  rw [HF.out.DC, HV.out]
  rintro e w15 ⟨hk, h⟩
  have K15 := Lib.hid (K14.out.nil_trans hk)
  obtain ⟨v, rfl, hv⟩ := (h.resolve_left fun h => h.1 rfl).2
  obtain rfl := text_rep hv
  clear hk h hv
  clear HC
  go_wp2_with (fail)
  refine (flag_any _).mono ?_
  rintro e w16 ⟨cv16, rfl, hc, hk⟩
  have HC := Lib.hid hc
  have K16 := Lib.hid (K15.out.nil_trans hk)
  clear hc hk
  go_wp2_with (fail)
  refine (listof_bool flagC flagC_fair flagC_one cv16 m w16 HC.out).mono ?_
  rintro e w17 ⟨cv17, rfl, hc, hk⟩
  clear HC
  have HC := Lib.hid hc
  have K17 := Lib.hid (K16.out.nil_trans hk)
  clear hc hk
  go_wp2_with (fail)
  refine (decode_bools w17 cv17 (cF m) y w17 HC.out (cF_fair m) (Same.refl _) HF.out.D2).mono ?_
  rw [HF.out.DD, HV2.out]
  rintro e w18 ⟨hk, h⟩
  have K18 := Lib.hid (K17.out.nil_trans hk)
  obtain ⟨v, rfl, hv⟩ := (h.resolve_left fun h => h.1 rfl).2
  obtain ⟨A9, c9, rfl, hr9⟩ := row_of_rep (f := Value.bool) (fun G w x u h => h) hv
  have hz : (zeroL n).length = n := by unfold zeroL; rw [List.length_replicate]
  rw [hz]
  clear hk h hv hr9 hz
  have q2 : ¬ max 0 m < (n : Int) := by have := qm.out; omega
  go_wp2
  go_ret
  exact ⟨rfl, ((K1.out.nil_trans K3.out).nil_trans K18.out).nil_below⟩

theorem bounds_any (m n : Int) (w : World) (hm : -9223372036854775808 ≤ m ∧ m ≤ 9223372036854775807) (hn : -9223372036854775808 ≤ n ∧ n ≤ 9223372036854775807) : Calls Try.prog 10 #[.int .i64 m, .int .i64 n] w fun e w' => e = .returned (.bool true) ∧ Below w.heap.size w w' := by
  by_cases h : n < 0 ∨ 3000 < n
  · exact bounds_out m n w h
  obtain ⟨k, rfl⟩ : ∃ k : Nat, n = k := ⟨n.toNat, by omega⟩
  have hk : k ≤ 3000 := by omega
  have hb := bnd_max m k hk
  have g := textC_good (bnd_le m)
  have g3 := textC_good (bnd_le 3000)
  have hlen : (zeroL k).length = k := by unfold zeroL; rw [List.length_replicate]
  have h3 : bnd 3000 = 3000 := rfl
  have o3 : okT (bnd 3000) (zeroS k) := by unfold okT; rw [zeroS_size, h3]; omega
  have l3 : okL (fun _ => True) (bnd 3000) (zeroL k) := okF 3000 _ (by rw [hlen, h3]; omega)
  obtain ⟨x, hx⟩ : ∃ x : ByteArray, ⟨(bsT (zeroS k)).toArray⟩ = x := ⟨_, rfl⟩
  obtain ⟨y, hy⟩ : ∃ y : ByteArray, ⟨(bsL bsF (zeroL k)).toArray⟩ = y := ⟨_, rfl⟩
  have hxd : x.data.toList = bsT (zeroS k) := by rw [← hx]
  have hyd : y.data.toList = bsL bsF (zeroL k) := by rw [← hy]
  have d1 : DSize x := by
    have : x.size = (bsT (zeroS k)).length := by rw [← hxd, len_data]
    have h8 := encN_le (zeroS k).size
    unfold DSize
    rw [this]
    simp only [bsT, List.length_append, len_data, zeroS_size] at h8 ⊢
    omega
  have d2 : DSize y := by
    have : y.size = (bsL bsF (zeroL k)).length := by rw [← hyd, len_data]
    have h8 := bsF_len (zeroL k)
    unfold DSize
    rw [this]
    rw [hlen] at h8
    omega
  have ex := enc_ok g3 o3
  have ey := enc_ok (cF_good 3000) l3
  rw [hx] at ex
  rw [hy] at ey
  by_cases hf : (k : Int) ≤ max 0 m
  · have hkb := hb.2 hf
    have o1 : okT (bnd m) (zeroS k) := by unfold okT; rw [zeroS_size]; exact hkb
    have l1 := okF m (zeroL k) (by rw [hlen]; exact hkb)
    have ea := enc_ok g o1
    have eb := enc_ok (cF_good m) l1
    rw [hx] at ea
    rw [hy] at eb
    have da := dec_ok g o1 hxd
    have db := dec_ok (cF_good m) l1 hyd
    exact bounds_fits m k x y w hk hf ⟨ea, eb, ex, ey, da.1, db.1, d1, d2⟩ da.2 db.2
  · have hkb : ¬ k ≤ bnd m := fun h => hf (hb.1 h)
    have o1 : ¬ okT (bnd m) (zeroS k) := by unfold okT; rw [zeroS_size]; exact hkb
    have l1 : ¬ okL (fun _ => True) (bnd m) (zeroL k) := fun h => hkb (by have := h.1; rw [hlen] at this; exact this)
    have da : decE (textC (bnd m)) x = 22 := by
      have h1 : (textC (bnd m)).get ⟨x.data.toList, 0⟩ = (⟨#[]⟩, ⟨(zeroS k).data.toList, 22⟩) := by
        rw [hxd]
        simp only [textC, bsT]
        rw [countN_over _ _ (by rw [zeroS_size]; omega) (by rw [zeroS_size]; omega), takeN_err (by simp)]
      rw [decE_fail (by rw [h1]; simp), h1]
    have db : decE (cF m) y = 22 := by
      have h1 : (cF m).get ⟨y.data.toList, 0⟩ = ([], ⟨(zeroL k).flatMap bsF, 22⟩) := by
        rw [hyd]
        simp only [cF, listC, bsL]
        rw [countN_over _ _ (by rw [hlen]; omega) (by rw [hlen]; omega)]
        rfl
      rw [decE_fail (by rw [h1]; simp), h1]
    exact bounds_over m k x y w hk hf ⟨enc_no g o1, enc_no (cF_good m) l1, ex, ey, da, db, d1, d2⟩
end Go.Proofs.Ytcnikobmepjgcaa.Codec
