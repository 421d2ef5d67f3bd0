/-
  CodecSizes and CodecOrder walked.
-/
import Derived.Test.YtcnikobmepjgcaaCodA
namespace Go.Proofs.Ytcnikobmepjgcaa.Codec
open Go.RowKit Go.Proofs.YtcnikobmepjgcaaBase Go.Proofs.YtcnikobmepjgcaaLex2 Go.Proofs.YtcnikobmepjgcaaNum
set_option linter.unusedVariables false
set_option linter.unusedSimpArgs false

theorem encR_num (n : Nat) (h : n < 4611686018427387904) : encR numC n = (⟨(encN n).toArray⟩, 0) := by
  have := enc_ok numC_good (x := (n : Int)) ⟨by omega, by omega⟩
  rw [this]
  simp [bsN]
theorem encR_num_no (n : Int) (h : n < 0 ∨ 4611686018427387904 ≤ n) : encR numC n = (⟨#[]⟩, 22) := enc_no numC_good (fun h2 => by unfold okN at h2; omega)
theorem dec_num (n : Nat) (h : n < 4611686018427387904) {t : ByteArray} (ht : ⟨(encN n).toArray⟩ = t) : decE numC t = 0 ∧ (numC.get ⟨t.data.toList, 0⟩).1 = n :=
  dec_ok numC_good (x := (n : Int)) ⟨by omega, by omega⟩ (by rw [← ht]; simp [bsN])

set_option maxHeartbeats 1600000 in
set_option maxRecDepth 100000 in
theorem sizes_no (n : Int) (w : World) (h : n < 0 ∨ 4611686018427387904 ≤ n) : Calls Try.prog 4 #[.int .i64 n] w fun e w' => e = .returned (.bool true) ∧ Below w.heap.size w w' := by
  have E1 := Lib.hid (encR_num_no n h)
  have HH := Lib.hid h
  clear h
  go_enter Try.func4, Try.ntmps4
  go_wp2_with (fail)
  refine (anchor_any _).mono ?_
  rintro e w1 ⟨rfl, hk⟩
  have K1 := Lib.hid hk
  clear hk
  go_wp2_with (fail)
  refine (number_any _).mono ?_
  rintro e w2 ⟨cv, rfl, hc, hk⟩
  have HC := Lib.hid hc
  have K2 := Lib.hid (K1.out.nil_trans hk)
  clear hc hk
  go_wp2_with (fail)
  refine (encode_int w2 cv numC n _ w2 HC.out numC_fair (Same.refl _) rfl (by unfold WRoom; simp [numC])).mono ?_
  rw [E1.out]
  rintro e w3 ⟨rfl, hk⟩
  have K3 := Lib.hid (K2.out.nil_trans hk)
  clear hk
  by_cases h1 : n < 0
  · go_wp2
    go_ret
    exact ⟨rfl, K3.out.nil_below⟩
  · have h2 := HH.out.resolve_left h1
    go_wp2
    go_ret
    exact ⟨rfl, K3.out.nil_below⟩

set_option maxHeartbeats 1600000 in
set_option maxRecDepth 100000 in
theorem sizes_0 (n : Nat) (w : World) (h0 : 0 ≤ n) (h : n < 64) : Calls Try.prog 4 #[.int .i64 n] w fun e w' => e = .returned (.bool true) ∧ Below w.heap.size w w' := by
  have hn : n < 4611686018427387904 := by omega
  have E1 := Lib.hid (encR_num n hn)
  obtain ⟨t, ht⟩ : ∃ t : ByteArray, ⟨(encN n).toArray⟩ = t := ⟨_, rfl⟩
  have hts : t.size = 1 := by rw [← ht, size_mk, encN_length]; unfold cls; (first | rw [if_pos (by omega)] | (rw [if_neg (by omega)]; first | rw [if_pos (by omega)] | (rw [if_neg (by omega)]; first | rw [if_pos (by omega)] | (rw [if_neg (by omega)]))))
  have D := Lib.hid (dec_num n hn ht)
  rw [ht] at E1
  have q1 : ¬ (n : Int) < 0 := by omega
  have q2 : ¬ (4611686018427387904 : Int) ≤ n := by omega
  have hds : DSize t := by unfold DSize; omega
  have HDS := Lib.hid hds
  have b1 : (n : Int) < 64 := by omega
  have b2 : (0 : Int) ≤ n := by omega
  obtain ⟨x, hx⟩ : ∃ x : Int, (n : Int) = x := ⟨_, rfl⟩
  rw [hx] at E1 q1 q2 b1 b2 D ⊢
  clear ht hn hds h h0 hx
  go_enter Try.func4, Try.ntmps4
  go_wp2_with (fail)
  refine (anchor_any _).mono ?_
  rintro e w1 ⟨rfl, hk⟩
  have K1 := Lib.hid hk
  clear hk
  go_wp2_with (fail)
  refine (number_any _).mono ?_
  rintro e w2 ⟨cv, rfl, hc, hk⟩
  have HC := Lib.hid hc
  have K2 := Lib.hid (K1.out.nil_trans hk)
  clear hc hk
  go_wp2_with (fail)
  refine (encode_int w2 cv numC x _ w2 HC.out numC_fair (Same.refl _) rfl (by unfold WRoom; simp [numC])).mono ?_
  rw [E1.out]
  rintro e w3 ⟨rfl, hk⟩
  have K3 := Lib.hid (K2.out.nil_trans hk)
  clear hk HC
  go_wp2_with (fail)
  refine (number_any _).mono ?_
  rintro e w4 ⟨cv4, rfl, hc, hk⟩
  have HC := Lib.hid hc
  have K4 := Lib.hid (K3.out.nil_trans hk)
  clear hc hk
  go_wp2_with (fail)
  refine (decode_int w4 cv4 _ _ w4 HC.out numC_fair (Same.refl _) HDS.out).mono ?_
  rw [D.out.1, D.out.2]
  rintro e w5 ⟨hk, h⟩
  have K5 := Lib.hid (K4.out.nil_trans hk)
  rcases h with ⟨h, _⟩ | ⟨_, v, rfl, hv⟩
  · exact absurd rfl h
  obtain rfl := num_rep hv
  clear hv hk
  go_wp2
  go_ret
  exact ⟨rfl, K5.out.nil_below⟩

set_option maxHeartbeats 1600000 in
set_option maxRecDepth 100000 in
theorem sizes_1 (n : Nat) (w : World) (h0 : 64 ≤ n) (h : n < 16384) : Calls Try.prog 4 #[.int .i64 n] w fun e w' => e = .returned (.bool true) ∧ Below w.heap.size w w' := by
  have hn : n < 4611686018427387904 := by omega
  have E1 := Lib.hid (encR_num n hn)
  obtain ⟨t, ht⟩ : ∃ t : ByteArray, ⟨(encN n).toArray⟩ = t := ⟨_, rfl⟩
  have hts : t.size = 2 := by rw [← ht, size_mk, encN_length]; unfold cls; (first | rw [if_pos (by omega)] | (rw [if_neg (by omega)]; first | rw [if_pos (by omega)] | (rw [if_neg (by omega)]; first | rw [if_pos (by omega)] | (rw [if_neg (by omega)]))))
  have D := Lib.hid (dec_num n hn ht)
  rw [ht] at E1
  have q1 : ¬ (n : Int) < 0 := by omega
  have q2 : ¬ (4611686018427387904 : Int) ≤ n := by omega
  have hds : DSize t := by unfold DSize; omega
  have HDS := Lib.hid hds
  have b1 : (n : Int) < 16384 := by omega
  have b2 : (64 : Int) ≤ n := by omega
  obtain ⟨x, hx⟩ : ∃ x : Int, (n : Int) = x := ⟨_, rfl⟩
  rw [hx] at E1 q1 q2 b1 b2 D ⊢
  clear ht hn hds h h0 hx
  go_enter Try.func4, Try.ntmps4
  go_wp2_with (fail)
  refine (anchor_any _).mono ?_
  rintro e w1 ⟨rfl, hk⟩
  have K1 := Lib.hid hk
  clear hk
  go_wp2_with (fail)
  refine (number_any _).mono ?_
  rintro e w2 ⟨cv, rfl, hc, hk⟩
  have HC := Lib.hid hc
  have K2 := Lib.hid (K1.out.nil_trans hk)
  clear hc hk
  go_wp2_with (fail)
  refine (encode_int w2 cv numC x _ w2 HC.out numC_fair (Same.refl _) rfl (by unfold WRoom; simp [numC])).mono ?_
  rw [E1.out]
  rintro e w3 ⟨rfl, hk⟩
  have K3 := Lib.hid (K2.out.nil_trans hk)
  clear hk HC
  go_wp2_with (fail)
  refine (number_any _).mono ?_
  rintro e w4 ⟨cv4, rfl, hc, hk⟩
  have HC := Lib.hid hc
  have K4 := Lib.hid (K3.out.nil_trans hk)
  clear hc hk
  go_wp2_with (fail)
  refine (decode_int w4 cv4 _ _ w4 HC.out numC_fair (Same.refl _) HDS.out).mono ?_
  rw [D.out.1, D.out.2]
  rintro e w5 ⟨hk, h⟩
  have K5 := Lib.hid (K4.out.nil_trans hk)
  rcases h with ⟨h, _⟩ | ⟨_, v, rfl, hv⟩
  · exact absurd rfl h
  obtain rfl := num_rep hv
  clear hv hk
  go_wp2
  go_ret
  exact ⟨rfl, K5.out.nil_below⟩

set_option maxHeartbeats 1600000 in
set_option maxRecDepth 100000 in
theorem sizes_2 (n : Nat) (w : World) (h0 : 16384 ≤ n) (h : n < 1073741824) : Calls Try.prog 4 #[.int .i64 n] w fun e w' => e = .returned (.bool true) ∧ Below w.heap.size w w' := by
  have hn : n < 4611686018427387904 := by omega
  have E1 := Lib.hid (encR_num n hn)
  obtain ⟨t, ht⟩ : ∃ t : ByteArray, ⟨(encN n).toArray⟩ = t := ⟨_, rfl⟩
  have hts : t.size = 4 := by rw [← ht, size_mk, encN_length]; unfold cls; (first | rw [if_pos (by omega)] | (rw [if_neg (by omega)]; first | rw [if_pos (by omega)] | (rw [if_neg (by omega)]; first | rw [if_pos (by omega)] | (rw [if_neg (by omega)]))))
  have D := Lib.hid (dec_num n hn ht)
  rw [ht] at E1
  have q1 : ¬ (n : Int) < 0 := by omega
  have q2 : ¬ (4611686018427387904 : Int) ≤ n := by omega
  have hds : DSize t := by unfold DSize; omega
  have HDS := Lib.hid hds
  have b1 : (n : Int) < 1073741824 := by omega
  have b2 : (16384 : Int) ≤ n := by omega
  obtain ⟨x, hx⟩ : ∃ x : Int, (n : Int) = x := ⟨_, rfl⟩
  rw [hx] at E1 q1 q2 b1 b2 D ⊢
  clear ht hn hds h h0 hx
  go_enter Try.func4, Try.ntmps4
  go_wp2_with (fail)
  refine (anchor_any _).mono ?_
  rintro e w1 ⟨rfl, hk⟩
  have K1 := Lib.hid hk
  clear hk
  go_wp2_with (fail)
  refine (number_any _).mono ?_
  rintro e w2 ⟨cv, rfl, hc, hk⟩
  have HC := Lib.hid hc
  have K2 := Lib.hid (K1.out.nil_trans hk)
  clear hc hk
  go_wp2_with (fail)
  refine (encode_int w2 cv numC x _ w2 HC.out numC_fair (Same.refl _) rfl (by unfold WRoom; simp [numC])).mono ?_
  rw [E1.out]
  rintro e w3 ⟨rfl, hk⟩
  have K3 := Lib.hid (K2.out.nil_trans hk)
  clear hk HC
  go_wp2_with (fail)
  refine (number_any _).mono ?_
  rintro e w4 ⟨cv4, rfl, hc, hk⟩
  have HC := Lib.hid hc
  have K4 := Lib.hid (K3.out.nil_trans hk)
  clear hc hk
  go_wp2_with (fail)
  refine (decode_int w4 cv4 _ _ w4 HC.out numC_fair (Same.refl _) HDS.out).mono ?_
  rw [D.out.1, D.out.2]
  rintro e w5 ⟨hk, h⟩
  have K5 := Lib.hid (K4.out.nil_trans hk)
  rcases h with ⟨h, _⟩ | ⟨_, v, rfl, hv⟩
  · exact absurd rfl h
  obtain rfl := num_rep hv
  clear hv hk
  go_wp2
  go_ret
  exact ⟨rfl, K5.out.nil_below⟩

set_option maxHeartbeats 1600000 in
set_option maxRecDepth 100000 in
theorem sizes_3 (n : Nat) (w : World) (h0 : 1073741824 ≤ n) (h : n < 4611686018427387904) : Calls Try.prog 4 #[.int .i64 n] w fun e w' => e = .returned (.bool true) ∧ Below w.heap.size w w' := by
  have hn : n < 4611686018427387904 := by omega
  have E1 := Lib.hid (encR_num n hn)
  obtain ⟨t, ht⟩ : ∃ t : ByteArray, ⟨(encN n).toArray⟩ = t := ⟨_, rfl⟩
  have hts : t.size = 8 := by rw [← ht, size_mk, encN_length]; unfold cls; (first | rw [if_pos (by omega)] | (rw [if_neg (by omega)]; first | rw [if_pos (by omega)] | (rw [if_neg (by omega)]; first | rw [if_pos (by omega)] | (rw [if_neg (by omega)]))))
  have D := Lib.hid (dec_num n hn ht)
  rw [ht] at E1
  have q1 : ¬ (n : Int) < 0 := by omega
  have q2 : ¬ (4611686018427387904 : Int) ≤ n := by omega
  have hds : DSize t := by unfold DSize; omega
  have HDS := Lib.hid hds
  have b1 : (n : Int) < 4611686018427387904 := by omega
  have b2 : (1073741824 : Int) ≤ n := by omega
  obtain ⟨x, hx⟩ : ∃ x : Int, (n : Int) = x := ⟨_, rfl⟩
  rw [hx] at E1 q1 q2 b1 b2 D ⊢
  clear ht hn hds h h0 hx
  go_enter Try.func4, Try.ntmps4
  go_wp2_with (fail)
  refine (anchor_any _).mono ?_
  rintro e w1 ⟨rfl, hk⟩
  have K1 := Lib.hid hk
  clear hk
  go_wp2_with (fail)
  refine (number_any _).mono ?_
  rintro e w2 ⟨cv, rfl, hc, hk⟩
  have HC := Lib.hid hc
  have K2 := Lib.hid (K1.out.nil_trans hk)
  clear hc hk
  go_wp2_with (fail)
  refine (encode_int w2 cv numC x _ w2 HC.out numC_fair (Same.refl _) rfl (by unfold WRoom; simp [numC])).mono ?_
  rw [E1.out]
  rintro e w3 ⟨rfl, hk⟩
  have K3 := Lib.hid (K2.out.nil_trans hk)
  clear hk HC
  go_wp2_with (fail)
  refine (number_any _).mono ?_
  rintro e w4 ⟨cv4, rfl, hc, hk⟩
  have HC := Lib.hid hc
  have K4 := Lib.hid (K3.out.nil_trans hk)
  clear hc hk
  go_wp2_with (fail)
  refine (decode_int w4 cv4 _ _ w4 HC.out numC_fair (Same.refl _) HDS.out).mono ?_
  rw [D.out.1, D.out.2]
  rintro e w5 ⟨hk, h⟩
  have K5 := Lib.hid (K4.out.nil_trans hk)
  rcases h with ⟨h, _⟩ | ⟨_, v, rfl, hv⟩
  · exact absurd rfl h
  obtain rfl := num_rep hv
  clear hv hk
  go_wp2
  go_ret
  exact ⟨rfl, K5.out.nil_below⟩

theorem sizes_any (n : Int) (w : World) (hn : -9223372036854775808 ≤ n ∧ n ≤ 9223372036854775807) : Calls Try.prog 4 #[.int .i64 n] w fun e w' => e = .returned (.bool true) ∧ Below w.heap.size w w' := by
  by_cases h : n < 0 ∨ 4611686018427387904 ≤ n
  · exact sizes_no n w h
  obtain ⟨m, rfl⟩ : ∃ m : Nat, n = m := ⟨n.toNat, by omega⟩
  by_cases h0 : m < 64
  · exact sizes_0 m w (by omega) h0
  by_cases h1 : m < 16384
  · exact sizes_1 m w (by omega) h1
  by_cases h2 : m < 1073741824
  · exact sizes_2 m w (by omega) h2
  · exact sizes_3 m w (by omega) (by omega)
end Go.Proofs.Ytcnikobmepjgcaa.Codec
