/-
  CodecOrder walked.
-/
import Derived.Test.YtcnikobmepjgcaaCodSizes
import Derived.Test.YtcnikobmepjgcaaRd3
namespace Go.Proofs.Ytcnikobmepjgcaa.Codec
open Go.RowKit Go.Proofs.YtcnikobmepjgcaaBase Go.Proofs.YtcnikobmepjgcaaLex2 Go.Proofs.YtcnikobmepjgcaaNum
set_option linter.unusedVariables false
set_option linter.unusedSimpArgs false

/-- What a number is written as, or that it isn't. -/
def NumEnc (x : Int) (t : ByteArray) (e : Int) : Prop := (0 ≤ x ∧ x < 4611686018427387904 ∧ e = 0 ∧ t.data.toList = encN x.toNat) ∨ ((x < 0 ∨ 4611686018427387904 ≤ x) ∧ e = 22)
theorem numEnc (x : Int) : NumEnc x (encR numC x).1 (encR numC x).2 := by
  by_cases h : x < 0 ∨ 4611686018427387904 ≤ x
  · rw [encR_num_no x h]; exact .inr ⟨h, rfl⟩
  · obtain ⟨m, rfl⟩ : ∃ m : Nat, x = m := ⟨x.toNat, by omega⟩
    rw [encR_num m (by omega)]
    exact .inl ⟨by omega, by omega, rfl, by simp⟩

def OrdFacts (a b : Int) (ta tb : ByteArray) (p : Bool) : Prop := Op.bytesLess ta.toList tb.toList = p ∧ ¬ ta.toList = tb.toList ∧ (ta.toList == tb.toList) = false ∧ decide (a < b) = p ∧ ¬ a = b ∧ (a == b) = false ∧ decide (a = b) = false
set_option maxHeartbeats 1600000 in
set_option maxRecDepth 100000 in
theorem order_lt (a b : Int) (ta tb : ByteArray) (w : World) (ea : encR numC a = (ta, 0)) (eb : encR numC b = (tb, 0)) (H : OrdFacts a b ta tb true) (hab : a < b) : Calls Try.prog 6 #[.int .i64 a, .int .i64 b] w fun e w' => e = .returned (.bool true) ∧ Below w.heap.size w w' := by
  have E1 := Lib.hid ea
  have E2 := Lib.hid eb
  have HH := Lib.hid H
  have HAB := Lib.hid hab
  clear ea eb H hab
  go_enter Try.func6, Try.ntmps6
  go_wp2_with (fail)
  refine (anchor_any _).mono ?_
  rintro e w1 ⟨rfl, hk⟩
  have K1 := Lib.hid hk
  clear hk
  go_wp2_with (fail)
  refine (number_any _).mono ?_
  rintro e w2 ⟨cv, rfl, hc, hk⟩
  have HC := Lib.hid hc
  have K2 := Lib.hid (K1.out.nil_trans hk)
  clear hc hk
  go_wp2_with (fail)
  refine (encode_int w2 cv numC a _ w2 HC.out numC_fair (Same.refl _) rfl (by unfold WRoom; simp [numC])).mono ?_
  rw [E1.out]
  rintro e w3 ⟨rfl, hk⟩
  have K3 := Lib.hid (K2.out.nil_trans hk)
  clear hk HC
  go_wp2_with (fail)
  refine (number_any _).mono ?_
  rintro e w4 ⟨cv4, rfl, hc, hk⟩
  have HC := Lib.hid hc
  have K4 := Lib.hid (K3.out.nil_trans hk)
  clear hc hk
  go_wp2_with (fail)
  refine (encode_int w4 cv4 numC b _ w4 HC.out numC_fair (Same.refl _) rfl (by unfold WRoom; simp [numC])).mono ?_
  rw [E2.out]
  rintro e w5 ⟨rfl, hk⟩
  have K5 := Lib.hid (K4.out.nil_trans hk)
  clear hk HC
  obtain ⟨h1, h2, h3, h4, h5, h6, h7⟩ := HH.out
  have h8 := HAB.out
  go_wp2
  go_ret
  exact ⟨rfl, K5.out.nil_below⟩

set_option maxHeartbeats 1600000 in
set_option maxRecDepth 100000 in
theorem order_gt (a b : Int) (ta tb : ByteArray) (w : World) (ea : encR numC a = (ta, 0)) (eb : encR numC b = (tb, 0)) (H : OrdFacts a b ta tb false) (hab : ¬ a < b) : Calls Try.prog 6 #[.int .i64 a, .int .i64 b] w fun e w' => e = .returned (.bool true) ∧ Below w.heap.size w w' := by
  have E1 := Lib.hid ea
  have E2 := Lib.hid eb
  have HH := Lib.hid H
  have HAB := Lib.hid hab
  clear ea eb H hab
  go_enter Try.func6, Try.ntmps6
  go_wp2_with (fail)
  refine (anchor_any _).mono ?_
  rintro e w1 ⟨rfl, hk⟩
  have K1 := Lib.hid hk
  clear hk
  go_wp2_with (fail)
  refine (number_any _).mono ?_
  rintro e w2 ⟨cv, rfl, hc, hk⟩
  have HC := Lib.hid hc
  have K2 := Lib.hid (K1.out.nil_trans hk)
  clear hc hk
  go_wp2_with (fail)
  refine (encode_int w2 cv numC a _ w2 HC.out numC_fair (Same.refl _) rfl (by unfold WRoom; simp [numC])).mono ?_
  rw [E1.out]
  rintro e w3 ⟨rfl, hk⟩
  have K3 := Lib.hid (K2.out.nil_trans hk)
  clear hk HC
  go_wp2_with (fail)
  refine (number_any _).mono ?_
  rintro e w4 ⟨cv4, rfl, hc, hk⟩
  have HC := Lib.hid hc
  have K4 := Lib.hid (K3.out.nil_trans hk)
  clear hc hk
  go_wp2_with (fail)
  refine (encode_int w4 cv4 numC b _ w4 HC.out numC_fair (Same.refl _) rfl (by unfold WRoom; simp [numC])).mono ?_
  rw [E2.out]
  rintro e w5 ⟨rfl, hk⟩
  have K5 := Lib.hid (K4.out.nil_trans hk)
  clear hk HC
  obtain ⟨h1, h2, h3, h4, h5, h6, h7⟩ := HH.out
  have h8 := HAB.out
  go_wp2
  go_ret
  exact ⟨rfl, K5.out.nil_below⟩

set_option maxHeartbeats 1600000 in
set_option maxRecDepth 100000 in
theorem order_eq (a : Int) (ta : ByteArray) (w : World) (ea : encR numC a = (ta, 0)) (H : Op.bytesLess ta.toList ta.toList = false) : Calls Try.prog 6 #[.int .i64 a, .int .i64 a] w fun e w' => e = .returned (.bool true) ∧ Below w.heap.size w w' := by
  have E1 := Lib.hid ea
  have E2 := Lib.hid ea
  have HH := Lib.hid H
  clear ea H
  go_enter Try.func6, Try.ntmps6
  go_wp2_with (fail)
  refine (anchor_any _).mono ?_
  rintro e w1 ⟨rfl, hk⟩
  have K1 := Lib.hid hk
  clear hk
  go_wp2_with (fail)
  refine (number_any _).mono ?_
  rintro e w2 ⟨cv, rfl, hc, hk⟩
  have HC := Lib.hid hc
  have K2 := Lib.hid (K1.out.nil_trans hk)
  clear hc hk
  go_wp2_with (fail)
  refine (encode_int w2 cv numC a _ w2 HC.out numC_fair (Same.refl _) rfl (by unfold WRoom; simp [numC])).mono ?_
  rw [E1.out]
  rintro e w3 ⟨rfl, hk⟩
  have K3 := Lib.hid (K2.out.nil_trans hk)
  clear hk HC
  go_wp2_with (fail)
  refine (number_any _).mono ?_
  rintro e w4 ⟨cv4, rfl, hc, hk⟩
  have HC := Lib.hid hc
  have K4 := Lib.hid (K3.out.nil_trans hk)
  clear hc hk
  go_wp2_with (fail)
  refine (encode_int w4 cv4 numC a _ w4 HC.out numC_fair (Same.refl _) rfl (by unfold WRoom; simp [numC])).mono ?_
  rw [E2.out]
  rintro e w5 ⟨rfl, hk⟩
  have K5 := Lib.hid (K4.out.nil_trans hk)
  clear hk HC
  have h1 := HH.out
  go_wp2
  go_ret
  exact ⟨rfl, K5.out.nil_below⟩

set_option maxHeartbeats 1600000 in
set_option maxRecDepth 100000 in
theorem order_no (a b : Int) (ta tb : ByteArray) (d f : Int) (w : World) (ea : encR numC a = (ta, d)) (eb : encR numC b = (tb, f)) (ha : (d = 22 ∧ (a < 0 ∨ 4611686018427387904 ≤ a)) ∨ (d = 0 ∧ 0 ≤ a ∧ a < 4611686018427387904)) (hb : (f = 22 ∧ (b < 0 ∨ 4611686018427387904 ≤ b)) ∨ (f = 0 ∧ 0 ≤ b ∧ b < 4611686018427387904)) (hdf : d = 22 ∨ f = 22) :
    Calls Try.prog 6 #[.int .i64 a, .int .i64 b] w fun e w' => e = .returned (.bool true) ∧ Below w.heap.size w w' := by
  have E1 := Lib.hid ea
  have E2 := Lib.hid eb
  have HA := Lib.hid ha
  have HB := Lib.hid hb
  have HDF := Lib.hid hdf
  clear ea eb ha hb hdf
  go_enter Try.func6, Try.ntmps6
  go_wp2_with (fail)
  refine (anchor_any _).mono ?_
  rintro e w1 ⟨rfl, hk⟩
  have K1 := Lib.hid hk
  clear hk
  go_wp2_with (fail)
  refine (number_any _).mono ?_
  rintro e w2 ⟨cv, rfl, hc, hk⟩
  have HC := Lib.hid hc
  have K2 := Lib.hid (K1.out.nil_trans hk)
  clear hc hk
  go_wp2_with (fail)
  refine (encode_int w2 cv numC a _ w2 HC.out numC_fair (Same.refl _) rfl (by unfold WRoom; simp [numC])).mono ?_
  rw [E1.out]
  rintro e w3 ⟨rfl, hk⟩
  have K3 := Lib.hid (K2.out.nil_trans hk)
  clear hk HC
  go_wp2_with (fail)
  refine (number_any _).mono ?_
  rintro e w4 ⟨cv4, rfl, hc, hk⟩
  have HC := Lib.hid hc
  have K4 := Lib.hid (K3.out.nil_trans hk)
  clear hc hk
  go_wp2_with (fail)
  refine (encode_int w4 cv4 numC b _ w4 HC.out numC_fair (Same.refl _) rfl (by unfold WRoom; simp [numC])).mono ?_
  rw [E2.out]
  rintro e w5 ⟨rfl, hk⟩
  have K5 := Lib.hid (K4.out.nil_trans hk)
  clear hk HC
  rcases HA.out with ⟨rfl, ha | ha⟩ | ⟨rfl, ha, ha2⟩ <;> rcases HB.out with ⟨rfl, hb | hb⟩ | ⟨rfl, hb, hb2⟩
  case inr.inr =>
    exact absurd HDF.out (by decide)
  case inl.inr.inl.inr =>
    have q1 : ¬ a < 0 := by omega
    have q1d : decide (a < 0) = false := by simp; omega
    have q2 : ¬ b < 0 := by omega
    have q2d : decide (b < 0) = false := by simp; omega
    go_wp2
    go_ret
    exact ⟨rfl, K5.out.nil_below⟩
  case inl.inr.inl.inl =>
    have q1 : ¬ a < 0 := by omega
    have q1d : decide (a < 0) = false := by simp; omega
    go_wp2
    go_ret
    exact ⟨rfl, K5.out.nil_below⟩
  case inl.inr.inr =>
    have q1 : ¬ a < 0 := by omega
    have q1d : decide (a < 0) = false := by simp; omega
    have q2 : ¬ b < 0 := by omega
    have q2d : decide (b < 0) = false := by simp; omega
    have q3 : ¬ 4611686018427387904 ≤ b := by omega
    have q3d : decide (4611686018427387904 ≤ b) = false := by simp; omega
    go_wp2
    go_ret
    exact ⟨rfl, K5.out.nil_below⟩
  case inl.inl.inl.inr =>
    have q1 : ¬ b < 0 := by omega
    have q1d : decide (b < 0) = false := by simp; omega
    go_wp2
    go_ret
    exact ⟨rfl, K5.out.nil_below⟩
  case inl.inl.inr =>
    have q2 : ¬ b < 0 := by omega
    have q2d : decide (b < 0) = false := by simp; omega
    have q3 : ¬ 4611686018427387904 ≤ b := by omega
    have q3d : decide (4611686018427387904 ≤ b) = false := by simp; omega
    go_wp2
    go_ret
    exact ⟨rfl, K5.out.nil_below⟩
  case inr.inl.inr =>
    have q0 : ¬ a < 0 := by omega
    have q0d : decide (a < 0) = false := by simp; omega
    have q1 : ¬ 4611686018427387904 ≤ a := by omega
    have q1d : decide (4611686018427387904 ≤ a) = false := by simp; omega
    have q2 : ¬ b < 0 := by omega
    have q2d : decide (b < 0) = false := by simp; omega
    go_wp2
    go_ret
    exact ⟨rfl, K5.out.nil_below⟩
  case inr.inl.inl =>
    have q0 : ¬ a < 0 := by omega
    have q0d : decide (a < 0) = false := by simp; omega
    have q1 : ¬ 4611686018427387904 ≤ a := by omega
    have q1d : decide (4611686018427387904 ≤ a) = false := by simp; omega
    go_wp2
    go_ret
    exact ⟨rfl, K5.out.nil_below⟩
  all_goals
    go_wp2
    go_ret
    exact ⟨rfl, K5.out.nil_below⟩

theorem order_any (a b : Int) (w : World) (ha : -9223372036854775808 ≤ a ∧ a ≤ 9223372036854775807) (hb : -9223372036854775808 ≤ b ∧ b ≤ 9223372036854775807) : Calls Try.prog 6 #[.int .i64 a, .int .i64 b] w fun e w' => e = .returned (.bool true) ∧ Below w.heap.size w w' := by
  have na := numEnc a
  have nb := numEnc b
  obtain ⟨ta, d, hda⟩ : ∃ t d, encR numC a = (t, d) := ⟨_, _, rfl⟩
  obtain ⟨tb, f, hfb⟩ : ∃ t d, encR numC b = (t, d) := ⟨_, _, rfl⟩
  rw [hda] at na
  rw [hfb] at nb
  rcases na with ⟨a1, a2, a3, a4⟩ | ⟨a1, a2⟩
  · rcases nb with ⟨b1, b2, b3, b4⟩ | ⟨b1, b2⟩
    · simp only at a3 b3 a4 b4
      subst a3 b3
      have hl := less_enc a.toNat b.toNat (by omega) (by omega)
      rw [← a4, ← b4, ← ByteArray.toList_eq, ← ByteArray.toList_eq] at hl
      have hne : a ≠ b → ta.toList ≠ tb.toList := fun hab e => hab (by
        rw [ByteArray.toList_eq, ByteArray.toList_eq, a4, b4] at e
        have := enc_inj (by omega) (by omega) e
        omega)
      rcases Int.lt_trichotomy a b with h | h | h
      · have e1 := hne (by omega)
        exact order_lt a b ta tb w hda hfb ⟨by rw [hl]; simp; omega, e1, by simpa using e1, by simpa using h, by omega, by simp; omega, by simp; omega⟩ h
      · subst h
        have e1 : ta = tb := by
          rw [hda] at hfb
          exact congrArg Prod.fst hfb
        subst e1
        exact order_eq a ta w hda (by rw [hl]; simp)
      · have e1 := hne (by omega)
        exact order_gt a b ta tb w hda hfb ⟨by rw [hl]; simp; omega, e1, by simpa using e1, by simp; omega, by omega, by simp; omega, by simp; omega⟩ (by omega)
    · exact order_no a b ta tb d f w hda hfb (.inr ⟨a3, a1, a2⟩) (.inl ⟨b2, b1⟩) (.inr b2)
  · rcases nb with ⟨b1, b2, b3, b4⟩ | ⟨b1, b2⟩
    · exact order_no a b ta tb d f w hda hfb (.inl ⟨a2, a1⟩) (.inr ⟨b3, b1, b2⟩) (.inl a2)
    · exact order_no a b ta tb d f w hda hfb (.inl ⟨a2, a1⟩) (.inl ⟨b2, b1⟩) (.inl a2)
end Go.Proofs.Ytcnikobmepjgcaa.Codec
