/-
  The reference's texts and bounds, walked.
-/
import Derived.Test.YtegonafacbokeaaRef
namespace Go.Proofs.Ytegonafacbokeaa.Codec
open Go.RowKit Go.Proofs.YtegonafacbokeaaBase Go.Proofs.YtegonafacbokeaaLex2 Go.Proofs.YtegonafacbokeaaNum
set_option linter.unusedVariables false
set_option linter.unusedSimpArgs false

theorem rbound_any (m : Int) (w : World) : Calls Try.prog 30 #[.int .i64 m] w fun e w' => e = .returned (.int .i64 (bnd m)) ∧ w' = w := by
  by_cases h1 : m < 0
  · have e : bnd m = 0 := by unfold bnd; rw [if_pos h1]
    rw [e]
    clear e
    go_enter Try.func30, Try.ntmps30
    go_wp2
    go_ret
    exact ⟨rfl, rfl⟩
  by_cases h2 : 1048576 < m
  · have e : bnd m = 1048576 := by unfold bnd; rw [if_neg h1, if_pos h2]
    rw [e]
    clear e
    go_enter Try.func30, Try.ntmps30
    go_wp2
    go_ret
    exact ⟨rfl, rfl⟩
  · have e : ((bnd m : Nat) : Int) = m := by unfold bnd; rw [if_neg h1, if_neg h2]; omega
    rw [e]
    clear e
    go_enter Try.func30, Try.ntmps30
    go_wp2
    go_ret
    exact ⟨rfl, rfl⟩

theorem good_suffix {α : Type} {c : Cod α} {ok : α → Prop} {bs : α → List UInt8} (g : Good c ok bs) {d : ByteArray} {a : Nat} {x : α} {s : RS} (ha : a ≤ d.size) (h : c.get ⟨d.data.toList.drop a, 0⟩ = (x, s)) (he : s.err = 0) :
    ∃ b, a ≤ b ∧ b ≤ d.size ∧ d.size - s.rest.length = b ∧ s = ⟨d.data.toList.drop b, 0⟩ := by
  obtain ⟨h1, h2⟩ := g.get_is _ _ _ h he
  have hl := congrArg List.length h2
  rw [List.length_drop, len_data, List.length_append] at hl
  refine ⟨a + (bs x).length, by omega, by omega, by omega, ?_⟩
  have h3 := congrArg (List.drop (bs x).length) h2
  rw [List.drop_drop, List.drop_left] at h3
  cases s
  simp only at h3 he
  rw [he, ← h3]
/-- What a codec reads at a place, the place behind it, the error. -/
def refT (m : Nat) (d : ByteArray) (a : Nat) : ByteArray × Nat × Int :=
  let r := (textC m).get ⟨d.data.toList.drop a, 0⟩
  (r.1, if r.2.err = 0 then d.size - r.2.rest.length else a, r.2.err)
def TextRes (m : Nat) (d : ByteArray) (a : Nat) : Value := .tuple #[.string (refT m d a).1, .int .i64 (refT m d a).2.1, .int .i64 (refT m d a).2.2]
theorem getN_suffix (l : List UInt8) : ∃ k, k ≤ l.length ∧ (getN ⟨l, 0⟩).2.rest = l.drop k := by
  unfold getN
  simp only
  rw [if_neg (by simp)]
  split
  · exact ⟨0, Nat.zero_le _, rfl⟩
  split
  · exact ⟨0, Nat.zero_le _, rfl⟩
  · rename_i h1 h2
    split
    · exact ⟨_, by omega, rfl⟩
    · exact ⟨_, by omega, rfl⟩
/-- Behind a number that is read what is left is the bytes from the place behind it. -/
theorem refGet_ok {d : ByteArray} {a n : Nat} {s : RS} (ha : a ≤ d.size) (h : getN ⟨d.data.toList.drop a, 0⟩ = (n, s)) (he : s.err = 0) :
    ∃ b, a ≤ b ∧ b ≤ d.size ∧ refGet d a = (n, b, 0) ∧ s = ⟨d.data.toList.drop b, 0⟩ := by
  obtain ⟨k, hk, hr⟩ := getN_suffix (d.data.toList.drop a)
  rw [h] at hr
  simp only at hr
  rw [List.drop_drop] at hr
  rw [List.length_drop, len_data] at hk
  refine ⟨a + k, by omega, by omega, ?_, ?_⟩
  · unfold refGet
    rw [h]
    simp only
    rw [if_pos he, hr, List.length_drop, len_data]
    congr 2
    omega
  · cases s
    simp only at hr he
    rw [hr, he]
theorem refGet_err {d : ByteArray} {a n : Nat} {s : RS} (h : getN ⟨d.data.toList.drop a, 0⟩ = (n, s)) (he : s.err ≠ 0) : refGet d a = (0, a, s.err) := by
  unfold refGet
  rw [h]
  simp only
  rw [if_neg he]

set_option maxHeartbeats 1600000 in
set_option maxRecDepth 100000 in
theorem rtext_any (d : ByteArray) (a : Nat) (m : Int) (w : World) (hd : DSize d) (ha : a ≤ d.size) :
    Calls Try.prog 19 #[.string d, .int .i64 a, .int .i64 m] w fun e w' => e = .returned (TextRes (bnd m) d a) ∧ w' = w := by
  obtain ⟨n, s, hn⟩ : ∃ n s, getN ⟨d.data.toList.drop a, 0⟩ = (n, s) := ⟨_, _, rfl⟩
  have G := rget_any d a w hd ha
  unfold GetRes at G
  have hlt := getN_le ⟨d.data.toList.drop a, 0⟩
  rw [hn] at hlt
  have hb := bnd_le m
  unfold DSize at hd
  unfold TextRes
  by_cases he : s.err = 0
  · obtain ⟨b, hab, hbd, hg, hs⟩ := refGet_ok ha hn he
    rw [hg] at G
    have GG := Lib.hid G
    have hc : countN (bnd m : Int) ⟨d.data.toList.drop a, 0⟩ = (if (if (bnd m : Int) < (n : Int) then s.fail 22 else s).err ≠ 0 then 0 else n, if (bnd m : Int) < (n : Int) then s.fail 22 else s) := by
      unfold countN; rw [hn]
    by_cases h1 : bnd m < n
    · have er : refT (bnd m) d a = (⟨#[]⟩, a, 22) := by
        have e1 : (textC (bnd m)).get ⟨d.data.toList.drop a, 0⟩ = (⟨#[]⟩, ⟨d.data.toList.drop b, 22⟩) := by
          simp only [textC]
          rw [hc, if_pos (by omega : (bnd m : Int) < (n : Int)), hs]
          simp only [RS.fail, if_true]
          rw [takeN_err (by simp)]
        unfold refT
        rw [e1]
        rfl
      have ER := Lib.hid er
      have q1 : (bnd m : Int) < (n : Int) := by omega
      clear er hc h1 hs hg G hn
      go_enter Try.func19, Try.ntmps19
      go_wp2_with (first | (go_at_call 29; refine GG.out.mono ?_; rintro e w' ⟨rfl, rfl⟩) | (go_at_call 30; refine (rbound_any m _).mono ?_; rintro e w' ⟨rfl, rfl⟩))
      go_ret3
      rw [ER.out]
      exact ⟨rfl, rfl⟩
    have h1' : ¬ (bnd m : Int) < (n : Int) := by omega
    rw [if_neg h1', if_neg (by simpa using he)] at hc
    by_cases h2 : d.size - b < n
    · have er : refT (bnd m) d a = (⟨#[]⟩, a, 20) := by
        have e1 : (textC (bnd m)).get ⟨d.data.toList.drop a, 0⟩ = (⟨#[]⟩, ⟨d.data.toList.drop b, 20⟩) := by
          simp only [textC]
          rw [hc, hs]
          simp only
          rw [takeN_cut (by rw [List.length_drop, len_data]; exact h2)]
        unfold refT
        rw [e1]
        rfl
      have ER := Lib.hid er
      have q2 : (d.size : Int) - (b : Int) < (n : Int) := by omega
      have b1 : (d.size : Int) ≤ 200000000000000 := by omega
      have b2 : (b : Int) ≤ 200000000000000 := by omega
      clear er hc h1 hs hg G hn h2
      go_enter Try.func19, Try.ntmps19
      go_wp2_with (first | (go_at_call 29; refine GG.out.mono ?_; rintro e w' ⟨rfl, rfl⟩) | (go_at_call 30; refine (rbound_any m _).mono ?_; rintro e w' ⟨rfl, rfl⟩))
      go_ret3
      rw [ER.out]
      exact ⟨rfl, rfl⟩
    · have er : refT (bnd m) d a = (d.extract b (b + n), b + n, 0) := by
        have e1 : (textC (bnd m)).get ⟨d.data.toList.drop a, 0⟩ = (d.extract b (b + n), ⟨d.data.toList.drop (b + n), 0⟩) := by
          simp only [textC]
          rw [hc, hs]
          simp only
          unfold takeN
          simp only
          rw [if_neg (by simp), if_neg (by rw [List.length_drop, len_data]; exact h2), drop_take_mk, List.drop_drop]
        unfold refT
        rw [e1]
        simp only [if_true, List.length_drop, len_data, Prod.mk.injEq, true_and, and_true]
        omega
      have ER := Lib.hid er
      have q2 : ¬ (d.size : Int) - (b : Int) < (n : Int) := by omega
      have q3 : (b : Int) + (n : Int) ≤ d.size := by omega
      have q4 : (0 : Int) ≤ b := by omega
      have q5 : (b : Int) ≤ (b : Int) + n := by omega
      have q6 : ((b : Int) + (n : Int)).toNat = b + n := by omega
      have b1 : (d.size : Int) ≤ 200000000000000 := by omega
      have hcast : ((b + n : Nat) : Int) = (b : Int) + n := by omega
      have HCA := Lib.hid hcast
      clear er hc h1 hs hg G hn h2 hcast
      go_enter Try.func19, Try.ntmps19
      go_wp2_with (first | (go_at_call 29; refine GG.out.mono ?_; rintro e w' ⟨rfl, rfl⟩) | (go_at_call 30; refine (rbound_any m _).mono ?_; rintro e w' ⟨rfl, rfl⟩))
      go_ret3
      rw [ER.out]
      show Ending.returned _ = Ending.returned (.tuple #[.string (d.extract b (b + n)), .int .i64 ((b + n : Nat) : Int), .int .i64 0]) ∧ _
      rw [HCA.out]
      exact ⟨rfl, rfl⟩
  · have hg := refGet_err hn he
    rw [hg] at G
    have GG := Lib.hid G
    have er : refT (bnd m) d a = (⟨#[]⟩, a, s.err) := by
      have hz : n = 0 := by
        have h0 := hn
        unfold getN at h0
        simp only at h0
        rw [if_neg (by simp)] at h0
        (repeat' split at h0) <;> simp only [Prod.mk.injEq] at h0 <;> obtain ⟨h3, h4⟩ := h0 <;> first | exact h3.symm | (subst h4; simp at he)
      have e1 : (textC (bnd m)).get ⟨d.data.toList.drop a, 0⟩ = (⟨#[]⟩, s) := by
        simp only [textC]
        have : countN (bnd m : Int) ⟨d.data.toList.drop a, 0⟩ = (0, s) := by
          unfold countN
          rw [hn, hz]
          have e : ¬ (bnd m : Int) < ((0 : Nat) : Int) := by omega
          simp only
          rw [if_neg e, if_pos he]
        rw [this]
        simp only
        rw [takeN_err he]
      unfold refT
      rw [e1]
      simp only
      rw [if_neg he]
    obtain ⟨er', hee⟩ : ∃ x, s.err = x := ⟨_, rfl⟩
    rw [hee] at er GG he
    have q1 : (er' == 0) = false := by simpa using he
    have q2 : decide (er' = 0) = false := by simpa using he
    have ER := Lib.hid er
    clear er hee G hg hn he
    go_enter Try.func19, Try.ntmps19
    go_wp2_with (first | (go_at_call 29; refine GG.out.mono ?_; rintro e w' ⟨rfl, rfl⟩) | (go_at_call 30; refine (rbound_any m _).mono ?_; rintro e w' ⟨rfl, rfl⟩))
    go_ret3
    rw [ER.out]
    exact ⟨rfl, rfl⟩
end Go.Proofs.Ytegonafacbokeaa.Codec
