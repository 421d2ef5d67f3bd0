/-
  The reference's reading of numbers, texts and lists, walked.
-/
import Derived.Test.YtegonafacbokeaaCodLaw1
import Derived.IntWalk
import Derived.OwnWalk
namespace Go.Proofs.Ytegonafacbokeaa.Codec
open Go.RowKit Go.Proofs.YtegonafacbokeaaBase Go.Proofs.YtegonafacbokeaaLex2 Go.Proofs.YtegonafacbokeaaNum
set_option linter.unusedVariables false
set_option linter.unusedSimpArgs false

/-- What is read at a place: what, the place behind it, the error. -/
def refGet (d : ByteArray) (a : Nat) : Nat × Nat × Int :=
  let r := getN ⟨d.data.toList.drop a, 0⟩
  if r.2.err = 0 then (r.1, d.size - r.2.rest.length, 0) else (0, a, r.2.err)
def GetRes (d : ByteArray) (a : Nat) : Value := .tuple #[.int .i64 (refGet d a).1, .int .i64 (refGet d a).2.1, .int .i64 (refGet d a).2.2]

theorem rget_end (d : ByteArray) (w : World) (hd : DSize d) :
    Calls Try.prog 29 #[.string d, .int .i64 d.size] w fun e w' => e = .returned (GetRes d d.size) ∧ w' = w := by
  have e1 : refGet d d.size = (0, d.size, 20) := by
    unfold refGet
    have : getN ⟨d.data.toList.drop d.size, 0⟩ = (0, ⟨[], 20⟩) := by
      rw [List.drop_eq_nil_of_le (by rw [len_data]; exact Nat.le_refl _)]
      rfl
    rw [this]
    rfl
  unfold GetRes
  rw [e1]
  have q : (d.size : Int) ≤ d.size := Int.le_refl _
  go_enter Try.func29, Try.ntmps29
  go_wp2
  go_ret3
  exact ⟨rfl, rfl⟩

set_option maxHeartbeats 1600000 in
set_option maxRecDepth 100000 in
theorem rget_0 (d : ByteArray) (a : Nat) (w : World) (hd : DSize d) (ha : a < d.size) (hk : nb d.data.toList a / 64 = 0) :
    Calls Try.prog 29 #[.string d, .int .i64 a] w fun e w' => e = .returned (GetRes d a) ∧ w' = w := by
  unfold DSize at hd
  have hr0 : nb (d.data.toList.drop a) 0 = nb d.data.toList a := by rw [nb_drop, Nat.add_zero]
  have hrl : (d.data.toList.drop a).length = d.size - a := by rw [List.length_drop, len_data]
  have hne : d.data.toList.drop a ≠ [] := fun h => by rw [h] at hrl; simp at hrl; omega
  have q1 : (0 : Int) ≤ a := by omega
  have q2 : (a : Int) < d.size := by omega
  have q2' : ¬ (d.size : Int) ≤ a := by omega
  have q4 := get_nb d
  have qk : ((nb d.data.toList a : Nat) : Int) / 64 = 0 := by omega
  have qm : ((nb d.data.toList a : Nat) : Int) % 64 = ((acc (d.data.toList.drop a) 0 : Nat) : Int) := by simp only [acc]; rw [hr0]; omega
  have e1 : d.size - a < 1 → refGet d a = (0, a, 20) := fun h => by
    unfold refGet
    have : getN ⟨d.data.toList.drop a, 0⟩ = (0, ⟨d.data.toList.drop a, 20⟩) := by
      unfold getN
      simp only
      rw [if_neg (by simp), if_neg hne, hr0, hk, hrl, if_pos (by simpa using h)]
      rfl
    rw [this]
    rfl
  have e2 : ¬ d.size - a < 1 → cls (acc (d.data.toList.drop a) (1 - 1)) = 0 → refGet d a = (acc (d.data.toList.drop a) (1 - 1), a + 1, 0) := fun h hc => by
    unfold refGet
    have : getN ⟨d.data.toList.drop a, 0⟩ = (acc (d.data.toList.drop a) (1 - 1), ⟨(d.data.toList.drop a).drop 1, 0⟩) := by
      unfold getN
      simp only
      rw [if_neg (by simp), if_neg hne, hr0, hk, hrl, if_neg (by simpa using h)]
      simp only [Nat.reducePow, Nat.reduceSub] at hc ⊢
      rw [if_pos hc]
    rw [this]
    simp only [if_true, List.length_drop, len_data, Prod.mk.injEq, true_and, and_true]
    omega
  have e3 : ¬ d.size - a < 1 → cls (acc (d.data.toList.drop a) (1 - 1)) ≠ 0 → refGet d a = (0, a, 21) := fun h hc => by
    unfold refGet
    have : getN ⟨d.data.toList.drop a, 0⟩ = (0, ⟨(d.data.toList.drop a).drop 1, 21⟩) := by
      unfold getN
      simp only
      rw [if_neg (by simp), if_neg hne, hr0, hk, hrl, if_neg (by simpa using h)]
      simp only [Nat.reducePow, Nat.reduceSub] at hc ⊢
      rw [if_neg hc]
      rfl
    rw [this]
    rfl
  have E1 := Lib.hid e1
  have E2 := Lib.hid e2
  have E3 := Lib.hid e3
  have HA := Lib.hid ha
  have HD := Lib.hid hd
  unfold GetRes
  clear e1 e2 e3 hr0 hrl hne hk ha hd
  go_enter Try.func29, Try.ntmps29
  go_wp2
  go_loop [7, 8] (fun l k => ∃ j L : Nat, L * 2 ^ j = 1 ∧ j ≤ 0 ∧ l = .int .i64 (L : Int) ∧ k = .int .i64 (j : Int)) (fun _ k => (intOf k).toNat)
  case atStart => exact ⟨0, 1, rfl, Nat.le_refl _, rfl, rfl⟩
  case round =>
    obtain ⟨j, L, hL, hj, rfl, rfl⟩ := hrel
    cases j with
    | succ j =>
      have hL2 : L * 2 * 2 ^ j = 1 := by rw [Nat.pow_succ] at hL; rw [Nat.mul_assoc, Nat.mul_comm 2]; exact hL
      have hp := Nat.two_pow_pos j
      have hle : L * 2 ≤ 1 := Nat.le_trans (Nat.le_mul_of_pos_right _ hp) (Nat.le_of_eq hL2)
      have HL := Lib.hid hL2
      clear hL hL2 hp
      have b1 : (L : Int) ≤ 8 := by omega
      have b2 : (0 : Int) ≤ L := by omega
      have b3 : (j : Int) ≤ 3 := by omega
      have q5 : (0 : Int) < ((j + 1 : Nat) : Int) := by omega
      have HJ := Lib.hid hj
      clear hj hle
      go_wp2
      go_round
      case rel => exact ⟨j, L * 2, HL.out, by have := HJ.out; omega, by go_num, by first | rfl | (congr 1; omega)⟩
      case measure => simp [intOf]; try omega
    | zero =>
      have hL' : L = 1 := by simpa using hL
      subst hL'
      clear hL hj
      by_cases hsh : d.size - a < 1
      · have HS := Lib.hid hsh
        have q6 : (d.size : Int) < (a : Int) + 1 := by omega
        have := HD.out
        have q7 : IntKind.i64.wrap ((a : Int) + 1) = (a : Int) + 1 := IntWalk.i64_in _ (by omega)
        clear this hsh
        go_wp2
        go_ret3
        rw [E1.out HS.out]
        exact ⟨rfl, rfl⟩
      · have q6 : ¬ (d.size : Int) < (a : Int) + 1 := by omega
        have hdd := HD.out
        have q7 : IntKind.i64.wrap ((a : Int) + 1) = (a : Int) + 1 := IntWalk.i64_in _ (by omega)
        have HS := Lib.hid hsh
        obtain ⟨r, hr⟩ : ∃ r, d.data.toList.drop a = r := ⟨_, rfl⟩
        have hnr : ∀ i, i < 1 → nb d.data.toList (a + i) = nb r i := fun i hi => by rw [← hr, nb_drop]
        rw [hr] at qm E2 E3
        have HNR := Lib.hid hnr
        clear hsh hdd hr hnr
        go_wp2
        go_loop [9, 10] (fun vv iv => ∃ i : Nat, i < 1 ∧ iv = .int .i64 ((i + 1 : Nat) : Int) ∧ vv = .int .i64 (acc r i)) (fun _ iv => (1 - intOf iv).toNat)
        case atStart => exact ⟨0, by decide, rfl, by first | rfl | (congr 1)⟩
        case round =>
          obtain ⟨i, hi, rfl, rfl⟩ := hrel
          have hx1 : acc r i ≤ acc r (1 - 1) := acc_mono r (by omega)
          have hx2 : acc r (1 - 1) < 64 := by have := acc_lt r (1 - 1); simpa using this
          have hdd := HD.out
          have hss := HS.out
          by_cases hlast : i + 1 = 1
          · obtain ⟨x, hx⟩ : ∃ x, acc r i = x := ⟨_, rfl⟩
            have hxx : acc r (1 - 1) = x := by rw [← hx]; congr 1; omega
            rw [hx]
            have hxl : x < 64 := by omega
            have q8 : ((i + 1 : Nat) : Int) = 1 := by omega
            rw [q8]
            rw [hxx] at E2 E3
            by_cases hc : 0 ≤ x
            · have hcls : cls x = 0 := by unfold cls; (first | rw [if_pos (by omega)] | (rw [if_neg (by omega)]; first | rw [if_pos (by omega)] | (rw [if_neg (by omega)]; first | rw [if_pos (by omega)] | (rw [if_neg (by omega)]))))
              have EE := Lib.hid (E2.out HS.out hcls)
              have q9 : ¬ (x : Int) < 0 := by omega
              clear hcls hc hxl hx1 hx2 hx hxx hlast hss q8
              go_wp2
              go_ret3
              rw [EE.out]
              have hcast : ((a + 1 : Nat) : Int) = (a : Int) + 1 := by omega
              show Ending.returned _ = Ending.returned (.tuple #[.int .i64 (x : Int), .int .i64 ((a + 1 : Nat) : Int), .int .i64 0]) ∧ _
              rw [hcast]
              exact ⟨rfl, rfl⟩
            · try (exfalso; omega)
              all_goals (
              have hcls : cls x ≠ 0 := fun h => by
                unfold cls at h
                (repeat' split at h) <;> omega
              have EE := Lib.hid (E3.out HS.out hcls)
              have q9 : (x : Int) < 0 := by omega
              clear hcls hc hxl hx1 hx2 hx hxx hlast hss q8
              go_wp2
              go_ret3
              rw [EE.out]
              exact ⟨rfl, rfl⟩)
          · try (exfalso; omega)
            all_goals (
              have q8 : ((i + 1 : Nat) : Int) < 1 := by omega
              have hx3 : acc r i * 256 + nb r (i + 1) ≤ acc r (1 - 1) := acc_mono r (i := i + 1) (by omega)
              have hn := nb_lt r (i + 1)
              have hq : nb d.data.toList (a + (i + 1)) = nb r (i + 1) := HNR.out (i + 1) (by omega)
              have q9 : IntKind.i64.wrap (256 * (acc r i : Int)) = 256 * (acc r i : Int) := IntWalk.i64_in _ (by omega)
              have b0 : (d.size : Int) ≤ 200000000000000 := by omega
              have q11 : (0 : Int) ≤ (a : Int) + ((i : Int) + 1) := by omega
              have q12 : (a : Int) + ((i : Int) + 1) < d.size := by omega
              have q13 : ((a : Int) + ((i : Int) + 1)).toNat = a + (i + 1) := by omega
              have b4 : 256 * (acc r i : Int) + (nb r (i + 1) : Int) ≤ 4611686018427387904 := by omega
              have b5 : (0 : Int) ≤ 256 * (acc r i : Int) + (nb r (i + 1) : Int) := by omega
              have HE := Lib.hid (show 256 * (acc r i : Int) + (nb r (i + 1) : Int) = ((acc r (i + 1) : Nat) : Int) by simp only [acc]; omega)
              clear hx3 hx1 hx2 hss hdd
              go_wp2
              go_round
              case rel => exact ⟨i + 1, by omega, by go_num, by rw [HE.out]⟩
              case measure => simp only [intOf]; omega)

set_option maxHeartbeats 1600000 in
set_option maxRecDepth 100000 in
theorem rget_1 (d : ByteArray) (a : Nat) (w : World) (hd : DSize d) (ha : a < d.size) (hk : nb d.data.toList a / 64 = 1) :
    Calls Try.prog 29 #[.string d, .int .i64 a] w fun e w' => e = .returned (GetRes d a) ∧ w' = w := by
  unfold DSize at hd
  have hr0 : nb (d.data.toList.drop a) 0 = nb d.data.toList a := by rw [nb_drop, Nat.add_zero]
  have hrl : (d.data.toList.drop a).length = d.size - a := by rw [List.length_drop, len_data]
  have hne : d.data.toList.drop a ≠ [] := fun h => by rw [h] at hrl; simp at hrl; omega
  have q1 : (0 : Int) ≤ a := by omega
  have q2 : (a : Int) < d.size := by omega
  have q2' : ¬ (d.size : Int) ≤ a := by omega
  have q4 := get_nb d
  have qk : ((nb d.data.toList a : Nat) : Int) / 64 = 1 := by omega
  have qm : ((nb d.data.toList a : Nat) : Int) % 64 = ((acc (d.data.toList.drop a) 0 : Nat) : Int) := by simp only [acc]; rw [hr0]; omega
  have e1 : d.size - a < 2 → refGet d a = (0, a, 20) := fun h => by
    unfold refGet
    have : getN ⟨d.data.toList.drop a, 0⟩ = (0, ⟨d.data.toList.drop a, 20⟩) := by
      unfold getN
      simp only
      rw [if_neg (by simp), if_neg hne, hr0, hk, hrl, if_pos (by simpa using h)]
      rfl
    rw [this]
    rfl
  have e2 : ¬ d.size - a < 2 → cls (acc (d.data.toList.drop a) (2 - 1)) = 1 → refGet d a = (acc (d.data.toList.drop a) (2 - 1), a + 2, 0) := fun h hc => by
    unfold refGet
    have : getN ⟨d.data.toList.drop a, 0⟩ = (acc (d.data.toList.drop a) (2 - 1), ⟨(d.data.toList.drop a).drop 2, 0⟩) := by
      unfold getN
      simp only
      rw [if_neg (by simp), if_neg hne, hr0, hk, hrl, if_neg (by simpa using h)]
      simp only [Nat.reducePow, Nat.reduceSub] at hc ⊢
      rw [if_pos hc]
    rw [this]
    simp only [if_true, List.length_drop, len_data, Prod.mk.injEq, true_and, and_true]
    omega
  have e3 : ¬ d.size - a < 2 → cls (acc (d.data.toList.drop a) (2 - 1)) ≠ 1 → refGet d a = (0, a, 21) := fun h hc => by
    unfold refGet
    have : getN ⟨d.data.toList.drop a, 0⟩ = (0, ⟨(d.data.toList.drop a).drop 2, 21⟩) := by
      unfold getN
      simp only
      rw [if_neg (by simp), if_neg hne, hr0, hk, hrl, if_neg (by simpa using h)]
      simp only [Nat.reducePow, Nat.reduceSub] at hc ⊢
      rw [if_neg hc]
      rfl
    rw [this]
    rfl
  have E1 := Lib.hid e1
  have E2 := Lib.hid e2
  have E3 := Lib.hid e3
  have HA := Lib.hid ha
  have HD := Lib.hid hd
  unfold GetRes
  clear e1 e2 e3 hr0 hrl hne hk ha hd
  go_enter Try.func29, Try.ntmps29
  go_wp2
  go_loop [7, 8] (fun l k => ∃ j L : Nat, L * 2 ^ j = 2 ∧ j ≤ 1 ∧ l = .int .i64 (L : Int) ∧ k = .int .i64 (j : Int)) (fun _ k => (intOf k).toNat)
  case atStart => exact ⟨1, 1, rfl, Nat.le_refl _, rfl, rfl⟩
  case round =>
    obtain ⟨j, L, hL, hj, rfl, rfl⟩ := hrel
    cases j with
    | succ j =>
      have hL2 : L * 2 * 2 ^ j = 2 := by rw [Nat.pow_succ] at hL; rw [Nat.mul_assoc, Nat.mul_comm 2]; exact hL
      have hp := Nat.two_pow_pos j
      have hle : L * 2 ≤ 2 := Nat.le_trans (Nat.le_mul_of_pos_right _ hp) (Nat.le_of_eq hL2)
      have HL := Lib.hid hL2
      clear hL hL2 hp
      have b1 : (L : Int) ≤ 8 := by omega
      have b2 : (0 : Int) ≤ L := by omega
      have b3 : (j : Int) ≤ 3 := by omega
      have q5 : (0 : Int) < ((j + 1 : Nat) : Int) := by omega
      have HJ := Lib.hid hj
      clear hj hle
      go_wp2
      go_round
      case rel => exact ⟨j, L * 2, HL.out, by have := HJ.out; omega, by go_num, by first | rfl | (congr 1; omega)⟩
      case measure => simp [intOf]; try omega
    | zero =>
      have hL' : L = 2 := by simpa using hL
      subst hL'
      clear hL hj
      by_cases hsh : d.size - a < 2
      · have HS := Lib.hid hsh
        have q6 : (d.size : Int) < (a : Int) + 2 := by omega
        have := HD.out
        have q7 : IntKind.i64.wrap ((a : Int) + 2) = (a : Int) + 2 := IntWalk.i64_in _ (by omega)
        clear this hsh
        go_wp2
        go_ret3
        rw [E1.out HS.out]
        exact ⟨rfl, rfl⟩
      · have q6 : ¬ (d.size : Int) < (a : Int) + 2 := by omega
        have hdd := HD.out
        have q7 : IntKind.i64.wrap ((a : Int) + 2) = (a : Int) + 2 := IntWalk.i64_in _ (by omega)
        have HS := Lib.hid hsh
        obtain ⟨r, hr⟩ : ∃ r, d.data.toList.drop a = r := ⟨_, rfl⟩
        have hnr : ∀ i, i < 2 → nb d.data.toList (a + i) = nb r i := fun i hi => by rw [← hr, nb_drop]
        rw [hr] at qm E2 E3
        have HNR := Lib.hid hnr
        clear hsh hdd hr hnr
        go_wp2
        go_loop [9, 10] (fun vv iv => ∃ i : Nat, i < 2 ∧ iv = .int .i64 ((i + 1 : Nat) : Int) ∧ vv = .int .i64 (acc r i)) (fun _ iv => (2 - intOf iv).toNat)
        case atStart => exact ⟨0, by decide, rfl, by first | rfl | (congr 1)⟩
        case round =>
          obtain ⟨i, hi, rfl, rfl⟩ := hrel
          have hx1 : acc r i ≤ acc r (2 - 1) := acc_mono r (by omega)
          have hx2 : acc r (2 - 1) < 16384 := by have := acc_lt r (2 - 1); simpa using this
          have hdd := HD.out
          have hss := HS.out
          by_cases hlast : i + 1 = 2
          · obtain ⟨x, hx⟩ : ∃ x, acc r i = x := ⟨_, rfl⟩
            have hxx : acc r (2 - 1) = x := by rw [← hx]; congr 1; omega
            rw [hx]
            have hxl : x < 16384 := by omega
            have q8 : ((i + 1 : Nat) : Int) = 2 := by omega
            rw [q8]
            rw [hxx] at E2 E3
            by_cases hc : 64 ≤ x
            · have hcls : cls x = 1 := by unfold cls; (first | rw [if_pos (by omega)] | (rw [if_neg (by omega)]; first | rw [if_pos (by omega)] | (rw [if_neg (by omega)]; first | rw [if_pos (by omega)] | (rw [if_neg (by omega)]))))
              have EE := Lib.hid (E2.out HS.out hcls)
              have q9 : ¬ (x : Int) < 64 := by omega
              clear hcls hc hxl hx1 hx2 hx hxx hlast hss q8
              go_wp2
              go_ret3
              rw [EE.out]
              have hcast : ((a + 2 : Nat) : Int) = (a : Int) + 2 := by omega
              show Ending.returned _ = Ending.returned (.tuple #[.int .i64 (x : Int), .int .i64 ((a + 2 : Nat) : Int), .int .i64 0]) ∧ _
              rw [hcast]
              exact ⟨rfl, rfl⟩
            · try (exfalso; omega)
              all_goals (
              have hcls : cls x ≠ 1 := fun h => by
                unfold cls at h
                (repeat' split at h) <;> omega
              have EE := Lib.hid (E3.out HS.out hcls)
              have q9 : (x : Int) < 64 := by omega
              clear hcls hc hxl hx1 hx2 hx hxx hlast hss q8
              go_wp2
              go_ret3
              rw [EE.out]
              exact ⟨rfl, rfl⟩)
          · try (exfalso; omega)
            all_goals (
              have q8 : ((i + 1 : Nat) : Int) < 2 := by omega
              have hx3 : acc r i * 256 + nb r (i + 1) ≤ acc r (2 - 1) := acc_mono r (i := i + 1) (by omega)
              have hn := nb_lt r (i + 1)
              have hq : nb d.data.toList (a + (i + 1)) = nb r (i + 1) := HNR.out (i + 1) (by omega)
              have q9 : IntKind.i64.wrap (256 * (acc r i : Int)) = 256 * (acc r i : Int) := IntWalk.i64_in _ (by omega)
              have b0 : (d.size : Int) ≤ 200000000000000 := by omega
              have q11 : (0 : Int) ≤ (a : Int) + ((i : Int) + 1) := by omega
              have q12 : (a : Int) + ((i : Int) + 1) < d.size := by omega
              have q13 : ((a : Int) + ((i : Int) + 1)).toNat = a + (i + 1) := by omega
              have b4 : 256 * (acc r i : Int) + (nb r (i + 1) : Int) ≤ 4611686018427387904 := by omega
              have b5 : (0 : Int) ≤ 256 * (acc r i : Int) + (nb r (i + 1) : Int) := by omega
              have HE := Lib.hid (show 256 * (acc r i : Int) + (nb r (i + 1) : Int) = ((acc r (i + 1) : Nat) : Int) by simp only [acc]; omega)
              clear hx3 hx1 hx2 hss hdd
              go_wp2
              go_round
              case rel => exact ⟨i + 1, by omega, by go_num, by rw [HE.out]⟩
              case measure => simp only [intOf]; omega)

set_option maxHeartbeats 1600000 in
set_option maxRecDepth 100000 in
theorem rget_2 (d : ByteArray) (a : Nat) (w : World) (hd : DSize d) (ha : a < d.size) (hk : nb d.data.toList a / 64 = 2) :
    Calls Try.prog 29 #[.string d, .int .i64 a] w fun e w' => e = .returned (GetRes d a) ∧ w' = w := by
  unfold DSize at hd
  have hr0 : nb (d.data.toList.drop a) 0 = nb d.data.toList a := by rw [nb_drop, Nat.add_zero]
  have hrl : (d.data.toList.drop a).length = d.size - a := by rw [List.length_drop, len_data]
  have hne : d.data.toList.drop a ≠ [] := fun h => by rw [h] at hrl; simp at hrl; omega
  have q1 : (0 : Int) ≤ a := by omega
  have q2 : (a : Int) < d.size := by omega
  have q2' : ¬ (d.size : Int) ≤ a := by omega
  have q4 := get_nb d
  have qk : ((nb d.data.toList a : Nat) : Int) / 64 = 2 := by omega
  have qm : ((nb d.data.toList a : Nat) : Int) % 64 = ((acc (d.data.toList.drop a) 0 : Nat) : Int) := by simp only [acc]; rw [hr0]; omega
  have e1 : d.size - a < 4 → refGet d a = (0, a, 20) := fun h => by
    unfold refGet
    have : getN ⟨d.data.toList.drop a, 0⟩ = (0, ⟨d.data.toList.drop a, 20⟩) := by
      unfold getN
      simp only
      rw [if_neg (by simp), if_neg hne, hr0, hk, hrl, if_pos (by simpa using h)]
      rfl
    rw [this]
    rfl
  have e2 : ¬ d.size - a < 4 → cls (acc (d.data.toList.drop a) (4 - 1)) = 2 → refGet d a = (acc (d.data.toList.drop a) (4 - 1), a + 4, 0) := fun h hc => by
    unfold refGet
    have : getN ⟨d.data.toList.drop a, 0⟩ = (acc (d.data.toList.drop a) (4 - 1), ⟨(d.data.toList.drop a).drop 4, 0⟩) := by
      unfold getN
      simp only
      rw [if_neg (by simp), if_neg hne, hr0, hk, hrl, if_neg (by simpa using h)]
      simp only [Nat.reducePow, Nat.reduceSub] at hc ⊢
      rw [if_pos hc]
    rw [this]
    simp only [if_true, List.length_drop, len_data, Prod.mk.injEq, true_and, and_true]
    omega
  have e3 : ¬ d.size - a < 4 → cls (acc (d.data.toList.drop a) (4 - 1)) ≠ 2 → refGet d a = (0, a, 21) := fun h hc => by
    unfold refGet
    have : getN ⟨d.data.toList.drop a, 0⟩ = (0, ⟨(d.data.toList.drop a).drop 4, 21⟩) := by
      unfold getN
      simp only
      rw [if_neg (by simp), if_neg hne, hr0, hk, hrl, if_neg (by simpa using h)]
      simp only [Nat.reducePow, Nat.reduceSub] at hc ⊢
      rw [if_neg hc]
      rfl
    rw [this]
    rfl
  have E1 := Lib.hid e1
  have E2 := Lib.hid e2
  have E3 := Lib.hid e3
  have HA := Lib.hid ha
  have HD := Lib.hid hd
  unfold GetRes
  clear e1 e2 e3 hr0 hrl hne hk ha hd
  go_enter Try.func29, Try.ntmps29
  go_wp2
  go_loop [7, 8] (fun l k => ∃ j L : Nat, L * 2 ^ j = 4 ∧ j ≤ 2 ∧ l = .int .i64 (L : Int) ∧ k = .int .i64 (j : Int)) (fun _ k => (intOf k).toNat)
  case atStart => exact ⟨2, 1, rfl, Nat.le_refl _, rfl, rfl⟩
  case round =>
    obtain ⟨j, L, hL, hj, rfl, rfl⟩ := hrel
    cases j with
    | succ j =>
      have hL2 : L * 2 * 2 ^ j = 4 := by rw [Nat.pow_succ] at hL; rw [Nat.mul_assoc, Nat.mul_comm 2]; exact hL
      have hp := Nat.two_pow_pos j
      have hle : L * 2 ≤ 4 := Nat.le_trans (Nat.le_mul_of_pos_right _ hp) (Nat.le_of_eq hL2)
      have HL := Lib.hid hL2
      clear hL hL2 hp
      have b1 : (L : Int) ≤ 8 := by omega
      have b2 : (0 : Int) ≤ L := by omega
      have b3 : (j : Int) ≤ 3 := by omega
      have q5 : (0 : Int) < ((j + 1 : Nat) : Int) := by omega
      have HJ := Lib.hid hj
      clear hj hle
      go_wp2
      go_round
      case rel => exact ⟨j, L * 2, HL.out, by have := HJ.out; omega, by go_num, by first | rfl | (congr 1; omega)⟩
      case measure => simp [intOf]; try omega
    | zero =>
      have hL' : L = 4 := by simpa using hL
      subst hL'
      clear hL hj
      by_cases hsh : d.size - a < 4
      · have HS := Lib.hid hsh
        have q6 : (d.size : Int) < (a : Int) + 4 := by omega
        have := HD.out
        have q7 : IntKind.i64.wrap ((a : Int) + 4) = (a : Int) + 4 := IntWalk.i64_in _ (by omega)
        clear this hsh
        go_wp2
        go_ret3
        rw [E1.out HS.out]
        exact ⟨rfl, rfl⟩
      · have q6 : ¬ (d.size : Int) < (a : Int) + 4 := by omega
        have hdd := HD.out
        have q7 : IntKind.i64.wrap ((a : Int) + 4) = (a : Int) + 4 := IntWalk.i64_in _ (by omega)
        have HS := Lib.hid hsh
        obtain ⟨r, hr⟩ : ∃ r, d.data.toList.drop a = r := ⟨_, rfl⟩
        have hnr : ∀ i, i < 4 → nb d.data.toList (a + i) = nb r i := fun i hi => by rw [← hr, nb_drop]
        rw [hr] at qm E2 E3
        have HNR := Lib.hid hnr
        clear hsh hdd hr hnr
        go_wp2
        go_loop [9, 10] (fun vv iv => ∃ i : Nat, i < 4 ∧ iv = .int .i64 ((i + 1 : Nat) : Int) ∧ vv = .int .i64 (acc r i)) (fun _ iv => (4 - intOf iv).toNat)
        case atStart => exact ⟨0, by decide, rfl, by first | rfl | (congr 1)⟩
        case round =>
          obtain ⟨i, hi, rfl, rfl⟩ := hrel
          have hx1 : acc r i ≤ acc r (4 - 1) := acc_mono r (by omega)
          have hx2 : acc r (4 - 1) < 1073741824 := by have := acc_lt r (4 - 1); simpa using this
          have hdd := HD.out
          have hss := HS.out
          by_cases hlast : i + 1 = 4
          · obtain ⟨x, hx⟩ : ∃ x, acc r i = x := ⟨_, rfl⟩
            have hxx : acc r (4 - 1) = x := by rw [← hx]; congr 1; omega
            rw [hx]
            have hxl : x < 1073741824 := by omega
            have q8 : ((i + 1 : Nat) : Int) = 4 := by omega
            rw [q8]
            rw [hxx] at E2 E3
            by_cases hc : 16384 ≤ x
            · have hcls : cls x = 2 := by unfold cls; (first | rw [if_pos (by omega)] | (rw [if_neg (by omega)]; first | rw [if_pos (by omega)] | (rw [if_neg (by omega)]; first | rw [if_pos (by omega)] | (rw [if_neg (by omega)]))))
              have EE := Lib.hid (E2.out HS.out hcls)
              have q9 : ¬ (x : Int) < 16384 := by omega
              clear hcls hc hxl hx1 hx2 hx hxx hlast hss q8
              go_wp2
              go_ret3
              rw [EE.out]
              have hcast : ((a + 4 : Nat) : Int) = (a : Int) + 4 := by omega
              show Ending.returned _ = Ending.returned (.tuple #[.int .i64 (x : Int), .int .i64 ((a + 4 : Nat) : Int), .int .i64 0]) ∧ _
              rw [hcast]
              exact ⟨rfl, rfl⟩
            · try (exfalso; omega)
              all_goals (
              have hcls : cls x ≠ 2 := fun h => by
                unfold cls at h
                (repeat' split at h) <;> omega
              have EE := Lib.hid (E3.out HS.out hcls)
              have q9 : (x : Int) < 16384 := by omega
              clear hcls hc hxl hx1 hx2 hx hxx hlast hss q8
              go_wp2
              go_ret3
              rw [EE.out]
              exact ⟨rfl, rfl⟩)
          · try (exfalso; omega)
            all_goals (
              have q8 : ((i + 1 : Nat) : Int) < 4 := by omega
              have hx3 : acc r i * 256 + nb r (i + 1) ≤ acc r (4 - 1) := acc_mono r (i := i + 1) (by omega)
              have hn := nb_lt r (i + 1)
              have hq : nb d.data.toList (a + (i + 1)) = nb r (i + 1) := HNR.out (i + 1) (by omega)
              have q9 : IntKind.i64.wrap (256 * (acc r i : Int)) = 256 * (acc r i : Int) := IntWalk.i64_in _ (by omega)
              have b0 : (d.size : Int) ≤ 200000000000000 := by omega
              have q11 : (0 : Int) ≤ (a : Int) + ((i : Int) + 1) := by omega
              have q12 : (a : Int) + ((i : Int) + 1) < d.size := by omega
              have q13 : ((a : Int) + ((i : Int) + 1)).toNat = a + (i + 1) := by omega
              have b4 : 256 * (acc r i : Int) + (nb r (i + 1) : Int) ≤ 4611686018427387904 := by omega
              have b5 : (0 : Int) ≤ 256 * (acc r i : Int) + (nb r (i + 1) : Int) := by omega
              have HE := Lib.hid (show 256 * (acc r i : Int) + (nb r (i + 1) : Int) = ((acc r (i + 1) : Nat) : Int) by simp only [acc]; omega)
              clear hx3 hx1 hx2 hss hdd
              go_wp2
              go_round
              case rel => exact ⟨i + 1, by omega, by go_num, by rw [HE.out]⟩
              case measure => simp only [intOf]; omega)

set_option maxHeartbeats 1600000 in
set_option maxRecDepth 100000 in
theorem rget_3 (d : ByteArray) (a : Nat) (w : World) (hd : DSize d) (ha : a < d.size) (hk : nb d.data.toList a / 64 = 3) :
    Calls Try.prog 29 #[.string d, .int .i64 a] w fun e w' => e = .returned (GetRes d a) ∧ w' = w := by
  unfold DSize at hd
  have hr0 : nb (d.data.toList.drop a) 0 = nb d.data.toList a := by rw [nb_drop, Nat.add_zero]
  have hrl : (d.data.toList.drop a).length = d.size - a := by rw [List.length_drop, len_data]
  have hne : d.data.toList.drop a ≠ [] := fun h => by rw [h] at hrl; simp at hrl; omega
  have q1 : (0 : Int) ≤ a := by omega
  have q2 : (a : Int) < d.size := by omega
  have q2' : ¬ (d.size : Int) ≤ a := by omega
  have q4 := get_nb d
  have qk : ((nb d.data.toList a : Nat) : Int) / 64 = 3 := by omega
  have qm : ((nb d.data.toList a : Nat) : Int) % 64 = ((acc (d.data.toList.drop a) 0 : Nat) : Int) := by simp only [acc]; rw [hr0]; omega
  have e1 : d.size - a < 8 → refGet d a = (0, a, 20) := fun h => by
    unfold refGet
    have : getN ⟨d.data.toList.drop a, 0⟩ = (0, ⟨d.data.toList.drop a, 20⟩) := by
      unfold getN
      simp only
      rw [if_neg (by simp), if_neg hne, hr0, hk, hrl, if_pos (by simpa using h)]
      rfl
    rw [this]
    rfl
  have e2 : ¬ d.size - a < 8 → cls (acc (d.data.toList.drop a) (8 - 1)) = 3 → refGet d a = (acc (d.data.toList.drop a) (8 - 1), a + 8, 0) := fun h hc => by
    unfold refGet
    have : getN ⟨d.data.toList.drop a, 0⟩ = (acc (d.data.toList.drop a) (8 - 1), ⟨(d.data.toList.drop a).drop 8, 0⟩) := by
      unfold getN
      simp only
      rw [if_neg (by simp), if_neg hne, hr0, hk, hrl, if_neg (by simpa using h)]
      simp only [Nat.reducePow, Nat.reduceSub] at hc ⊢
      rw [if_pos hc]
    rw [this]
    simp only [if_true, List.length_drop, len_data, Prod.mk.injEq, true_and, and_true]
    omega
  have e3 : ¬ d.size - a < 8 → cls (acc (d.data.toList.drop a) (8 - 1)) ≠ 3 → refGet d a = (0, a, 21) := fun h hc => by
    unfold refGet
    have : getN ⟨d.data.toList.drop a, 0⟩ = (0, ⟨(d.data.toList.drop a).drop 8, 21⟩) := by
      unfold getN
      simp only
      rw [if_neg (by simp), if_neg hne, hr0, hk, hrl, if_neg (by simpa using h)]
      simp only [Nat.reducePow, Nat.reduceSub] at hc ⊢
      rw [if_neg hc]
      rfl
    rw [this]
    rfl
  have E1 := Lib.hid e1
  have E2 := Lib.hid e2
  have E3 := Lib.hid e3
  have HA := Lib.hid ha
  have HD := Lib.hid hd
  unfold GetRes
  clear e1 e2 e3 hr0 hrl hne hk ha hd
  go_enter Try.func29, Try.ntmps29
  go_wp2
  go_loop [7, 8] (fun l k => ∃ j L : Nat, L * 2 ^ j = 8 ∧ j ≤ 3 ∧ l = .int .i64 (L : Int) ∧ k = .int .i64 (j : Int)) (fun _ k => (intOf k).toNat)
  case atStart => exact ⟨3, 1, rfl, Nat.le_refl _, rfl, rfl⟩
  case round =>
    obtain ⟨j, L, hL, hj, rfl, rfl⟩ := hrel
    cases j with
    | succ j =>
      have hL2 : L * 2 * 2 ^ j = 8 := by rw [Nat.pow_succ] at hL; rw [Nat.mul_assoc, Nat.mul_comm 2]; exact hL
      have hp := Nat.two_pow_pos j
      have hle : L * 2 ≤ 8 := Nat.le_trans (Nat.le_mul_of_pos_right _ hp) (Nat.le_of_eq hL2)
      have HL := Lib.hid hL2
      clear hL hL2 hp
      have b1 : (L : Int) ≤ 8 := by omega
      have b2 : (0 : Int) ≤ L := by omega
      have b3 : (j : Int) ≤ 3 := by omega
      have q5 : (0 : Int) < ((j + 1 : Nat) : Int) := by omega
      have HJ := Lib.hid hj
      clear hj hle
      go_wp2
      go_round
      case rel => exact ⟨j, L * 2, HL.out, by have := HJ.out; omega, by go_num, by first | rfl | (congr 1; omega)⟩
      case measure => simp [intOf]; try omega
    | zero =>
      have hL' : L = 8 := by simpa using hL
      subst hL'
      clear hL hj
      by_cases hsh : d.size - a < 8
      · have HS := Lib.hid hsh
        have q6 : (d.size : Int) < (a : Int) + 8 := by omega
        have := HD.out
        have q7 : IntKind.i64.wrap ((a : Int) + 8) = (a : Int) + 8 := IntWalk.i64_in _ (by omega)
        clear this hsh
        go_wp2
        go_ret3
        rw [E1.out HS.out]
        exact ⟨rfl, rfl⟩
      · have q6 : ¬ (d.size : Int) < (a : Int) + 8 := by omega
        have hdd := HD.out
        have q7 : IntKind.i64.wrap ((a : Int) + 8) = (a : Int) + 8 := IntWalk.i64_in _ (by omega)
        have HS := Lib.hid hsh
        obtain ⟨r, hr⟩ : ∃ r, d.data.toList.drop a = r := ⟨_, rfl⟩
        have hnr : ∀ i, i < 8 → nb d.data.toList (a + i) = nb r i := fun i hi => by rw [← hr, nb_drop]
        rw [hr] at qm E2 E3
        have HNR := Lib.hid hnr
        clear hsh hdd hr hnr
        go_wp2
        go_loop [9, 10] (fun vv iv => ∃ i : Nat, i < 8 ∧ iv = .int .i64 ((i + 1 : Nat) : Int) ∧ vv = .int .i64 (acc r i)) (fun _ iv => (8 - intOf iv).toNat)
        case atStart => exact ⟨0, by decide, rfl, by first | rfl | (congr 1)⟩
        case round =>
          obtain ⟨i, hi, rfl, rfl⟩ := hrel
          have hx1 : acc r i ≤ acc r (8 - 1) := acc_mono r (by omega)
          have hx2 : acc r (8 - 1) < 4611686018427387904 := by have := acc_lt r (8 - 1); simpa using this
          have hdd := HD.out
          have hss := HS.out
          by_cases hlast : i + 1 = 8
          · obtain ⟨x, hx⟩ : ∃ x, acc r i = x := ⟨_, rfl⟩
            have hxx : acc r (8 - 1) = x := by rw [← hx]; congr 1; omega
            rw [hx]
            have hxl : x < 4611686018427387904 := by omega
            have q8 : ((i + 1 : Nat) : Int) = 8 := by omega
            rw [q8]
            rw [hxx] at E2 E3
            by_cases hc : 1073741824 ≤ x
            · have hcls : cls x = 3 := by unfold cls; (first | rw [if_pos (by omega)] | (rw [if_neg (by omega)]; first | rw [if_pos (by omega)] | (rw [if_neg (by omega)]; first | rw [if_pos (by omega)] | (rw [if_neg (by omega)]))))
              have EE := Lib.hid (E2.out HS.out hcls)
              have q9 : ¬ (x : Int) < 1073741824 := by omega
              clear hcls hc hxl hx1 hx2 hx hxx hlast hss q8
              go_wp2
              go_ret3
              rw [EE.out]
              have hcast : ((a + 8 : Nat) : Int) = (a : Int) + 8 := by omega
              show Ending.returned _ = Ending.returned (.tuple #[.int .i64 (x : Int), .int .i64 ((a + 8 : Nat) : Int), .int .i64 0]) ∧ _
              rw [hcast]
              exact ⟨rfl, rfl⟩
            · try (exfalso; omega)
              all_goals (
              have hcls : cls x ≠ 3 := fun h => by
                unfold cls at h
                (repeat' split at h) <;> omega
              have EE := Lib.hid (E3.out HS.out hcls)
              have q9 : (x : Int) < 1073741824 := by omega
              clear hcls hc hxl hx1 hx2 hx hxx hlast hss q8
              go_wp2
              go_ret3
              rw [EE.out]
              exact ⟨rfl, rfl⟩)
          · try (exfalso; omega)
            all_goals (
              have q8 : ((i + 1 : Nat) : Int) < 8 := by omega
              have hx3 : acc r i * 256 + nb r (i + 1) ≤ acc r (8 - 1) := acc_mono r (i := i + 1) (by omega)
              have hn := nb_lt r (i + 1)
              have hq : nb d.data.toList (a + (i + 1)) = nb r (i + 1) := HNR.out (i + 1) (by omega)
              have q9 : IntKind.i64.wrap (256 * (acc r i : Int)) = 256 * (acc r i : Int) := IntWalk.i64_in _ (by omega)
              have b0 : (d.size : Int) ≤ 200000000000000 := by omega
              have q11 : (0 : Int) ≤ (a : Int) + ((i : Int) + 1) := by omega
              have q12 : (a : Int) + ((i : Int) + 1) < d.size := by omega
              have q13 : ((a : Int) + ((i : Int) + 1)).toNat = a + (i + 1) := by omega
              have b4 : 256 * (acc r i : Int) + (nb r (i + 1) : Int) ≤ 4611686018427387904 := by omega
              have b5 : (0 : Int) ≤ 256 * (acc r i : Int) + (nb r (i + 1) : Int) := by omega
              have HE := Lib.hid (show 256 * (acc r i : Int) + (nb r (i + 1) : Int) = ((acc r (i + 1) : Nat) : Int) by simp only [acc]; omega)
              clear hx3 hx1 hx2 hss hdd
              go_wp2
              go_round
              case rel => exact ⟨i + 1, by omega, by go_num, by rw [HE.out]⟩
              case measure => simp only [intOf]; omega)

theorem rget_any (d : ByteArray) (a : Nat) (w : World) (hd : DSize d) (ha : a ≤ d.size) :
    Calls Try.prog 29 #[.string d, .int .i64 a] w fun e w' => e = .returned (GetRes d a) ∧ w' = w := by
  by_cases h : a = d.size
  · subst h; exact rget_end d w hd
  · have hk : nb d.data.toList a / 64 = 0 ∨ nb d.data.toList a / 64 = 1 ∨ nb d.data.toList a / 64 = 2 ∨ nb d.data.toList a / 64 = 3 := by have := nb_lt d.data.toList a; omega
    rcases hk with hk | hk | hk | hk
    · exact rget_0 d a w hd (by omega) hk
    · exact rget_1 d a w hd (by omega) hk
    · exact rget_2 d a w hd (by omega) hk
    · exact rget_3 d a w hd (by omega) hk
end Go.Proofs.Ytegonafacbokeaa.Codec
