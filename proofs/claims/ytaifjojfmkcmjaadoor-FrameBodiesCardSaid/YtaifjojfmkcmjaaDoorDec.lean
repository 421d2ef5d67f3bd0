/-
  Decimal numerals, plainly.
-/
import Derived.Lib.ItoaNum
import Derived.Lib.ItoaLen
import Derived.Lib.AtoiTie
import Derived.Test.YtaifjojfmkcmjaaDoorBase2
namespace Go.Proofs.YtaifjojfmkcmjaaDoor.Dec
open Go.Lib
set_option linter.unusedVariables false
set_option linter.unusedSimpArgs false

theorem decFrom_snoc (l : List UInt8) (c : UInt8) : ∀ acc, decFrom acc (l ++ [c]) = (decFrom acc l).bind fun n => (digitVal c).map fun d => n * 10 + d := by
  induction l with
  | nil =>
    intro acc
    simp only [List.nil_append, decFrom, Option.bind_some]
    cases digitVal c <;> rfl
  | cons b l ih =>
    intro acc
    simp only [List.cons_append, decFrom]
    cases digitVal b with
    | none => rfl
    | some d => exact ih _
theorem digitVal_of {d : Nat} (h : d < 10) : digitVal (UInt8.ofNat (48 + d)) = some d := by
  have e : (UInt8.ofNat (48 + d)).toNat = 48 + d := by simp; omega
  unfold digitVal
  rw [e, if_pos (by omega)]
  congr 1
  omega
theorem digits_ne (u : Nat) : decDigits u ≠ [] := by
  rw [decDigits]
  split <;> simp
theorem decFrom_digits (u : Nat) : decFrom 0 (decDigits u) = some u := by
  induction u using Nat.strongRecOn with
  | ind u ih =>
    rw [decDigits]
    split
    · rename_i h
      simp only [decFrom, digitVal_of h]
      congr 1
      omega
    · rename_i h
      rw [decFrom_snoc, ih (u / 10) (by omega), digitVal_of (by omega)]
      simp only [Option.bind_some, Option.map_some]
      congr 1
      omega
theorem decNat_digits (u : Nat) : decNat (decDigits u) = some u := by
  unfold decNat
  rw [if_neg (by rw [List.isEmpty_iff]; exact digits_ne u), decFrom_digits]
theorem digits_all (u : Nat) : ∀ c ∈ decDigits u, 48 ≤ c.toNat ∧ c.toNat ≤ 57 := by
  induction u using Nat.strongRecOn with
  | ind u ih =>
    rw [decDigits]
    have key : ∀ d, d < 10 → 48 ≤ (UInt8.ofNat (48 + d)).toNat ∧ (UInt8.ofNat (48 + d)).toNat ≤ 57 := by
      intro d h
      have e : (UInt8.ofNat (48 + d)).toNat = 48 + d := by simp; omega
      omega
    split
    · rename_i h
      intro c hc
      rw [List.mem_singleton.1 hc]
      exact key u h
    · rename_i h
      intro c hc
      rcases List.mem_append.1 hc with hc | hc
      · exact ih (u / 10) (by omega) c hc
      · rw [List.mem_singleton.1 hc]
        exact key _ (by omega)
theorem atoi_itoa (n : Int) : atoi (itoa n) = some n := by
  unfold itoa
  split
  · rename_i h
    simp only [atoi]
    rw [if_pos (by decide), decNat_digits]
    simp only [Option.map_some]
    congr 1
    omega
  · rename_i h
    obtain ⟨b, r, e⟩ : ∃ b r, decDigits n.toNat = b :: r := by
      cases h2 : decDigits n.toNat with
      | nil => exact absurd h2 (digits_ne _)
      | cons b r => exact ⟨b, r, rfl⟩
    have hb := digits_all n.toNat b (by rw [e]; simp)
    have hd := decNat_digits n.toNat
    rw [e] at hd ⊢
    simp only [atoi]
    rw [if_neg (by intro h; simp at h; subst h; revert hb; decide), if_neg (by intro h; simp at h; subst h; revert hb; decide), hd]
    simp only [Option.map_some]
    congr 1
    omega
theorem itoa_inj {a b : Int} (h : itoa a = itoa b) : a = b := by
  have := atoi_itoa a
  rw [h, atoi_itoa] at this
  exact (Option.some.inj this).symm
theorem nDigits_le : ∀ (k u : Nat), u < 10 ^ (k + 1) → nDigits u ≤ k + 1
  | 0, u, h => by rw [nDigits_small (by simpa using h)]; omega
  | k + 1, u, h => by
    by_cases h1 : u < 10
    · rw [nDigits_small h1]; omega
    · rw [nDigits_big h1]
      have := nDigits_le k (u / 10) (by rw [Nat.pow_succ] at h; omega)
      omega
theorem itoa_len {n : Int} (h1 : -1000000000 < n) (h2 : n < 1000000000) : (itoa n).length ≤ 10 := by
  unfold itoa
  split
  · rw [List.length_cons, decDigits_length]
    have := nDigits_le 8 n.natAbs (by omega)
    omega
  · rw [decDigits_length]
    have := nDigits_le 8 n.toNat (by omega)
    omega
/-- A row of digits that has no 0 ahead is its number's. -/
theorem digits_of : ∀ (k : Nat) (l : List UInt8), l.length = k → l ≠ [] → (∀ c r, l = c :: r → c.toNat = 48 → r = []) → ∀ u, decFrom 0 l = some u → decDigits u = l ∧ (∀ c r, l = c :: r → c.toNat ≠ 48 → 1 ≤ u) := by
  intro k
  induction k with
  | zero => intro l h1 h2; exact absurd (List.eq_nil_of_length_eq_zero h1) h2
  | succ k ih =>
    intro l h1 h2 h3 u hu
    obtain ⟨l', c, rfl⟩ : ∃ l' c, l = l' ++ [c] := ⟨l.dropLast, l.getLast h2, (List.dropLast_concat_getLast h2).symm⟩
    rw [decFrom_snoc] at hu
    have hdig : ∀ {d}, digitVal c = some d → d < 10 ∧ UInt8.ofNat (48 + d) = c ∧ c.toNat = 48 + d := by
      intro d hd
      unfold digitVal at hd
      split at hd
      · rename_i h
        injection hd with hd
        refine ⟨by omega, ?_, by omega⟩
        have : 48 + d = c.toNat := by omega
        rw [this]
        simp
      · cases hd
    by_cases hn : l' = []
    · subst hn
      simp only [decFrom, Option.bind_some, List.nil_append] at hu ⊢
      cases hd : digitVal c with
      | none => rw [hd] at hu; cases hu
      | some d =>
        rw [hd] at hu
        simp only [Option.map_some, Option.some.injEq] at hu
        obtain ⟨g1, g2, g3⟩ := hdig hd
        have : u = d := by omega
        subst this
        refine ⟨by rw [decDigits, dif_pos g1, g2], fun c' r hc hc' => ?_⟩
        simp only [List.cons.injEq] at hc
        rw [← hc.1] at hc'
        omega
    · obtain ⟨b, r, rfl⟩ : ∃ b r, l' = b :: r := by
        cases l' with
        | nil => exact absurd rfl hn
        | cons b r => exact ⟨b, r, rfl⟩
      cases hm : decFrom 0 (b :: r) with
      | none => rw [hm] at hu; cases hu
      | some m =>
        rw [hm] at hu
        simp only [Option.bind_some] at hu
        cases hd : digitVal c with
        | none => rw [hd] at hu; cases hu
        | some d =>
          rw [hd] at hu
          simp only [Option.map_some, Option.some.injEq] at hu
          obtain ⟨g1, g2, g3⟩ := hdig hd
          have hb : b.toNat ≠ 48 := by
            intro hb
            have := h3 b (r ++ [c]) rfl hb
            simp at this
          have hlen : (b :: r).length = k := by simp at h1 ⊢; omega
          obtain ⟨e1, e2⟩ := ih (b :: r) hlen (by simp) (fun c' r' hc hc' => by simp only [List.cons.injEq] at hc; rw [← hc.1] at hc'; exact absurd hc' hb) m hm
          have hm1 := e2 b r rfl hb
          refine ⟨?_, fun _ _ _ _ => by omega⟩
          rw [decDigits, dif_neg (by omega)]
          have q1 : u / 10 = m := by omega
          have q2 : u % 10 = d := by omega
          rw [q1, q2, e1, g2]

/-- A number's text. -/
def numS (n : Int) : ByteArray := ⟨(itoa n).toArray⟩
theorem numS_inj {a b : Int} (h : numS a = numS b) : a = b := by
  unfold numS at h
  simp only [ByteArray.mk.injEq] at h
  exact itoa_inj (by simpa using congrArg Array.toList h)
theorem numS_list (n : Int) : (numS n).data.toList = itoa n := by unfold numS; simp
theorem numS_size (n : Int) : (numS n).size = (itoa n).length := by unfold numS; simp [ByteArray.size]
/-- The number that a text is. -/
def plainB (b : ByteArray) : Int × Bool :=
  if b.size ≤ 10 then
    match atoi b.data.toList with
    | some v => if numS v = b ∧ v < 1000000000 ∧ -1000000000 < v then (v, true) else (0, false)
    | none => (0, false)
  else (0, false)
theorem plainB_num {v : Int} (h1 : -1000000000 < v) (h2 : v < 1000000000) : plainB (numS v) = (v, true) := by
  unfold plainB
  rw [if_pos (by rw [numS_size]; exact itoa_len h1 h2), numS_list, atoi_itoa]
  simp only
  rw [if_pos ⟨trivial, h2, h1⟩]
theorem plainB_true {b : ByteArray} (h : (plainB b).2 = true) : b = numS (plainB b).1 ∧ -1000000000 < (plainB b).1 ∧ (plainB b).1 < 1000000000 := by
  unfold plainB at *
  split at h
  · rename_i h0
    rw [if_pos h0]
    split at h
    · split at h
      · rename_i hh
        rw [if_pos hh]
        exact ⟨hh.1.symm, hh.2.2, hh.2.1⟩
      · cases h
    · cases h
  · cases h
theorem plainB_false {b : ByteArray} (h : (plainB b).2 = false) : plainB b = (0, false) := by
  unfold plainB at *
  split at h
  · rename_i h0
    rw [if_pos h0]
    split at h
    · split at h
      · cases h
      · rename_i hh
        rw [if_neg hh]
    · rfl
  · rename_i h0
    rw [if_neg h0]
theorem plainB_big {v : Int} (h : ¬ (-1000000000 < v ∧ v < 1000000000)) : plainB (numS v) = (0, false) := by
  apply plainB_false
  cases hb : (plainB (numS v)).2 with
  | false => rfl
  | true =>
    obtain ⟨h1, h2, h3⟩ := plainB_true hb
    have := numS_inj h1
    omega
end Go.Proofs.YtaifjojfmkcmjaaDoor.Dec
