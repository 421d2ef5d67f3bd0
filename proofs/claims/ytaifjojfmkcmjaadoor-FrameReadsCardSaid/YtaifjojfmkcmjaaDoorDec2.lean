/-
  What the reference reads as a number is what the code reads.
-/
import Derived.Test.YtaifjojfmkcmjaaDoorDec
namespace Go.Proofs.YtaifjojfmkcmjaaDoor.Dec
open Go.Lib
set_option linter.unusedVariables false
set_option linter.unusedSimpArgs false

def isDig (c : UInt8) : Bool := decide (48 ≤ c.toNat) && decide (c.toNat ≤ 57)
/-- What stands behind the sign. -/
def magOf (l : List UInt8) : List UInt8 := if l.head? = some 45 then l.tail else l
def negOf (l : List UInt8) : Bool := decide (l.head? = some 45)
/-- May it be a number's digits? -/
def magOk (neg : Bool) (m : List UInt8) : Bool := decide (1 ≤ m.length) && decide (m.length ≤ 9) && !(decide (m.head? = some 48) && (decide (1 < m.length) || neg))
def refB (l : List UInt8) : Int × Bool :=
  if magOk (negOf l) (magOf l) = true then
    match decFrom 0 (magOf l) with
    | some v => (if negOf l then -(v : Int) else v, true)
    | none => (0, false)
  else (0, false)
theorem digits_head (u : Nat) (h : 1 ≤ u) : (decDigits u).head? ≠ some 48 := by
  induction u using Nat.strongRecOn with
  | ind u ih =>
    rw [decDigits]
    split
    · rename_i h1
      intro e
      have e2 : UInt8.ofNat (48 + u) = 48 := by simpa using e
      have e3 := congrArg UInt8.toNat e2
      simp at e3
      omega
    · rename_i h1
      have := ih (u / 10) (by omega) (by omega)
      cases hd : decDigits (u / 10) with
      | nil => exact absurd hd (digits_ne _)
      | cons b r =>
        rw [hd] at this
        simpa using this
theorem digits_len {u : Nat} (h : u < 1000000000) : 1 ≤ (decDigits u).length ∧ (decDigits u).length ≤ 9 := by
  rw [decDigits_length]
  have := nDigits_le 8 u (by omega)
  refine ⟨?_, this⟩
  have := digits_ne u
  rw [← decDigits_length]
  exact List.length_pos_iff.2 this
theorem digits_no45 (u : Nat) : (decDigits u).head? ≠ some 45 := by
  intro e
  have := digits_all u 45 (List.mem_of_mem_head? (by rw [e]; rfl))
  exact absurd this.1 (by decide)
theorem refB_num {k : Int} (h1 : -1000000000 < k) (h2 : k < 1000000000) : refB (itoa k) = (k, true) := by
  unfold itoa
  by_cases hk : k < 0
  · rw [if_pos hk]
    have hn : negOf (45 :: decDigits k.natAbs) = true := by simp [negOf]
    have hm : magOf (45 :: decDigits k.natAbs) = decDigits k.natAbs := by simp [magOf]
    obtain ⟨l1, l2⟩ := digits_len (u := k.natAbs) (by omega)
    have hh := digits_head k.natAbs (by omega)
    unfold refB
    rw [hn, hm, decFrom_digits, if_pos (by simp [magOk, l2, hh]; omega)]
    simp only [if_true, Prod.mk.injEq, and_true]
    omega
  · rw [if_neg hk]
    have hd := digits_no45 k.toNat
    have hn : negOf (decDigits k.toNat) = false := by simp [negOf, hd]
    have hm : magOf (decDigits k.toNat) = decDigits k.toNat := by simp [magOf, hd]
    obtain ⟨l1, l2⟩ := digits_len (u := k.toNat) (by omega)
    unfold refB
    rw [hn, hm, decFrom_digits, if_pos]
    · simp only [Bool.false_eq_true, if_false, Prod.mk.injEq, and_true]
      omega
    · by_cases h0 : k.toNat = 0
      · rw [h0, decDigits_one (by decide)]
        decide
      · have hh := digits_head k.toNat (by omega)
        simp [magOk, l2, hh]
        omega
theorem decFrom_lt : ∀ (l : List UInt8) (acc k : Nat) (u : Nat), acc < 10 ^ k → decFrom acc l = some u → u < 10 ^ (k + l.length)
  | [], acc, k, u, ha, h => by simp only [decFrom, Option.some.injEq] at h; subst h; simpa using ha
  | c :: r, acc, k, u, ha, h => by
    simp only [decFrom] at h
    cases hd : digitVal c with
    | none => rw [hd] at h; cases h
    | some d =>
      rw [hd] at h
      have hd9 : d ≤ 9 := by
        unfold digitVal at hd
        split at hd
        · simp only [Option.some.injEq] at hd; omega
        · cases hd
      have := decFrom_lt r (acc * 10 + d) (k + 1) u (by rw [Nat.pow_succ]; omega) h
      rw [List.length_cons, Nat.add_comm r.length 1, ← Nat.add_assoc]
      exact this
theorem refB_true {l : List UInt8} (h : (refB l).2 = true) : l = itoa (refB l).1 ∧ -1000000000 < (refB l).1 ∧ (refB l).1 < 1000000000 := by
  unfold refB at *
  by_cases ho : magOk (negOf l) (magOf l) = true
  · rw [if_pos ho] at h ⊢
    cases hd : decFrom 0 (magOf l) with
    | none => rw [hd] at h; cases h
    | some u =>
      simp only
      unfold magOk at ho
      simp only [Bool.and_eq_true, decide_eq_true_eq, Bool.not_eq_true', Bool.and_eq_false_iff, decide_eq_false_iff_not, Bool.or_eq_false_iff] at ho
      obtain ⟨⟨l1, l2⟩, l3⟩ := ho
      have hne : magOf l ≠ [] := by intro e; rw [e] at l1; simp at l1
      have hb := decFrom_lt (magOf l) 0 0 u (by decide) hd
      have hb2 : u < 10 ^ 9 := Nat.lt_of_lt_of_le hb (Nat.pow_le_pow_right (by decide) (by omega))
      obtain ⟨e1, e2⟩ := digits_of (magOf l).length (magOf l) rfl hne (fun c r hc hc48 => by
        have hc' : c = 48 := by
          have : c.toNat = (48 : UInt8).toNat := hc48
          exact UInt8.toNat_inj.1 this
        rcases l3 with h3 | h3
        · rw [hc, hc'] at h3
          exact absurd rfl h3
        · have := h3.1
          rw [hc] at this
          simp at this
          exact this) u hd
      by_cases hn : l.head? = some 45
      · have hneg : negOf l = true := by unfold negOf; exact decide_eq_true hn
        have hm : magOf l = l.tail := by unfold magOf; rw [if_pos hn]
        rw [hneg]
        simp only [if_true]
        have hu : 1 ≤ u := by
          cases hm2 : magOf l with
          | nil => exact absurd hm2 hne
          | cons c r =>
            refine e2 c r hm2 (fun hc48 => ?_)
            rcases l3 with h3 | h3
            · rw [hm2] at h3
              have : c = 48 := UInt8.toNat_inj.1 hc48
              exact h3 (by rw [this]; rfl)
            · rw [hneg] at h3
              cases h3.2
        refine ⟨?_, by omega, by omega⟩
        have hl : l = 45 :: l.tail := by
          cases l with
          | nil => cases hn
          | cons c r => simp at hn; rw [hn]; rfl
        unfold itoa
        rw [if_pos (by omega), show (-(u : Int)).natAbs = u by omega, e1, hm]
        exact hl
      · have hneg : negOf l = false := by unfold negOf; exact decide_eq_false hn
        have hm : magOf l = l := by unfold magOf; rw [if_neg hn]
        rw [hneg]
        simp only [Bool.false_eq_true, if_false]
        refine ⟨?_, by omega, by omega⟩
        unfold itoa
        rw [if_neg (by omega), show (u : Int).toNat = u by omega, e1, hm]
  · rw [if_neg ho] at h
    cases h
theorem refB_false {l : List UInt8} (h : (refB l).2 = false) : refB l = (0, false) := by
  unfold refB at *
  split at h
  · rename_i ho
    rw [if_pos ho]
    cases hd : decFrom 0 (magOf l) with
    | none => rfl
    | some u => rw [hd] at h; cases h
  · rename_i ho
    rw [if_neg ho]
/-- The reference reads what the code reads. -/
theorem refB_eq (b : ByteArray) : refB b.data.toList = plainB b := by
  cases h : (refB b.data.toList).2 with
  | true =>
    obtain ⟨h1, h2, h3⟩ := refB_true h
    have hb : b = numS (refB b.data.toList).1 := by
      unfold numS
      rw [← h1]
    have e := plainB_num h2 h3
    rw [← hb] at e
    rw [e, ← h]
  | false =>
    cases h2 : (plainB b).2 with
    | false => rw [refB_false h, plainB_false h2]
    | true =>
      obtain ⟨g1, g2, g3⟩ := plainB_true h2
      have e := refB_num g2 g3
      rw [← numS_list, ← g1] at e
      rw [e] at h
      cases h
end Go.Proofs.YtaifjojfmkcmjaaDoor.Dec
