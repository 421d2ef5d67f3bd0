/-
  Numbers as bytes, plainly: how many bytes a number has, which they are, and what bytes are as a number. No program's text.
-/
import Derived.Lib.BitFns
import Derived.Laws.Bits64b
namespace Go.Proofs.YtcnikobmepjgcaaNum
set_option linter.unusedVariables false
set_option linter.unusedSimpArgs false

/-- The class: 2^cls bytes. -/
def cls (n : Nat) : Nat := if n < 64 then 0 else if n < 16384 then 1 else if n < 1073741824 then 2 else 3
/-- The bytes of v, the greatest first. -/
def be (v : Nat) : Nat → List UInt8
  | 0 => []
  | L + 1 => UInt8.ofNat (v / 256 ^ L) :: be v L
def tag : Nat → Nat
  | 0 => 0
  | 1 => 16384
  | 2 => 2147483648
  | _ => 13835058055282163712
def encN (n : Nat) : List UInt8 := be (n + tag (cls n)) (2 ^ cls n)

theorem be_length (v : Nat) : ∀ L, (be v L).length = L
  | 0 => rfl
  | L + 1 => by simp [be, be_length v L]
theorem encN_length (n : Nat) : (encN n).length = 2 ^ cls n := be_length _ _
theorem cls_le (n : Nat) : cls n ≤ 3 := by unfold cls; split <;> (try split) <;> (try split) <;> omega
theorem encN_le (n : Nat) : (encN n).length ≤ 8 := by
  rw [encN_length]
  have := cls_le n
  have : cls n = 0 ∨ cls n = 1 ∨ cls n = 2 ∨ cls n = 3 := by omega
  rcases this with h | h | h | h <;> rw [h] <;> decide
theorem encN_pos (n : Nat) : 1 ≤ (encN n).length := by
  rw [encN_length]; exact Nat.one_le_two_pow
theorem be_take (v : Nat) : ∀ (L j : Nat), j < L → (be v L).take (L - j) = (be v L).take (L - (j + 1)) ++ [UInt8.ofNat (v / 256 ^ j)]
  | 0, j, h => by omega
  | L + 1, j, h => by
    by_cases e : j = L
    · subst e
      have h1 : j + 1 - j = 1 := by omega
      simp [be, h1]
    · have h1 : L + 1 - j = (L - j) + 1 := by omega
      have h2 : L + 1 - (j + 1) = (L - (j + 1)) + 1 := by omega
      rw [h1, h2]
      simp only [be, List.take_succ_cons, List.cons_append]
      rw [be_take v L j (by omega)]

theorem bitLenAux_le : ∀ (f x : Nat), Lib.bitLenAux f x ≤ f
  | 0, x => by simp [Lib.bitLenAux]
  | f + 1, x => by
    unfold Lib.bitLenAux
    have := bitLenAux_le f (x / 2)
    split <;> omega
theorem bitLen_le_iff {n k : Nat} (h : n < 18446744073709551616) (hk : k ≤ 64) : Lib.bitLen n ≤ k ↔ n < 2 ^ k := by
  constructor
  · intro hb
    rcases Nat.lt_or_ge n (2 ^ k) with h1 | h1
    · exact h1
    · exfalso
      have h2 := Lib.bitLen_shift k n h1 h
      have h3 : n / 2 ^ k ≠ 0 := by
        have := Nat.div_pos h1 (Nat.two_pow_pos k)
        omega
      have h4 := Lib.bitLen_half (n / 2 ^ k) h3 (Nat.lt_of_le_of_lt (Nat.div_le_self _ _) h)
      omega
  · intro hb
    have : Lib.bitLen n = Lib.bitLenAux k n := Lib.bitLenAux_fuel k n hb 64 hk
    rw [this]
    exact bitLenAux_le k n
theorem bitLen_cls (n : Nat) (h : n < 18446744073709551616) : (if Lib.bitLen n ≤ 6 then 0 else if Lib.bitLen n ≤ 14 then 1 else if Lib.bitLen n ≤ 30 then 2 else 3) = cls n := by
  unfold cls
  have h6 := bitLen_le_iff (k := 6) h (by omega)
  have h14 := bitLen_le_iff (k := 14) h (by omega)
  have h30 := bitLen_le_iff (k := 30) h (by omega)
  simp only [show (2 : Nat) ^ 6 = 64 from rfl, show (2 : Nat) ^ 14 = 16384 from rfl, show (2 : Nat) ^ 30 = 1073741824 from rfl] at h6 h14 h30
  split <;> split <;> (try split) <;> (try split) <;> (try split) <;> (try split) <;> omega
theorem cls_0 {n : Nat} (h : n < 64) : cls n = 0 := by unfold cls; rw [if_pos h]
theorem cls_1 {n : Nat} (h0 : 64 ≤ n) (h : n < 16384) : cls n = 1 := by unfold cls; rw [if_neg (by omega), if_pos h]
theorem cls_2 {n : Nat} (h0 : 16384 ≤ n) (h : n < 1073741824) : cls n = 2 := by unfold cls; rw [if_neg (by omega), if_neg (by omega), if_pos h]
theorem cls_3 {n : Nat} (h0 : 1073741824 ≤ n) : cls n = 3 := by unfold cls; rw [if_neg (by omega), if_neg (by omega), if_neg (by omega)]
/-- The tag's bits lie over the number's. -/
theorem or_tag {n i k : Nat} (h : n < 2 ^ i) : n ||| (k * 2 ^ i) = n + k * 2 ^ i := by
  have := Nat.shiftLeft_add_eq_or_of_lt h k
  rw [Nat.shiftLeft_eq] at this
  rw [Nat.or_comm, ← this, Nat.add_comm]
end Go.Proofs.YtcnikobmepjgcaaNum
