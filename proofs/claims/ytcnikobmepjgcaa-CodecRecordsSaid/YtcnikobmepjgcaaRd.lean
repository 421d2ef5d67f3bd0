/-
  Reading bytes, plainly: numbers, texts, lists out of what is left of some bytes. No program's text.
-/
import Derived.Test.YtcnikobmepjgcaaNum
namespace Go.Proofs.YtcnikobmepjgcaaNum
set_option linter.unusedVariables false
set_option linter.unusedSimpArgs false

/-- A reader: what is left, and the first error. -/
structure RS where
  rest : List UInt8
  err : Int
def RS.fail (s : RS) (e : Int) : RS := if s.err = 0 then { s with err := e } else s
/-- The byte at a place. -/
def nb (l : List UInt8) (i : Nat) : Nat := (l.getD i 0).toNat
/-- The number of i + 1 bytes. -/
def acc (l : List UInt8) : Nat → Nat
  | 0 => nb l 0 % 64
  | i + 1 => acc l i * 256 + nb l (i + 1)
def getN (s : RS) : Nat × RS :=
  if s.err ≠ 0 then (0, s)
  else if s.rest = [] then (0, s.fail 20)
  else if s.rest.length < 2 ^ (nb s.rest 0 / 64) then (0, s.fail 20)
  else if cls (acc s.rest (2 ^ (nb s.rest 0 / 64) - 1)) = nb s.rest 0 / 64 then (acc s.rest (2 ^ (nb s.rest 0 / 64) - 1), ⟨s.rest.drop (2 ^ (nb s.rest 0 / 64)), s.err⟩)
  else (0, RS.fail ⟨s.rest.drop (2 ^ (nb s.rest 0 / 64)), s.err⟩ 21)
def takeN (n : Nat) (s : RS) : List UInt8 × RS :=
  if s.err ≠ 0 then ([], s)
  else if s.rest.length < n then ([], s.fail 20)
  else (s.rest.take n, ⟨s.rest.drop n, s.err⟩)
/-- How many: at most so many. -/
def countN (most : Int) (s : RS) : Nat × RS :=
  let r := getN s
  let t := if most < r.1 then r.2.fail 22 else r.2
  (if t.err ≠ 0 then 0 else r.1, t)

theorem nb_lt (l : List UInt8) (i : Nat) : nb l i < 256 := by unfold nb; exact UInt8.toNat_lt _
theorem acc_lt (l : List UInt8) : ∀ i, acc l i < 64 * 256 ^ i
  | 0 => by simp [acc]; omega
  | i + 1 => by
    have := acc_lt l i
    have := nb_lt l (i + 1)
    simp only [acc, Nat.pow_succ]
    omega
theorem getN_le (s : RS) : (getN s).1 < 4611686018427387904 := by
  unfold getN
  split
  · simp
  split
  · simp
  split
  · simp
  split
  · rename_i h1 h2 h3 h4
    have hk : nb s.rest 0 / 64 ≤ 3 := by have := nb_lt s.rest 0; omega
    have ha := acc_lt s.rest (2 ^ (nb s.rest 0 / 64) - 1)
    have : nb s.rest 0 / 64 = 0 ∨ nb s.rest 0 / 64 = 1 ∨ nb s.rest 0 / 64 = 2 ∨ nb s.rest 0 / 64 = 3 := by omega
    simp only
    rcases this with h | h | h | h <;> rw [h] at ha ⊢ <;> simp at ha ⊢ <;> omega
  · simp
end Go.Proofs.YtcnikobmepjgcaaNum
