/-
  Numbers' bytes are ordered as the numbers. No program's text.
-/
import Derived.Test.YtcnikobmepjgcaaRd2
import Derived.WalkKit
namespace Go.Proofs.YtcnikobmepjgcaaNum
set_option linter.unusedVariables false
set_option linter.unusedSimpArgs false

theorem less_be (v u : Nat) : ∀ L, Op.bytesLess (be v L) (be u L) = decide (v % 256 ^ L < u % 256 ^ L)
  | 0 => by simp [be, Op.bytesLess, Nat.mod_one]
  | L + 1 => by
    have ih := less_be v u L
    have hp : 0 < 256 ^ L := Nat.pow_pos (by decide)
    have e1 : v % 256 ^ (L + 1) = v % 256 ^ L + 256 ^ L * (v / 256 ^ L % 256) := by rw [Nat.pow_succ, Nat.mod_mul]
    have e2 : u % 256 ^ (L + 1) = u % 256 ^ L + 256 ^ L * (u / 256 ^ L % 256) := by rw [Nat.pow_succ, Nat.mod_mul]
    have m1 := Nat.mod_lt v hp
    have m2 := Nat.mod_lt u hp
    simp only [be, Op.bytesLess]
    rw [ih, e1, e2]
    generalize 256 ^ L = P at *
    have n1 : (UInt8.ofNat (v / P)).toNat = v / P % 256 := by simp
    have n2 : (UInt8.ofNat (u / P)).toNat = u / P % 256 := by simp
    have hlt : (UInt8.ofNat (v / P) < UInt8.ofNat (u / P)) ↔ v / P % 256 < u / P % 256 := by rw [UInt8.lt_iff_toNat_lt, n1, n2]
    have heq : (UInt8.ofNat (v / P) = UInt8.ofNat (u / P)) ↔ v / P % 256 = u / P % 256 := by rw [← UInt8.toNat_inj, n1, n2]
    generalize v / P % 256 = a at *
    generalize u / P % 256 = b at *
    generalize UInt8.ofNat (v / P) = x at *
    generalize UInt8.ofNat (u / P) = y at *
    generalize v % P = c at *
    generalize u % P = d at *
    rw [Bool.eq_iff_iff]
    simp only [Bool.or_eq_true, decide_eq_true_eq, Bool.and_eq_true, beq_iff_eq, hlt, heq]
    constructor
    · rintro (h | ⟨rfl, h⟩)
      · have h2 : P * (a + 1) ≤ P * b := Nat.mul_le_mul_left _ h
        rw [Nat.mul_add, Nat.mul_one] at h2
        omega
      · omega
    · intro h
      rcases Nat.lt_trichotomy a b with h1 | h1 | h1
      · exact .inl h1
      · subst h1; exact .inr ⟨rfl, by omega⟩
      · exfalso
        have h2 : P * (b + 1) ≤ P * a := Nat.mul_le_mul_left _ h1
        rw [Nat.mul_add, Nat.mul_one] at h2
        omega
theorem cls_lt {a b : Nat} (h : cls a < cls b) : a < b := by
  unfold cls at h
  (repeat' split at h) <;> omega
theorem less_enc (a b : Nat) (ha : a < 4611686018427387904) (hb : b < 4611686018427387904) : Op.bytesLess (encN a) (encN b) = decide (a < b) := by
  have r1 := (encN_read a [] ha).1
  have r2 := (encN_read b [] hb).1
  rw [List.append_nil] at r1 r2
  by_cases h : cls a = cls b
  · have c1 := cls_bound (n := a) rfl ha
    have c2 := cls_bound (n := b) rfl hb
    have ht := tag_eq (cls_le a)
    unfold encN
    rw [← h] at c2 ⊢
    rw [less_be]
    obtain ⟨k, hkk⟩ : ∃ k, cls a = k := ⟨_, rfl⟩
    have hk : k ≤ 3 := by rw [← hkk]; exact cls_le a
    rw [hkk] at c1 c2 ht ⊢
    obtain ⟨M, hM⟩ : ∃ M, 64 * 256 ^ (2 ^ k - 1) = M := ⟨_, rfl⟩
    have hM4 : 256 ^ (2 ^ k) = 4 * M := by
      have := Nat.two_pow_pos k
      obtain ⟨j, hj⟩ : ∃ j, 2 ^ k = j + 1 := ⟨2 ^ k - 1, by omega⟩
      rw [← hM, hj, Nat.pow_succ]
      simp only [Nat.add_sub_cancel]
      omega
    rw [hM] at c1 c2 ht
    rw [hM4, ht]
    have hlt : ∀ n, n < M → (n + k * M) % (4 * M) = n + k * M := fun n hn => by
      apply Nat.mod_eq_of_lt
      have : k = 0 ∨ k = 1 ∨ k = 2 ∨ k = 3 := by omega
      rcases this with rfl | rfl | rfl | rfl <;> omega
    rw [hlt a c1, hlt b c2]
    simp
  · obtain ⟨x, r, hx⟩ := List.exists_cons_of_ne_nil (encN_ne a)
    obtain ⟨y, q, hy⟩ := List.exists_cons_of_ne_nil (encN_ne b)
    have n1 : nb (encN a) 0 = x.toNat := by rw [hx]; simp [nb]
    have n2 : nb (encN b) 0 = y.toNat := by rw [hy]; simp [nb]
    rw [n1] at r1
    rw [n2] at r2
    rw [hx, hy]
    simp only [Op.bytesLess]
    rcases Nat.lt_or_ge (cls a) (cls b) with h1 | h1
    · have h2 := cls_lt h1
      have : x < y := by rw [UInt8.lt_iff_toNat_lt]; omega
      simp [this, h2]
    · have h2 : cls b < cls a := by omega
      have h3 := cls_lt h2
      have h4 : y.toNat < x.toNat := by omega
      have h5 : ¬ x < y := by rw [UInt8.lt_iff_toNat_lt]; omega
      have h6 : x ≠ y := fun e => by rw [e] at h4; omega
      have h7 : ¬ a < b := by omega
      simp [h5, h6, h7]
theorem enc_inj {a b : Nat} (ha : a < 4611686018427387904) (hb : b < 4611686018427387904) (h : encN a = encN b) : a = b := by
  have h1 := getN_enc a [] ha
  rw [h, getN_enc b [] hb] at h1
  exact (congrArg Prod.fst h1).symm
end Go.Proofs.YtcnikobmepjgcaaNum
