/-
  Reading bytes is the inverse of writing them: numbers. No program's text.
-/
import Derived.Test.YtcnikobmepjgcaaRd
namespace Go.Proofs.YtcnikobmepjgcaaNum
set_option linter.unusedVariables false
set_option linter.unusedSimpArgs false

theorem ofNat_nb (l : List UInt8) (i : Nat) (h : i < l.length) : UInt8.ofNat (nb l i) = l[i] := by
  unfold nb
  rw [List.getD_eq_getElem?_getD, List.getElem?_eq_getElem h]
  simp
theorem nb_append (a b : List UInt8) (i : Nat) (h : i < a.length) : nb (a ++ b) i = nb a i := by
  unfold nb
  rw [List.getD_eq_getElem?_getD, List.getD_eq_getElem?_getD, List.getElem?_append_left h]
theorem be_snoc (v : Nat) : ∀ L, be v (L + 1) = be (v / 256) L ++ [UInt8.ofNat v]
  | 0 => by simp [be]
  | L + 1 => by
    have h := be_snoc v L
    have e : v / 256 ^ (L + 1) = v / 256 / 256 ^ L := by rw [Nat.div_div_eq_div_mul, Nat.pow_succ, Nat.mul_comm]
    show UInt8.ofNat (v / 256 ^ (L + 1)) :: be v (L + 1) = UInt8.ofNat (v / 256 / 256 ^ L) :: be (v / 256) L ++ [UInt8.ofNat v]
    rw [h, e]
    rfl
/-- The value of the first i + 1 bytes. -/
def val (l : List UInt8) : Nat → Nat
  | 0 => nb l 0
  | i + 1 => val l i * 256 + nb l (i + 1)
theorem be_val (l : List UInt8) : ∀ i, i < l.length → be (val l i) (i + 1) = l.take (i + 1)
  | 0, h => by
    cases l with
    | nil => simp at h
    | cons a l => simp [be, val, nb]
  | i + 1, h => by
    have ih := be_val l i (by omega)
    have hn := nb_lt l (i + 1)
    rw [be_snoc]
    have e1 : val l (i + 1) / 256 = val l i := by simp only [val]; omega
    have e2 : UInt8.ofNat (val l (i + 1)) = l[i + 1] := by
      rw [← ofNat_nb l (i + 1) h]
      apply UInt8.toNat_inj.1
      simp only [val, UInt8.toNat_ofNat']
      omega
    rw [e1, e2, ih, List.take_succ_eq_append_getElem h]
theorem val_acc (l : List UInt8) : ∀ i, val l i = acc l i + nb l 0 / 64 * (64 * 256 ^ i)
  | 0 => by simp only [val, acc]; omega
  | i + 1 => by
    have ih := val_acc l i
    simp only [val, acc, Nat.pow_succ]
    rw [ih, Nat.add_mul]
    generalize 256 ^ i = P
    generalize nb l 0 / 64 = q
    have : q * (64 * P) * 256 = q * (64 * (P * 256)) := by rw [Nat.mul_assoc, Nat.mul_assoc]
    rw [this]
    exact Nat.add_right_comm _ _ _
theorem nb_be (v : Nat) : ∀ (L i : Nat) (l : List UInt8), i < L → nb (be v L ++ l) i = v / 256 ^ (L - 1 - i) % 256
  | 0, i, l, h => by omega
  | L + 1, 0, l, h => by simp [be, nb]
  | L + 1, i + 1, l, h => by
    have ih := nb_be v L i l (by omega)
    have e : L + 1 - 1 - (i + 1) = L - 1 - i := by omega
    rw [e, ← ih]
    simp [be, nb]
theorem val_be (v L : Nat) (l : List UInt8) (hv : v < 256 ^ L) : ∀ i, i < L → val (be v L ++ l) i = v / 256 ^ (L - 1 - i)
  | 0, h => by
    simp only [val]
    rw [nb_be v L 0 l h, Nat.sub_zero]
    apply Nat.mod_eq_of_lt
    obtain ⟨M, rfl⟩ : ∃ M, L = M + 1 := ⟨L - 1, by omega⟩
    rw [Nat.div_lt_iff_lt_mul (Nat.pow_pos (by omega))]
    rw [Nat.pow_succ, Nat.mul_comm] at hv
    simpa using hv
  | i + 1, h => by
    have ih := val_be v L l hv i (by omega)
    simp only [val]
    rw [ih, nb_be v L (i + 1) l h]
    have e : L - 1 - i = (L - 1 - (i + 1)) + 1 := by omega
    rw [e, Nat.pow_succ, ← Nat.div_div_eq_div_mul]
    omega

theorem cls_bound {n k : Nat} (h : cls n = k) (hn : n < 4611686018427387904) : n < 64 * 256 ^ (2 ^ k - 1) := by
  unfold cls at h
  split at h
  · subst h; simpa using ‹n < 64›
  split at h
  · subst h; simp; omega
  split at h
  · subst h; simp; omega
  · subst h; simp; omega
theorem tag_eq {k : Nat} (h : k ≤ 3) : tag k = k * (64 * 256 ^ (2 ^ k - 1)) := by
  have : k = 0 ∨ k = 1 ∨ k = 2 ∨ k = 3 := by omega
  rcases this with rfl | rfl | rfl | rfl <;> rfl

/-- A number's bytes, read: its class and its value. -/
theorem encN_read (n : Nat) (l : List UInt8) (hn : n < 4611686018427387904) : nb (encN n ++ l) 0 / 64 = cls n ∧ acc (encN n ++ l) (2 ^ cls n - 1) = n := by
  have hk := cls_le n
  have hb := cls_bound (n := n) rfl hn
  have ht := tag_eq hk
  obtain ⟨k, hkk⟩ : ∃ k, cls n = k := ⟨_, rfl⟩
  unfold encN
  rw [hkk] at hk hb ht ⊢
  have hL : 0 < 2 ^ k := Nat.two_pow_pos k
  obtain ⟨M, hM⟩ : ∃ M, 64 * 256 ^ (2 ^ k - 1) = M := ⟨_, rfl⟩
  have hM4 : 256 ^ (2 ^ k) = 4 * M := by
    obtain ⟨j, hj⟩ : ∃ j, 2 ^ k = j + 1 := ⟨2 ^ k - 1, by omega⟩
    rw [← hM, hj, Nat.pow_succ]
    simp only [Nat.add_sub_cancel]
    omega
  rw [hM] at hb ht
  have hlt : n + tag k < 256 ^ (2 ^ k) := by
    rw [hM4, ht]
    have : k = 0 ∨ k = 1 ∨ k = 2 ∨ k = 3 := by omega
    rcases this with rfl | rfl | rfl | rfl <;> omega
  have hv := val_be (n + tag k) (2 ^ k) l hlt (2 ^ k - 1) (by omega)
  have ha := val_acc (be (n + tag k) (2 ^ k) ++ l) (2 ^ k - 1)
  have hnb := nb_be (n + tag k) (2 ^ k) 0 l hL
  have hal := acc_lt (be (n + tag k) (2 ^ k) ++ l) (2 ^ k - 1)
  rw [Nat.sub_zero] at hnb
  rw [hM] at ha hal
  simp only [Nat.sub_self, Nat.pow_zero, Nat.div_one] at hv
  have hq : nb (be (n + tag k) (2 ^ k) ++ l) 0 / 64 = k := by
    generalize nb (be (n + tag k) (2 ^ k) ++ l) 0 / 64 = q at *
    generalize acc (be (n + tag k) (2 ^ k) ++ l) (2 ^ k - 1) = a at *
    rw [hv, ht] at ha
    clear hnb hv hlt hM4
    -- n + k * M = a + q * M, n < M, a < M
    have h1 : (n + k * M) / M = k := by rw [Nat.add_mul_div_right _ _ (by omega), Nat.div_eq_of_lt hb]; omega
    have h2 : (a + q * M) / M = q := by rw [Nat.add_mul_div_right _ _ (by omega), Nat.div_eq_of_lt hal]; omega
    rw [ha] at h1
    omega
  refine ⟨hq, ?_⟩
  rw [hq, hv] at ha
  generalize acc (be (n + tag k) (2 ^ k) ++ l) (2 ^ k - 1) = a at *
  rw [ht] at ha
  exact Nat.add_right_cancel ha.symm
theorem encN_ne (n : Nat) : encN n ≠ [] := fun h => by have := encN_pos n; rw [h] at this; simp at this
theorem getN_enc (n : Nat) (l : List UInt8) (hn : n < 4611686018427387904) : getN ⟨encN n ++ l, 0⟩ = (n, ⟨l, 0⟩) := by
  obtain ⟨h1, h2⟩ := encN_read n l hn
  have hl := encN_length n
  unfold getN
  simp only
  rw [if_neg (by simp), if_neg (by simp [encN_ne]), h1, if_neg (by simp [hl]), h2, if_pos rfl, ← hl, List.drop_left]
theorem getN_is {l : List UInt8} {n : Nat} {s : RS} (h : getN ⟨l, 0⟩ = (n, s)) (he : s.err = 0) : n < 4611686018427387904 ∧ l = encN n ++ s.rest := by
  have hlt := getN_le ⟨l, 0⟩
  rw [h] at hlt
  refine ⟨hlt, ?_⟩
  unfold getN at h
  simp only at h
  rw [if_neg (by simp)] at h
  split at h
  · simp only [Prod.mk.injEq] at h; obtain ⟨_, rfl⟩ := h; simp [RS.fail] at he
  split at h
  · simp only [Prod.mk.injEq] at h; obtain ⟨_, rfl⟩ := h; simp [RS.fail] at he
  split at h
  · rename_i h1 h2 h3
    simp only [Prod.mk.injEq] at h
    obtain ⟨h4, rfl⟩ := h
    have hk : nb l 0 / 64 ≤ 3 := by have := nb_lt l 0; omega
    have ha := val_acc l (2 ^ (nb l 0 / 64) - 1)
    have hv := be_val l (2 ^ (nb l 0 / 64) - 1) (by have := Nat.two_pow_pos (nb l 0 / 64); omega)
    have e : 2 ^ (nb l 0 / 64) - 1 + 1 = 2 ^ (nb l 0 / 64) := by have := Nat.two_pow_pos (nb l 0 / 64); omega
    rw [e, ha, h4, ← tag_eq hk] at hv
    rw [h4] at h3
    have : encN n = l.take (2 ^ (nb l 0 / 64)) := by unfold encN; rw [h3, hv]
    rw [this, List.take_append_drop]
  · simp only [Prod.mk.injEq] at h; obtain ⟨_, rfl⟩ := h; simp [RS.fail] at he
theorem getN_cut {l : List UInt8} {n : Nat} (hn : n < 4611686018427387904) (hp : l <+: encN n) (hl : l.length < (encN n).length) : getN ⟨l, 0⟩ = (0, ⟨l, 20⟩) := by
  unfold getN
  simp only
  rw [if_neg (by simp)]
  by_cases h0 : l = []
  · rw [if_pos h0]; rfl
  · rw [if_neg h0]
    obtain ⟨t, ht⟩ := hp
    have hnb : nb l 0 / 64 = cls n := by
      have h1 := (encN_read n [] hn).1
      rw [List.append_nil, ← ht, nb_append _ _ _ (List.length_pos_iff.2 h0)] at h1
      exact h1
    rw [hnb, ← encN_length, if_pos hl]
    rfl
theorem getN_err' {s : RS} (h : s.err ≠ 0) : getN s = (0, s) := by unfold getN; rw [if_pos h]
theorem countN_err {m : Int} (hm : 0 ≤ m) {s : RS} (h : s.err ≠ 0) : countN m s = (0, s) := by
  unfold countN
  rw [getN_err' h]
  have e : ¬ m < ((0 : Nat) : Int) := by omega
  simp only
  rw [if_neg e, if_pos h]
theorem takeN_err {n : Nat} {s : RS} (h : s.err ≠ 0) : takeN n s = ([], s) := by unfold takeN; rw [if_pos h]
theorem takeN_app (a l : List UInt8) : takeN a.length ⟨a ++ l, 0⟩ = (a, ⟨l, 0⟩) := by
  unfold takeN
  rw [if_neg (by simp), if_neg (by simp)]
  simp
theorem takeN_is {n : Nat} {l a : List UInt8} {s : RS} (h : takeN n ⟨l, 0⟩ = (a, s)) (he : s.err = 0) : a.length = n ∧ l = a ++ s.rest := by
  unfold takeN at h
  simp only at h
  rw [if_neg (by simp)] at h
  split at h
  · simp only [Prod.mk.injEq] at h; obtain ⟨_, rfl⟩ := h; simp [RS.fail] at he
  · rename_i h1
    simp only [Prod.mk.injEq] at h
    obtain ⟨rfl, rfl⟩ := h
    simp
    omega
theorem takeN_cut {n : Nat} {l : List UInt8} (h : l.length < n) : takeN n ⟨l, 0⟩ = ([], ⟨l, 20⟩) := by
  unfold takeN
  simp only
  rw [if_neg (by simp), if_pos h]
  rfl
end Go.Proofs.YtcnikobmepjgcaaNum
