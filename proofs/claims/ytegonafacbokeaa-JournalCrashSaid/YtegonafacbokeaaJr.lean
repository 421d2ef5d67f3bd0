/-
  A journal's records as bytes, plainly: framed, read one by one. No program's text.
-/
import Derived.Test.YtegonafacbokeaaRd2
namespace Go.Proofs.YtegonafacbokeaaNum
set_option linter.unusedVariables false
set_option linter.unusedSimpArgs false

/-- A record's bytes. -/
def frameS (t : List UInt8) : List UInt8 := encN t.length ++ t ++ [46]
/-- The record that the bytes begin with, and how many bytes it has. -/
def nextS (l : List UInt8) : Option (List UInt8 × Nat) :=
  let r := getN ⟨l, 0⟩
  if r.2.err ≠ 0 then none
  else if 1048576 < r.1 then none
  else if r.2.rest.length < r.1 + 1 then none
  else if r.2.rest[r.1]? = some 46 then some (r.2.rest.take r.1, l.length - r.2.rest.length + r.1 + 1)
  else none
def scanS : Nat → List UInt8 → List (List UInt8) × Nat
  | 0, _ => ([], 0)
  | f + 1, l => match nextS l with
    | none => ([], 0)
    | some (t, k) => (t :: (scanS f (l.drop k)).1, k + (scanS f (l.drop k)).2)
def scanL (l : List UInt8) : List (List UInt8) × Nat := scanS (l.length + 1) l

theorem frameS_length (t : List UInt8) : (frameS t).length = (encN t.length).length + t.length + 1 := by simp [frameS, Nat.add_assoc]
theorem nextS_frame (t l : List UInt8) (h : t.length ≤ 1048576) : nextS (frameS t ++ l) = some (t, (frameS t).length) := by
  have e : frameS t ++ l = encN t.length ++ (t ++ (46 :: l)) := by simp [frameS]
  unfold nextS
  rw [e, getN_enc _ _ (by omega)]
  simp only
  rw [if_neg (by simp), if_neg (by omega), if_neg (by simp), if_pos (by simp), frameS_length]
  simp
theorem nextS_is {l t : List UInt8} {k : Nat} (h : nextS l = some (t, k)) : l = frameS t ++ l.drop k ∧ k = (frameS t).length ∧ t.length ≤ 1048576 := by
  unfold nextS at h
  obtain ⟨n, s, hn⟩ : ∃ n s, getN ⟨l, 0⟩ = (n, s) := ⟨_, _, rfl⟩
  rw [hn] at h
  simp only at h
  split at h
  · cases h
  split at h
  · cases h
  split at h
  · cases h
  split at h
  · rename_i h1 h2 h3 h4
    simp only [Option.some.injEq, Prod.mk.injEq] at h
    obtain ⟨h5, h6⟩ := h
    have h7 := (getN_is hn (by simpa using h1)).2
    obtain ⟨r, hr⟩ : ∃ r, s.rest = r := ⟨_, rfl⟩
    rw [hr] at h3 h4 h5 h6 h7
    have hlt : n < r.length := by omega
    have h8 : r = t ++ 46 :: r.drop (n + 1) := by
      rw [← h5]
      have h9 : r[n] = 46 := by rw [List.getElem?_eq_getElem hlt] at h4; simpa using h4
      conv => lhs; rw [← List.take_append_drop n r]
      rw [List.drop_eq_getElem_cons hlt, h9]
    have htl : t.length = n := by rw [← h5, List.length_take]; omega
    have hk : k = (frameS t).length := by
      rw [frameS_length, htl, ← h6, h7, List.length_append]
      omega
    refine ⟨?_, hk, by omega⟩
    have h9 : l = frameS t ++ r.drop (n + 1) := by
      rw [h7]
      conv => lhs; rw [h8]
      simp [frameS, htl]
    have h10 : l.drop k = r.drop (n + 1) := by
      rw [hk]
      conv => lhs; rw [h9]
      rw [List.drop_left]
    rw [h10]
    exact h9
  · cases h
theorem frameS_pos (t : List UInt8) : 2 ≤ (frameS t).length := by rw [frameS_length]; have := encN_pos t.length; omega
/-- No beginning of a record is one. -/
theorem nextS_cut {t l : List UInt8} (ht : t.length ≤ 1048576) (hp : l <+: frameS t) (hl : l.length < (frameS t).length) : nextS l = none := by
  cases h : nextS l with
  | none => rfl
  | some r =>
    obtain ⟨u, k⟩ := r
    obtain ⟨h1, h2, h3⟩ := nextS_is h
    obtain ⟨q, hq⟩ := hp
    have h4 : nextS (l ++ q) = some (t, (frameS t).length) := by rw [hq]; simpa using nextS_frame t [] ht
    have h5 : nextS (l ++ q) = some (u, (frameS u).length) := by
      have := nextS_frame u (l.drop k ++ q) h3
      rw [← List.append_assoc, ← h1] at this
      exact this
    rw [h5] at h4
    simp only [Option.some.injEq, Prod.mk.injEq] at h4
    have h6 := congrArg List.length h1
    rw [List.length_append] at h6
    omega
theorem nextS_le {l t : List UInt8} {k : Nat} (h : nextS l = some (t, k)) : 2 ≤ k ∧ k ≤ l.length := by
  obtain ⟨h1, h2, h3⟩ := nextS_is h
  have h4 := congrArg List.length h1
  rw [List.length_append] at h4
  have := frameS_pos t
  omega
/-- The fuel is no matter. -/
theorem scanS_fuel : ∀ (f g : Nat) (l : List UInt8), l.length < f → l.length < g → scanS f l = scanS g l
  | 0, _, l, h, _ => by omega
  | _ + 1, 0, l, _, h => by omega
  | f + 1, g + 1, l, hf, hg => by
    simp only [scanS]
    cases h : nextS l with
    | none => rfl
    | some r =>
      obtain ⟨t, k⟩ := r
      obtain ⟨h1, h2⟩ := nextS_le h
      simp only
      rw [scanS_fuel f g (l.drop k) (by rw [List.length_drop]; omega) (by rw [List.length_drop]; omega)]
theorem scanL_none {l : List UInt8} (h : nextS l = none) : scanL l = ([], 0) := by unfold scanL; simp only [scanS]; rw [h]
theorem scanL_some {l t : List UInt8} {k : Nat} (h : nextS l = some (t, k)) : scanL l = (t :: (scanL (l.drop k)).1, k + (scanL (l.drop k)).2) := by
  obtain ⟨h1, h2⟩ := nextS_le h
  have e : scanL l = (t :: (scanS l.length (l.drop k)).1, k + (scanS l.length (l.drop k)).2) := by unfold scanL; simp only [scanS]; rw [h]
  rw [e]
  unfold scanL
  rw [scanS_fuel l.length ((l.drop k).length + 1) (l.drop k) (by rw [List.length_drop]; omega) (by omega)]
theorem scanL_le (l : List UInt8) : (scanL l).2 ≤ l.length := by
  have h : ∀ (n : Nat) (l : List UInt8), l.length ≤ n → (scanL l).2 ≤ l.length := by
    intro n
    induction n with
    | zero =>
      intro l hl
      cases h : nextS l with
      | none => rw [scanL_none h]; exact Nat.zero_le _
      | some r => have := nextS_le (t := r.1) (k := r.2) h; omega
    | succ n ih =>
      intro l hl
      cases h : nextS l with
      | none => rw [scanL_none h]; exact Nat.zero_le _
      | some r =>
        have h1 := nextS_le (t := r.1) (k := r.2) h
        rw [scanL_some (t := r.1) (k := r.2) h]
        have h2 := ih (l.drop r.2) (by rw [List.length_drop]; omega)
        rw [List.length_drop] at h2
        simp only
        omega
  exact h _ l (Nat.le_refl _)
/-- Records and what is no record behind them. -/
theorem scanL_frames : ∀ (ts : List (List UInt8)) (l : List UInt8), (∀ t ∈ ts, t.length ≤ 1048576) → nextS l = none → scanL (ts.flatMap frameS ++ l) = (ts, (ts.flatMap frameS).length)
  | [], l, _, hl => by simpa using scanL_none hl
  | t :: ts, l, h, hl => by
    have h1 := nextS_frame t (ts.flatMap frameS ++ l) (h t List.mem_cons_self)
    have h2 := scanL_frames ts l (fun u hu => h u (List.mem_cons_of_mem _ hu)) hl
    rw [List.flatMap_cons, List.append_assoc, scanL_some h1, List.drop_left, h2]
    simp
theorem nextS_nil : nextS [] = none := by
  unfold nextS
  have : getN ⟨[], 0⟩ = (0, ⟨[], 20⟩) := rfl
  rw [this]
  rfl
end Go.Proofs.YtegonafacbokeaaNum
