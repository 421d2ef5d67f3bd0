/-
  CodecReads walked.
-/
import Derived.Test.YtcnikobmepjgcaaRef3
import Derived.Test.YtcnikobmepjgcaaCodBack
import Derived.Deep.DeepCutAuto
import Derived.Deep.CutRange
namespace Go.Proofs.Ytcnikobmepjgcaa.Codec
open Go.RowKit Go.Proofs.YtcnikobmepjgcaaBase Go.Proofs.YtcnikobmepjgcaaLex2 Go.Proofs.YtcnikobmepjgcaaNum
set_option linter.unusedVariables false
set_option linter.unusedSimpArgs false

/-- What a number is, or that it is none, and what the reference says of it. -/
inductive NumSays (d : ByteArray) : Int → Int → Nat → Nat → Int → Prop
  | err {e : Int} (h : e ≠ 0) : NumSays d 0 e 0 0 e
  | more {m b : Nat} (h : b < d.size) : NumSays d 0 21 m b 0
  | all {m : Nat} : NumSays d m 0 m d.size 0
/-- What a flag is. -/
inductive FlagSays (d : ByteArray) : Bool → Int → Nat → Nat → Int → Prop
  | err {e : Int} (h : e ≠ 0) : FlagSays d false e 0 0 e
  | big {m b : Nat} (h : 1 < m) : FlagSays d false 21 m b 0
  | more {m b : Nat} (h : b < d.size) (h1 : ¬ 1 < m) : FlagSays d false 21 m b 0
  | all {m : Nat} (h1 : ¬ 1 < m) : FlagSays d (m == 1) 0 m d.size 0
inductive TextSays (d : ByteArray) : ByteArray → Int → ByteArray → Nat → Int → Prop
  | err {e : Int} {t : ByteArray} {b : Nat} (h : e ≠ 0) : TextSays d ⟨#[]⟩ e ⟨#[]⟩ b e
  | more {t : ByteArray} {b : Nat} (h : b < d.size) : TextSays d ⟨#[]⟩ 21 t b 0
  | all {t : ByteArray} : TextSays d t 0 t d.size 0
theorem getN_zero {l : List UInt8} {n : Nat} {s : RS} (h : getN ⟨l, 0⟩ = (n, s)) (he : s.err ≠ 0) : n = 0 := by
  unfold getN at h
  simp only at h
  rw [if_neg (by simp)] at h
  (repeat' split at h) <;> simp only [Prod.mk.injEq] at h <;> obtain ⟨h3, h4⟩ := h <;> first | exact h3.symm | (subst h4; simp at he)
theorem num_says (d : ByteArray) : ∃ m b f, refGet d 0 = (m, b, f) ∧ NumSays d (if decE numC d = 0 then (numC.get ⟨d.data.toList, 0⟩).1 else 0) (decE numC d) m b f ∧
    FlagSays d (if decE flagC d = 0 then (flagC.get ⟨d.data.toList, 0⟩).1 else false) (decE flagC d) m b f := by
  obtain ⟨n, s, hn⟩ : ∃ n s, getN ⟨d.data.toList, 0⟩ = (n, s) := ⟨_, _, rfl⟩
  have hn0 : getN ⟨d.data.toList.drop 0, 0⟩ = (n, s) := hn
  have gN : numC.get ⟨d.data.toList, 0⟩ = ((n : Int), s) := by simp only [numC, hn]
  have gF : flagC.get ⟨d.data.toList, 0⟩ = (n == 1, if 1 < n then s.fail 21 else s) := by simp only [flagC, hn]
  by_cases he : s.err = 0
  · obtain ⟨b, _, hb, hg, hs⟩ := refGet_ok (Nat.zero_le _) hn0 he
    refine ⟨n, b, 0, hg, ?_, ?_⟩
    · by_cases hbd : b = d.size
      · have hr : s = ⟨[], 0⟩ := by rw [hs, hbd, List.drop_eq_nil_of_le (by rw [len_data]; exact Nat.le_refl _)]
        have e0 : decE numC d = 0 := by unfold decE; rw [gN, hr]; rfl
        rw [e0, if_pos rfl, gN, hbd]
        exact .all
      · have hne : s.rest ≠ [] := fun h => by
          have := congrArg List.length h
          rw [hs] at this
          simp only [List.length_drop, len_data, List.length_nil] at this
          omega
        have e0 : decE numC d = 21 := by
          unfold decE
          rw [gN]
          simp only
          rw [if_neg hne]
          unfold RS.fail
          rw [if_pos he]
        rw [e0, if_neg (by decide)]
        exact .more (by omega)
    · by_cases h1 : 1 < n
      · have e0 : decE flagC d = 21 := by
          have hf : (s.fail 21).err = 21 := by unfold RS.fail; rw [if_pos he]
          have e1 : (flagC.get ⟨d.data.toList, 0⟩).2 = s.fail 21 := by rw [gF]; simp only; rw [if_pos h1]
          rw [decE_fail (by rw [e1, hf]; decide), e1, hf]
        rw [e0, if_neg (by decide)]
        exact .big h1
      · rw [if_neg h1] at gF
        by_cases hbd : b = d.size
        · have hr : s = ⟨[], 0⟩ := by rw [hs, hbd, List.drop_eq_nil_of_le (by rw [len_data]; exact Nat.le_refl _)]
          have e0 : decE flagC d = 0 := by unfold decE; rw [gF, hr]; rfl
          rw [e0, if_pos rfl, gF, hbd]
          exact .all h1
        · have hne : s.rest ≠ [] := fun h => by
            have := congrArg List.length h
            rw [hs] at this
            simp only [List.length_drop, len_data, List.length_nil] at this
            omega
          have e0 : decE flagC d = 21 := by
            unfold decE
            rw [gF]
            simp only
            rw [if_neg hne]
            unfold RS.fail
            rw [if_pos he]
          rw [e0, if_neg (by decide)]
          exact .more (by omega) h1
  · have hz := getN_zero hn he
    subst hz
    refine ⟨0, 0, s.err, refGet_err hn0 he, ?_, ?_⟩
    · have e0 : decE numC d = s.err := by rw [decE_fail (by rw [gN]; exact he), gN]
      rw [e0, if_neg he]
      exact .err he
    · have e1 : (flagC.get ⟨d.data.toList, 0⟩).2 = s := by rw [gF]; rfl
      have e0 : decE flagC d = s.err := by rw [decE_fail (by rw [e1]; exact he), e1]
      rw [e0, if_neg he]
      exact .err he
theorem textC_zero {m : Nat} {l : List UInt8} (he : ((textC m).get ⟨l, 0⟩).2.err ≠ 0) : ((textC m).get ⟨l, 0⟩).1 = ⟨#[]⟩ := by
  simp only [textC] at he ⊢
  generalize countN (m : Int) ⟨l, 0⟩ = r at *
  unfold takeN at *
  by_cases h1 : r.2.err ≠ 0
  · rw [if_pos h1]
  · rw [if_neg h1] at he ⊢
    split
    · rfl
    · rename_i h2
      rw [if_neg h2] at he
      exact (he (by simpa using h1)).elim
theorem text_says (m : Int) (d : ByteArray) : ∃ t b f, refT (bnd m) d 0 = (t, b, f) ∧ TextSays d (if decE (textC (bnd m)) d = 0 then ((textC (bnd m)).get ⟨d.data.toList, 0⟩).1 else ⟨#[]⟩) (decE (textC (bnd m)) d) t b f := by
  obtain ⟨x, s, hx⟩ : ∃ x s, (textC (bnd m)).get ⟨d.data.toList, 0⟩ = (x, s) := ⟨_, _, rfl⟩
  have hx0 : (textC (bnd m)).get ⟨d.data.toList.drop 0, 0⟩ = (x, s) := hx
  by_cases he : s.err = 0
  · obtain ⟨b, _, hb, hsz, hs⟩ := good_suffix (textC_good (bnd_le m)) (Nat.zero_le _) hx0 he
    refine ⟨x, b, 0, by unfold refT; simp only [hx0, he, if_true, hsz], ?_⟩
    by_cases hbd : b = d.size
    · have hr : s = ⟨[], 0⟩ := by rw [hs, hbd, List.drop_eq_nil_of_le (by rw [len_data]; exact Nat.le_refl _)]
      have e0 : decE (textC (bnd m)) d = 0 := by unfold decE; rw [hx, hr]; rfl
      rw [e0, if_pos rfl, hx, hbd]
      exact .all
    · have hne : s.rest ≠ [] := fun h => by
        have := congrArg List.length h
        rw [hs] at this
        simp only [List.length_drop, len_data, List.length_nil] at this
        omega
      have e0 : decE (textC (bnd m)) d = 21 := by
        unfold decE
        rw [hx]
        simp only
        rw [if_neg hne]
        unfold RS.fail
        rw [if_pos he]
      rw [e0, if_neg (by decide)]
      exact .more (by omega)
  · have hz := textC_zero (m := bnd m) (l := d.data.toList) (by rw [hx]; exact he)
    rw [hx] at hz
    simp only at hz
    subst hz
    have e0 : decE (textC (bnd m)) d = s.err := by rw [decE_fail (by rw [hx]; exact he), hx]
    refine ⟨⟨#[]⟩, 0, s.err, by unfold refT; simp only [hx0, he, if_false], ?_⟩
    rw [e0, if_neg he]
    exact .err (t := ⟨#[]⟩) he

/-- Decode's two answers in one. -/
theorem dec_one {r : Ending} {E x : Int} {w' : World} {G : Nat → Prop} (h : (E ≠ 0 ∧ r = .returned (.tuple #[.int .i64 0, .int .i64 E])) ∨ (E = 0 ∧ ∃ v, r = .returned (.tuple #[v, .int .i64 0]) ∧ numC.rep G w' x v)) :
    r = .returned (.tuple #[.int .i64 (if E = 0 then x else 0), .int .i64 E]) := by
  rcases h with ⟨h1, h2⟩ | ⟨h1, v, h2, h3⟩
  · rw [if_neg h1]; exact h2
  · subst h1
    rw [if_pos rfl]
    obtain rfl := num_rep h3
    exact h2
theorem dec_oneF {r : Ending} {E : Int} {x : Bool} {w' : World} {G : Nat → Prop} (h : (E ≠ 0 ∧ r = .returned (.tuple #[.bool false, .int .i64 E])) ∨ (E = 0 ∧ ∃ v, r = .returned (.tuple #[v, .int .i64 0]) ∧ flagC.rep G w' x v)) :
    r = .returned (.tuple #[.bool (if E = 0 then x else false), .int .i64 E]) := by
  rcases h with ⟨h1, h2⟩ | ⟨h1, v, h2, h3⟩
  · rw [if_neg h1]; exact h2
  · subst h1
    rw [if_pos rfl]
    have h4 : v = .bool x := h3
    subst h4
    exact h2
theorem dec_oneT {m : Nat} {r : Ending} {E : Int} {x : ByteArray} {w' : World} {G : Nat → Prop} (h : (E ≠ 0 ∧ r = .returned (.tuple #[.string ⟨#[]⟩, .int .i64 E])) ∨ (E = 0 ∧ ∃ v, r = .returned (.tuple #[v, .int .i64 0]) ∧ (textC m).rep G w' x v)) :
    r = .returned (.tuple #[.string (if E = 0 then x else ⟨#[]⟩), .int .i64 E]) := by
  rcases h with ⟨h1, h2⟩ | ⟨h1, v, h2, h3⟩
  · rw [if_neg h1]; exact h2
  · subst h1
    rw [if_pos rfl]
    obtain rfl := text_rep h3
    exact h2
def orNil {α : Type} (E : Int) (l : List α) : List α := if E = 0 then l else []
theorem dec_oneL {α : Type} {c : Cod α} {f : α → Value} (hf : ∀ G w x u, c.rep G w x u → u = f x) {r : Ending} {E : Int} {l : List α} {w' : World} {G : Nat → Prop} (h : (E ≠ 0 ∧ r = .returned (.tuple #[.slice none 0 0, .int .i64 E])) ∨ (E = 0 ∧ ∃ v, r = .returned (.tuple #[v, .int .i64 0]) ∧ RowRep c G w' l v)) :
    ∃ A k, r = .returned (.tuple #[.slice A (orNil E l).length k, .int .i64 E]) ∧ RowIn w' A (orNil E l).length ((orNil E l).map f) := by
  rcases h with ⟨h1, h2⟩ | ⟨h1, v, h2, h3⟩
  · unfold orNil
    rw [if_neg h1]
    exact ⟨none, 0, h2, rfl, Nat.zero_le _, fun h => absurd h (Nat.lt_irrefl 0)⟩
  · subst h1
    obtain ⟨A, k, rfl, hr⟩ := row_of_rep hf h3
    unfold orNil
    rw [if_pos rfl]
    exact ⟨A, k, h2, hr⟩
theorem ref_oneL {α : Type} {L : Cod (List α)} {f : α → Value} {d : ByteArray} {w w' : World} {r : Ending} (h : ListRes L f d w r w') :
    Kept w w' (fun _ => False) ∧ ∃ A k, r = .returned (.tuple #[.slice A (orNil (decE L d) (L.get ⟨d.data.toList, 0⟩).1).length k, .int .i64 (decE L d)]) ∧ RowIn w' A (orNil (decE L d) (L.get ⟨d.data.toList, 0⟩).1).length ((orNil (decE L d) (L.get ⟨d.data.toList, 0⟩).1).map f) := by
  obtain ⟨hk, h⟩ := h
  refine ⟨hk, ?_⟩
  rcases h with ⟨h1, h2⟩ | ⟨h1, A, k, h2, h3⟩
  · unfold orNil
    rw [if_neg h1]
    exact ⟨none, 0, h2, rfl, Nat.zero_le _, fun h => absurd h (Nat.lt_irrefl 0)⟩
  · rw [h1]
    unfold orNil
    rw [if_pos rfl]
    exact ⟨A, k, h2, h3⟩
end Go.Proofs.Ytcnikobmepjgcaa.Codec
