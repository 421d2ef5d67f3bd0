/-
  What codecs do to bytes, plainly: what is written is read as itself, what is read is what would be written, no beginning of it is read.
-/
import Derived.Test.YtcnikobmepjgcaaCodec11
import Derived.Test.YtcnikobmepjgcaaCodLaw1
import Derived.Test.YtcnikobmepjgcaaRd2
namespace Go.Proofs.Ytcnikobmepjgcaa.Codec
open Go.Proofs.YtcnikobmepjgcaaBase Go.Proofs.YtcnikobmepjgcaaNum
set_option linter.unusedVariables false
set_option linter.unusedSimpArgs false

def bsF (b : Bool) : List UInt8 := encN (if b then 1 else 0)
theorem flagC_good : Good flagC (fun _ => True) bsF where
  put_ok := fun x o _ => rfl
  put_no := fun x o h => (h trivial).elim
  put_err := fun x s h => rfl
  get_err := by
    intro s h
    simp only [flagC]
    rw [getN_err' h]
    rfl
  get_ok := by
    rintro x l _
    simp only [flagC, bsF]
    rw [getN_enc _ _ (by split <;> omega)]
    cases x <;> rfl
  get_is := by
    intro l x s h he
    simp only [flagC, Prod.mk.injEq] at h
    obtain ⟨h1, h2⟩ := h
    obtain ⟨n, s', hn⟩ : ∃ n s', getN ⟨l, 0⟩ = (n, s') := ⟨_, _, rfl⟩
    rw [hn] at h1 h2
    simp only at h1 h2
    by_cases hn1 : 1 < n
    · rw [if_pos hn1] at h2
      subst h2
      exact (rfail_ne (by decide) he).elim
    · rw [if_neg hn1] at h2
      subst h2
      obtain ⟨h3, h4⟩ := getN_is hn he
      refine ⟨trivial, ?_⟩
      have : n = 0 ∨ n = 1 := by omega
      rcases this with rfl | rfl
      · subst h1; exact h4
      · subst h1; exact h4
  get_cut := by
    rintro x l _ hp hl
    simp only [flagC]
    rw [getN_cut (n := if x then 1 else 0) (by split <;> omega) hp hl]
    rfl
  pos := fun x _ => encN_ne _

/-! ### Lists -/
def okL {α : Type} (ok : α → Prop) (m : Nat) (l : List α) : Prop := l.length ≤ m ∧ ∀ x ∈ l, ok x
def bsL {α : Type} (bs : α → List UInt8) (l : List α) : List UInt8 := encN l.length ++ l.flatMap bs
section
variable {α : Type} {c : Cod α} {ok : α → Prop} {bs : α → List UInt8}
theorem getL_err {n : Nat} {s : RS} (h : s.err ≠ 0) : getL c.get n s = ([], s) := by
  cases n with
  | zero => rfl
  | succ n => simp only [getL]; rw [if_pos h]
theorem puts_cons (x : α) (l : List α) (s : WS) : puts c (x :: l) s = puts c l (c.put x s) := rfl
theorem puts_err (g : Good c ok bs) : ∀ (l : List α) (s : WS), s.err ≠ 0 → (puts c l s).err = s.err
  | [], s, h => rfl
  | x :: l, s, h => by
    have h1 := g.put_err x s h
    rw [puts_cons, puts_err g l _ (by rw [h1]; exact h), h1]
theorem puts_ok (g : Good c ok bs) : ∀ (l : List α) (o : List UInt8), (∀ x ∈ l, ok x) → puts c l ⟨o, 0⟩ = ⟨o ++ l.flatMap bs, 0⟩
  | [], o, h => by simp [puts]
  | x :: l, o, h => by
    rw [puts_cons, g.put_ok x o (h x List.mem_cons_self), puts_ok g l _ (fun y hy => h y (List.mem_cons_of_mem _ hy))]
    simp
theorem puts_no (g : Good c ok bs) : ∀ (l : List α) (o : List UInt8), ¬ (∀ x ∈ l, ok x) → (puts c l ⟨o, 0⟩).err = 22
  | [], o, h => (h (fun x hx => by simp at hx)).elim
  | x :: l, o, h => by
    rw [puts_cons]
    by_cases hx : ok x
    · rw [g.put_ok x o hx]
      refine puts_no g l _ (fun hl => h (fun y hy => ?_))
      rcases List.mem_cons.1 hy with rfl | hy
      · exact hx
      · exact hl y hy
    · have h1 := g.put_no x o hx
      rw [puts_err g l _ (by rw [h1]; decide), h1]
theorem getL_ok (g : Good c ok bs) : ∀ (xs : List α) (l : List UInt8), (∀ x ∈ xs, ok x) → getL c.get xs.length ⟨xs.flatMap bs ++ l, 0⟩ = (xs, ⟨l, 0⟩)
  | [], l, h => by simp [getL]
  | x :: xs, l, h => by
    have h1 := g.get_ok x (xs.flatMap bs ++ l) (h x List.mem_cons_self)
    have h2 := getL_ok g xs l (fun y hy => h y (List.mem_cons_of_mem _ hy))
    simp only [List.length_cons, getL]
    rw [if_neg (by simp), List.flatMap_cons, List.append_assoc, h1, h2]
theorem getL_is (g : Good c ok bs) : ∀ (n : Nat) (l : List UInt8) (xs : List α) (s : RS), getL c.get n ⟨l, 0⟩ = (xs, s) → s.err = 0 → xs.length = n ∧ (∀ x ∈ xs, ok x) ∧ l = xs.flatMap bs ++ s.rest
  | 0, l, xs, s, h, he => by
    simp only [getL, Prod.mk.injEq] at h
    obtain ⟨rfl, rfl⟩ := h
    simp
  | n + 1, l, xs, s, h, he => by
    simp only [getL] at h
    rw [if_neg (by simp)] at h
    obtain ⟨x, s1, hx⟩ : ∃ x s', c.get ⟨l, 0⟩ = (x, s') := ⟨_, _, rfl⟩
    rw [hx] at h
    simp only [Prod.mk.injEq] at h
    obtain ⟨h1, h2⟩ := h
    by_cases he1 : s1.err = 0
    · obtain ⟨h3, h4⟩ := g.get_is l x s1 hx he1
      have e : s1 = ⟨s1.rest, 0⟩ := by cases s1; simp only at he1; rw [he1]
      obtain ⟨ys, s2, hy⟩ : ∃ ys s', getL c.get n s1 = (ys, s') := ⟨_, _, rfl⟩
      rw [hy] at h1 h2
      simp only at h1 h2
      subst h1 h2
      rw [e] at hy
      obtain ⟨h5, h6, h7⟩ := getL_is g n _ ys s2 hy he
      refine ⟨by simp [h5], ?_, ?_⟩
      · intro y hy
        rcases List.mem_cons.1 hy with rfl | hy
        · exact h3
        · exact h6 y hy
      · rw [List.flatMap_cons, List.append_assoc, ← h7]; exact h4
    · rw [getL_err he1] at h2
      subst h2
      exact (he1 he).elim
theorem getL_cut (g : Good c ok bs) : ∀ (xs : List α) (l : List UInt8), (∀ x ∈ xs, ok x) → l <+: xs.flatMap bs → l.length < (xs.flatMap bs).length → (getL c.get xs.length ⟨l, 0⟩).2.err = 20
  | [], l, h, hp, hl => by simp at hl
  | x :: xs, l, h, hp, hl => by
    simp only [List.length_cons, getL]
    rw [if_neg (by simp)]
    rw [List.flatMap_cons] at hp hl
    rcases prefix_split hp hl with ⟨h1, h2⟩ | ⟨r, rfl, h1, h2⟩
    · have h3 := g.get_cut x l (h x List.mem_cons_self) h1 h2
      show (getL c.get xs.length (c.get ⟨l, 0⟩).2).2.err = 20
      rw [getL_err (by rw [h3]; decide)]
      exact h3
    · show (getL c.get xs.length (c.get ⟨bs x ++ r, 0⟩).2).2.err = 20
      rw [g.get_ok x r (h x List.mem_cons_self)]
      exact getL_cut g xs r (fun y hy => h y (List.mem_cons_of_mem _ hy)) h1 h2
theorem listC_good (g : Good c ok bs) {m : Nat} (hm : m ≤ 1048576) : Good (listC c m) (okL ok m) (bsL bs) where
  put_ok := by
    rintro x o ⟨h1, h2⟩
    simp only [listC]
    rw [if_neg (by omega), show putN x.length ⟨o, 0⟩ = ⟨o ++ encN x.length, 0⟩ from rfl, puts_ok g x _ h2]
    simp [bsL]
  put_no := by
    intro x o h
    simp only [listC]
    by_cases h1 : m < x.length
    · rw [if_pos h1]; rfl
    · rw [if_neg h1]
      exact puts_no g x _ (fun h2 => h ⟨by omega, h2⟩)
  put_err := by
    intro x s h
    simp only [listC]
    split
    · rw [wfail_err h]
    · have : (putN x.length s).err = s.err := rfl
      rw [puts_err g x _ (by rw [this]; exact h), this]
  get_err := by
    intro s h
    simp only [listC]
    rw [countN_err (by omega) h]
    rfl
  get_ok := by
    rintro x l ⟨h1, h2⟩
    simp only [listC, bsL]
    rw [List.append_assoc, countN_enc _ _ h1 hm]
    exact getL_ok g x l h2
  get_is := by
    intro l x s h he
    simp only [listC] at h
    obtain ⟨n, s1, hn⟩ : ∃ n s', countN m ⟨l, 0⟩ = (n, s') := ⟨_, _, rfl⟩
    rw [hn] at h
    simp only at h
    by_cases he1 : s1.err = 0
    · obtain ⟨h3, h4⟩ := countN_is hn he1
      have e : s1 = ⟨s1.rest, 0⟩ := by cases s1; simp only at he1; rw [he1]
      rw [e] at h
      obtain ⟨h5, h6, h7⟩ := getL_is g n _ x s h he
      refine ⟨⟨by omega, h6⟩, ?_⟩
      unfold bsL
      rw [h5, List.append_assoc, ← h7]
      exact h4
    · rw [getL_err he1] at h
      simp only [Prod.mk.injEq] at h
      obtain ⟨_, rfl⟩ := h
      exact (he1 he).elim
  get_cut := by
    rintro x l ⟨h1, h2⟩ hp hl
    simp only [listC]
    rcases prefix_split hp hl with ⟨h3, h4⟩ | ⟨r, rfl, h3, h4⟩
    · rw [countN_cut (by omega) h3 h4]
      rfl
    · rw [countN_enc _ _ h1 hm]
      exact getL_cut g x r h2 h3 h4
  pos := fun x _ => by simp [bsL, encN_ne]
end

end Go.Proofs.Ytcnikobmepjgcaa.Codec
