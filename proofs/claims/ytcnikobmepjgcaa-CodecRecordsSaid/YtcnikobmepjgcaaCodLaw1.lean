/-
  What codecs do to bytes, plainly: what is written is read as itself, what is read is what would be written, no beginning of it is read.
-/
import Derived.Test.YtcnikobmepjgcaaCodec8
import Derived.Test.YtcnikobmepjgcaaRd2
namespace Go.Proofs.Ytcnikobmepjgcaa.Codec
open Go.Proofs.YtcnikobmepjgcaaBase Go.Proofs.YtcnikobmepjgcaaNum
set_option linter.unusedVariables false
set_option linter.unusedSimpArgs false

structure Good {α : Type} (c : Cod α) (ok : α → Prop) (bs : α → List UInt8) : Prop where
  put_ok : ∀ x o, ok x → c.put x ⟨o, 0⟩ = ⟨o ++ bs x, 0⟩
  put_no : ∀ x o, ¬ ok x → (c.put x ⟨o, 0⟩).err = 22
  put_err : ∀ x s, s.err ≠ 0 → (c.put x s).err = s.err
  get_err : ∀ s, s.err ≠ 0 → (c.get s).2 = s
  get_ok : ∀ x l, ok x → c.get ⟨bs x ++ l, 0⟩ = (x, ⟨l, 0⟩)
  get_is : ∀ l x s, c.get ⟨l, 0⟩ = (x, s) → s.err = 0 → ok x ∧ l = bs x ++ s.rest
  get_cut : ∀ x l, ok x → l <+: bs x → l.length < (bs x).length → (c.get ⟨l, 0⟩).2.err = 20
  pos : ∀ x, ok x → bs x ≠ []

theorem wfail_err {s : WS} (h : s.err ≠ 0) (e : Int) : s.fail e = s := by unfold WS.fail; rw [if_neg h]
theorem rfail_err {s : RS} (h : s.err ≠ 0) (e : Int) : s.fail e = s := by unfold RS.fail; rw [if_neg h]
theorem rfail_ne {s : RS} {e : Int} (he : e ≠ 0) : (s.fail e).err ≠ 0 := by unfold RS.fail; split <;> simp_all

def okN (x : Int) : Prop := 0 ≤ x ∧ x < 4611686018427387904
def bsN (x : Int) : List UInt8 := encN x.toNat
theorem numC_good : Good numC okN bsN where
  put_ok := by
    rintro x o ⟨h1, h2⟩
    simp only [numC]
    rw [if_neg (by omega)]
    rfl
  put_no := by
    intro x o h
    simp only [numC]
    unfold okN at h
    rw [if_pos (by omega)]
    rfl
  put_err := by
    intro x s h
    simp only [numC]
    split
    · rw [wfail_err h]
    · rfl
  get_err := by intro s h; simp only [numC]; rw [getN_err' h]
  get_ok := by
    rintro x l ⟨h1, h2⟩
    simp only [numC, bsN]
    rw [getN_enc _ _ (by omega)]
    simp only [Prod.mk.injEq, and_true]
    omega
  get_is := by
    intro l x s h he
    simp only [numC, Prod.mk.injEq] at h
    obtain ⟨h1, h2⟩ := h
    obtain ⟨n, s', hn⟩ : ∃ n s', getN ⟨l, 0⟩ = (n, s') := ⟨_, _, rfl⟩
    rw [hn] at h1 h2
    simp only at h1 h2
    subst h1 h2
    obtain ⟨h3, h4⟩ := getN_is hn he
    exact ⟨⟨by omega, by omega⟩, by simpa [bsN] using h4⟩
  get_cut := by
    rintro x l ⟨h1, h2⟩ hp hl
    simp only [numC]
    rw [getN_cut (n := x.toNat) (by omega) hp hl]
  pos := fun x _ => encN_ne _

/-! ### Counts -/
theorem countN_enc {m : Nat} (n : Nat) (l : List UInt8) (hn : n ≤ m) (hm : m ≤ 1048576) : countN m ⟨encN n ++ l, 0⟩ = (n, ⟨l, 0⟩) := by
  unfold countN
  rw [getN_enc n l (by omega)]
  have e : ¬ (m : Int) < (n : Int) := by omega
  simp only
  rw [if_neg e]
  rfl
theorem countN_over {m : Nat} (n : Nat) (l : List UInt8) (hn : m < n) (hn2 : n < 4611686018427387904) : countN m ⟨encN n ++ l, 0⟩ = (0, ⟨l, 22⟩) := by
  unfold countN
  rw [getN_enc n l hn2]
  have e : (m : Int) < (n : Int) := by omega
  simp only
  rw [if_pos e]
  rfl
theorem countN_is {m n : Nat} {l : List UInt8} {s : RS} (h : countN m ⟨l, 0⟩ = (n, s)) (he : s.err = 0) : n ≤ m ∧ l = encN n ++ s.rest := by
  obtain ⟨k, s', hk⟩ : ∃ n s', getN ⟨l, 0⟩ = (n, s') := ⟨_, _, rfl⟩
  unfold countN at h
  rw [hk] at h
  simp only [Prod.mk.injEq] at h
  obtain ⟨h1, h2⟩ := h
  by_cases e : (m : Int) < (k : Int)
  · rw [if_pos e] at h2
    subst h2
    exact (rfail_ne (by decide) he).elim
  · rw [if_neg e] at h1 h2
    subst h2
    rw [if_neg (by simpa using he)] at h1
    subst h1
    exact ⟨by omega, (getN_is hk he).2⟩
theorem countN_cut {m n : Nat} {l : List UInt8} (hn : n < 4611686018427387904) (hp : l <+: encN n) (hl : l.length < (encN n).length) : countN m ⟨l, 0⟩ = (0, ⟨l, 20⟩) := by
  unfold countN
  rw [getN_cut hn hp hl]
  have e : ¬ (m : Int) < ((0 : Nat) : Int) := by omega
  simp only
  rw [if_neg e]
  rfl
/-- A beginning of two parts is a beginning of the first one, or it and a beginning of the second one. -/
theorem prefix_split {a b l : List UInt8} (hp : l <+: a ++ b) (hl : l.length < (a ++ b).length) : (l <+: a ∧ l.length < a.length) ∨ ∃ r, l = a ++ r ∧ r <+: b ∧ r.length < b.length := by
  rcases Nat.lt_or_ge l.length a.length with h | h
  · exact .inl ⟨List.prefix_of_prefix_length_le hp (List.prefix_append a b) (by omega), h⟩
  · right
    have h2 : a <+: l := List.prefix_of_prefix_length_le (List.prefix_append a b) hp h
    obtain ⟨r, rfl⟩ := h2
    refine ⟨r, rfl, ?_, by simp at hl; omega⟩
    obtain ⟨t, ht⟩ := hp
    rw [List.append_assoc] at ht
    exact ⟨t, List.append_cancel_left ht⟩

/-! ### Texts -/
def okT (m : Nat) (x : ByteArray) : Prop := x.size ≤ m
def bsT (x : ByteArray) : List UInt8 := encN x.size ++ x.data.toList
theorem textC_good {m : Nat} (hm : m ≤ 1048576) : Good (textC m) (okT m) bsT where
  put_ok := by
    intro x o h
    simp only [textC]
    unfold okT at h
    rw [if_neg (by omega)]
    simp [putN, bsT]
  put_no := by
    intro x o h
    simp only [textC]
    unfold okT at h
    rw [if_pos (by omega)]
    rfl
  put_err := by
    intro x s h
    simp only [textC]
    split
    · rw [wfail_err h]
    · rfl
  get_err := by
    intro s h
    simp only [textC]
    rw [countN_err (by omega) h, takeN_err h]
  get_ok := by
    intro x l h
    simp only [textC, bsT]
    rw [List.append_assoc, countN_enc _ _ h hm]
    simp only
    rw [show x.size = x.data.toList.length from (len_data x).symm, takeN_app]
  get_is := by
    intro l x s h he
    simp only [textC, Prod.mk.injEq] at h
    obtain ⟨h1, h2⟩ := h
    obtain ⟨n, s1, hn⟩ : ∃ n s', countN m ⟨l, 0⟩ = (n, s') := ⟨_, _, rfl⟩
    rw [hn] at h1 h2
    simp only at h1 h2
    by_cases he1 : s1.err = 0
    · obtain ⟨h3, h4⟩ := countN_is hn he1
      have e : s1 = ⟨s1.rest, 0⟩ := by cases s1; simp only at he1; rw [he1]
      obtain ⟨a, s2, ha⟩ : ∃ a s', takeN n s1 = (a, s') := ⟨_, _, rfl⟩
      rw [ha] at h1 h2
      simp only at h1 h2
      subst h1 h2
      rw [e] at ha
      obtain ⟨h5, h6⟩ := takeN_is ha he
      have hs : (ByteArray.mk a.toArray).size = n := by rw [size_mk, h5]
      refine ⟨by unfold okT; rw [hs]; exact h3, ?_⟩
      unfold bsT
      rw [hs, toList_mk, List.append_assoc, ← h6]
      exact h4
    · rw [takeN_err he1] at h2
      subst h2
      exact (he1 he).elim
  get_cut := by
    intro x l h hp hl
    simp only [textC]
    rcases prefix_split hp hl with ⟨h1, h2⟩ | ⟨r, rfl, h1, h2⟩
    · rw [countN_cut (by unfold okT at h; omega) h1 h2]
      rw [takeN_err (by simp)]
    · rw [countN_enc _ _ h hm]
      simp only
      rw [takeN_cut (by rw [len_data] at h2; exact h2)]
  pos := fun x _ => by simp [bsT, encN_ne]

/-! ### Encode and Decode -/
section
variable {α : Type} {c : Cod α} {ok : α → Prop} {bs : α → List UInt8}
theorem enc_ok (g : Good c ok bs) {x : α} (h : ok x) : encR c x = (⟨(bs x).toArray⟩, 0) := by
  unfold encR
  simp only
  rw [g.put_ok x [] h]
  simp
theorem enc_no (g : Good c ok bs) {x : α} (h : ¬ ok x) : encR c x = (⟨#[]⟩, 22) := by
  unfold encR
  simp only
  rw [g.put_no x [] h]
  simp
theorem dec_ok (g : Good c ok bs) {x : α} {d : ByteArray} (h : ok x) (hd : d.data.toList = bs x) : decE c d = 0 ∧ (c.get ⟨d.data.toList, 0⟩).1 = x := by
  have h1 := g.get_ok x [] h
  rw [List.append_nil] at h1
  unfold decE
  rw [hd, h1]
  simp
theorem dec_is (g : Good c ok bs) {d : ByteArray} (h : decE c d = 0) : ok (c.get ⟨d.data.toList, 0⟩).1 ∧ d.data.toList = bs (c.get ⟨d.data.toList, 0⟩).1 := by
  unfold decE at h
  simp only at h
  by_cases h1 : (c.get ⟨d.data.toList, 0⟩).2.rest = []
  · rw [if_pos h1] at h
    obtain ⟨h2, h3⟩ := g.get_is _ _ _ rfl h
    rw [h1, List.append_nil] at h3
    exact ⟨h2, h3⟩
  · rw [if_neg h1] at h
    exact (rfail_ne (by decide) h).elim
theorem dec_more (g : Good c ok bs) {x : α} {d : ByteArray} {l : List UInt8} (h : ok x) (hl : l ≠ []) (hd : d.data.toList = bs x ++ l) : decE c d = 21 := by
  unfold decE
  rw [hd, g.get_ok x l h]
  simp only
  rw [if_neg hl]
  rfl
theorem dec_cut (g : Good c ok bs) {x : α} {d : ByteArray} (h : ok x) (hp : d.data.toList <+: bs x) (hl : d.data.toList.length < (bs x).length) : decE c d = 20 := by
  have h1 := g.get_cut x _ h hp hl
  unfold decE
  simp only
  split
  · exact h1
  · rw [rfail_err (by rw [h1]; decide)]; exact h1
theorem decE_fail {d : ByteArray} (h : (c.get ⟨d.data.toList, 0⟩).2.err ≠ 0) : decE c d = (c.get ⟨d.data.toList, 0⟩).2.err := by
  unfold decE
  simp only
  split
  · rfl
  · rw [rfail_err h]
end
end Go.Proofs.Ytcnikobmepjgcaa.Codec
