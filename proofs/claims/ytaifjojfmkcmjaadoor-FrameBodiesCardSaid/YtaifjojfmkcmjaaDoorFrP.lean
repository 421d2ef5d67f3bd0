/-
  What was made, plainly: terms that are there, lists, hidden texts.
-/
import Derived.Test.YtaifjojfmkcmjaaDoorFr3
import Derived.Test.YtaifjojfmkcmjaaDoorSt1
namespace Go.Proofs.YtaifjojfmkcmjaaDoor.Term
open Go.Proofs.YtaifjojfmkcmjaaDoor.Dec
set_option linter.unusedVariables false
set_option linter.unusedSimpArgs false

/-- The term t is made so. -/
def Is (s : TS) (t : Int) (n : Node) : Prop := knownB s.nodes t = true ∧ getN s.nodes t = n
section
variable {s s' s2 : TS} {t t' : Int} {n n' : Node}
theorem Is.ext (h : Is s t n) (he : s.nodes <+: s'.nodes) : Is s' t n := by
  obtain ⟨l, hl⟩ := he
  unfold Is
  rw [← hl]
  exact ⟨knownB_append h.1, by rw [getN_append h.1]; exact h.2⟩
theorem Is.at_ (h : Is s t n) : s.nodes[t.toNat - 1]? = some n := by rw [← h.2]; exact getN_at h.1
theorem Is.uniq (hs : TOk s) (h : Is s t n) (h' : Is s t' n) : t = t' := by
  have h1 := h.at_
  have h2 := h'.at_
  have k1 := knownB_iff.1 h.1
  have k2 := knownB_iff.1 h'.1
  have := (List.getElem?_inj (List.getElem?_eq_some_iff.1 h1).1 hs.nd).1 (h1.trans h2.symm)
  omega
theorem Is.same (h : Is s t n) (h' : Is s t n') : n = n' := h.2.symm.trans h'.2
theorem Is.iff (hs : TOk s) (h : Is s t n) (h' : Is s t' n') : t = t' ↔ n = n' :=
  ⟨fun e => by subst e; exact h.same h', fun e => by subst e; exact h.uniq hs h'⟩
end
def Grow (s s' : TS) (k : Nat) : Prop := s.nodes <+: s'.nodes ∧ s'.nodes.length ≤ s.nodes.length + k ∧ TOk s'
theorem Grow.refl {s : TS} (h : TOk s) : Grow s s 0 := ⟨List.prefix_refl _, Nat.le_refl _, h⟩
theorem Grow.trans {s s1 s2 : TS} {i j : Nat} (h : Grow s s1 i) (h2 : Grow s1 s2 j) : Grow s s2 (i + j) := ⟨h.1.trans h2.1, by have := h.2.1; have := h2.2.1; omega, h2.2.2⟩
theorem Grow.mono {s s1 : TS} {i j : Nat} (h : Grow s s1 i) (hj : i ≤ j) : Grow s s1 j := ⟨h.1, by have := h.2.1; omega, h.2.2⟩
theorem known_ext {s s' : TS} {t : Int} (h : knownB s.nodes t = true) (he : s.nodes <+: s'.nodes) : knownB s'.nodes t = true := by
  obtain ⟨l, hl⟩ := he
  rw [← hl]
  exact knownB_append h
theorem put_is {s : TS} {n : Node} (h : TOk s) (hr : Right s.nodes n) (hl : s.nodes.length < 262144) : Is (put s n).2 (put s n).1 n ∧ Grow s (put s n).2 1 := by
  have h0 : (mk s n).1.1 ≠ 0 ∧ (mk s n).2.nodes.length ≤ s.nodes.length + 1 := by
    unfold mk
    by_cases h1 : idx s.nodes n ≠ 0
    · rw [if_pos h1]
      exact ⟨h1, Nat.le_succ _⟩
    · rw [if_neg h1, if_neg (show ¬ ¬ Right s.nodes n from fun h => h hr), if_neg (show ¬ 262144 ≤ s.nodes.length by omega)]
      exact ⟨by simp, by simp⟩
  obtain ⟨h1, h2⟩ := mk_there h n h0.1
  refine ⟨?_, mk_prefix s n, h0.2, mk_ok h n⟩
  have hi := (List.getElem?_eq_some_iff.1 h1).1
  have kn : knownB (mk s n).2.nodes ((mk s n).1.1 : Int) = true := by rw [knownB_iff]; have := h0.1; omega
  refine ⟨kn, ?_⟩
  have := getN_at kn
  rw [show (((mk s n).1.1 : Int)).toNat = (mk s n).1.1 by omega, h1] at this
  exact (Option.some.inj this).symm
theorem right_text {l : List Node} {x : ByteArray} (h : x.size ≤ 1024) : Right l (textN x) := by
  unfold Right
  rw [if_neg (show ¬ (textN x).kind = 1 by simp [textN])]
  refine ⟨?_, fun _ => rfl, fun _ => rfl, fun h => absurd h (show ¬ 1 ≤ arity 2 by decide), fun h => absurd h (show ¬ arity 2 = 2 by decide), fun h => absurd h (show ¬ ((2 : Int) = 8) by decide)⟩
  show (x.size : Int) ≤ labelMax 2
  have e : labelMax 2 = 1024 := by decide
  omega
theorem right_pair {l : List Node} {a b : Int} (ha : knownB l a = true) (hb : knownB l b = true) : Right l (pairN a b) := by
  unfold Right
  rw [if_neg (show ¬ (pairN a b).kind = 1 by simp [pairN])]
  exact ⟨show ((ByteArray.mk #[]).size : Int) ≤ labelMax 3 by decide, fun h => absurd h (show ¬ arity 3 < 1 by decide), fun h => absurd h (show ¬ arity 3 < 2 by decide), fun _ => ha, fun _ => hb, fun h => absurd h (show ¬ ((3 : Int) = 8) by decide)⟩
theorem right_seal {l : List Node} {a b : Int} (ha : knownB l a = true) (hb : knownB l b = true) : Right l (sealN a b) := by
  unfold Right
  rw [if_neg (show ¬ (sealN a b).kind = 1 by simp [sealN])]
  exact ⟨show ((ByteArray.mk #[]).size : Int) ≤ labelMax 7 by decide, fun h => absurd h (show ¬ arity 7 < 1 by decide), fun h => absurd h (show ¬ arity 7 < 2 by decide), fun _ => ha, fun _ => hb, fun h => absurd h (show ¬ ((7 : Int) = 8) by decide)⟩
theorem right_sign {l : List Node} {a b : Int} (ha : knownB l a = true) (hb : knownB l b = true) : Right l (signN a b) := by
  unfold Right
  rw [if_neg (show ¬ (signN a b).kind = 1 by simp [signN])]
  exact ⟨show ((ByteArray.mk #[]).size : Int) ≤ labelMax 9 by decide, fun h => absurd h (show ¬ arity 9 < 1 by decide), fun h => absurd h (show ¬ arity 9 < 2 by decide), fun _ => ha, fun _ => hb, fun h => absurd h (show ¬ ((9 : Int) = 8) by decide)⟩
theorem right_pub {l : List Node} {a : Int} (ha : knownB l a = true) : Right l (pubN a) := by
  unfold Right
  rw [if_neg (show ¬ (pubN a).kind = 1 by simp [pubN])]
  exact ⟨show ((ByteArray.mk #[]).size : Int) ≤ labelMax 6 by decide, fun h => absurd h (show ¬ arity 6 < 1 by decide), fun _ => rfl, fun _ => ha, fun h => absurd h (show ¬ arity 6 = 2 by decide), fun h => absurd h (show ¬ ((6 : Int) = 8) by decide)⟩
theorem right_hash {l : List Node} {x : ByteArray} {a : Int} (hx : x.size ≤ 32) (ha : knownB l a = true) : Right l (hashN x a) := by
  unfold Right
  rw [if_neg (show ¬ (hashN x a).kind = 1 by simp [hashN])]
  refine ⟨?_, fun h => absurd h (show ¬ arity 4 < 1 by decide), fun _ => rfl, fun _ => ha, fun h => absurd h (show ¬ arity 4 = 2 by decide), fun h => absurd h (show ¬ ((4 : Int) = 8) by decide)⟩
  show (x.size : Int) ≤ labelMax 4
  have e : labelMax 4 = 32 := by decide
  omega
theorem text_is {s : TS} {x : ByteArray} (h : TOk s) (hx : x.size ≤ 1024) (hl : s.nodes.length < 262144) : Is (put s (textN x)).2 (put s (textN x)).1 (textN x) ∧ Grow s (put s (textN x)).2 1 := put_is h (right_text hx) hl
theorem num_is {s : TS} {n : Int} (h : TOk s) (hn : I64 n) (hl : s.nodes.length < 262144) : Is (numG s n).2 (numG s n).1 (textN (numS n)) ∧ Grow s (numG s n).2 1 := text_is h (Nat.le_trans (small n hn) (by decide)) hl

/-- The term t is the list of these. -/
def IsList (s : TS) : Int → List Int → Prop
  | t, [] => Is s t empty
  | t, x :: l => ∃ u, Is s t (pairN x u) ∧ IsList s u l
theorem IsList.ext {s s' : TS} (he : s.nodes <+: s'.nodes) : ∀ {t : Int} {l : List Int}, IsList s t l → IsList s' t l
  | _, [], h => Is.ext h he
  | _, _ :: _, ⟨u, h1, h2⟩ => ⟨u, h1.ext he, IsList.ext he h2⟩
theorem IsList.known {s : TS} {t : Int} {l : List Int} (h : IsList s t l) : knownB s.nodes t = true := by
  cases l with
  | nil => exact h.1
  | cons x l => obtain ⟨u, h1, _⟩ := h; exact h1.1
theorem IsList.iff {s : TS} (hs : TOk s) : ∀ {t t' : Int} {l l' : List Int}, IsList s t l → IsList s t' l' → (t = t' ↔ l = l')
  | t, t', [], [], h, h' => by simp only [iff_true]; exact Is.uniq hs h h'
  | t, t', [], x :: l, h, ⟨u, h1, _⟩ => by
    constructor
    · intro e
      subst e
      have := congrArg Node.kind (Is.same h h1)
      exact absurd this (show ¬ ((2 : Int) = 3) by decide)
    · intro e; cases e
  | t, t', x :: l, [], ⟨u, h1, _⟩, h => by
    constructor
    · intro e
      subst e
      have := congrArg Node.kind (Is.same h h1)
      exact absurd this (show ¬ ((2 : Int) = 3) by decide)
    · intro e; cases e
  | t, t', x :: l, y :: l', ⟨u, h1, h2⟩, ⟨v, g1, g2⟩ => by
    have ih := IsList.iff hs h2 g2
    rw [Is.iff hs h1 g1]
    simp only [pairN, Node.mk.injEq, List.cons.injEq, true_and]
    rw [ih]
theorem listG_is : ∀ {l : List Int} {s : TS}, TOk s → l.all (knownB s.nodes) = true → s.nodes.length + l.length + 1 ≤ 262144 → IsList (listG s l).2 (listG s l).1 l ∧ Grow s (listG s l).2 (l.length + 1)
  | [], s, h, _, hl => text_is h (Nat.zero_le _) (by simp at hl; omega)
  | x :: l, s, h, hk, hl => by
    rw [List.all_cons, Bool.and_eq_true] at hk
    rw [List.length_cons] at hl
    obtain ⟨h1, h2⟩ := listG_is h hk.2 (by omega)
    have hx := known_ext hk.1 h2.1
    have h3 := put_is h2.2.2 (right_pair hx h1.known) (by have := h2.2.1; omega)
    refine ⟨⟨_, h3.1, h1.ext h3.2.1⟩, (h2.trans h3.2).mono (by simp)⟩
theorem list_is {l : List Int} {s : TS} (h : TOk s) (hk : l.all (knownB s.nodes) = true) (hl : s.nodes.length + l.length + 1 ≤ 262144) : IsList (listT s l).2 (listT s l).1 l ∧ Grow s (listT s l).2 (l.length + 1) := by
  unfold listT
  rw [if_pos hk]
  exact listG_is h hk hl
theorem items_is {s : TS} (h : TOk s) : ∀ {l : List Int} {t : Int}, IsList s t l → items s.nodes t = some l
  | [], t, h1 => by rw [items_eq h.built, if_pos (show knownB s.nodes t = true ∧ getN s.nodes t = empty from h1)]
  | x :: l, t, ⟨u, h1, h2⟩ => by
    rw [items_eq h.built, if_neg (fun hh => ?_), h1.2]
    · rw [if_neg (by simp [pairN])]
      have ih := items_is h h2
      simp only [pairN]
      rw [ih]
      rfl
    · have := hh.2.symm.trans h1.2
      have := congrArg Node.kind this
      exact absurd this (show ¬ ((2 : Int) = 3) by decide)

theorem hideH_is {s : TS} {data f g : Int} (h : TOk s) (hd : knownB s.nodes data = true) (hf : I64 f) (hg : I64 g) (hl : s.nodes.length + 6 ≤ 262144) :
    (∃ a b L, Is (hideH s data f g).2 (hideH s data f g).1 (sealN data L) ∧ IsList (hideH s data f g).2 L [a, b] ∧ Is (hideH s data f g).2 a (textN (numS f)) ∧ Is (hideH s data f g).2 b (textN (numS g))) ∧ Grow s (hideH s data f g).2 6 := by
  obtain ⟨a1, a2⟩ := num_is h hf (by omega)
  obtain ⟨b1, b2⟩ := num_is a2.2.2 hg (by have := a2.2.1; omega)
  have e2 := a2.trans b2
  obtain ⟨c1, c2⟩ := list_is (l := [((numG s f).1 : Int), ((numG (numG s f).2 g).1 : Int)]) e2.2.2 (by simp only [List.all_cons, List.all_nil, Bool.and_true, Bool.and_eq_true]; exact ⟨known_ext a1.1 b2.1, b1.1⟩) (by have := e2.2.1; simp only [List.length_cons, List.length_nil]; omega)
  have e3 := e2.trans c2
  obtain ⟨d1, d2⟩ := put_is e3.2.2 (right_seal (known_ext hd e3.1) c1.known) (by have := e3.2.1; simp only [List.length_cons, List.length_nil] at this; omega)
  exact ⟨⟨_, _, _, d1, c1.ext d2.1, (a1.ext b2.1).ext (c2.1.trans d2.1), b1.ext (c2.1.trans d2.1)⟩, (e3.trans d2).mono (by simp)⟩
theorem hideB_is {s : TS} {key sig : Int} {x : ByteArray} (h : TOk s) (hd : knownB s.nodes key = true) (hs : knownB s.nodes sig = true) (hx : x.size ≤ 1024) (hl : s.nodes.length + 5 ≤ 262144) :
    (∃ a L, Is (hideB s key x sig).2 (hideB s key x sig).1 (sealN key L) ∧ IsList (hideB s key x sig).2 L [a, sig] ∧ Is (hideB s key x sig).2 a (textN x)) ∧ Grow s (hideB s key x sig).2 5 := by
  obtain ⟨a1, a2⟩ := text_is h hx (by omega)
  obtain ⟨c1, c2⟩ := list_is (l := [((put s (textN x)).1 : Int), sig]) a2.2.2 (by simp only [List.all_cons, List.all_nil, Bool.and_true, Bool.and_eq_true]; exact ⟨a1.1, known_ext hs a2.1⟩) (by have := a2.2.1; simp only [List.length_cons, List.length_nil]; omega)
  have e3 := a2.trans c2
  obtain ⟨d1, d2⟩ := put_is e3.2.2 (right_seal (known_ext hd e3.1) c1.known) (by have := e3.2.1; simp only [List.length_cons, List.length_nil] at this; omega)
  exact ⟨⟨_, _, d1, c1.ext d2.1, a1.ext (c2.1.trans d2.1)⟩, (e3.trans d2).mono (by simp)⟩
theorem open_is {s : TS} {k L t key : Int} (h : Is s t (sealN k L)) : openT s.nodes key t = if k = key then (L, true) else (0, false) := by
  unfold openT
  rw [h.1, h.2]
  by_cases e : k = key
  · rw [if_pos e, if_pos ⟨rfl, rfl, e⟩]; rfl
  · rw [if_neg e, if_neg (fun hh => e hh.2.2)]
theorem pair_is {s : TS} (hs : TOk s) {k L t key a b : Int} (h : Is s t (sealN k L)) (hl : IsList s L [a, b]) : pairT s.nodes key t = if k = key then some (a, b) else none := by
  unfold pairT
  rw [open_is h]
  by_cases e : k = key
  · rw [if_pos e, if_pos e, if_pos rfl]
    simp only
    rw [items_is hs hl]
  · rw [if_neg e, if_neg e, if_neg (by simp)]
theorem plain_is {s : TS} {t : Int} {x : ByteArray} (h : Is s t (textN x)) : plainT s.nodes t = plainB x := by
  unfold plainT plainX
  rw [h.2, if_pos (show (textN x).kind = 2 from rfl)]
  rfl
theorem head_is {s : TS} (hs : TOk s) {k L t key a b f g : Int} (h : Is s t (sealN k L)) (hl : IsList s L [a, b]) (ha : Is s a (textN (numS f))) (hb : Is s b (textN (numS g))) (hf : -1000000000 < f ∧ f < 1000000000) (hg : -1000000000 < g ∧ g < 1000000000) :
    headT s.nodes key t = if k = key then ((f, g), true) else ((0, 0), false) := by
  unfold headT
  rw [pair_is hs h hl]
  by_cases e : k = key
  · rw [if_pos e, if_pos e]
    simp only
    rw [plain_is ha, plain_is hb, plainB_num hf.1 hf.2, plainB_num hg.1 hg.2]
    simp
  · rw [if_neg e, if_neg e]
theorem trunk_is {s : TS} (hs : TOk s) {k L t key a sig : Int} {x : ByteArray} (h : Is s t (sealN k L)) (hl : IsList s L [a, sig]) (ha : Is s a (textN x)) :
    trunkT s.nodes key t = if k = key then ((x, sig), true) else ((⟨#[]⟩, 0), false) := by
  unfold trunkT
  rw [pair_is hs h hl]
  by_cases e : k = key
  · rw [if_pos e, if_pos e]
    simp only
    rw [ha.2, if_pos (show (textN x).kind = 2 from rfl)]
    rfl
  · rw [if_neg e, if_neg e]
end Go.Proofs.YtaifjojfmkcmjaaDoor.Term
