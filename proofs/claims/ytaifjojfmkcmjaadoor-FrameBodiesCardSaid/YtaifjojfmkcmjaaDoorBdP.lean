/-
  Commits' bodies, plainly: which are one term.
-/
import Derived.Test.YtaifjojfmkcmjaaDoorBd8
import Derived.Test.YtaifjojfmkcmjaaDoorFrP
namespace Go.Proofs.YtaifjojfmkcmjaaDoor.Term
open Go.Proofs.YtaifjojfmkcmjaaDoor.Dec
set_option linter.unusedVariables false
set_option linter.unusedSimpArgs false

/-- The term t is the list of what stands for each. -/
def IsMap {α : Type} (R : TS → Int → α → Prop) (s : TS) (t : Int) (xs : List α) : Prop := ∃ us, IsList s t us ∧ us.length = xs.length ∧ ∀ (k : Nat) u x, us[k]? = some u → xs[k]? = some x → R s u x
theorem IsMap.iff {α : Type} {R : TS → Int → α → Prop} {s : TS} (hs : TOk s) (hR : ∀ u u' x x', R s u x → R s u' x' → (u = u' ↔ x = x')) {t t' : Int} {xs xs' : List α} (h : IsMap R s t xs) (h' : IsMap R s t' xs') : t = t' ↔ xs = xs' := by
  obtain ⟨us, h1, h2, h3⟩ := h
  obtain ⟨us', h1', h2', h3'⟩ := h'
  rw [IsList.iff hs h1 h1']
  constructor
  · intro e
    subst e
    refine List.ext_getElem (by omega) fun k hk hk' => ?_
    have hu : k < us.length := by omega
    exact (hR _ _ _ _ (h3 k _ _ (List.getElem?_eq_getElem hu) (List.getElem?_eq_getElem hk)) (h3' k _ _ (List.getElem?_eq_getElem hu) (List.getElem?_eq_getElem hk'))).1 rfl
  · intro e
    subst e
    refine List.ext_getElem (by omega) fun k hk hk' => ?_
    have hu : k < xs.length := by omega
    exact (hR _ _ _ _ (h3 k _ _ (List.getElem?_eq_getElem hk) (List.getElem?_eq_getElem hu)) (h3' k _ _ (List.getElem?_eq_getElem hk') (List.getElem?_eq_getElem hu))).2 rfl
theorem IsMap.ext {α : Type} {R : TS → Int → α → Prop} {s s' : TS} (hR : ∀ u x, R s u x → R s' u x) (he : s.nodes <+: s'.nodes) {t : Int} {xs : List α} (h : IsMap R s t xs) : IsMap R s' t xs := by
  obtain ⟨us, h1, h2, h3⟩ := h
  exact ⟨us, h1.ext he, h2, fun k u x hu hx => hR u x (h3 k u x hu hx)⟩
theorem mapT_is {α : Type} {f : TS → α → Nat × TS} {R : TS → Int → α → Prop} {Q : TS → α → Prop} {c : Nat}
    (hf : ∀ s x, TOk s → Q s x → s.nodes.length + c ≤ 262144 → R (f s x).2 ((f s x).1 : Int) x ∧ Grow s (f s x).2 c)
    (hR : ∀ (s s' : TS) u x, s.nodes <+: s'.nodes → R s u x → R s' u x) (hQ : ∀ (s s' : TS) x, s.nodes <+: s'.nodes → Q s x → Q s' x) {l : List α} {s : TS} (hs : TOk s) (hq : ∀ x ∈ l, Q s x) (hl : s.nodes.length + l.length * c ≤ 262144) :
    ∀ k, k ≤ l.length → (∀ (j : Nat) u x, (mapT f s (l.take k)).1[j]? = some u → l[j]? = some x → R (mapT f s (l.take k)).2 u x) ∧ Grow s (mapT f s (l.take k)).2 (k * c) := by
  intro k
  induction k with
  | zero => intro _; exact ⟨fun j u x hu => by simp [mapT] at hu, by rw [Nat.zero_mul]; exact Grow.refl hs⟩
  | succ k ih =>
    intro hk
    obtain ⟨h1, h2⟩ := ih (by omega)
    obtain ⟨x, hx⟩ : ∃ x, l[k]? = some x := ⟨_, List.getElem?_eq_getElem (by omega)⟩
    rw [mapT_take hx]
    have hlen := mapT_len (f := f) (s := s) (l := l.take k)
    obtain ⟨⟨r, s1⟩, hr⟩ : ∃ y, mapT f s (l.take k) = y := ⟨_, rfl⟩
    rw [hr] at h1 h2 hlen ⊢
    simp only at h1 h2 hlen ⊢
    rw [List.length_take] at hlen
    have hb : s1.nodes.length + c ≤ 262144 := by
      have h3 := h2.2.1
      have h4 : (k + 1) * c ≤ l.length * c := Nat.mul_le_mul_right c hk
      rw [Nat.succ_mul] at h4
      omega
    obtain ⟨g1, g2⟩ := hf s1 x h2.2.2 (hQ s s1 x h2.1 (hq x (List.mem_of_getElem? hx))) hb
    refine ⟨fun j u y hu hy => ?_, by rw [Nat.succ_mul]; exact h2.trans g2⟩
    rcases Nat.lt_or_ge j r.length with hj | hj
    · rw [List.getElem?_append_left hj] at hu
      exact hR _ _ _ _ g2.1 (h1 j u y hu hy)
    · rw [List.getElem?_append_right hj] at hu
      have h0 : j - r.length = 0 := by
        rcases Nat.eq_zero_or_pos (j - r.length) with h0 | h0
        · exact h0
        · rw [List.getElem?_eq_none (by simp; omega)] at hu; cases hu
      rw [h0] at hu
      simp at hu
      have hjk : j = k := by omega
      subst hjk
      rw [hx] at hy
      obtain rfl := Option.some.inj hy
      rw [← hu]
      exact g1
theorem listedT_is {α : Type} {f : TS → α → Nat × TS} {R : TS → Int → α → Prop} {Q : TS → α → Prop} {c : Nat}
    (hf : ∀ s x, TOk s → Q s x → s.nodes.length + c ≤ 262144 → R (f s x).2 ((f s x).1 : Int) x ∧ Grow s (f s x).2 c)
    (hR : ∀ (s s' : TS) u x, s.nodes <+: s'.nodes → R s u x → R s' u x) (hQ : ∀ (s s' : TS) x, s.nodes <+: s'.nodes → Q s x → Q s' x) (hk : ∀ (s : TS) u x, R s u x → knownB s.nodes u = true) {l : List α} {s : TS} (hs : TOk s) (hq : ∀ x ∈ l, Q s x) (hl : s.nodes.length + l.length * c + l.length + 1 ≤ 262144) :
    IsMap R (listedT f s l).2 ((listedT f s l).1 : Int) l ∧ Grow s (listedT f s l).2 (l.length * c + l.length + 1) := by
  obtain ⟨h1, h2⟩ := mapT_is hf hR hQ hs hq (by omega) l.length (Nat.le_refl _)
  rw [List.take_length] at h1 h2
  have hlen := mapT_len (f := f) (s := s) (l := l)
  unfold listedT
  obtain ⟨⟨r, s1⟩, hr⟩ : ∃ y, mapT f s l = y := ⟨_, rfl⟩
  rw [hr] at h1 h2 hlen ⊢
  simp only at h1 h2 hlen ⊢
  have hall : r.all (knownB s1.nodes) = true := by
    rw [List.all_eq_true]
    intro u hu
    obtain ⟨j, hj⟩ := List.getElem?_of_mem hu
    have hjl := (List.getElem?_eq_some_iff.1 hj).1
    exact hk _ _ _ (h1 j u _ hj (List.getElem?_eq_getElem (by omega)))
  obtain ⟨g1, g2⟩ := list_is (l := r) h2.2.2 hall (by have := h2.2.1; omega)
  refine ⟨⟨r, g1, hlen, fun j u x hu hx => hR _ _ _ _ g2.1 (h1 j u x hu hx)⟩, (h2.trans g2).mono (by omega)⟩

/-- A proposal to remove. -/
def IsRem (s : TS) (u : Int) (i : Int) : Prop := ∃ a b, IsList s u [a, b] ∧ Is s a (textN (numS 3)) ∧ Is s b (textN (numS i))
theorem IsRem.iff {s : TS} (hs : TOk s) {u u' i i' : Int} (h : IsRem s u i) (h' : IsRem s u' i') : u = u' ↔ i = i' := by
  obtain ⟨a, b, h1, h2, h3⟩ := h
  obtain ⟨a', b', h1', h2', h3'⟩ := h'
  rw [IsList.iff hs h1 h1']
  have e := h2.uniq hs h2'
  have e2 := Is.iff hs h3 h3'
  simp only [List.cons.injEq, and_true]
  rw [e2]
  constructor
  · rintro ⟨_, h⟩
    exact numS_inj (by simpa [textN] using congrArg Node.label h)
  · rintro rfl
    exact ⟨e, rfl⟩
theorem rem_is {s : TS} {i : Int} (hs : TOk s) (hi : I64 i) (hl : s.nodes.length + 5 ≤ 262144) : IsRem (remT s i).2 ((remT s i).1 : Int) i ∧ Grow s (remT s i).2 5 := by
  obtain ⟨a1, a2⟩ := num_is (n := 3) hs (by unfold I64; omega) (by omega)
  obtain ⟨b1, b2⟩ := num_is a2.2.2 hi (by have := a2.2.1; omega)
  have e2 := a2.trans b2
  obtain ⟨c1, c2⟩ := list_is (l := [((numG s 3).1 : Int), ((numG (numG s 3).2 i).1 : Int)]) e2.2.2 (by simp only [List.all_cons, List.all_nil, Bool.and_true, Bool.and_eq_true]; exact ⟨known_ext a1.1 b2.1, b1.1⟩) (by have := e2.2.1; simp only [List.length_cons, List.length_nil]; omega)
  exact ⟨⟨_, _, c1, (a1.ext b2.1).ext c2.1, b1.ext c2.1⟩, (e2.trans c2).mono (by simp)⟩

/-- A commit's body. -/
def IsPath (s : TS) (t : Int) (keys : List Int) (boxes : List (List Int)) : Prop := ∃ a b, IsList s t [3, 4, a, b] ∧ IsList s a keys ∧ IsMap IsList s b boxes
def IsBody (s : TS) (t : Int) (b : BodyD) : Prop := ∃ r q p, IsList s t [r, q, p] ∧ IsMap IsRem s r b.rem ∧ IsList s q b.refs ∧ (b.has = true → IsPath s p b.keys b.boxes) ∧ (b.has = false → Is s p empty)
theorem IsPath.iff {s : TS} (hs : TOk s) {t t' : Int} {k k' : List Int} {b b' : List (List Int)} (h : IsPath s t k b) (h' : IsPath s t' k' b') : t = t' ↔ k = k' ∧ b = b' := by
  obtain ⟨x, y, h1, h2, h3⟩ := h
  obtain ⟨x', y', h1', h2', h3'⟩ := h'
  rw [IsList.iff hs h1 h1']
  simp only [List.cons.injEq, and_true, true_and]
  rw [IsList.iff hs h2 h2', IsMap.iff hs (fun u u' x x' hx hx' => IsList.iff hs hx hx') h3 h3']
theorem IsBody.iff {s : TS} (hs : TOk s) {t t' : Int} {b c : BodyD} (h : IsBody s t b) (h' : IsBody s t' c) : t = t' ↔ sameB b c = true := by
  obtain ⟨r, q, p, h1, h2, h3, h4, h5⟩ := h
  obtain ⟨r', q', p', h1', h2', h3', h4', h5'⟩ := h'
  rw [IsList.iff hs h1 h1']
  simp only [List.cons.injEq, and_true]
  rw [IsMap.iff hs (fun u u' x x' hx hx' => IsRem.iff hs hx hx') h2 h2', IsList.iff hs h3 h3']
  obtain ⟨rem, refs, keys, boxes, has⟩ := b
  obtain ⟨rem', refs', keys', boxes', has'⟩ := c
  unfold sameB
  simp only [Bool.and_eq_true, decide_eq_true_eq, Bool.or_eq_true, Bool.not_eq_true'] at *
  cases has <;> cases has'
  · have e := (h5 rfl).uniq hs (h5' rfl)
    simp [e]
  · have n : ¬ p = p' := by
      intro e
      subst e
      obtain ⟨_, _, g1, _⟩ := h4' rfl
      obtain ⟨_, g2, _⟩ := g1
      have := congrArg Node.kind (Is.same (h5 rfl) g2)
      exact absurd this (show ¬ ((2 : Int) = 3) by decide)
    simp [n]
  · have n : ¬ p = p' := by
      intro e
      subst e
      obtain ⟨_, _, g1, _⟩ := h4 rfl
      obtain ⟨_, g2, _⟩ := g1
      have := congrArg Node.kind (Is.same (h5' rfl) g2)
      exact absurd this (show ¬ ((2 : Int) = 3) by decide)
    simp [n]
  · have e := IsPath.iff hs (h4 rfl) (h4' rfl)
    simp [e, and_assoc]
theorem IsRem.ext {s s' : TS} {u i : Int} (he : s.nodes <+: s'.nodes) (h : IsRem s u i) : IsRem s' u i := by
  obtain ⟨a, b, h1, h2, h3⟩ := h
  exact ⟨a, b, h1.ext he, h2.ext he, h3.ext he⟩
theorem IsPath.ext {s s' : TS} {t : Int} {k : List Int} {b : List (List Int)} (he : s.nodes <+: s'.nodes) (h : IsPath s t k b) : IsPath s' t k b := by
  obtain ⟨x, y, h1, h2, h3⟩ := h
  exact ⟨x, y, h1.ext he, h2.ext he, h3.ext (fun u x h => h.ext he) he⟩
theorem IsBody.ext {s s' : TS} {t : Int} {b : BodyD} (he : s.nodes <+: s'.nodes) (h : IsBody s t b) : IsBody s' t b := by
  obtain ⟨r, q, p, h1, h2, h3, h4, h5⟩ := h
  exact ⟨r, q, p, h1.ext he, h2.ext (fun u x h => h.ext he) he, h3.ext he, fun h => (h4 h).ext he, fun h => (h5 h).ext he⟩
theorem boxes_is {s : TS} {ls : List (List Int)} (hs : TOk s) (hk : ∀ l ∈ ls, l.all (knownB s.nodes) = true ∧ l.length ≤ 30) (hl : s.nodes.length + ls.length * 31 + ls.length + 1 ≤ 262144) : IsMap IsList (listedT listT s ls).2 ((listedT listT s ls).1 : Int) ls ∧ Grow s (listedT listT s ls).2 (ls.length * 31 + ls.length + 1) := by
  refine listedT_is (Q := fun s l => l.all (knownB s.nodes) = true ∧ l.length ≤ 30) (fun s x h1 h2 h3 => ?_) (fun s s' u x he h => h.ext he) (fun s s' x he h => ⟨?_, h.2⟩) (fun s u x h => h.known) hs hk hl
  · obtain ⟨g1, g2⟩ := list_is h1 h2.1 (by have := h2.2; omega)
    exact ⟨g1, g2.mono (by have := h2.2; omega)⟩
  · exact List.all_eq_true.2 fun y hy => known_ext (List.all_eq_true.1 h.1 y hy) he
theorem path_is {s : TS} {keys : List Int} {ls : List (List Int)} (hs : TOk s) (h3 : knownB s.nodes 3 = true) (h4 : knownB s.nodes 4 = true) (hkk : keys.all (knownB s.nodes) = true) (hkl : keys.length ≤ 30) (hk : ∀ l ∈ ls, l.all (knownB s.nodes) = true ∧ l.length ≤ 30) (hl : ls.length ≤ 20) (hn : s.nodes.length ≤ 5000) : IsPath (pathT s keys ls).2 ((pathT s keys ls).1 : Int) keys ls ∧ Grow s (pathT s keys ls).2 700 := by
  obtain ⟨a1, a2⟩ := list_is hs hkk (by omega)
  obtain ⟨⟨t1, s1⟩, e1⟩ : ∃ r, listT s keys = r := ⟨_, rfl⟩
  unfold pathT
  rw [e1] at a1 a2 ⊢
  simp only at a1 a2 ⊢
  obtain ⟨b1, b2⟩ := boxes_is a2.2.2 (ls := ls) (fun l hl => ⟨by rw [List.all_eq_true]; exact fun y hy => known_ext (List.all_eq_true.1 (hk l hl).1 y hy) a2.1, (hk l hl).2⟩) (by have := a2.2.1; omega)
  obtain ⟨⟨t2, s2⟩, e2⟩ : ∃ r, listedT listT s1 ls = r := ⟨_, rfl⟩
  rw [e2] at b1 b2 ⊢
  simp only at b1 b2 ⊢
  have g := a2.trans b2
  have kb : knownB s2.nodes (t2 : Int) = true := by obtain ⟨us, h, _⟩ := b1; exact h.known
  obtain ⟨c1, c2⟩ := list_is (l := [3, 4, (t1 : Int), (t2 : Int)]) g.2.2 (by simp only [List.all_cons, List.all_nil, Bool.and_true, Bool.and_eq_true]; exact ⟨known_ext h3 g.1, known_ext h4 g.1, known_ext a1.known b2.1, kb⟩) (by have := g.2.1; simp only [List.length_cons, List.length_nil]; omega)
  exact ⟨⟨_, _, c1, (a1.ext b2.1).ext c2.1, b1.ext (fun u x h => h.ext c2.1) c2.1⟩, (g.trans c2).mono (by simp; omega)⟩
theorem commit_is {s : TS} {b : BodyD} (hs : TOk s) (h18 : ∀ x : Int, 1 ≤ x → x ≤ 18 → knownB s.nodes x = true) (hr : rightB b = true) (hi : ∀ x ∈ b.rem, I64 x) (hn : s.nodes.length ≤ 4000) : IsBody (commitT s b).2 ((commitT s b).1 : Int) b ∧ Grow s (commitT s b).2 900 := by
  obtain ⟨rem, refs, keys, boxes, has⟩ := b
  unfold rightB at hr
  simp only [Bool.and_eq_true, decide_eq_true_eq] at hr
  obtain ⟨⟨⟨⟨r1, r2⟩, r3⟩, r4⟩, r5⟩ := hr
  have am : ∀ l, amongB l = true → l.all (knownB s.nodes) = true ∧ l.length ≤ 30 := by
    intro l h
    unfold amongB at h
    simp only [Bool.and_eq_true, decide_eq_true_eq, List.all_eq_true] at h
    exact ⟨List.all_eq_true.2 fun x hx => h18 x (h.1 x hx).1 (h.1 x hx).2, h.2⟩
  have mono : ∀ {s' : TS} {l : List Int}, s.nodes <+: s'.nodes → l.all (knownB s.nodes) = true → l.all (knownB s'.nodes) = true := fun he h => List.all_eq_true.2 fun y hy => known_ext (List.all_eq_true.1 h y hy) he
  obtain ⟨a1, a2⟩ := text_is (s := s) (x := ⟨#[]⟩) hs (by decide) (by omega)
  rw [show put s (textN ⟨#[]⟩) = put s empty from rfl] at a1 a2
  have hP : ((has = true → IsPath (pathP s keys boxes has).2 (pathP s keys boxes has).1 keys boxes) ∧ (has = false → Is (pathP s keys boxes has).2 (pathP s keys boxes has).1 empty)) ∧ Grow s (pathP s keys boxes has).2 701 ∧ knownB (pathP s keys boxes has).2.nodes (pathP s keys boxes has).1 = true := by
    unfold pathP
    cases has with
    | false =>
      rw [if_neg (by simp)]
      exact ⟨⟨fun h => absurd h (by decide), fun _ => a1⟩, a2.mono (by omega), a1.1⟩
    | true =>
      rw [if_pos rfl]
      obtain ⟨p1, p2⟩ := path_is (s := (put s empty).2) (keys := keys) (ls := boxes) a2.2.2 (known_ext (h18 3 (by omega) (by omega)) a2.1) (known_ext (h18 4 (by omega) (by omega)) a2.1) (mono a2.1 (am keys r3).1) (am keys r3).2 (fun l hl => ⟨mono a2.1 (am l (List.all_eq_true.1 r5 l hl)).1, (am l (List.all_eq_true.1 r5 l hl)).2⟩) r4 (by have := a2.2.1; omega)
      exact ⟨⟨fun _ => p1, fun h => absurd h (by decide)⟩, (a2.trans p2).mono (by omega), by obtain ⟨_, _, h, _⟩ := p1; exact h.known⟩
  unfold commitT
  obtain ⟨⟨t2, s2⟩, h2⟩ : ∃ r, pathP s keys boxes has = r := ⟨_, rfl⟩
  rw [h2] at hP ⊢
  simp only at hP ⊢
  obtain ⟨⟨p1, p2⟩, p3, p4⟩ := hP
  obtain ⟨b1, b2⟩ := listedT_is (f := remT) (R := IsRem) (Q := fun _ x => I64 x) (c := 5) (fun s x h1 h2 h3 => rem_is h1 h2 h3) (fun s s' u x he h => h.ext he) (fun s s' x he h => h) (fun s u x h => by obtain ⟨_, _, h, _⟩ := h; exact h.known) (l := rem) p3.2.2 hi (by have := p3.2.1; omega)
  obtain ⟨⟨t3, s3⟩, h3⟩ : ∃ r, listedT remT s2 rem = r := ⟨_, rfl⟩
  rw [h3] at b1 b2 ⊢
  simp only at b1 b2 ⊢
  have g3 := p3.trans b2
  obtain ⟨c1, c2⟩ := list_is (l := refs) g3.2.2 (mono g3.1 (am refs r2).1) (by have := g3.2.1; have := (am refs r2).2; omega)
  obtain ⟨⟨t4, s4⟩, h4⟩ : ∃ r, listT s3 refs = r := ⟨_, rfl⟩
  rw [h4] at c1 c2 ⊢
  simp only at c1 c2 ⊢
  have g4 := g3.trans c2
  have kb : knownB s3.nodes (t3 : Int) = true := by obtain ⟨us, h, _⟩ := b1; exact h.known
  obtain ⟨d1, d2⟩ := list_is (l := [(t3 : Int), (t4 : Int), (t2 : Int)]) g4.2.2 (by simp only [List.all_cons, List.all_nil, Bool.and_true, Bool.and_eq_true]; exact ⟨known_ext kb c2.1, c1.known, known_ext p4 (b2.1.trans c2.1)⟩) (by have := g4.2.1; have := (am refs r2).2; simp only [List.length_cons, List.length_nil]; omega)
  have gx : s2.nodes <+: (listT s4 [(t3 : Int), (t4 : Int), (t2 : Int)]).2.nodes := b2.1.trans (c2.1.trans d2.1)
  refine ⟨⟨_, _, _, d1, b1.ext (fun u x h => h.ext (c2.1.trans d2.1)) (c2.1.trans d2.1), c1.ext d2.1, fun h => (p1 h).ext gx, fun h => (p2 h).ext gx⟩, (g4.trans d2).mono (by have := (am refs r2).2; simp; omega)⟩
end Go.Proofs.YtaifjojfmkcmjaaDoor.Term
