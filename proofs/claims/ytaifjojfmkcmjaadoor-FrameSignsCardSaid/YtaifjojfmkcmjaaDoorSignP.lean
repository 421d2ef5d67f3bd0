/-
  Signatures, plainly.
-/
import Derived.Test.YtaifjojfmkcmjaaDoorAnch
namespace Go.Proofs.YtaifjojfmkcmjaaDoor.Term
open Go.Proofs.YtaifjojfmkcmjaaDoor.Dec
set_option linter.unusedVariables false
set_option linter.unusedSimpArgs false

theorem put_bad {s : TS} {n : Node} (h : TOk s) (hr : ¬ Right s.nodes n) : put s n = (0, s) := by
  unfold put
  rw [mk_ref h n, if_pos hr]
def conS : ByteArray := ⟨#[99, 111, 110, 116, 101, 110, 116]⟩
/-- What is signed for a content and a context. -/
def IsSigned (s : TS) (h c x : Int) : Prop := ∃ L, Is s h (hashN conS L) ∧ IsList s L [c, x]
theorem IsSigned.ext {s s' : TS} {h c x : Int} (H : IsSigned s h c x) (he : s.nodes <+: s'.nodes) : IsSigned s' h c x := by
  obtain ⟨L, h1, h2⟩ := H
  exact ⟨L, h1.ext he, h2.ext he⟩
theorem IsSigned.iff {s : TS} (hs : TOk s) {h c x h' c' x' : Int} (H : IsSigned s h c x) (H' : IsSigned s h' c' x') : h = h' ↔ c = c' ∧ x = x' := by
  obtain ⟨L, h1, h2⟩ := H
  obtain ⟨L', h1', h2'⟩ := H'
  rw [Is.iff hs h1 h1']
  have e : hashN conS L = hashN conS L' ↔ L = L' := by simp [hashN]
  rw [e, IsList.iff hs h2 h2']
  simp
theorem signed_is {s : TS} {c x : Int} (h : TOk s) (hc : knownB s.nodes c = true) (hx : knownB s.nodes x = true) (hl : s.nodes.length + 4 ≤ 262144) : IsSigned (signedT s c x).2 (signedT s c x).1 c x ∧ (signedT s c x).1 ≠ 0 ∧ Grow s (signedT s c x).2 4 := by
  obtain ⟨l1, l2⟩ := list_is (l := [c, x]) h (by simp only [List.all_cons, List.all_nil, Bool.and_true, Bool.and_eq_true]; exact ⟨hc, hx⟩) (by simp only [List.length_cons, List.length_nil]; omega)
  have hlen := l2.2.1
  simp only [List.length_cons, List.length_nil] at hlen
  obtain ⟨h1, h2⟩ := put_is l2.2.2 (right_hash (x := conS) (by decide) l1.known) (by omega)
  have h0 := knownB_iff.1 h1.1
  have h0' : (put (listT s [c, x]).2 (hashN conS (listT s [c, x]).1)).1 ≠ 0 := by omega
  exact ⟨⟨_, h1, l1.ext h2.1⟩, h0', (l2.trans h2).mono (by simp)⟩
theorem unknown_zero (l : List Node) : knownB l 0 = false := by simp [knownB]
theorem signed_none {s : TS} {x : Int} (h : TOk s) : signedT s 0 x = (0, s) := by
  unfold signedT listT
  have e : ([0, x].all (knownB s.nodes)) = false := by simp [unknown_zero]
  rw [if_neg (by rw [e]; decide)]
  refine put_bad h ?_
  show ¬ Right s.nodes (hashN conS 0)
  unfold Right
  rw [if_neg (show ¬ (hashN conS 0).kind = 1 by simp [hashN])]
  intro hr
  have := hr.2.2.2.1 (show 1 ≤ arity 4 by decide)
  simp [hashN, unknown_zero] at this
theorem verify_is {s : TS} {pub text sig k k' h : Int} (h1 : Is s sig (signN k h)) (h2 : Is s pub (pubN k')) : verifyT s.nodes pub text sig = (decide (h = text) && decide (k = k')) := by
  unfold verifyT
  rw [h1.1, h2.1, h1.2, h2.2]
  rw [Bool.eq_iff_iff]
  simp only [signN, pubN, Bool.and_eq_true, true_and]
  by_cases e1 : h = text <;> by_cases e2 : k = k' <;> simp [e1, e2]
theorem verify_no {s : TS} {pub text sig : Int} {n : Node} (h1 : Is s sig n) (hn : n.kind ≠ 9) : verifyT s.nodes pub text sig = false := by
  unfold verifyT
  rw [h1.1, h1.2]
  simp [hn]
theorem atom_is (n : Nat) {t : Int} (h1 : 1 ≤ t) (h2 : t ≤ n) : Is (storeN n) t (atomN t) := by
  obtain ⟨j, rfl⟩ : ∃ j : Nat, t = (j : Int) + 1 := ⟨t.toNat - 1, by omega⟩
  refine ⟨known_store n h1 (by omega), ?_⟩
  have e : (storeN n).nodes[j]? = some (atomN ((j : Int) + 1)) := by
    show (pubs n n)[j]? = _
    unfold pubs
    rw [List.getElem?_append_left (by rw [atoms_len]; omega)]
    simp only [atoms, List.getElem?_map]
    rw [List.getElem?_range (by omega)]
    rfl
  have := getN_some e
  rw [← this]
  rfl
theorem pubs_is (n : Nat) (hn : n ≤ 1000) {t : Int} (h1 : 1 ≤ t) (h2 : t ≤ n) : pubN t ∈ (storeN n).nodes := by
  obtain ⟨j, rfl⟩ : ∃ j : Nat, t = (j : Int) + 1 := ⟨t.toNat - 1, by omega⟩
  show _ ∈ pubs n n
  unfold pubs
  refine List.mem_append_right _ (List.mem_map.2 ⟨j, List.mem_range.2 (by omega), rfl⟩)
theorem sign_is {s : TS} {k c x : Int} (h : TOk s) (hk : knownB s.nodes k = true) (hc : knownB s.nodes c = true) (hx : knownB s.nodes x = true) (hl : s.nodes.length + 5 ≤ 262144) :
    (∃ hh, Is (signT s k c x).2 (signT s k c x).1 (signN k hh) ∧ IsSigned (signT s k c x).2 hh c x) ∧ Grow s (signT s k c x).2 5 := by
  obtain ⟨a1, a2, a3⟩ := signed_is h hc hx (by omega)
  have hkn : knownB (signedT s c x).2.nodes (signedT s c x).1 = true := by obtain ⟨L, h1, _⟩ := a1; exact h1.1
  obtain ⟨b1, b2⟩ := put_is a3.2.2 (right_sign (known_ext hk a3.1) hkn) (by have := a3.2.1; omega)
  exact ⟨⟨_, b1, a1.ext b2.1⟩, a3.trans b2⟩
theorem pub_is {s : TS} {k : Int} (h : TOk s) (hk : knownB s.nodes k = true) (hl : s.nodes.length < 262144) : Is (put s (pubN k)).2 (put s (pubN k)).1 (pubN k) ∧ Grow s (put s (pubN k)).2 1 := put_is h (right_pub hk) hl
theorem frameV_is {s : TS} {pub c x c' x' sig k k' hh : Int} (h : TOk s) (h1 : Is s sig (signN k hh)) (h2 : IsSigned s hh c x) (h3 : Is s pub (pubN k')) (hc : knownB s.nodes c' = true) (hx : knownB s.nodes x' = true) (hl : s.nodes.length + 4 ≤ 262144) :
    (frameV s pub c' x' sig = true ↔ c = c' ∧ x = x' ∧ k = k') ∧ Grow s (signedT s c' x').2 4 := by
  obtain ⟨a1, a2, a3⟩ := signed_is h hc hx hl
  refine ⟨?_, a3⟩
  unfold frameV
  rw [decide_eq_true a2, Bool.true_and, verify_is (h1.ext a3.1) (h3.ext a3.1), Bool.and_eq_true]
  have e := IsSigned.iff a3.2.2 (h2.ext a3.1) a1
  by_cases e1 : k = k'
  · by_cases e2 : hh = ((signedT s c' x').1 : Int)
    · have := e.1 e2
      simp [e1, e2, this]
    · have : ¬ (c = c' ∧ x = x') := fun z => e2 (e.2 z)
      simp only [decide_eq_true e1, decide_eq_false e2]
      simp
      intro z1 z2
      exact absurd ⟨z1, z2⟩ this
  · simp [e1]
theorem frameV_no {s : TS} {pub c x sig : Int} {n : Node} (h : TOk s) (h1 : Is s sig n) (hn : n.kind ≠ 9) (hc : knownB s.nodes c = true) (hx : knownB s.nodes x = true) (hl : s.nodes.length + 4 ≤ 262144) :
    frameV s pub c x sig = false ∧ Grow s (signedT s c x).2 4 := by
  obtain ⟨a1, a2, a3⟩ := signed_is h hc hx hl
  refine ⟨?_, a3⟩
  unfold frameV
  rw [verify_no (h1.ext a3.1) hn, Bool.and_false]
theorem frameV_none {s : TS} {pub x sig : Int} (h : TOk s) : frameV s pub 0 x sig = false := by
  unfold frameV
  rw [signed_none h]
  simp
end Go.Proofs.YtaifjojfmkcmjaaDoor.Term
