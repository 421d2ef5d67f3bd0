/-
  The document's example, walked.
-/
import Derived.Test.YtaifjojfmkcmjaaDoorSt2
import Derived.Test.YtaifjojfmkcmjaaDoorFrP
namespace Go.Proofs.YtaifjojfmkcmjaaDoor.Term
open Go.RowKit Go.Sort Go.Proofs.YtaifjojfmkcmjaaDoorBase Go.Proofs.YtaifjojfmkcmjaaDoorLex2 Go.Proofs.YtaifjojfmkcmjaaDoor.Dec
set_option linter.unusedVariables false
set_option linter.unusedSimpArgs false

theorem right_atomN {l : List Node} (k : Nat) (h : k < 1000) : Right l (atomN ((k : Int) + 1)) := by
  unfold Right
  rw [if_pos (show (atomN ((k : Int) + 1)).kind = 1 from rfl)]
  refine ⟨?_, ?_, rfl, rfl⟩ <;> (simp only [atomN]; omega)
theorem ok_atoms : ∀ i, i ≤ 1000 → TOk ⟨atoms i, i⟩
  | 0, _ => ok_nil
  | i + 1, h => by
    have h1 := fresh_ok (ok_atoms i (by omega))
    rw [fresh_atoms i (by omega)] at h1
    exact h1
theorem ok_pubs (n : Nat) (hn : n ≤ 1000) : ∀ i, i ≤ n → TOk ⟨pubs n i, n⟩
  | 0, _ => by
    have := ok_atoms n hn
    simpa [pubs] using this
  | i + 1, h => by
    have h1 := mk_ok (ok_pubs n hn i (by omega)) (pubN ((i : Int) + 1))
    have h2 := put_pubs n i hn (by omega)
    have : (mk ⟨pubs n i, n⟩ (pubN ((i : Int) + 1))).2 = ⟨pubs n (i + 1), n⟩ := congrArg Prod.snd h2
    rw [this] at h1
    exact h1
theorem ok_store (n : Nat) (hn : n ≤ 1000) : TOk (storeN n) := ok_pubs n hn n (Nat.le_refl _)
theorem store_len (n : Nat) : (storeN n).nodes.length = 2 * n := by show (pubs n n).length = _; rw [pubs_len]; omega
theorem known_store (n : Nat) {t : Int} (h1 : 1 ≤ t) (h2 : t ≤ 2 * n) : knownB (storeN n).nodes t = true := by rw [knownB_iff, store_len]; omega
theorem plain_007 : plainB ⟨#[48, 48, 55]⟩ = (0, false) := by
  apply plainB_false
  cases hb : (plainB ⟨#[48, 48, 55]⟩).2 with
  | false => rfl
  | true =>
    obtain ⟨h1, _, _⟩ := plainB_true hb
    have h2 := congrArg (fun b : ByteArray => Lib.atoi b.data.toList) h1
    simp only [numS_list, atoi_itoa] at h2
    have h3 : Lib.atoi [48, 48, 55] = some 7 := by decide
    rw [h3] at h2
    have h4 := Option.some.inj h2
    rw [← h4] at h1
    have h5 := congrArg ByteArray.size h1
    rw [numS_size] at h5
    have h6 : (Lib.itoa 7).length = 1 := by
      unfold Lib.itoa
      rw [if_neg (by decide), Lib.decDigits_length]
      exact Lib.nDigits_small (by decide)
    rw [h6] at h5
    exact absurd h5 (by decide)

def hideS (s : TS) (data key f g : Int) (x : ByteArray) (sig : Int) : TS := (hideB (hideH s data f g).2 key x sig).2
structure Hidden (s0 s : TS) (data key f g : Int) (x : ByteArray) (sig h t : Int) : Prop where
  head : ∃ a b L, Is s h (sealN data L) ∧ IsList s L [a, b] ∧ Is s a (textN (numS f)) ∧ Is s b (textN (numS g))
  trunk : ∃ a L, Is s t (sealN key L) ∧ IsList s L [a, sig] ∧ Is s a (textN x)
  grow : Grow s0 s 11
theorem hide_is {s : TS} {data key f g sig : Int} {x : ByteArray} (h : TOk s) (hd : knownB s.nodes data = true) (hk : knownB s.nodes key = true) (hs : knownB s.nodes sig = true) (hf : I64 f) (hg : I64 g) (hx : x.size ≤ 1024) (hl : s.nodes.length + 11 ≤ 262144) :
    Hidden s (hideS s data key f g x sig) data key f g x sig (hideH s data f g).1 (hideB (hideH s data f g).2 key x sig).1 := by
  unfold hideS
  obtain ⟨⟨a, b, L, h1, h2, h3, h4⟩, g1⟩ := hideH_is h hd hf hg (by omega)
  obtain ⟨r, hr⟩ : ∃ r, hideH s data f g = r := ⟨_, rfl⟩
  rw [hr] at h1 h2 h3 h4 g1 ⊢
  obtain ⟨⟨c, M, t1, t2, t3⟩, g2⟩ := hideB_is (key := key) (sig := sig) (x := x) g1.2.2 (known_ext hk g1.1) (known_ext hs g1.1) hx (by have := g1.2.1; omega)
  have gg := (g1.trans g2).mono (j := 11) (by decide)
  exact ⟨⟨a, b, L, h1.ext g2.1, h2.ext g2.1, h3.ext g2.1, h4.ext g2.1⟩, ⟨c, M, t1, t2, t3⟩, gg⟩
theorem Hidden.ext {s0 s s' : TS} {data key f g : Int} {x : ByteArray} {sig h t : Int} {k : Nat} (H : Hidden s0 s data key f g x sig h t) (he : s.nodes <+: s'.nodes) :
    (∃ a b L, Is s' h (sealN data L) ∧ IsList s' L [a, b] ∧ Is s' a (textN (numS f)) ∧ Is s' b (textN (numS g))) ∧ (∃ a L, Is s' t (sealN key L) ∧ IsList s' L [a, sig] ∧ Is s' a (textN x)) := by
  obtain ⟨⟨a, b, L, h1, h2, h3, h4⟩, ⟨c, M, t1, t2, t3⟩, _⟩ := H
  exact ⟨⟨a, b, L, h1.ext he, h2.ext he, h3.ext he, h4.ext he⟩, ⟨c, M, t1.ext he, t2.ext he, t3.ext he⟩⟩

set_option maxHeartbeats 1600000 in
set_option maxRecDepth 100000 in
theorem anchor_any (w0 w : World) (hb : Below w0.heap.size w0 w) (hg : Gl w0) :
    Calls Tryd.prog 8 #[] w fun e w' => e = .returned (.bool true) ∧ Kept w w' (fun _ => False) := by
  have HB := Lib.hid hb
  have HG := Lib.hid hg
  have hH := hide_is (ok_store 3 (by decide)) (known_store 3 (t := 1) (by decide) (by decide)) (known_store 3 (t := 2) (by decide) (by decide)) (known_store 3 (t := 3) (by decide) (by decide)) (f := 2) (g := 0) (x := ⟨#[104, 105]⟩) (by unfold I64; omega) (by unfold I64; omega) (by decide) (by rw [store_len]; decide)
  have e1 : headT (hideS (storeN 3) 1 2 2 0 ⟨#[104, 105]⟩ 3).nodes 1 (hideH (storeN 3) 1 2 0).1 = ((2, 0), true) := by
    obtain ⟨a, b, L, h1, h2, h3, h4⟩ := hH.head
    rw [head_is hH.grow.2.2 h1 h2 h3 h4 (by omega) (by omega), if_pos rfl]
  have e2 : trunkT (hideS (storeN 3) 1 2 2 0 ⟨#[104, 105]⟩ 3).nodes 2 (hideB (hideH (storeN 3) 1 2 0).2 2 ⟨#[104, 105]⟩ 3).1 = ((⟨#[104, 105]⟩, 3), true) := by
    obtain ⟨a, L, h1, h2, h3⟩ := hH.trunk
    rw [trunk_is hH.grow.2.2 h1 h2 h3, if_pos rfl]
  have e3 : plainT (put (hideS (storeN 3) 1 2 2 0 ⟨#[104, 105]⟩ 3) (textN ⟨#[48, 48, 55]⟩)).2.nodes (put (hideS (storeN 3) 1 2 2 0 ⟨#[104, 105]⟩ 3) (textN ⟨#[48, 48, 55]⟩)).1 = (0, false) := by
    have h1 := (text_is (x := ⟨#[48, 48, 55]⟩) hH.grow.2.2 (by decide) (by have := hH.grow.2.1; rw [store_len] at this; omega)).1
    rw [plain_is h1, plain_007]
  have E1 := Lib.hid e1
  have E2 := Lib.hid e2
  have E3 := Lib.hid e3
  clear hb hg hH e1 e2 e3
  go_enter Tryd.func8, Tryd.ntmps8
  go_wp2_with (fail)
  refine (stores_any w0 w 3 (by decide) HB.out HG.out).mono ?_
  rintro e w1 ⟨p, q, rfl, hT⟩
  have T1 := Lib.hid hT
  clear hT
  go_wp2_with (fail)
  refine (T1.out.call fun F1 h1 => hide_any w0 _ p F1 _ 1 2 2 0 ⟨#[104, 105]⟩ 3 h1 (by unfold I64; omega) (by unfold I64; omega) (by decide)).mono ?_
  rintro e w2 ⟨rfl, hT⟩
  have T2 : Hid (TwoAt w0 w w2 p q (hideS (storeN 3) 1 2 2 0 ⟨#[104, 105]⟩ 3) (storeN 3)) := Lib.hid hT
  clear hT
  go_wp2_with (fail)
  refine (T2.out.ask fun F1 h1 => head_any w0 _ p F1 _ 1 _ h1).mono ?_
  rw [E1.out]
  rintro e w3 ⟨rfl, -, hT⟩
  have T3 := Lib.hid hT
  clear hT
  go_wp2_with (fail)
  refine (T3.out.ask fun F1 h1 => trunk_any w0 _ p F1 _ 2 _ h1).mono ?_
  rw [E2.out]
  rintro e w4 ⟨rfl, -, hT⟩
  have T4 := Lib.hid hT
  clear hT
  go_wp2_with (fail)
  refine (T4.out.call fun F1 h1 => text_any w0 _ p F1 _ ⟨#[48, 48, 55]⟩ h1 (by decide)).mono ?_
  rintro e w5 ⟨rfl, hT⟩
  have T5 := Lib.hid hT
  clear hT
  go_wp2_with (fail)
  refine (T5.out.ask fun F1 h1 => plain_any w0 _ p F1 _ _ h1).mono ?_
  rw [E3.out]
  rintro e w6 ⟨rfl, -, hT⟩
  obtain ⟨_, _, _, _, _, _, hk⟩ := hT
  have K := Lib.hid hk
  clear hk
  go_wp2
  go_ret
  exact ⟨rfl, K.out⟩
end Go.Proofs.YtaifjojfmkcmjaaDoor.Term
