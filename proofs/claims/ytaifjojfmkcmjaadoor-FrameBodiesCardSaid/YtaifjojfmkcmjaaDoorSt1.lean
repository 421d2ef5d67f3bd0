/-
  Both stores, side by side; the laws' stores.
-/
import Derived.Test.YtaifjojfmkcmjaaDoorRt6
import Derived.Test.YtaifjojfmkcmjaaDoorFr3
namespace Go.Proofs.YtaifjojfmkcmjaaDoor.Term
open Go.RowKit Go.Sort Go.Proofs.YtaifjojfmkcmjaaDoorBase Go.Proofs.YtaifjojfmkcmjaaDoorLex2
set_option linter.unusedVariables false
set_option linter.unusedSimpArgs false

/-- Both stores in memory, apart; what was in w is as it was. -/
def TwoAt (w0 w w' : World) (p q : Nat) (s r : TS) : Prop := ∃ F G, SAt w0 w' p F s ∧ RAt w0.heap.size w' q G r ∧ (∀ k, F k → ¬ G k) ∧ (∀ k, F k ∨ G k → w.heap.size ≤ k) ∧ Kept w w' (fun _ => False)
section
variable {w0 w w1 w2 w' : World} {p q : Nat} {s s2 r r2 : TS} {f : Nat} {args : Array Value} {v : Value}
theorem TwoAt.step {F : Nat → Prop} {G : Nat → Prop} (hs : SAt w0 w1 p F s) (hr : RAt w0.heap.size w1 q G r) (hd : ∀ k, F k → ¬ G k) (hb : ∀ k, F k ∨ G k → w.heap.size ≤ k) (hkk : Kept w w1 (fun _ => False)) (hn : TNext w0 w1 w' p F s2) : TwoAt w0 w w' p q s2 r := by
  obtain ⟨F2, s2', b2, k2⟩ := hn
  refine ⟨F2, G, s2', hr.keptG k2 (fun k hk hF => hd k hF hk), fun k hk hG => ?_, fun k hk => ?_, hkk.trans k2 (fun k hF => .inr (hb k (.inl hF)))⟩
  · rcases b2 k hk with h | h
    · exact hd k h hG
    · have := hr.lt k hG; omega
  · rcases hk with hk | hk
    · rcases b2 k hk with h | h
      · exact hb k (.inl h)
      · exact Nat.le_trans hkk.size h
    · exact hb k (.inr hk)
theorem TwoAt.call (hT : TwoAt w0 w w1 p q s r) (hC : ∀ F1, SAt w0 w1 p F1 s → Calls Tryd.prog f args w2 fun e w' => e = .returned v ∧ TNext w0 w1 w' p F1 s2) : Calls Tryd.prog f args w2 fun e w' => e = .returned v ∧ TwoAt w0 w w' p q s2 r := by
  obtain ⟨F, G, hs, hr, hd, hb, hk⟩ := hT
  refine (hC F hs).mono ?_
  rintro e w' ⟨rfl, hn⟩
  exact ⟨rfl, TwoAt.step hs hr hd hb hk hn⟩
theorem TwoAt.kept (hT : TwoAt w0 w w1 p q s r) (hk2 : Kept w1 w2 (fun _ => False)) : TwoAt w0 w w2 p q s r := by
  obtain ⟨F, G, hs, hr, hd, hb, hk⟩ := hT
  exact ⟨F, G, hs.kept hk2, hr.kept hk2, hd, hb, hk.trans hk2 (fun _ h => h.elim)⟩
theorem TwoAt.ask {R : Ending → World → Prop} (hT : TwoAt w0 w w1 p q s r) (hC : ∀ F1, SAt w0 w1 p F1 s → Calls Tryd.prog f args w1 fun e w' => R e w' ∧ Kept w1 w' (fun _ => False)) : Calls Tryd.prog f args w1 fun e w' => R e w' ∧ Kept w1 w' (fun _ => False) ∧ TwoAt w0 w w' p q s r := by
  have hT' := hT
  obtain ⟨F, G, hs, hr, hd, hb, hk⟩ := hT
  refine (hC F hs).mono ?_
  rintro e w' ⟨hR, hk2⟩
  exact ⟨hR, hk2, hT'.kept hk2⟩
theorem TwoAt.rask {R : Ending → World → Prop} (hT : TwoAt w0 w w1 p q s r) (hC : ∀ G1, RAt w0.heap.size w1 q G1 r → Calls Tryd.prog f args w1 fun e w' => R e w' ∧ Kept w1 w' (fun _ => False)) : Calls Tryd.prog f args w1 fun e w' => R e w' ∧ Kept w1 w' (fun _ => False) ∧ TwoAt w0 w w' p q s r := by
  have hT' := hT
  obtain ⟨F, G, hs, hr, hd, hb, hk⟩ := hT
  refine (hC G hr).mono ?_
  rintro e w' ⟨hR, hk2⟩
  exact ⟨hR, hk2, hT'.kept hk2⟩
theorem TwoAt.rcall (hT : TwoAt w0 w w1 p q s r) (hC : ∀ G1, RAt w0.heap.size w1 q G1 r → Calls Tryd.prog f args w2 fun e w' => e = .returned v ∧ RNext w0.heap.size w1 w' q G1 r2) : Calls Tryd.prog f args w2 fun e w' => e = .returned v ∧ TwoAt w0 w w' p q s r2 := by
  obtain ⟨F, G, hs, hr, hd, hb, hk⟩ := hT
  refine (hC G hr).mono ?_
  rintro e w' ⟨rfl, G2, r2', b2, k2⟩
  refine ⟨rfl, F, G2, hs.keptG k2 hd (fun k hk => hr.base_le k hk), r2', fun k hk hG => ?_, fun k hk' => ?_, hk.trans k2 (fun k hG => .inr (hb k (.inr hG)))⟩
  · rcases b2 k hG with h | h
    · exact hd k hk h
    · have := hs.at_.lt k hk; omega
  · rcases hk' with hk' | hk'
    · exact hb k (.inl hk')
    · rcases b2 k hk' with h | h
      · exact hb k (.inr h)
      · exact Nat.le_trans hk.size h
end

def atoms (i : Nat) : List Node := (List.range i).map fun (k : Nat) => atomN ((k : Int) + 1)
def pubs (n i : Nat) : List Node := atoms n ++ (List.range i).map fun (k : Nat) => pubN ((k : Int) + 1)
/-- The laws' store: atoms, and their public keys. -/
def storeN (n : Nat) : TS := ⟨pubs n n, n⟩
theorem atoms_len (i : Nat) : (atoms i).length = i := by simp [atoms]
theorem pubs_len (n i : Nat) : (pubs n i).length = n + i := by simp [pubs, atoms_len]
theorem fresh_atoms (i : Nat) (h : i ≤ 1000) : fresh ⟨atoms i, i⟩ = (i + 1, ⟨atoms (i + 1), i + 1⟩) := by
  have hi : idx (atoms i) (atomN ((i : Int) + 1)) = 0 := by
    rw [idx_zero]
    intro hm
    simp only [atoms, List.mem_map, List.mem_range, atomN, Node.mk.injEq] at hm
    obtain ⟨k, hk, -, -, h2, -⟩ := hm
    omega
  have hr : Right (atoms i) (atomN ((i : Int) + 1)) := by
    unfold Right
    rw [if_pos (show (atomN ((i : Int) + 1)).kind = 1 from rfl)]
    refine ⟨?_, ?_, rfl, rfl⟩ <;> (simp only [atomN]; omega)
  have hl : ¬ 262144 ≤ i := by omega
  have hm : put ⟨atoms i, i⟩ (atomN (((i : Nat) : Int) + 1)) = (i + 1, ⟨atoms i ++ [atomN ((i : Int) + 1)], i⟩) := by
    unfold put mk
    simp only [hi, hr, hl, ne_eq, not_true_eq_false, if_false, atoms_len, if_neg]
  unfold fresh
  simp only [hm]
  have ha : atoms i ++ [atomN ((i : Int) + 1)] = atoms (i + 1) := by simp [atoms, List.range_succ]
  rw [ha]
  simp
theorem put_pubs (n i : Nat) (hn : n ≤ 1000) (h : i < n) : put ⟨pubs n i, n⟩ (pubN ((i : Int) + 1)) = (n + i + 1, ⟨pubs n (i + 1), n⟩) := by
  have hi : idx (pubs n i) (pubN ((i : Int) + 1)) = 0 := by
    rw [idx_zero]
    intro hm
    simp only [pubs, atoms, List.mem_append, List.mem_map, List.mem_range, atomN, pubN, Node.mk.injEq] at hm
    rcases hm with ⟨k, hk, h1, -⟩ | ⟨k, hk, -, -, h2, -⟩
    · omega
    · omega
  have hr : Right (pubs n i) (pubN ((i : Int) + 1)) := by
    unfold Right
    rw [if_neg (show ¬ (pubN ((i : Int) + 1)).kind = 1 by simp [pubN])]
    refine ⟨show ((ByteArray.mk #[]).size : Int) ≤ labelMax 6 by decide, fun h => absurd h (show ¬ arity 6 < 1 by decide), fun _ => rfl, fun _ => ?_, fun h => absurd h (show ¬ arity 6 = 2 by decide), fun h => absurd h (show ¬ ((6 : Int) = 8) by decide)⟩
    rw [knownB_iff, pubs_len]
    simp only [pubN]
    omega
  have hl : ¬ 262144 ≤ n + i := by omega
  have ha : pubs n i ++ [pubN ((i : Int) + 1)] = pubs n (i + 1) := by simp [pubs, List.range_succ]
  unfold put mk
  simp only [hi, hr, hl, ne_eq, not_true_eq_false, if_false, pubs_len, ha]
end Go.Proofs.YtaifjojfmkcmjaaDoor.Term
