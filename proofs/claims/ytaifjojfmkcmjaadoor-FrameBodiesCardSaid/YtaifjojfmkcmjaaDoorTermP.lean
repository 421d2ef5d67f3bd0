/-
  The store of terms, plainly.
-/
import Derived.Test.YtaifjojfmkcmjaaDoorBase2
namespace Go.Proofs.YtaifjojfmkcmjaaDoor.Term
set_option linter.unusedVariables false
set_option linter.unusedSimpArgs false

/-- A term: its kind, its label, its parts. -/
structure Node where
  kind : Int
  label : ByteArray
  a : Int
  b : Int
theorem Node.ext' {x y : Node} (h1 : x.kind = y.kind) (h2 : x.label = y.label) (h3 : x.a = y.a) (h4 : x.b = y.b) : x = y := by cases x; cases y; simp_all
instance : DecidableEq Node := fun x y =>
  if h : x.kind = y.kind ∧ x.label = y.label ∧ x.a = y.a ∧ x.b = y.b then .isTrue (Node.ext' h.1 h.2.1 h.2.2.1 h.2.2.2)
  else .isFalse (fun e => h (by subst e; exact ⟨rfl, rfl, rfl, rfl⟩))
/-- A store: its terms, and how many atoms were drawn. -/
structure TS where
  nodes : List Node
  drawn : Nat

/-- The place of a node, counted from 1; 0: it isn't there. -/
def idx (l : List Node) (n : Node) : Nat := match l.findIdx? (fun x => decide (x = n)) with | some i => i + 1 | none => 0
def knownB (l : List Node) (t : Int) : Bool := decide (1 ≤ t) && decide (t ≤ l.length)
def labelMax (k : Int) : Int := if k = 2 then 1024 else if k = 3 ∨ k = 7 ∨ k = 8 ∨ k = 9 then 0 else if k = 4 ∨ k = 5 then 32 else if k = 6 then 0 else -1
def arity (k : Int) : Int := if k = 2 then 0 else if k = 3 ∨ k = 7 ∨ k = 8 ∨ k = 9 then 2 else if k = 4 then 1 else if k = 5 then 2 else if k = 6 then 1 else 0
def zeroN : Node := ⟨0, ⟨#[]⟩, 0, 0⟩
def getN (l : List Node) (t : Int) : Node := if knownB l t then l.getD (t.toNat - 1) zeroN else zeroN
/-- Is a node as its kind says? -/
def Right (l : List Node) (n : Node) : Prop :=
  if n.kind = 1 then 1 ≤ n.a ∧ n.a ≤ 1099511627776 ∧ n.label = ⟨#[]⟩ ∧ n.b = 0
  else (n.label.size : Int) ≤ labelMax n.kind ∧ (arity n.kind < 1 → n.a = 0) ∧ (arity n.kind < 2 → n.b = 0) ∧ (1 ≤ arity n.kind → knownB l n.a = true) ∧ (arity n.kind = 2 → knownB l n.b = true) ∧
    (n.kind = 8 → (getN l n.a).kind = 6)
instance (l : List Node) (n : Node) : Decidable (Right l n) := by unfold Right; infer_instance
/-- What Make answers and makes of the store. -/
def mk (s : TS) (n : Node) : (Nat × Int) × TS :=
  if idx s.nodes n ≠ 0 then ((idx s.nodes n, 0), s)
  else if ¬ Right s.nodes n then ((0, 10), s)
  else if 262144 ≤ s.nodes.length then ((0, 11), s)
  else ((s.nodes.length + 1, 0), { s with nodes := s.nodes ++ [n] })
def put (s : TS) (n : Node) : Nat × TS := ((mk s n).1.1, (mk s n).2)
/-- Each term was right when it came in. -/
def Built (l : List Node) : Prop := ∀ i n, l[i]? = some n → Right (l.take i) n
structure TOk (s : TS) : Prop where
  nd : s.nodes.Nodup
  len : s.nodes.length ≤ 262144
  built : Built s.nodes
  drawn : s.drawn ≤ 1099511627776

theorem idx_zero {l : List Node} {n : Node} : idx l n = 0 ↔ n ∉ l := by
  unfold idx
  cases h : l.findIdx? (fun x => decide (x = n)) with
  | none =>
    simp only [true_iff]
    rw [List.findIdx?_eq_none_iff] at h
    intro hm
    simpa using h n hm
  | some i =>
    simp only [Nat.add_one_ne_zero, false_iff, Decidable.not_not]
    rw [List.findIdx?_eq_some_iff_getElem] at h
    obtain ⟨hi, h1, _⟩ := h
    have := of_decide_eq_true h1
    rw [← this]
    exact List.getElem_mem _
theorem idx_get {l : List Node} {n : Node} {i : Nat} (h : idx l n = i + 1) : l[i]? = some n := by
  unfold idx at h
  cases h2 : l.findIdx? (fun x => decide (x = n)) with
  | none => rw [h2] at h; simp at h
  | some j =>
    rw [h2] at h
    simp only [Nat.add_right_cancel_iff] at h
    subst h
    rw [List.findIdx?_eq_some_iff_getElem] at h2
    obtain ⟨hi, h1, _⟩ := h2
    rw [List.getElem?_eq_getElem hi]
    exact congrArg some (of_decide_eq_true h1)
theorem idx_of {l : List Node} (hn : l.Nodup) {n : Node} {i : Nat} (h : l[i]? = some n) : idx l n = i + 1 := by
  have hm : n ∈ l := List.mem_of_getElem? h
  have h0 : idx l n ≠ 0 := fun e => idx_zero.1 e hm
  obtain ⟨j, hj⟩ : ∃ j, idx l n = j + 1 := ⟨idx l n - 1, by omega⟩
  have h1 := idx_get hj
  rw [hj]
  have hi := (List.getElem?_eq_some_iff.1 h).1
  have hj2 := (List.getElem?_eq_some_iff.1 h1).1
  have := (List.getElem?_inj hi hn).1 (h.trans h1.symm)
  omega
theorem idx_le (l : List Node) (n : Node) : idx l n ≤ l.length := by
  by_cases h : idx l n = 0
  · omega
  · obtain ⟨j, hj⟩ : ∃ j, idx l n = j + 1 := ⟨idx l n - 1, by omega⟩
    have := (List.getElem?_eq_some_iff.1 (idx_get hj)).1
    omega
theorem knownB_append {l l' : List Node} {t : Int} (h : knownB l t = true) : knownB (l ++ l') t = true := by
  unfold knownB at *
  simp only [Bool.and_eq_true, decide_eq_true_eq, List.length_append] at *
  omega
theorem knownB_iff {l : List Node} {t : Int} : knownB l t = true ↔ 1 ≤ t ∧ t ≤ l.length := by simp [knownB]
theorem getN_append {l l' : List Node} {t : Int} (h : knownB l t = true) : getN (l ++ l') t = getN l t := by
  unfold getN
  rw [if_pos h, if_pos (knownB_append h)]
  rw [knownB_iff] at h
  have hlt : t.toNat - 1 < l.length := by omega
  simp [List.getD, List.getElem?_append_left hlt]
theorem getN_some {l : List Node} {i : Nat} {n : Node} (h : l[i]? = some n) : getN l (i + 1 : Nat) = n := by
  have hi := (List.getElem?_eq_some_iff.1 h).1
  unfold getN
  rw [if_pos (by rw [knownB_iff]; omega)]
  have e : ((i + 1 : Nat) : Int).toNat - 1 = i := by omega
  rw [e]
  simp [List.getD, h]
theorem getN_no {l : List Node} {t : Int} (h : knownB l t = false) : getN l t = zeroN := by unfold getN; rw [if_neg (by simp [h])]
theorem getN_at {l : List Node} {t : Int} (h : knownB l t = true) : l[t.toNat - 1]? = some (getN l t) := by
  unfold getN
  rw [if_pos h]
  rw [knownB_iff] at h
  have hlt : t.toNat - 1 < l.length := by omega
  simp [List.getD, List.getElem?_eq_getElem hlt]
theorem Built.snoc {l : List Node} {n : Node} (h : Built l) (hr : Right l n) : Built (l ++ [n]) := by
  intro i x hx
  rcases Nat.lt_or_ge i l.length with hlt | hge
  · rw [List.getElem?_append_left hlt] at hx
    rw [List.take_append_of_le_length (by omega)]
    exact h i x hx
  · have hi : i = l.length := by
      have := (List.getElem?_eq_some_iff.1 hx).1
      simp at this; omega
    subst hi
    simp at hx
    subst hx
    rw [List.take_left']
    exact hr
    rfl
theorem mk_ok {s : TS} (h : TOk s) (n : Node) : TOk (mk s n).2 := by
  unfold mk
  split
  · exact h
  · rename_i h1
    split
    · exact h
    · rename_i h2
      split
      · exact h
      · rename_i h3
        have h1' : n ∉ s.nodes := idx_zero.1 (by simpa using h1)
        refine ⟨?_, ?_, h.built.snoc (by simpa using h2), h.drawn⟩
        · refine List.nodup_append.2 ⟨h.nd, by simp, ?_⟩
          intro x hx y hy e
          simp at hy
          subst hy; subst e
          exact h1' hx
        · simp; omega
theorem mk_prefix (s : TS) (n : Node) : s.nodes <+: (mk s n).2.nodes := by
  unfold mk
  split
  · exact List.prefix_refl _
  · split
    · exact List.prefix_refl _
    · split
      · exact List.prefix_refl _
      · exact List.prefix_append _ _
theorem mk_drawn (s : TS) (n : Node) : (mk s n).2.drawn = s.drawn := by unfold mk; split; rfl; split; rfl; split <;> rfl
/-- What was made is there. -/
theorem mk_there {s : TS} (h : TOk s) (n : Node) (h0 : (mk s n).1.1 ≠ 0) : (mk s n).2.nodes[(mk s n).1.1 - 1]? = some n ∧ (mk s n).1.1 = idx (mk s n).2.nodes n := by
  unfold mk at *
  split
  · rename_i h1
    obtain ⟨j, hj⟩ : ∃ j, idx s.nodes n = j + 1 := ⟨idx s.nodes n - 1, by omega⟩
    simp only [hj, Nat.add_sub_cancel]
    exact ⟨idx_get hj, trivial⟩
  · rename_i h1
    rw [if_neg h1] at h0
    split
    · rename_i h2
      rw [if_pos h2] at h0
      exact (h0 rfl).elim
    · rename_i h2
      rw [if_neg h2] at h0
      split
      · rename_i h3
        rw [if_pos h3] at h0
        exact (h0 rfl).elim
      · rename_i h3
        have h1' : n ∉ s.nodes := idx_zero.1 (by simpa using h1)
        have hnd : (s.nodes ++ [n]).Nodup := by
          refine List.nodup_append.2 ⟨h.nd, by simp, ?_⟩
          intro x hx y hy e
          simp at hy
          subst hy; subst e
          exact h1' hx
        have hg : (s.nodes ++ [n])[s.nodes.length]? = some n := by simp
        simp only [Nat.add_sub_cancel]
        exact ⟨hg, (idx_of hnd hg).symm⟩
end Go.Proofs.YtaifjojfmkcmjaaDoor.Term
