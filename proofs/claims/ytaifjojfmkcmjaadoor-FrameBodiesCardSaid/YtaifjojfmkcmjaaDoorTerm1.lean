/-
  A store of terms in memory; which terms there are, walked.
-/
import Derived.Test.YtaifjojfmkcmjaaDoorTermM
import Derived.BigQuiet
import Derived.Deep.QuietTactic
import Derived.Lib.SmallJoins
import Derived.Lib.LaidTab
import Derived.Lib.ItoaNum
namespace Go.Proofs.YtaifjojfmkcmjaaDoor.Term
open Go.RowKit Go.Proofs.YtaifjojfmkcmjaaDoorBase Go.Proofs.YtaifjojfmkcmjaaDoorLex2
set_option linter.unusedVariables false
set_option linter.unusedSimpArgs false

theorem infoNode : (Tryd.prog.info? 37).map (fun i => (i.zero, i.size, i.bytes)) = some (some (.agg #[.int .i64 0, .string ⟨#[]⟩, .int .i64 0, .int .i64 0]), 4, 40) := by kernel_rfl
theorem elemNode : Elem Tryd.prog 35 37 (.agg #[.int .i64 0, .string ⟨#[]⟩, .int .i64 0, .int .i64 0]) 4 40 := ⟨by kernel_rfl, by obtain ⟨i, h1, h2, h3, h4⟩ := info_parts infoNode; exact ⟨i, h1, h2, h3, h4⟩, rfl, by decide, by decide⟩

/-- What the library's variables hold. -/
def Gl (w : World) : Prop := Lib.TabIs Tryd.prog w "internal/strconv.uint64pow10" .u64 Lib.pow10Tab ∧ (∃ tp p, w.var? Tryd.prog "strconv.ErrSyntax" = some #[.iface tp p]) ∧ (∃ tp p, w.var? Tryd.prog "strconv.ErrRange" = some #[.iface tp p])
theorem var_lt {P : Program} {w : World} {n : String} {cs : Array Value} (h : w.var? P n = some cs) : ∃ g, P.globalNamed n = some g ∧ g < w.heap.size := by
  unfold World.var? at h
  cases hg : P.globalNamed n with
  | none => rw [hg] at h; cases h
  | some g =>
    rw [hg] at h
    simp only [Option.bind_some] at h
    refine ⟨g, rfl, ?_⟩
    rcases Nat.lt_or_ge g w.heap.size with h1 | h1
    · exact h1
    · rw [Array.getElem?_eq_none h1] at h
      cases h
theorem var_below {P : Program} {w w' : World} {n : String} {cs : Array Value} (h : w.var? P n = some cs) (hb : Below w.heap.size w w') : w'.var? P n = some cs := by
  obtain ⟨g, hg, hl⟩ := var_lt h
  exact Joins.var_stays hg h hb (Nat.le_refl _)
theorem Gl.below {w w' : World} (h : Gl w) (hb : Below w.heap.size w w') : Gl w' := by
  obtain ⟨h1, ⟨t2, p2, h2⟩, t3, p3, h3⟩ := h
  exact ⟨var_below h1 hb, ⟨t2, p2, var_below h2 hb⟩, t3, p3, var_below h3 hb⟩

def StAt (base : Nat) (w : World) (p : Nat) (F : Nat → Prop) (s : TS) : Prop :=
  ∃ nv m, w.heap[p]? = some (.cells #[nv, .map (some m), .int .i64 s.drawn] 81 (0, 0)) ∧ w.heap[m]? = some (.map (entries s.nodes).toArray s.nodes.length) ∧ base ≤ p ∧ base ≤ m ∧ base ≤ w.heap.size ∧
    w.ownsRow base 37 4 nv s.nodes.length (s.nodes.flatMap nodeC) ∧ (∀ k, F k ↔ k = p ∨ k = m ∨ nv.ownBlock = some k)
/-- A law's store: of the law's own memory; what was there before is as it was. -/
structure SAt (w0 w : World) (p : Nat) (F : Nat → Prop) (s : TS) : Prop where
  at_ : StAt w0.heap.size w p F s
  bel : Below w0.heap.size w0 w
  ok : TOk s
  gl : Gl w0
def TNext (w0 w w' : World) (p : Nat) (F : Nat → Prop) (s : TS) : Prop := ∃ F', SAt w0 w' p F' s ∧ (∀ k, F' k → F k ∨ w.heap.size ≤ k) ∧ Kept w w' F

section
variable {w0 w w' w1 w2 : World} {p base : Nat} {F F1 : Nat → Prop} {s s2 : TS}
theorem StAt.base_le (h : StAt base w p F s) : ∀ k, F k → base ≤ k := by
  obtain ⟨nv, m, hp, hm, h1, h2, h3, ho, hF⟩ := h
  intro k hk
  rcases (hF k).1 hk with rfl | rfl | h
  · exact h1
  · exact h2
  · exact (ho.lt k h).1
theorem StAt.lt (h : StAt base w p F s) : ∀ k, F k → k < w.heap.size := by
  obtain ⟨nv, m, hp, hm, h1, h2, h3, ho, hF⟩ := h
  intro k hk
  rcases (hF k).1 hk with rfl | rfl | h
  · exact blk_lt hp
  · exact blk_lt hm
  · exact (ho.lt k h).2
theorem StAt.kept (h : StAt base w p F s) (hk : Kept w w' (fun _ => False)) : StAt base w' p F s := by
  obtain ⟨nv, m, hp, hm, h1, h2, h3, ho, hF⟩ := h
  exact ⟨nv, m, hk.blk hp (fun h => h), hk.blk hm (fun h => h), h1, h2, Nat.le_trans h3 hk.size, own_keptF ho hk (fun _ _ h => h), hF⟩
theorem StAt.keptG {G : Nat → Prop} (h : StAt base w p F s) (hk : Kept w w' G) (hG : ∀ k, F k → ¬ G k) : StAt base w' p F s := by
  obtain ⟨nv, m, hp, hm, h1, h2, h3, ho, hF⟩ := h
  exact ⟨nv, m, hk.blk hp (hG p ((hF p).2 (.inl rfl))), hk.blk hm (hG m ((hF m).2 (.inr (.inl rfl)))), h1, h2, Nat.le_trans h3 hk.size, own_keptF ho hk (fun k hk1 => hG k ((hF k).2 (.inr (.inr hk1)))), hF⟩
theorem SAt.kept (h : SAt w0 w p F s) (hk : Kept w w' (fun _ => False)) : SAt w0 w' p F s :=
  ⟨h.at_.kept hk, h.bel.trans (hk.below (fun _ h => h.elim) h.bel.size), h.ok, h.gl⟩
theorem SAt.keptG {G : Nat → Prop} (h : SAt w0 w p F s) (hk : Kept w w' G) (hG : ∀ k, F k → ¬ G k) (hB : ∀ k, G k → w0.heap.size ≤ k) : SAt w0 w' p F s :=
  ⟨h.at_.keptG hk hG, h.bel.trans (hk.below hB h.bel.size), h.ok, h.gl⟩
theorem SAt.glob (h : SAt w0 w p F s) : Gl w := h.gl.below h.bel
theorem TNext.refl (h : SAt w0 w p F s) : TNext w0 w w p F s := ⟨F, h, fun k hk => .inl hk, Kept.refl _ _⟩
theorem TNext.of_kept (h : SAt w0 w p F s) (hk : Kept w w' (fun _ => False)) : TNext w0 w w' p F s := ⟨F, h.kept hk, fun k hk => .inl hk, hk.mono fun _ h => h.elim⟩
theorem TNext.trans (hF : ∀ k, F1 k → F k ∨ w.heap.size ≤ k) (hk : Kept w w1 F) (h2 : TNext w0 w1 w2 p F1 s2) : TNext w0 w w2 p F s2 := by
  obtain ⟨F2, f2, b2, k2⟩ := h2
  exact ⟨F2, f2, fun k hk2 => (b2 k hk2).elim (hF k) (fun h => .inr (Nat.le_trans hk.size h)), hk.trans k2 hF⟩
theorem TNext.after (hk : Kept w w1 (fun _ => False)) (h2 : TNext w0 w1 w2 p F s2) : TNext w0 w w2 p F s2 := TNext.trans (fun k h => .inl h) (hk.mono fun _ h => h.elim) h2
theorem TNext.then (h1 : TNext w0 w w1 p F s) (hk : Kept w1 w2 (fun _ => False)) : TNext w0 w w2 p F s := by
  obtain ⟨F1, f1, b1, k1⟩ := h1
  exact ⟨F1, f1.kept hk, b1, k1.trans hk fun _ h => h.elim⟩
end

theorem flat_get {l : List Node} {i : Nat} {n : Node} (h : l[i]? = some n) (j : Nat) (hj : j < 4) : (l.flatMap nodeC)[i * 4 + j]? = (nodeC n)[j]? := by
  induction l generalizing i with
  | nil => cases h
  | cons x l ih =>
    cases i with
    | zero =>
      simp only [List.getElem?_cons_zero, Option.some.injEq] at h
      subst h
      rw [List.flatMap_cons, List.getElem?_append_left (by simp [nodeC]; omega)]
      simp
    | succ i =>
      rw [List.getElem?_cons_succ] at h
      rw [List.flatMap_cons, List.getElem?_append_right (by simp [nodeC]; omega)]
      have : (i + 1) * 4 + j - (nodeC x).length = i * 4 + j := by simp [nodeC]; omega
      rw [this]
      exact ih h
theorem flat_len (l : List Node) : (l.flatMap nodeC).length = l.length * 4 := by
  induction l with
  | nil => rfl
  | cons x l ih => rw [List.flatMap_cons, List.length_append, ih]; simp [nodeC]; omega
/-- The cells of the nodes. -/
theorem StAt.node {base : Nat} {w : World} {p : Nat} {F : Nat → Prop} {s : TS} (h : StAt base w p F s) : ∃ A c, w.cell? ⟨p, 0, none⟩ = some (.slice A s.nodes.length c) ∧ s.nodes.length ≤ c ∧ c ≤ maxLen ∧
    (∀ i n, s.nodes[i]? = some n → ∃ g, A = some ⟨g, 0, none⟩ ∧ w.cell? ⟨g, i * 4, none⟩ = some (.int .i64 n.kind) ∧ w.cell? ⟨g, i * 4 + 1, none⟩ = some (.string n.label) ∧ w.cell? ⟨g, i * 4 + 2, none⟩ = some (.int .i64 n.a) ∧ w.cell? ⟨g, i * 4 + 3, none⟩ = some (.int .i64 n.b)) := by
  obtain ⟨nv, m, hp, hm, h1, h2, h3, ho, hF⟩ := h
  obtain ⟨A, c, rfl, hc, hcm⟩ := own_slice ho
  refine ⟨A, c, by simpa using cellOf (j := 0) hp, hc, hcm, fun i n hn => ?_⟩
  have hi := (List.getElem?_eq_some_iff.1 hn).1
  rcases ho.2 with ⟨hv, hx⟩ | ⟨g, cap, cur, hv, _⟩
  · omega
  · simp only [Value.slice.injEq] at hv
    obtain ⟨rfl, _, rfl⟩ := hv
    have hcell := ho.cells (g := g) rfl
    have e0 := hcell (i * 4 + 0) _ (flat_get hn 0 (by decide))
    have e1 := hcell (i * 4 + 1) _ (flat_get hn 1 (by decide))
    have e2 := hcell (i * 4 + 2) _ (flat_get hn 2 (by decide))
    have e3 := hcell (i * 4 + 3) _ (flat_get hn 3 (by decide))
    rw [Addr.add_lit, Nat.zero_add] at e0 e1 e2 e3
    rw [Nat.add_zero] at e0
    exact ⟨g, rfl, e0, e1, e2, e3⟩
theorem known_any (w0 w : World) (p : Nat) (F : Nat → Prop) (s : TS) (t : Int) (h : SAt w0 w p F s) :
    Calls Tryd.prog 57 #[.pointer (some ⟨p, 0, none⟩), .int .i64 t] w fun e w' => e = .returned (.bool (knownB s.nodes t)) ∧ w' = w := by
  obtain ⟨A, c, hc, hle, hcm, _⟩ := h.at_.node
  have hl := h.ok.len
  clear h
  have e : knownB s.nodes t = (decide (1 ≤ t) && decide (t ≤ (s.nodes.length : Int))) := rfl
  rw [e]
  by_cases h1 : 1 ≤ t
  · by_cases h2 : t ≤ (s.nodes.length : Int)
    · go_enter Tryd.func57, Tryd.ntmps57
      go_wp2
      go_ret
      exact ⟨by simp [h1, h2] <;> omega, rfl⟩
    · go_enter Tryd.func57, Tryd.ntmps57
      go_wp2
      go_ret
      exact ⟨by simp <;> omega, rfl⟩
  · go_enter Tryd.func57, Tryd.ntmps57
    go_wp2
    go_ret
    exact ⟨by simp; intro h; omega, rfl⟩

theorem parts_any (k : Int) (w : World) : Calls Tryd.prog 60 #[.int .i64 k] w fun e w' => e = .returned (.tuple #[.int .i64 (labelMax k), .int .i64 (arity k)]) ∧ w' = w := by
  by_cases h2 : k = 2
  · subst h2
    go_enter Tryd.func60, Tryd.ntmps60
    go_wp2
    go_ret2
    exact ⟨rfl, rfl⟩
  have q2 : (k == 2) = false := by simpa using h2
  by_cases h3 : k = 3
  · subst h3
    go_enter Tryd.func60, Tryd.ntmps60
    go_wp2
    go_ret2
    exact ⟨rfl, rfl⟩
  have q3 : (k == 3) = false := by simpa using h3
  by_cases h7 : k = 7
  · subst h7
    go_enter Tryd.func60, Tryd.ntmps60
    go_wp2
    go_ret2
    exact ⟨rfl, rfl⟩
  have q7 : (k == 7) = false := by simpa using h7
  by_cases h8 : k = 8
  · subst h8
    go_enter Tryd.func60, Tryd.ntmps60
    go_wp2
    go_ret2
    exact ⟨rfl, rfl⟩
  have q8 : (k == 8) = false := by simpa using h8
  by_cases h9 : k = 9
  · subst h9
    go_enter Tryd.func60, Tryd.ntmps60
    go_wp2
    go_ret2
    exact ⟨rfl, rfl⟩
  have q9 : (k == 9) = false := by simpa using h9
  by_cases h4 : k = 4
  · subst h4
    go_enter Tryd.func60, Tryd.ntmps60
    go_wp2
    go_ret2
    exact ⟨rfl, rfl⟩
  have q4 : (k == 4) = false := by simpa using h4
  by_cases h5 : k = 5
  · subst h5
    go_enter Tryd.func60, Tryd.ntmps60
    go_wp2
    go_ret2
    exact ⟨rfl, rfl⟩
  have q5 : (k == 5) = false := by simpa using h5
  by_cases h6 : k = 6
  · subst h6
    go_enter Tryd.func60, Tryd.ntmps60
    go_wp2
    go_ret2
    exact ⟨rfl, rfl⟩
  have q6 : (k == 6) = false := by simpa using h6
  have e1 : labelMax k = -1 := by unfold labelMax; simp [h2, h3, h4, h5, h6, h7, h8, h9]
  have e2 : arity k = 0 := by unfold arity; simp [h2, h3, h4, h5, h6, h7, h8, h9]
  rw [e1, e2]
  clear e1 e2
  go_enter Tryd.func60, Tryd.ntmps60
  go_wp2
  go_ret2
  exact ⟨rfl, rfl⟩
end Go.Proofs.YtaifjojfmkcmjaaDoor.Term
