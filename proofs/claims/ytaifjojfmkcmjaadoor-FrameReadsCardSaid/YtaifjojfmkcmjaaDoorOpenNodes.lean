/-
  A script of terms as an argument: each term's cells.
-/
import Derived.Test.YtaifjojfmkcmjaaDoorOpen2
import Derived.Test.YtaifjojfmkcmjaaDoorLawReads0
namespace Go.Proofs.YtaifjojfmkcmjaaDoor.Term
open Go.RowKit Go.ChangeShapes Go.WideShapes Go.Deep Go.Proofs.YtaifjojfmkcmjaaDoorBase
set_option linter.unusedVariables false
theorem nodeFields : ∃ f0 f1 f2 f3, Tryd.prog.underlying 37 = some (.struct #[f0, f1, f2, f3]) ∧ f0.type = 3 ∧ f1.type = 9 ∧ f2.type = 3 ∧ f3.type = 3 ∧ oneCellFields Tryd.prog #[f0, f1, f2, f3] = true :=
  ⟨_, _, _, _, Tryd.underlying37, rfl, rfl, rfl, rfl, by kernel_rfl⟩

theorem choose_list {α : Type} {n : Nat} {p : Nat → α → Prop} (h : ∀ i, i < n → ∃ x, p i x) : ∃ l : List α, l.length = n ∧ ∀ i x, l[i]? = some x → p i x := by
  induction n with
  | zero => exact ⟨[], rfl, fun i x hx => by simp at hx⟩
  | succ n ih =>
    obtain ⟨l, hl, hp⟩ := ih fun i hi => h i (by omega)
    obtain ⟨x, hx⟩ := h n (by omega)
    refine ⟨l ++ [x], by simp [hl], fun i y hy => ?_⟩
    rcases Nat.lt_or_ge i l.length with hlt | hge
    · rw [List.getElem?_append_left hlt] at hy; exact hp i y hy
    · rw [List.getElem?_append_right hge] at hy
      have h0 : i - l.length = 0 := by
        rcases Nat.eq_zero_or_pos (i - l.length) with h0 | h0
        · exact h0
        · rw [List.getElem?_eq_none (by simp; omega)] at hy; cases hy
      rw [h0] at hy
      simp at hy
      subst hy
      rw [show i = n by omega]; exact hx

theorem open_nodes {H : Type} {enc : TypeId × Value → H} {w : World} {ts : List TypeId} {ds : List (DataW H)} {j : Nat} {d : DataW H} {A : Option Addr} {n c base : Nat} {held : Bool} {ps : List MemPlace}
    (hsz : (DataW.weightsEach Tryd.prog ts ds).all (· ≤ reachBytes) = true) (htj : ts[j]? = some 35) (hdj : ds[j]? = some d) (h : DataW.Trod enc Tryd.prog w base (fun _ => true) held 35 (.slice A n c) d ps) :
    ∃ os : List Node, NodesIn w A n os ∧ ∀ o ∈ os, o.label.size ≤ 140737488351232 := by
  obtain ⟨f0, f1, f2, f3, hs, t0, t1, t2, t3, hone⟩ := nodeFields
  obtain ⟨fuel, hf⟩ := h
  rcases open_fields Tryd.underlying35 hs hone (by kernel_rfl) hf with hcs | ⟨a, len, cap, D, rest, hcs, hm, hx, hi⟩
  · simp [Value.cells] at hcs
    obtain ⟨rfl, rfl, rfl⟩ := hcs
    exact ⟨[], ⟨rfl, Nat.zero_le _, fun h => absurd h (Nat.lt_irrefl 0)⟩, fun s hs => by cases hs⟩
  simp [Value.cells] at hcs
  obtain ⟨rfl, rfl, rfl⟩ := hcs
  have each : ∀ i, i < n → ∃ o : Node, w.cell? (a.add (i * 4)) = some (.int .i64 o.kind) ∧ w.cell? (a.add (i * 4 + 1)) = some (.string o.label) ∧ w.cell? (a.add (i * 4 + 2)) = some (.int .i64 o.a) ∧ w.cell? (a.add (i * 4 + 3)) = some (.int .i64 o.b) ∧ o.label.size ≤ 140737488351232 := by
    intro i hil
    obtain ⟨l, hD, hl⟩ := hi i hil
    obtain ⟨v0, y0, n0, c0, _, r0⟩ := hl 0 f0 rfl
    obtain ⟨v1, y1, n1, c1, g3, r1⟩ := hl 1 f1 rfl
    obtain ⟨v2, y2, n2, c2, _, r2⟩ := hl 2 f2 rfl
    obtain ⟨v3, y3, n3, c3, _, r3⟩ := hl 3 f3 rfl
    rw [t0] at r0; rw [t1] at r1; rw [t2] at r2; rw [t3] at r3
    obtain ⟨k0, e0, _⟩ := DataW.trod_int Tryd.underlying3 r0
    obtain ⟨s, e1, e4, _⟩ := DataW.trod_string Tryd.underlying9 r1
    obtain ⟨k2, e2, _⟩ := DataW.trod_int Tryd.underlying3 r2
    obtain ⟨k3, e3, _⟩ := DataW.trod_int Tryd.underlying3 r3
    simp only [List.cons.injEq, and_true] at e0 e1 e2 e3
    subst e0; subst e1; subst e2; subst e3
    refine ⟨⟨k0, s, k2, k3⟩, c0, c1, c2, c3, ?_⟩
    rw [e4] at g3
    have hmem : D i ∈ (List.range n).map D := List.mem_map.2 ⟨i, List.mem_range.2 hil, rfl⟩
    have hlm : l ≠ [] := by rintro rfl; simp at g3
    have := List.all_eq_true.1 hsz _ (DataW.weights_mem_each htj hdj s.data.toList.length (by
      rw [show d = _ from hx]
      simp only [DataW.weights, Tryd.underlying35, List.mem_cons, List.mem_append]
      refine .inr (.inl (weightsAll_mem hmem ?_))
      rw [hD]
      simp only [DataW.weights, hs]
      refine DataW.weights_mem_each (j := 1) (t := 9) (by simp [t1]) g3 _ (by simp [DataW.weights])))
    simp only [decide_eq_true_eq] at this
    rw [len_data] at this
    exact this
  obtain ⟨os, hlen, hos⟩ := choose_list each
  refine ⟨os, ⟨hlen.symm, hm, fun hpos => ?_⟩, fun o ho => ?_⟩
  · obtain ⟨b, off, spot⟩ := a
    obtain ⟨o, hz, _⟩ := each 0 hpos
    have hspot : spot = none := by simpa [Addr.add] using World.cell?_spot hz
    subst hspot
    refine ⟨b, off, rfl, by have := World.block_lt_of_cell? _ _ hz; simpa [Addr.add] using this, fun k o hk => ?_⟩
    obtain ⟨g0, g1, g2, g3, _⟩ := hos k o hk
    rw [add_plain] at g0 g1 g2 g3
    exact ⟨g0, by rw [Nat.add_assoc]; exact g1, by rw [Nat.add_assoc]; exact g2, by rw [Nat.add_assoc]; exact g3⟩
  · obtain ⟨k, hk⟩ := List.getElem?_of_mem ho
    exact (hos k o hk).2.2.2.2
end Go.Proofs.YtaifjojfmkcmjaaDoor.Term
