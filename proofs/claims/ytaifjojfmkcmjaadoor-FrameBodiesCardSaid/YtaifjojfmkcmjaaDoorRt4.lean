/-
  The reference's store: a node's place; Make.
-/
import Derived.Test.YtaifjojfmkcmjaaDoorRt3
namespace Go.Proofs.YtaifjojfmkcmjaaDoor.Term
open Go.RowKit Go.Sort Go.Proofs.YtaifjojfmkcmjaaDoorBase Go.Proofs.YtaifjojfmkcmjaaDoorLex2
set_option linter.unusedVariables false
set_option linter.unusedSimpArgs false

theorem rright_any (base : Nat) (w : World) (q : Nat) (G : Nat → Prop) (s : TS) (n : Node) (h : RAt base w q G s) :
    Calls Tryd.prog 41 #[.pointer (some ⟨q, 0, none⟩), nodeV n] w fun e w' => e = .returned (.bool (decide (Right s.nodes n))) ∧ Kept w w' (fun _ => False) := by
  obtain ⟨k, l, a, b⟩ := n
  by_cases h1 : k = 1
  · subst h1; exact rright_1 base w q G s l a b h
  by_cases h2 : k = 2
  · subst h2; exact rright_2 base w q G s l a b h
  by_cases h3 : k = 3
  · subst h3; exact rright_3 base w q G s l a b h
  by_cases h4 : k = 4
  · subst h4; exact rright_4 base w q G s l a b h
  by_cases h5 : k = 5
  · subst h5; exact rright_5 base w q G s l a b h
  by_cases h6 : k = 6
  · subst h6; exact rright_6 base w q G s l a b h
  by_cases h7 : k = 7
  · subst h7; exact rright_7 base w q G s l a b h
  by_cases h8 : k = 8
  · subst h8; exact rright_8 base w q G s l a b h
  by_cases h9 : k = 9
  · subst h9; exact rright_9 base w q G s l a b h
  exact rright_no base w q G s l k a b h1 h2 h3 h4 h5 h6 h7 h8 h9 h

set_option maxHeartbeats 1600000 in
set_option maxRecDepth 100000 in
theorem rfind_any (base : Nat) (w : World) (q : Nat) (G : Nat → Prop) (s : TS) (n : Node) (h : RAt base w q G s) :
    Calls Tryd.prog 42 #[.pointer (some ⟨q, 0, none⟩), nodeV n] w fun e w' => e = .returned (.int .i64 (idx s.nodes n)) ∧ Kept w w' (fun _ => False) := by
  have hnd := h.ok.nd
  have hlen := h.ok.len
  obtain ⟨A, c, hc, hle, hcm, hcells⟩ := h.node
  have HN := Lib.hid hnd
  have HC := Lib.hid hcells
  have pl := World.block_lt_of_cell? _ _ hc
  obtain ⟨r, hr⟩ : ∃ r, idx s.nodes n = r := ⟨_, rfl⟩
  rw [hr]
  have HR := Lib.hid hr
  clear h hnd hcells hr
  obtain ⟨nk, nl, na, nb⟩ := n
  unfold nodeV
  go_enter Tryd.func42, Tryd.ntmps42
  go_wp2
  obtain ⟨w1, hw1⟩ : ∃ w1, w.alloc (.cells #[.int .i64 nk, .string nl, .int .i64 na, .int .i64 nb] 37) = w1 := ⟨_, rfl⟩
  have ka := (Kept.refl w (fun _ => False)).alloc (.cells #[.int .i64 nk, .string nl, .int .i64 na, .int .i64 nb] 37)
  have hb := heap_alloc_new w (.cells #[.int .i64 nk, .string nl, .int .i64 na, .int .i64 nb] 37)
  rw [hw1] at ka hb ⊢
  have hc1 : w1.cell? ⟨q, 0, none⟩ = some (.slice A s.nodes.length c) := by rw [← hc]; simp only [World.cell?, ka.block q pl (fun h => h)]
  have n0 := cellOf (j := 0) hb
  have n1 := cellOf (j := 1) hb
  have n2 := cellOf (j := 2) hb
  have n3 := cellOf (j := 3) hb
  simp at n0 n1 n2 n3
  have pl1 := World.block_lt_of_cell? _ _ hc1
  have KA := Lib.hid ka
  clear hc ka hb hw1
  go_loopw [5] (fun iv wr => ∃ (m j : Nat), wr = w1.drewN m ∧ iv = .int .i64 ((j : Int) - 1) ∧ j ≤ s.nodes.length ∧ ∀ i x, j ≤ i → s.nodes[i]? = some x → x ≠ ⟨nk, nl, na, nb⟩) (fun iv _ => (intOf iv + 1).toNat)
  case atStart =>
    refine ⟨0, s.nodes.length, rfl, rfl, Nat.le_refl _, fun i x hi hx => ?_⟩
    have := (List.getElem?_eq_some_iff.1 hx).1
    omega
  case round =>
    obtain ⟨m, j, rfl, rfl, hj, hall⟩ := hrel
    have HALL := Lib.hid hall
    clear hall
    cases j with
    | zero =>
      have q0 : ¬ (0 : Int) ≤ ((0 : Nat) : Int) - 1 := by omega
      go_wp2
      go_ret
      have hr0 : r = 0 := by
        rw [← HR.out, idx_zero]
        intro hm
        obtain ⟨i, hi⟩ := List.mem_iff_getElem?.1 hm
        exact HALL.out i _ (Nat.zero_le _) hi rfl
      exact ⟨by rw [hr0]; rfl, KA.out.drewN m⟩
    | succ j =>
      have hlt : j < s.nodes.length := by omega
      obtain ⟨x, hx⟩ : ∃ x, s.nodes[j]? = some x := ⟨_, List.getElem?_eq_getElem hlt⟩
      obtain ⟨g, hA, e0, e1, e2, e3⟩ := HC.out j x hx
      have q0 : ((j + 1 : Nat) : Int) - 1 = j := by omega
      have q1 : (0 : Int) ≤ j := by omega
      have q2 : (j : Int) < s.nodes.length := by omega
      have gl := World.block_lt_of_cell? _ _ e0
      have f0 : w1.cell? ⟨g, j * 4, none⟩ = some (.int .i64 x.kind) := by rw [← e0]; simp only [World.cell?, KA.out.block g gl (fun h => h)]
      have f1 : w1.cell? ⟨g, j * 4 + 1, none⟩ = some (.string x.label) := by rw [← e1]; simp only [World.cell?, KA.out.block g gl (fun h => h)]
      have f2 : w1.cell? ⟨g, j * 4 + 2, none⟩ = some (.int .i64 x.a) := by rw [← e2]; simp only [World.cell?, KA.out.block g gl (fun h => h)]
      have f3 : w1.cell? ⟨g, j * 4 + 3, none⟩ = some (.int .i64 x.b) := by rw [← e3]; simp only [World.cell?, KA.out.block g gl (fun h => h)]
      have gl1 := World.block_lt_of_cell? _ _ f0
      rw [q0]
      subst hA
      clear e0 e1 e2 e3 gl
      have heq := fun w => run_equal_node x ⟨nk, nl, na, nb⟩ w
      have HX := Lib.hid hx
      clear hx
      by_cases hxn : x = ⟨nk, nl, na, nb⟩
      · subst hxn
        simp only at f0 f1 f2 f3
        go_wp2
        go_quiet (fail)
        go_wp2
        go_ret
        have hr1 := idx_of HN.out HX.out
        rw [HR.out] at hr1
        exact ⟨by rw [hr1]; rfl, KA.out.drewN _⟩
      · have HXN := Lib.hid hxn
        have hne : (x.kind ≠ nk) ∨ (x.kind = nk ∧ x.label ≠ nl) ∨ (x.kind = nk ∧ x.label = nl ∧ x.a ≠ na) ∨ (x.kind = nk ∧ x.label = nl ∧ x.a = na ∧ x.b ≠ nb) := by
          by_cases h0 : x.kind = nk
          · by_cases h1 : x.label = nl
            · by_cases h2 : x.a = na
              · by_cases h3 : x.b = nb
                · exact absurd (Node.ext' h0 h1 h2 h3) hxn
                · exact .inr (.inr (.inr ⟨h0, h1, h2, h3⟩))
              · exact .inr (.inr (.inl ⟨h0, h1, h2⟩))
            · exact .inr (.inl ⟨h0, h1⟩)
          · exact .inl h0
        have hstep : ∀ i y, j ≤ i → s.nodes[i]? = some y → y ≠ ⟨nk, nl, na, nb⟩ := by
          intro i y hi hy
          rcases Nat.lt_or_ge j i with h | h
          · exact HALL.out i y h hy
          · have : i = j := by omega
            subst this
            rw [HX.out] at hy
            cases hy
            exact HXN.out
        have HST := Lib.hid hstep
        clear heq hxn hstep
        rcases hne with h | ⟨h, h'⟩ | ⟨h, h', h''⟩ | ⟨h, h', h'', h'''⟩
        · have d0 : (x.kind == nk) = false := by simpa using h
          go_wp2
          go_quiet (fail)
          go_wp2
          exact ⟨⟨_, j, rfl, rfl, by omega, HST.out⟩, by simp only [intOf]; omega⟩
        · have d0 : (x.kind == nk) = true := by simpa using h
          have d1 : (x.label.toList == nl.toList) = false := str_ne h'
          rw [h] at f0
          go_wp2
          go_quiet (fail)
          go_wp2
          exact ⟨⟨_, j, rfl, rfl, by omega, HST.out⟩, by simp only [intOf]; omega⟩
        · have d2 : (x.a == na) = false := by simpa using h''
          rw [h] at f0
          rw [h'] at f1
          go_wp2
          go_quiet (fail)
          go_wp2
          exact ⟨⟨_, j, rfl, rfl, by omega, HST.out⟩, by simp only [intOf]; omega⟩
        · have d2 : (x.b == nb) = false := by simpa using h'''
          rw [h] at f0
          rw [h'] at f1
          rw [h''] at f2
          go_wp2
          go_quiet (fail)
          go_wp2
          exact ⟨⟨_, j, rfl, rfl, by omega, HST.out⟩, by simp only [intOf]; omega⟩
end Go.Proofs.YtaifjojfmkcmjaaDoor.Term
