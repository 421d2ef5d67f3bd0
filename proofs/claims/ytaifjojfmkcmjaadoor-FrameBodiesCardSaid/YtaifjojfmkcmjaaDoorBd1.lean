/-
  Commits' bodies: what is compared, walked.
-/
import Derived.Test.YtaifjojfmkcmjaaDoorFr3
namespace Go.Proofs.YtaifjojfmkcmjaaDoor.Term
open Go.RowKit Go.Sort Go.Proofs.YtaifjojfmkcmjaaDoorBase Go.Proofs.YtaifjojfmkcmjaaDoorLex2 Go.Proofs.YtaifjojfmkcmjaaDoor.Dec
set_option linter.unusedVariables false
set_option linter.unusedSimpArgs false

/-- One number of a row. -/
theorem row_at {w : World} {A : Option Addr} {l : List Int} {n k : Nat} {x : Int} (h : RowIn w A n (ic l)) (hx : l[k]? = some x) : ∃ g o, A = some ⟨g, o, none⟩ ∧ g < w.heap.size ∧ w.cell? ⟨g, o + k, none⟩ = some (.int .i64 x) := by
  have hk := (List.getElem?_eq_some_iff.1 hx).1
  have hn : n = l.length := by rw [h.len]; simp [ic]
  obtain ⟨g, o, hA, hg, hc⟩ := h.cell (by omega)
  exact ⟨g, o, hA, hg, hc k _ (by unfold ic; rw [List.getElem?_map, hx]; rfl)⟩
theorem rowK {w w' : World} {A : Option Addr} {n : Nat} {xs : List Value} (h : RowIn w A n xs) (hk : Kept w w' (fun _ => False)) : RowIn w' A n xs := rowIn_keep h hk (fun _ _ h => h)
set_option maxHeartbeats 1600000 in
set_option maxRecDepth 100000 in
theorem ints_any (w : World) (l m : List Int) (A B : Option Addr) (c d : Nat) (hl : RowIn w A l.length (ic l)) (hm : RowIn w B m.length (ic m)) :
    Calls Tryd.prog 55 #[.slice A l.length c, .slice B m.length d] w fun e w' => e = .returned (.bool (decide (l = m))) ∧ Kept w w' (fun _ => False) := by
  have h1 := hl.max
  have h2 := hm.max
  unfold maxLen at h1 h2
  have HL := Lib.hid hl
  have HM := Lib.hid hm
  clear hl hm
  obtain ⟨r, hr⟩ : ∃ r, decide (l = m) = r := ⟨_, rfl⟩
  rw [hr]
  have R := Lib.hid hr
  clear hr
  by_cases hlm : l.length = m.length
  · obtain ⟨n, hn⟩ : ∃ n, l.length = n := ⟨_, rfl⟩
    have hn' : m.length = n := by rw [← hlm, hn]
    rw [hn] at HL h1 ⊢
    rw [hn'] at HM h2 ⊢
    clear hlm
    have q0 : ((n : Int) == n) = true := by simp
    have LL := Lib.hid hn
    have LM := Lib.hid hn'
    clear hn hn'
    go_enter Tryd.func55, Tryd.ntmps55
    go_wp2
    go_loopw [5] (fun iv wr => Kept w wr (fun _ => False) ∧ ∃ k : Nat, k ≤ n ∧ iv = .int .i64 k ∧ l.take k = m.take k) (fun iv _ => (n - intOf iv).toNat)
    case atStart => exact ⟨Kept.refl _ _, 0, Nat.zero_le _, rfl, rfl⟩
    case round =>
      obtain ⟨hw0, k, hk, rfl, hall⟩ := hrel
      have KW := Lib.hid hw0
      clear hw0
      have ALL := Lib.hid hall
      clear hall
      by_cases hlt : k < n
      · obtain ⟨x, hx⟩ : ∃ x, l[k]? = some x := ⟨_, List.getElem?_eq_getElem (by rw [LL.out]; exact hlt)⟩
        obtain ⟨y, hy⟩ : ∃ y, m[k]? = some y := ⟨_, List.getElem?_eq_getElem (by rw [LM.out]; exact hlt)⟩
        obtain ⟨g, o, rfl, -, ca⟩ := row_at (rowK HL.out KW.out) hx
        obtain ⟨g2, o2, rfl, -, cb⟩ := row_at (rowK HM.out KW.out) hy
        have HX := Lib.hid hx
        have HY := Lib.hid hy
        have q1 : (0 : Int) ≤ k := by omega
        have q2 : (k : Int) < n := by omega
        clear hx hy
        by_cases e : x = y
        · subst e
          go_wp2
          refine wp_region_lex (fun _ => True) [0, 0, 0, 1, 0, 0, 0, 1, 0] (by kernel_rfl) (by kernel_rfl) (by kernel_rfl) (trivial) (fun Q' hQ' => ?_)
          simp only [List.zip_cons_cons, List.zip_nil_right]
          repeat (first
            | (refine wpX_silent ?_ (fun K hK => ?_)
               · rfl
               apply Exists.intro
               refine ⟨fun w' => ?_, ?_⟩
               · go_simp
                 exact ⟨rfl, rfl⟩
               go_simp
               refine hK _ _ ?_
               clear hK K)
            | (refine wpX_read ?_ (fun K hK => ?_)
               · rfl
               apply Exists.intro
               refine ⟨?_, ?_⟩
               · go_simp
                 exact ⟨rfl, rfl⟩
               go_simp
               refine hK _ _ ?_
               clear hK K)
            | (refine wpX_float ?_ (fun K hK => ?_)
               · rfl
               apply Exists.intro
               refine ⟨fun w' hw' => ?_, ?_⟩
               · try dsimp only at hw'
                 go_simp
                 exact ⟨rfl, rfl⟩
               go_simp
               refine hK _ _ ?_
               clear hK K)
            | (refine wpX_not ?_ (fun K hK => ?_)
               · rfl
               go_simp
               refine hK _ _ ?_
               clear hK K))
          refine wpX_nil (hQ' _ _ ?_)
          go_wp2
          go_roundw
          case rel =>
            refine ⟨KW.out.drew, k + 1, by omega, by go_num, ?_⟩
            rw [List.take_add_one, List.take_add_one, HX.out, HY.out, ALL.out]
          case measure => simp [intOf]; omega
        · have qe : (x == y) = false := by simpa using e
          have RF : Hid (r = false) := Lib.hid (by
            rw [← R.out]
            refine decide_eq_false (fun h => e ?_)
            have hx := HX.out
            rw [h, HY.out] at hx
            exact (Option.some.inj hx).symm)
          clear e
          go_wp2
          refine wp_region_lex (fun _ => True) [0, 0, 0, 1, 0, 0, 0, 1, 0] (by kernel_rfl) (by kernel_rfl) (by kernel_rfl) (trivial) (fun Q' hQ' => ?_)
          simp only [List.zip_cons_cons, List.zip_nil_right]
          repeat (first
            | (refine wpX_silent ?_ (fun K hK => ?_)
               · rfl
               apply Exists.intro
               refine ⟨fun w' => ?_, ?_⟩
               · go_simp
                 exact ⟨rfl, rfl⟩
               go_simp
               refine hK _ _ ?_
               clear hK K)
            | (refine wpX_read ?_ (fun K hK => ?_)
               · rfl
               apply Exists.intro
               refine ⟨?_, ?_⟩
               · go_simp
                 exact ⟨rfl, rfl⟩
               go_simp
               refine hK _ _ ?_
               clear hK K)
            | (refine wpX_float ?_ (fun K hK => ?_)
               · rfl
               apply Exists.intro
               refine ⟨fun w' hw' => ?_, ?_⟩
               · try dsimp only at hw'
                 go_simp
                 exact ⟨rfl, rfl⟩
               go_simp
               refine hK _ _ ?_
               clear hK K)
            | (refine wpX_not ?_ (fun K hK => ?_)
               · rfl
               go_simp
               refine hK _ _ ?_
               clear hK K))
          refine wpX_nil (hQ' _ _ ?_)
          go_wp2
          go_ret
          rw [RF.out]
          exact ⟨rfl, KW.out.drew⟩
      · have hk' : k = n := by omega
        subst hk'
        have RF : Hid (r = true) := Lib.hid (by
          rw [← R.out]
          have hall := ALL.out
          rw [List.take_of_length_le (by rw [LL.out]; exact Nat.le_refl _), List.take_of_length_le (by rw [LM.out]; exact Nat.le_refl _)] at hall
          exact decide_eq_true hall)
        go_wp2
        go_ret
        rw [RF.out]
        exact ⟨rfl, KW.out⟩
  · have q0 : ((l.length : Int) == m.length) = false := by simp; omega
    have RF : Hid (r = false) := Lib.hid (by rw [← R.out]; exact decide_eq_false (fun h => hlm (by rw [h])))
    clear hlm
    go_enter Tryd.func55, Tryd.ntmps55
    go_wp2
    go_ret
    rw [RF.out]
    exact ⟨rfl, Kept.refl _ _⟩
def amongB (l : List Int) : Bool := l.all (fun x => decide (1 ≤ x) && decide (x ≤ 18)) && decide (l.length ≤ 30)
set_option maxHeartbeats 1600000 in
set_option maxRecDepth 100000 in
theorem among_any (w : World) (l : List Int) (A : Option Addr) (c : Nat) (hl : RowIn w A l.length (ic l)) :
    Calls Tryd.prog 50 #[.slice A l.length c] w fun e w' => e = .returned (.bool (amongB l)) ∧ w' = w := by
  have h1 := hl.max
  unfold maxLen at h1
  have HL := Lib.hid hl
  clear hl
  obtain ⟨r, hr⟩ : ∃ r, amongB l = r := ⟨_, rfl⟩
  rw [hr]
  have R := Lib.hid hr
  clear hr
  go_enter Tryd.func50, Tryd.ntmps50
  go_wp2
  go_loopw [7] (fun iv wr => wr = w ∧ ∃ k : Nat, k ≤ l.length ∧ iv = .int .i64 k ∧ (l.take k).all (fun x => decide (1 ≤ x) && decide (x ≤ 18)) = true) (fun iv _ => (l.length - intOf iv).toNat)
  case atStart => exact ⟨rfl, 0, Nat.zero_le _, rfl, rfl⟩
  case round =>
    obtain ⟨hw0, k, hk, rfl, hall⟩ := hrel
    obtain rfl := hw0.symm
    clear hw0
    have ALL := Lib.hid hall
    clear hall
    by_cases hlt : k < l.length
    · obtain ⟨x, hx⟩ : ∃ x, l[k]? = some x := ⟨_, List.getElem?_eq_getElem hlt⟩
      obtain ⟨g, o, rfl, -, ca⟩ := row_at HL.out hx
      have HX := Lib.hid hx
      have q1 : (0 : Int) ≤ k := by omega
      have q2 : (k : Int) < l.length := by omega
      clear hx
      have bad : ¬ (1 ≤ x ∧ x ≤ 18) → Hid (r = false) := fun hb => Lib.hid (by
        rw [← R.out]
        unfold amongB
        rw [Bool.and_eq_false_iff]
        refine .inl (Bool.eq_false_iff.2 fun h => hb ?_)
        have := List.all_eq_true.1 h x (List.mem_of_getElem? HX.out)
        simpa using this)
      by_cases x1 : x < 1
      · have RF := bad (by omega)
        clear bad
        go_wp2
        go_ret
        rw [RF.out]
        exact ⟨rfl, rfl⟩
      · by_cases x9 : 18 < x
        · have RF := bad (by omega)
          clear bad
          go_wp2
          go_ret
          rw [RF.out]
          exact ⟨rfl, rfl⟩
        · clear bad
          go_wp2
          go_roundw
          case rel =>
            refine ⟨trivial, k + 1, by omega, by go_num, ?_⟩
            rw [List.take_add_one, HX.out]
            simp only [Option.toList_some, List.all_append, ALL.out, List.all_cons, List.all_nil, Bool.and_true, Bool.true_and, Bool.and_eq_true, decide_eq_true_eq]
            omega
          case measure => simp [intOf]; omega
    · have hk' : k = l.length := by omega
      subst hk'
      have RF : Hid (r = decide ((l.length : Int) ≤ 30)) := Lib.hid (by
        rw [← R.out]
        have hall := ALL.out
        rw [List.take_length] at hall
        unfold amongB
        rw [hall, Bool.true_and]
        exact decide_eq_decide.2 (by omega))
      go_wp2
      go_ret
      rw [RF.out]
      exact ⟨rfl, rfl⟩
end Go.Proofs.YtaifjojfmkcmjaaDoor.Term
