/-
  The reference's store: right, at boxes.
-/
import Derived.Test.YtaifjojfmkcmjaaDoorRt2
namespace Go.Proofs.YtaifjojfmkcmjaaDoor.Term
open Go.RowKit Go.Sort Go.Proofs.YtaifjojfmkcmjaaDoorBase Go.Proofs.YtaifjojfmkcmjaaDoorLex2
set_option linter.unusedVariables false
set_option linter.unusedSimpArgs false

set_option maxHeartbeats 1600000 in
set_option maxRecDepth 100000 in
theorem rright_8 (base : Nat) (w : World) (q : Nat) (G : Nat → Prop) (s : TS) (l : ByteArray) (a b : Int) (h : RAt base w q G s) :
    Calls Tryd.prog 41 #[.pointer (some ⟨q, 0, none⟩), nodeV ⟨8, l, a, b⟩] w fun e w' => e = .returned (.bool (decide (Right s.nodes ⟨8, l, a, b⟩))) ∧ Kept w w' (fun _ => False) := by
  obtain ⟨ka, hka⟩ : ∃ k, knownB s.nodes a = k := ⟨_, rfl⟩
  obtain ⟨kb, hkb⟩ : ∃ k, knownB s.nodes b = k := ⟨_, rfl⟩
  have hs0 : ((l.size : Int) ≤ 0) ↔ l.toList = [] := by
    rw [← str_nil]
    refine ⟨fun h => ?_, fun h => by rw [h]; decide⟩
    have h4 : l.size = 0 := by omega
    obtain ⟨⟨d⟩⟩ := l
    simp [ByteArray.size] at h4
    subst h4
    rfl
  have e : Right s.nodes ⟨8, l, a, b⟩ ↔ (ka = true ∧ kb = true ∧ l.toList = [] ∧ (getN s.nodes a).kind = 6) := by
    unfold Right
    rw [if_neg (show ¬ ((8 : Int) = 1) by decide)]
    simp [labelMax, arity, hka, hkb]
    try rw [hs0]
    try (constructor <;> (intro h; simp_all; done))
  have E := Lib.hid e
  have ka0 := (Kept.refl w (fun _ => False)).alloc (.cells #[.int .i64 8, .string l, .int .i64 a, .int .i64 b] 37)
  have H : Hid (RAt base (w.alloc (.cells #[.int .i64 8, .string l, .int .i64 a, .int .i64 b] 37)).drew q G s) := Lib.hid (h.kept ka0.drew)
  have H0 := Lib.hid h
  have HA := Lib.hid hka
  have HB := Lib.hid hkb
  have C3 : Hid ((w.alloc (.cells #[.int .i64 8, .string l, .int .i64 a, .int .i64 b] 37)).drew.cell? ⟨w.heap.size, 3, none⟩ = some (.int .i64 b)) := Lib.hid (by
    have := cellOf (j := 3) (heap_alloc_new w (.cells #[.int .i64 8, .string l, .int .i64 a, .int .i64 b] 37))
    exact this)
  clear h e hka hkb hs0
  unfold nodeV
  go_enter Tryd.func41, Tryd.ntmps41
  go_wp2_with (fail)
  refine wp_region_lex (fun w' => w'.cell? ⟨w.heap.size, 3, none⟩ = some (.int .i64 b)) [0, 0, 1, 2, 0, 0, 3, 2, 0, 0] (by kernel_rfl) (by kernel_rfl) (by kernel_rfl) (C3.out) (fun Q' hQ' => ?_)
  simp only [List.zip_cons_cons, List.zip_nil_right]
  repeat (first
    | (refine wpX_silent ?_ (fun K hK => ?_)
       · rfl
       apply Exists.intro
       refine ⟨fun w' => ?_, ?_⟩
       · go_simp
         exact ⟨rfl, rfl⟩
       go_simp
       refine hK _ _ ?_
       clear hK K)
    | (refine wpX_read ?_ (fun K hK => ?_)
       · rfl
       apply Exists.intro
       refine ⟨?_, ?_⟩
       · go_simp
         exact ⟨rfl, rfl⟩
       go_simp
       refine hK _ _ ?_
       clear hK K)
    | (refine wpX_float ?_ (fun K hK => ?_)
       · rfl
       apply Exists.intro
       refine ⟨fun w' hw' => ?_, ?_⟩
       · try dsimp only at hw'
         go_simp
         exact ⟨rfl, rfl⟩
       go_simp
       refine hK _ _ ?_
       clear hK K)
    | (refine wpX_not ?_ (fun K hK => ?_)
       · rfl
       go_simp
       refine hK _ _ ?_
       clear hK K))
  refine wpX_keeps ?_ (fun K hK => ?_)
  · rfl
  go_wp2_with (fail)
  refine (rknown_any base _ q G s a H.out).mono ?_
  rw [HA.out]
  rintro e w' ⟨rfl, hw⟩
  obtain rfl := hw.symm
  clear hw
  go_simp
  refine hK _ _ ⟨rfl, C3.out, ?_⟩
  clear hK K
  repeat (first
    | (refine wpX_silent ?_ (fun K hK => ?_)
       · rfl
       apply Exists.intro
       refine ⟨fun w' => ?_, ?_⟩
       · go_simp
         exact ⟨rfl, rfl⟩
       go_simp
       refine hK _ _ ?_
       clear hK K)
    | (refine wpX_read ?_ (fun K hK => ?_)
       · rfl
       apply Exists.intro
       refine ⟨?_, ?_⟩
       · go_simp
         exact ⟨rfl, rfl⟩
       go_simp
       refine hK _ _ ?_
       clear hK K)
    | (refine wpX_float ?_ (fun K hK => ?_)
       · rfl
       apply Exists.intro
       refine ⟨fun w' hw' => ?_, ?_⟩
       · try dsimp only at hw'
         go_simp
         exact ⟨rfl, rfl⟩
       go_simp
       refine hK _ _ ?_
       clear hK K)
    | (refine wpX_not ?_ (fun K hK => ?_)
       · rfl
       go_simp
       refine hK _ _ ?_
       clear hK K))
  refine wpX_keeps ?_ (fun K hK => ?_)
  · rfl
  go_wp2_with (fail)
  refine (rknown_any base _ q G s b H.out).mono ?_
  rw [HB.out]
  rintro e w' ⟨rfl, hw⟩
  obtain rfl := hw.symm
  clear hw
  go_simp
  refine hK _ _ ⟨rfl, C3.out, ?_⟩
  clear hK K
  repeat (first
    | (refine wpX_silent ?_ (fun K hK => ?_)
       · rfl
       apply Exists.intro
       refine ⟨fun w' => ?_, ?_⟩
       · go_simp
         exact ⟨rfl, rfl⟩
       go_simp
       refine hK _ _ ?_
       clear hK K)
    | (refine wpX_read ?_ (fun K hK => ?_)
       · rfl
       apply Exists.intro
       refine ⟨?_, ?_⟩
       · go_simp
         exact ⟨rfl, rfl⟩
       go_simp
       refine hK _ _ ?_
       clear hK K)
    | (refine wpX_float ?_ (fun K hK => ?_)
       · rfl
       apply Exists.intro
       refine ⟨fun w' hw' => ?_, ?_⟩
       · try dsimp only at hw'
         go_simp
         exact ⟨rfl, rfl⟩
       go_simp
       refine hK _ _ ?_
       clear hK K)
    | (refine wpX_not ?_ (fun K hK => ?_)
       · rfl
       go_simp
       refine hK _ _ ?_
       clear hK K))
  refine wpX_nil (hQ' _ _ ?_)
  cases ka with
  | false =>
    go_wp2
    go_quiet (fail)
    go_wp2
    all_goals go_ret
    all_goals refine ⟨ret_dec ?_, by first | exact ((Kept.refl _ _).alloc _).drew | exact (((Kept.refl _ _).alloc _).drew).drewN _⟩
    all_goals rw [E.out]
    all_goals simp_all
  | true =>
    cases kb with
    | false =>
      go_wp2
      go_quiet (fail)
      go_wp2
      all_goals go_ret
      all_goals refine ⟨ret_dec ?_, by first | exact ((Kept.refl _ _).alloc _).drew | exact (((Kept.refl _ _).alloc _).drew).drewN _⟩
      all_goals rw [E.out]
      all_goals simp_all
    | true =>
      by_cases hl : l.toList = []
      · have HL := Lib.hid hl
        obtain ⟨x, hx⟩ : ∃ x, getN s.nodes a = x := ⟨_, rfl⟩
        have hat := getN_at HA.out
        rw [hx] at hat
        have hka := knownB_iff.1 HA.out
        obtain ⟨j, hj⟩ : ∃ j : Nat, a.toNat - 1 = j := ⟨_, rfl⟩
        have haj : a = (j : Int) + 1 := by omega
        rw [hj] at hat
        have hlen := H0.out.ok.len
        obtain ⟨A, c, hc, hle, hcm, hcells⟩ := H0.out.node
        obtain ⟨g, hAg, e0, _⟩ := hcells j x hat
        have gl := World.block_lt_of_cell? _ _ e0
        have pl := World.block_lt_of_cell? _ _ hc
        have HX := Lib.hid hx
        subst haj hAg
        have z1 : (0 : Int) ≤ j := by omega
        have z2 : (j : Int) < s.nodes.length := by omega
        have z3 : IntKind.i64.wrap ((j : Int) + 1 - 1) = j := by rw [show (j : Int) + 1 - 1 = j from by omega]; exact IntWalk.i64_in _ (by omega)
        have z4 : (j : Int) + 1 - 1 = j := by omega
        clear hat hj hx hka hcells hl
        have hl := HL.out
        by_cases h6 : x.kind = 6
        · rw [h6] at e0
          go_wp2
          go_quiet (fail)
          go_wp2
          all_goals go_ret
          all_goals refine ⟨ret_dec (b := true) ?_, by first | exact ((Kept.refl _ _).alloc _).drew | exact (((Kept.refl _ _).alloc _).drew).drewN _⟩
          all_goals rw [E.out]
          all_goals simp [HL.out, HX.out, h6]
        · have q6 : (x.kind == 6) = false := by simpa using h6
          go_wp2
          go_quiet (fail)
          go_wp2
          all_goals go_ret
          all_goals refine ⟨ret_dec (b := false) ?_, by first | exact ((Kept.refl _ _).alloc _).drew | exact (((Kept.refl _ _).alloc _).drew).drewN _⟩
          all_goals rw [E.out]
          all_goals simp [HX.out, h6]
      · have q : (l.toList == []) = false := by simpa using hl
        go_wp2
        go_quiet (fail)
        go_wp2
        all_goals go_ret
        all_goals refine ⟨ret_dec ?_, by first | exact ((Kept.refl _ _).alloc _).drew | exact (((Kept.refl _ _).alloc _).drew).drewN _⟩
        all_goals rw [E.out]
        all_goals simp_all
end Go.Proofs.YtaifjojfmkcmjaaDoor.Term
