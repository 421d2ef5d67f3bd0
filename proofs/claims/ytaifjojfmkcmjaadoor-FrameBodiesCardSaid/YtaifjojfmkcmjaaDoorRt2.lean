/-
  The reference's store: right, for all kinds.
-/
import Derived.Test.YtaifjojfmkcmjaaDoorRt1
namespace Go.Proofs.YtaifjojfmkcmjaaDoor.Term
open Go.RowKit Go.Sort Go.Proofs.YtaifjojfmkcmjaaDoorBase Go.Proofs.YtaifjojfmkcmjaaDoorLex2
set_option linter.unusedVariables false
set_option linter.unusedSimpArgs false

set_option maxHeartbeats 1600000 in
set_option maxRecDepth 100000 in
theorem rright_1 (base : Nat) (w : World) (q : Nat) (G : Nat → Prop) (s : TS) (l : ByteArray) (a b : Int) (h : RAt base w q G s) :
    Calls Tryd.prog 41 #[.pointer (some ⟨q, 0, none⟩), nodeV ⟨1, l, a, b⟩] w fun e w' => e = .returned (.bool (decide (Right s.nodes ⟨1, l, a, b⟩))) ∧ Kept w w' (fun _ => False) := by
  obtain ⟨ka, hka⟩ : ∃ k, knownB s.nodes a = k := ⟨_, rfl⟩
  obtain ⟨kb, hkb⟩ : ∃ k, knownB s.nodes b = k := ⟨_, rfl⟩
  have e : Right s.nodes ⟨1, l, a, b⟩ ↔ (1 ≤ a ∧ a ≤ 1099511627776 ∧ b = 0 ∧ l.toList = []) := by
    unfold Right
    rw [if_pos (show ((1 : Int) = 1) from rfl), ← str_nil]
    simp only
    constructor
    · intro h; exact ⟨h.1, h.2.1, h.2.2.2, h.2.2.1⟩
    · intro h; exact ⟨h.1, h.2.1, h.2.2.2, h.2.2.1⟩
  have E := Lib.hid e
  have ka0 := (Kept.refl w (fun _ => False)).alloc (.cells #[.int .i64 1, .string l, .int .i64 a, .int .i64 b] 37)
  have H : Hid (RAt base (w.alloc (.cells #[.int .i64 1, .string l, .int .i64 a, .int .i64 b] 37)).drew q G s) := Lib.hid (h.kept ka0.drew)
  have HA := Lib.hid hka
  have HB := Lib.hid hkb
  have C3 : Hid ((w.alloc (.cells #[.int .i64 1, .string l, .int .i64 a, .int .i64 b] 37)).drew.cell? ⟨w.heap.size, 3, none⟩ = some (.int .i64 b)) := Lib.hid (by
    have := cellOf (j := 3) (heap_alloc_new w (.cells #[.int .i64 1, .string l, .int .i64 a, .int .i64 b] 37))
    exact this)
  clear h e hka hkb
  unfold nodeV
  go_enter Tryd.func41, Tryd.ntmps41
  go_wp2_with (fail)
  refine wp_region_lex (fun w' => w'.cell? ⟨w.heap.size, 3, none⟩ = some (.int .i64 b)) [0, 0, 1, 2, 0, 0, 3, 2, 0, 0] (by kernel_rfl) (by kernel_rfl) (by kernel_rfl) (C3.out) (fun Q' hQ' => ?_)
  simp only [List.zip_cons_cons, List.zip_nil_right]
  repeat (first
    | (refine wpX_silent ?_ (fun K hK => ?_)
       · rfl
       apply Exists.intro
       refine ⟨fun w' => ?_, ?_⟩
       · go_simp
         exact ⟨rfl, rfl⟩
       go_simp
       refine hK _ _ ?_
       clear hK K)
    | (refine wpX_read ?_ (fun K hK => ?_)
       · rfl
       apply Exists.intro
       refine ⟨?_, ?_⟩
       · go_simp
         exact ⟨rfl, rfl⟩
       go_simp
       refine hK _ _ ?_
       clear hK K)
    | (refine wpX_float ?_ (fun K hK => ?_)
       · rfl
       apply Exists.intro
       refine ⟨fun w' hw' => ?_, ?_⟩
       · try dsimp only at hw'
         go_simp
         exact ⟨rfl, rfl⟩
       go_simp
       refine hK _ _ ?_
       clear hK K)
    | (refine wpX_not ?_ (fun K hK => ?_)
       · rfl
       go_simp
       refine hK _ _ ?_
       clear hK K))
  refine wpX_keeps ?_ (fun K hK => ?_)
  · rfl
  go_wp2_with (fail)
  refine (rknown_any base _ q G s a H.out).mono ?_
  rw [HA.out]
  rintro e w' ⟨rfl, hw⟩
  obtain rfl := hw.symm
  clear hw
  go_simp
  refine hK _ _ ⟨rfl, C3.out, ?_⟩
  clear hK K
  repeat (first
    | (refine wpX_silent ?_ (fun K hK => ?_)
       · rfl
       apply Exists.intro
       refine ⟨fun w' => ?_, ?_⟩
       · go_simp
         exact ⟨rfl, rfl⟩
       go_simp
       refine hK _ _ ?_
       clear hK K)
    | (refine wpX_read ?_ (fun K hK => ?_)
       · rfl
       apply Exists.intro
       refine ⟨?_, ?_⟩
       · go_simp
         exact ⟨rfl, rfl⟩
       go_simp
       refine hK _ _ ?_
       clear hK K)
    | (refine wpX_float ?_ (fun K hK => ?_)
       · rfl
       apply Exists.intro
       refine ⟨fun w' hw' => ?_, ?_⟩
       · try dsimp only at hw'
         go_simp
         exact ⟨rfl, rfl⟩
       go_simp
       refine hK _ _ ?_
       clear hK K)
    | (refine wpX_not ?_ (fun K hK => ?_)
       · rfl
       go_simp
       refine hK _ _ ?_
       clear hK K))
  refine wpX_keeps ?_ (fun K hK => ?_)
  · rfl
  go_wp2_with (fail)
  refine (rknown_any base _ q G s b H.out).mono ?_
  rw [HB.out]
  rintro e w' ⟨rfl, hw⟩
  obtain rfl := hw.symm
  clear hw
  go_simp
  refine hK _ _ ⟨rfl, C3.out, ?_⟩
  clear hK K
  repeat (first
    | (refine wpX_silent ?_ (fun K hK => ?_)
       · rfl
       apply Exists.intro
       refine ⟨fun w' => ?_, ?_⟩
       · go_simp
         exact ⟨rfl, rfl⟩
       go_simp
       refine hK _ _ ?_
       clear hK K)
    | (refine wpX_read ?_ (fun K hK => ?_)
       · rfl
       apply Exists.intro
       refine ⟨?_, ?_⟩
       · go_simp
         exact ⟨rfl, rfl⟩
       go_simp
       refine hK _ _ ?_
       clear hK K)
    | (refine wpX_float ?_ (fun K hK => ?_)
       · rfl
       apply Exists.intro
       refine ⟨fun w' hw' => ?_, ?_⟩
       · try dsimp only at hw'
         go_simp
         exact ⟨rfl, rfl⟩
       go_simp
       refine hK _ _ ?_
       clear hK K)
    | (refine wpX_not ?_ (fun K hK => ?_)
       · rfl
       go_simp
       refine hK _ _ ?_
       clear hK K))
  refine wpX_nil (hQ' _ _ ?_)
  cases ka <;> cases kb
  all_goals go_wp2
  all_goals go_ret
  all_goals refine ⟨ret_dec ?_, by first | exact ((Kept.refl _ _).alloc _).drew | exact (((Kept.refl _ _).alloc _).drew).drewN _⟩
  all_goals (try subst_vars)
  all_goals rw [E.out]
  all_goals (try simp_all)
  all_goals (try omega)
set_option maxHeartbeats 1600000 in
set_option maxRecDepth 100000 in
theorem rright_no (base : Nat) (w : World) (q : Nat) (G : Nat → Prop) (s : TS) (l : ByteArray) (k a b : Int) (h1 : k ≠ 1) (h2 : k ≠ 2) (h3 : k ≠ 3) (h4 : k ≠ 4) (h5 : k ≠ 5) (h6 : k ≠ 6) (h7 : k ≠ 7) (h8 : k ≠ 8) (h9 : k ≠ 9) (h : RAt base w q G s) :
    Calls Tryd.prog 41 #[.pointer (some ⟨q, 0, none⟩), nodeV ⟨k, l, a, b⟩] w fun e w' => e = .returned (.bool (decide (Right s.nodes ⟨k, l, a, b⟩))) ∧ Kept w w' (fun _ => False) := by
  obtain ⟨ka, hka⟩ : ∃ k, knownB s.nodes a = k := ⟨_, rfl⟩
  obtain ⟨kb, hkb⟩ : ∃ k, knownB s.nodes b = k := ⟨_, rfl⟩
  have e : Right s.nodes ⟨k, l, a, b⟩ ↔ False := by
    unfold Right
    rw [if_neg h1]
    simp [labelMax, h2, h3, h4, h5, h6, h7, h8, h9]
    intro h
    omega
  have q1 : (k == 1) = false := by simpa using h1
  have q2 : (k == 2) = false := by simpa using h2
  have q3 : (k == 3) = false := by simpa using h3
  have q4 : (k == 4) = false := by simpa using h4
  have q5 : (k == 5) = false := by simpa using h5
  have q6 : (k == 6) = false := by simpa using h6
  have q7 : (k == 7) = false := by simpa using h7
  have q8 : (k == 8) = false := by simpa using h8
  have q9 : (k == 9) = false := by simpa using h9
  have E := Lib.hid e
  have ka0 := (Kept.refl w (fun _ => False)).alloc (.cells #[.int .i64 k, .string l, .int .i64 a, .int .i64 b] 37)
  have H : Hid (RAt base (w.alloc (.cells #[.int .i64 k, .string l, .int .i64 a, .int .i64 b] 37)).drew q G s) := Lib.hid (h.kept ka0.drew)
  have HA := Lib.hid hka
  have HB := Lib.hid hkb
  have C3 : Hid ((w.alloc (.cells #[.int .i64 k, .string l, .int .i64 a, .int .i64 b] 37)).drew.cell? ⟨w.heap.size, 3, none⟩ = some (.int .i64 b)) := Lib.hid (by
    have := cellOf (j := 3) (heap_alloc_new w (.cells #[.int .i64 k, .string l, .int .i64 a, .int .i64 b] 37))
    exact this)
  clear h e hka hkb
  unfold nodeV
  go_enter Tryd.func41, Tryd.ntmps41
  go_wp2_with (fail)
  refine wp_region_lex (fun w' => w'.cell? ⟨w.heap.size, 3, none⟩ = some (.int .i64 b)) [0, 0, 1, 2, 0, 0, 3, 2, 0, 0] (by kernel_rfl) (by kernel_rfl) (by kernel_rfl) (C3.out) (fun Q' hQ' => ?_)
  simp only [List.zip_cons_cons, List.zip_nil_right]
  repeat (first
    | (refine wpX_silent ?_ (fun K hK => ?_)
       · rfl
       apply Exists.intro
       refine ⟨fun w' => ?_, ?_⟩
       · go_simp
         exact ⟨rfl, rfl⟩
       go_simp
       refine hK _ _ ?_
       clear hK K)
    | (refine wpX_read ?_ (fun K hK => ?_)
       · rfl
       apply Exists.intro
       refine ⟨?_, ?_⟩
       · go_simp
         exact ⟨rfl, rfl⟩
       go_simp
       refine hK _ _ ?_
       clear hK K)
    | (refine wpX_float ?_ (fun K hK => ?_)
       · rfl
       apply Exists.intro
       refine ⟨fun w' hw' => ?_, ?_⟩
       · try dsimp only at hw'
         go_simp
         exact ⟨rfl, rfl⟩
       go_simp
       refine hK _ _ ?_
       clear hK K)
    | (refine wpX_not ?_ (fun K hK => ?_)
       · rfl
       go_simp
       refine hK _ _ ?_
       clear hK K))
  refine wpX_keeps ?_ (fun K hK => ?_)
  · rfl
  go_wp2_with (fail)
  refine (rknown_any base _ q G s a H.out).mono ?_
  rw [HA.out]
  rintro e w' ⟨rfl, hw⟩
  obtain rfl := hw.symm
  clear hw
  go_simp
  refine hK _ _ ⟨rfl, C3.out, ?_⟩
  clear hK K
  repeat (first
    | (refine wpX_silent ?_ (fun K hK => ?_)
       · rfl
       apply Exists.intro
       refine ⟨fun w' => ?_, ?_⟩
       · go_simp
         exact ⟨rfl, rfl⟩
       go_simp
       refine hK _ _ ?_
       clear hK K)
    | (refine wpX_read ?_ (fun K hK => ?_)
       · rfl
       apply Exists.intro
       refine ⟨?_, ?_⟩
       · go_simp
         exact ⟨rfl, rfl⟩
       go_simp
       refine hK _ _ ?_
       clear hK K)
    | (refine wpX_float ?_ (fun K hK => ?_)
       · rfl
       apply Exists.intro
       refine ⟨fun w' hw' => ?_, ?_⟩
       · try dsimp only at hw'
         go_simp
         exact ⟨rfl, rfl⟩
       go_simp
       refine hK _ _ ?_
       clear hK K)
    | (refine wpX_not ?_ (fun K hK => ?_)
       · rfl
       go_simp
       refine hK _ _ ?_
       clear hK K))
  refine wpX_keeps ?_ (fun K hK => ?_)
  · rfl
  go_wp2_with (fail)
  refine (rknown_any base _ q G s b H.out).mono ?_
  rw [HB.out]
  rintro e w' ⟨rfl, hw⟩
  obtain rfl := hw.symm
  clear hw
  go_simp
  refine hK _ _ ⟨rfl, C3.out, ?_⟩
  clear hK K
  repeat (first
    | (refine wpX_silent ?_ (fun K hK => ?_)
       · rfl
       apply Exists.intro
       refine ⟨fun w' => ?_, ?_⟩
       · go_simp
         exact ⟨rfl, rfl⟩
       go_simp
       refine hK _ _ ?_
       clear hK K)
    | (refine wpX_read ?_ (fun K hK => ?_)
       · rfl
       apply Exists.intro
       refine ⟨?_, ?_⟩
       · go_simp
         exact ⟨rfl, rfl⟩
       go_simp
       refine hK _ _ ?_
       clear hK K)
    | (refine wpX_float ?_ (fun K hK => ?_)
       · rfl
       apply Exists.intro
       refine ⟨fun w' hw' => ?_, ?_⟩
       · try dsimp only at hw'
         go_simp
         exact ⟨rfl, rfl⟩
       go_simp
       refine hK _ _ ?_
       clear hK K)
    | (refine wpX_not ?_ (fun K hK => ?_)
       · rfl
       go_simp
       refine hK _ _ ?_
       clear hK K))
  refine wpX_nil (hQ' _ _ ?_)
  cases ka <;> cases kb
  all_goals go_wp2
  all_goals go_ret
  all_goals refine ⟨ret_dec ?_, by first | exact ((Kept.refl _ _).alloc _).drew | exact (((Kept.refl _ _).alloc _).drew).drewN _⟩
  all_goals (try subst_vars)
  all_goals rw [E.out]
  all_goals simp_all
end Go.Proofs.YtaifjojfmkcmjaaDoor.Term
