/-
  The reference's store of terms: which terms there are, which nodes are right, where a node is.
-/
import Derived.Test.YtaifjojfmkcmjaaDoorTerm7
namespace Go.Proofs.YtaifjojfmkcmjaaDoor.Term
open Go.RowKit Go.Sort Go.Proofs.YtaifjojfmkcmjaaDoorBase Go.Proofs.YtaifjojfmkcmjaaDoorLex2
set_option linter.unusedVariables false
set_option linter.unusedSimpArgs false

/-- The reference's store in memory. -/
def RAt (base : Nat) (w : World) (q : Nat) (G : Nat → Prop) (s : TS) : Prop :=
  ∃ nv, w.heap[q]? = some (.cells #[nv, .int .i64 s.drawn] 71 (0, 0)) ∧ base ≤ q ∧ base ≤ w.heap.size ∧
    w.ownsRow base 37 4 nv s.nodes.length (s.nodes.flatMap nodeC) ∧ (∀ k, G k ↔ k = q ∨ nv.ownBlock = some k) ∧ TOk s
section
variable {w0 w w' w1 w2 : World} {q base : Nat} {G G1 : Nat → Prop} {s s2 : TS}
theorem RAt.base_le (h : RAt base w q G s) : ∀ k, G k → base ≤ k := by
  obtain ⟨nv, hp, h1, h3, ho, hF, _⟩ := h
  intro k hk
  rcases (hF k).1 hk with rfl | h
  · exact h1
  · exact (ho.lt k h).1
theorem RAt.lt (h : RAt base w q G s) : ∀ k, G k → k < w.heap.size := by
  obtain ⟨nv, hp, h1, h3, ho, hF, _⟩ := h
  intro k hk
  rcases (hF k).1 hk with rfl | h
  · exact blk_lt hp
  · exact (ho.lt k h).2
theorem RAt.keptG {H : Nat → Prop} (h : RAt base w q G s) (hk : Kept w w' H) (hG : ∀ k, G k → ¬ H k) : RAt base w' q G s := by
  obtain ⟨nv, hp, h1, h3, ho, hF, hok⟩ := h
  exact ⟨nv, hk.blk hp (hG q ((hF q).2 (.inl rfl))), h1, Nat.le_trans h3 hk.size, own_keptF ho hk (fun k hk1 => hG k ((hF k).2 (.inr hk1))), hF, hok⟩
theorem RAt.kept (h : RAt base w q G s) (hk : Kept w w' (fun _ => False)) : RAt base w' q G s := h.keptG hk fun _ _ h => h
theorem RAt.ok (h : RAt base w q G s) : TOk s := by obtain ⟨_, _, _, _, _, _, h⟩ := h; exact h
end
def RNext (base : Nat) (w w' : World) (q : Nat) (G : Nat → Prop) (s : TS) : Prop := ∃ G', RAt base w' q G' s ∧ (∀ k, G' k → G k ∨ w.heap.size ≤ k) ∧ Kept w w' G
section
variable {w0 w w' w1 w2 : World} {q base : Nat} {G G1 : Nat → Prop} {s s2 : TS}
theorem RNext.refl (h : RAt base w q G s) : RNext base w w q G s := ⟨G, h, fun k hk => .inl hk, Kept.refl _ _⟩
theorem RNext.of_kept (h : RAt base w q G s) (hk : Kept w w' (fun _ => False)) : RNext base w w' q G s := ⟨G, h.kept hk, fun k hk => .inl hk, hk.mono fun _ h => h.elim⟩
theorem RNext.trans (hF : ∀ k, G1 k → G k ∨ w.heap.size ≤ k) (hk : Kept w w1 G) (h2 : RNext base w1 w2 q G1 s2) : RNext base w w2 q G s2 := by
  obtain ⟨F2, f2, b2, k2⟩ := h2
  exact ⟨F2, f2, fun k hk2 => (b2 k hk2).elim (hF k) (fun h => .inr (Nat.le_trans hk.size h)), hk.trans k2 hF⟩
theorem RNext.after (hk : Kept w w1 (fun _ => False)) (h2 : RNext base w1 w2 q G s2) : RNext base w w2 q G s2 := RNext.trans (fun k h => .inl h) (hk.mono fun _ h => h.elim) h2
theorem RNext.call {f : Nat} {args : Array Value} {r : Value} (hT : RNext base w w1 q G s)
    (hC : ∀ G1, RAt base w1 q G1 s → Calls Tryd.prog f args w1 fun e w' => e = .returned r ∧ RNext base w1 w' q G1 s2) : Calls Tryd.prog f args w1 fun e w' => e = .returned r ∧ RNext base w w' q G s2 := by
  obtain ⟨F1, s1, b1, k1⟩ := hT
  refine (hC F1 s1).mono ?_
  rintro e w' ⟨rfl, hn⟩
  exact ⟨rfl, RNext.trans b1 k1 hn⟩
end
theorem RAt.node {base : Nat} {w : World} {q : Nat} {G : Nat → Prop} {s : TS} (h : RAt base w q G s) : ∃ A c, w.cell? ⟨q, 0, none⟩ = some (.slice A s.nodes.length c) ∧ s.nodes.length ≤ c ∧ c ≤ maxLen ∧
    (∀ i n, s.nodes[i]? = some n → ∃ g, A = some ⟨g, 0, none⟩ ∧ w.cell? ⟨g, i * 4, none⟩ = some (.int .i64 n.kind) ∧ w.cell? ⟨g, i * 4 + 1, none⟩ = some (.string n.label) ∧ w.cell? ⟨g, i * 4 + 2, none⟩ = some (.int .i64 n.a) ∧ w.cell? ⟨g, i * 4 + 3, none⟩ = some (.int .i64 n.b)) := by
  obtain ⟨nv, hp, h1, h3, ho, hF, _⟩ := h
  obtain ⟨A, c, rfl, hc, hcm⟩ := own_slice ho
  refine ⟨A, c, by simpa using cellOf (j := 0) hp, hc, hcm, fun i n hn => ?_⟩
  have hi := (List.getElem?_eq_some_iff.1 hn).1
  rcases ho.2 with ⟨hv, hx⟩ | ⟨g, cap, cur, hv, _⟩
  · omega
  · simp only [Value.slice.injEq] at hv
    obtain ⟨rfl, _, rfl⟩ := hv
    have hcell := ho.cells (g := g) rfl
    have e0 := hcell (i * 4 + 0) _ (flat_get hn 0 (by decide))
    have e1 := hcell (i * 4 + 1) _ (flat_get hn 1 (by decide))
    have e2 := hcell (i * 4 + 2) _ (flat_get hn 2 (by decide))
    have e3 := hcell (i * 4 + 3) _ (flat_get hn 3 (by decide))
    rw [Addr.add_lit, Nat.zero_add] at e0 e1 e2 e3
    rw [Nat.add_zero] at e0
    exact ⟨g, rfl, e0, e1, e2, e3⟩
theorem rknown_any (base : Nat) (w : World) (q : Nat) (G : Nat → Prop) (s : TS) (t : Int) (h : RAt base w q G s) :
    Calls Tryd.prog 45 #[.pointer (some ⟨q, 0, none⟩), .int .i64 t] w fun e w' => e = .returned (.bool (knownB s.nodes t)) ∧ w' = w := by
  obtain ⟨A, c, hc, hle, hcm, _⟩ := h.node
  have hl := h.ok.len
  clear h
  have e : knownB s.nodes t = (decide (1 ≤ t) && decide (t ≤ (s.nodes.length : Int))) := rfl
  rw [e]
  by_cases h1 : 0 < t
  · by_cases h2 : t ≤ (s.nodes.length : Int)
    · go_enter Tryd.func45, Tryd.ntmps45
      go_wp2
      go_ret
      exact ⟨by simp <;> omega, rfl⟩
    · go_enter Tryd.func45, Tryd.ntmps45
      go_wp2
      go_ret
      exact ⟨by simp <;> omega, rfl⟩
  · go_enter Tryd.func45, Tryd.ntmps45
    go_wp2
    go_ret
    exact ⟨by simp; intro h; omega, rfl⟩

set_option maxHeartbeats 1600000 in
set_option maxRecDepth 100000 in
theorem rright_2 (base : Nat) (w : World) (q : Nat) (G : Nat → Prop) (s : TS) (l : ByteArray) (a b : Int) (h : RAt base w q G s) :
    Calls Tryd.prog 41 #[.pointer (some ⟨q, 0, none⟩), nodeV ⟨2, l, a, b⟩] w fun e w' => e = .returned (.bool (decide (Right s.nodes ⟨2, l, a, b⟩))) ∧ Kept w w' (fun _ => False) := by
  obtain ⟨ka, hka⟩ : ∃ k, knownB s.nodes a = k := ⟨_, rfl⟩
  obtain ⟨kb, hkb⟩ : ∃ k, knownB s.nodes b = k := ⟨_, rfl⟩
  have hs0 : ((l.size : Int) ≤ 0) ↔ l.toList = [] := by
    rw [← str_nil]
    refine ⟨fun h => ?_, fun h => by rw [h]; decide⟩
    have h4 : l.size = 0 := by omega
    obtain ⟨⟨d⟩⟩ := l
    simp [ByteArray.size] at h4
    subst h4
    rfl
  have e : Right s.nodes ⟨2, l, a, b⟩ ↔ (a = 0 ∧ b = 0 ∧ (l.size : Int) ≤ 1024) := by
    unfold Right
    rw [if_neg (show ¬ ((2 : Int) = 1) by decide)]
    simp [labelMax, arity, hka, hkb]
    try rw [hs0]
    try (constructor <;> (intro h; simp_all; done))
  have E := Lib.hid e
  have ka0 := (Kept.refl w (fun _ => False)).alloc (.cells #[.int .i64 2, .string l, .int .i64 a, .int .i64 b] 37)
  have H : Hid (RAt base (w.alloc (.cells #[.int .i64 2, .string l, .int .i64 a, .int .i64 b] 37)).drew q G s) := Lib.hid (h.kept ka0.drew)
  have HA := Lib.hid hka
  have HB := Lib.hid hkb
  have C3 : Hid ((w.alloc (.cells #[.int .i64 2, .string l, .int .i64 a, .int .i64 b] 37)).drew.cell? ⟨w.heap.size, 3, none⟩ = some (.int .i64 b)) := Lib.hid (by
    have := cellOf (j := 3) (heap_alloc_new w (.cells #[.int .i64 2, .string l, .int .i64 a, .int .i64 b] 37))
    exact this)
  clear h e hka hkb hs0
  unfold nodeV
  go_enter Tryd.func41, Tryd.ntmps41
  go_wp2_with (fail)
  refine wp_region_lex (fun w' => w'.cell? ⟨w.heap.size, 3, none⟩ = some (.int .i64 b)) [0, 0, 1, 2, 0, 0, 3, 2, 0, 0] (by kernel_rfl) (by kernel_rfl) (by kernel_rfl) (C3.out) (fun Q' hQ' => ?_)
  simp only [List.zip_cons_cons, List.zip_nil_right]
  repeat (first
    | (refine wpX_silent ?_ (fun K hK => ?_)
       · rfl
       apply Exists.intro
       refine ⟨fun w' => ?_, ?_⟩
       · go_simp
         exact ⟨rfl, rfl⟩
       go_simp
       refine hK _ _ ?_
       clear hK K)
    | (refine wpX_read ?_ (fun K hK => ?_)
       · rfl
       apply Exists.intro
       refine ⟨?_, ?_⟩
       · go_simp
         exact ⟨rfl, rfl⟩
       go_simp
       refine hK _ _ ?_
       clear hK K)
    | (refine wpX_float ?_ (fun K hK => ?_)
       · rfl
       apply Exists.intro
       refine ⟨fun w' hw' => ?_, ?_⟩
       · try dsimp only at hw'
         go_simp
         exact ⟨rfl, rfl⟩
       go_simp
       refine hK _ _ ?_
       clear hK K)
    | (refine wpX_not ?_ (fun K hK => ?_)
       · rfl
       go_simp
       refine hK _ _ ?_
       clear hK K))
  refine wpX_keeps ?_ (fun K hK => ?_)
  · rfl
  go_wp2_with (fail)
  refine (rknown_any base _ q G s a H.out).mono ?_
  rw [HA.out]
  rintro e w' ⟨rfl, hw⟩
  obtain rfl := hw.symm
  clear hw
  go_simp
  refine hK _ _ ⟨rfl, C3.out, ?_⟩
  clear hK K
  repeat (first
    | (refine wpX_silent ?_ (fun K hK => ?_)
       · rfl
       apply Exists.intro
       refine ⟨fun w' => ?_, ?_⟩
       · go_simp
         exact ⟨rfl, rfl⟩
       go_simp
       refine hK _ _ ?_
       clear hK K)
    | (refine wpX_read ?_ (fun K hK => ?_)
       · rfl
       apply Exists.intro
       refine ⟨?_, ?_⟩
       · go_simp
         exact ⟨rfl, rfl⟩
       go_simp
       refine hK _ _ ?_
       clear hK K)
    | (refine wpX_float ?_ (fun K hK => ?_)
       · rfl
       apply Exists.intro
       refine ⟨fun w' hw' => ?_, ?_⟩
       · try dsimp only at hw'
         go_simp
         exact ⟨rfl, rfl⟩
       go_simp
       refine hK _ _ ?_
       clear hK K)
    | (refine wpX_not ?_ (fun K hK => ?_)
       · rfl
       go_simp
       refine hK _ _ ?_
       clear hK K))
  refine wpX_keeps ?_ (fun K hK => ?_)
  · rfl
  go_wp2_with (fail)
  refine (rknown_any base _ q G s b H.out).mono ?_
  rw [HB.out]
  rintro e w' ⟨rfl, hw⟩
  obtain rfl := hw.symm
  clear hw
  go_simp
  refine hK _ _ ⟨rfl, C3.out, ?_⟩
  clear hK K
  repeat (first
    | (refine wpX_silent ?_ (fun K hK => ?_)
       · rfl
       apply Exists.intro
       refine ⟨fun w' => ?_, ?_⟩
       · go_simp
         exact ⟨rfl, rfl⟩
       go_simp
       refine hK _ _ ?_
       clear hK K)
    | (refine wpX_read ?_ (fun K hK => ?_)
       · rfl
       apply Exists.intro
       refine ⟨?_, ?_⟩
       · go_simp
         exact ⟨rfl, rfl⟩
       go_simp
       refine hK _ _ ?_
       clear hK K)
    | (refine wpX_float ?_ (fun K hK => ?_)
       · rfl
       apply Exists.intro
       refine ⟨fun w' hw' => ?_, ?_⟩
       · try dsimp only at hw'
         go_simp
         exact ⟨rfl, rfl⟩
       go_simp
       refine hK _ _ ?_
       clear hK K)
    | (refine wpX_not ?_ (fun K hK => ?_)
       · rfl
       go_simp
       refine hK _ _ ?_
       clear hK K))
  refine wpX_nil (hQ' _ _ ?_)
  cases ka <;> cases kb
  all_goals go_wp2
  all_goals go_ret
  all_goals refine ⟨ret_dec ?_, by first | exact ((Kept.refl _ _).alloc _).drew | exact (((Kept.refl _ _).alloc _).drew).drewN _⟩
  all_goals (try subst_vars)
  all_goals rw [E.out]
  all_goals simp_all
set_option maxHeartbeats 1600000 in
set_option maxRecDepth 100000 in
theorem rright_3 (base : Nat) (w : World) (q : Nat) (G : Nat → Prop) (s : TS) (l : ByteArray) (a b : Int) (h : RAt base w q G s) :
    Calls Tryd.prog 41 #[.pointer (some ⟨q, 0, none⟩), nodeV ⟨3, l, a, b⟩] w fun e w' => e = .returned (.bool (decide (Right s.nodes ⟨3, l, a, b⟩))) ∧ Kept w w' (fun _ => False) := by
  obtain ⟨ka, hka⟩ : ∃ k, knownB s.nodes a = k := ⟨_, rfl⟩
  obtain ⟨kb, hkb⟩ : ∃ k, knownB s.nodes b = k := ⟨_, rfl⟩
  have hs0 : ((l.size : Int) ≤ 0) ↔ l.toList = [] := by
    rw [← str_nil]
    refine ⟨fun h => ?_, fun h => by rw [h]; decide⟩
    have h4 : l.size = 0 := by omega
    obtain ⟨⟨d⟩⟩ := l
    simp [ByteArray.size] at h4
    subst h4
    rfl
  have e : Right s.nodes ⟨3, l, a, b⟩ ↔ (ka = true ∧ kb = true ∧ l.toList = []) := by
    unfold Right
    rw [if_neg (show ¬ ((3 : Int) = 1) by decide)]
    simp [labelMax, arity, hka, hkb]
    try rw [hs0]
    try (constructor <;> (intro h; simp_all; done))
  have E := Lib.hid e
  have ka0 := (Kept.refl w (fun _ => False)).alloc (.cells #[.int .i64 3, .string l, .int .i64 a, .int .i64 b] 37)
  have H : Hid (RAt base (w.alloc (.cells #[.int .i64 3, .string l, .int .i64 a, .int .i64 b] 37)).drew q G s) := Lib.hid (h.kept ka0.drew)
  have HA := Lib.hid hka
  have HB := Lib.hid hkb
  have C3 : Hid ((w.alloc (.cells #[.int .i64 3, .string l, .int .i64 a, .int .i64 b] 37)).drew.cell? ⟨w.heap.size, 3, none⟩ = some (.int .i64 b)) := Lib.hid (by
    have := cellOf (j := 3) (heap_alloc_new w (.cells #[.int .i64 3, .string l, .int .i64 a, .int .i64 b] 37))
    exact this)
  clear h e hka hkb hs0
  unfold nodeV
  go_enter Tryd.func41, Tryd.ntmps41
  go_wp2_with (fail)
  refine wp_region_lex (fun w' => w'.cell? ⟨w.heap.size, 3, none⟩ = some (.int .i64 b)) [0, 0, 1, 2, 0, 0, 3, 2, 0, 0] (by kernel_rfl) (by kernel_rfl) (by kernel_rfl) (C3.out) (fun Q' hQ' => ?_)
  simp only [List.zip_cons_cons, List.zip_nil_right]
  repeat (first
    | (refine wpX_silent ?_ (fun K hK => ?_)
       · rfl
       apply Exists.intro
       refine ⟨fun w' => ?_, ?_⟩
       · go_simp
         exact ⟨rfl, rfl⟩
       go_simp
       refine hK _ _ ?_
       clear hK K)
    | (refine wpX_read ?_ (fun K hK => ?_)
       · rfl
       apply Exists.intro
       refine ⟨?_, ?_⟩
       · go_simp
         exact ⟨rfl, rfl⟩
       go_simp
       refine hK _ _ ?_
       clear hK K)
    | (refine wpX_float ?_ (fun K hK => ?_)
       · rfl
       apply Exists.intro
       refine ⟨fun w' hw' => ?_, ?_⟩
       · try dsimp only at hw'
         go_simp
         exact ⟨rfl, rfl⟩
       go_simp
       refine hK _ _ ?_
       clear hK K)
    | (refine wpX_not ?_ (fun K hK => ?_)
       · rfl
       go_simp
       refine hK _ _ ?_
       clear hK K))
  refine wpX_keeps ?_ (fun K hK => ?_)
  · rfl
  go_wp2_with (fail)
  refine (rknown_any base _ q G s a H.out).mono ?_
  rw [HA.out]
  rintro e w' ⟨rfl, hw⟩
  obtain rfl := hw.symm
  clear hw
  go_simp
  refine hK _ _ ⟨rfl, C3.out, ?_⟩
  clear hK K
  repeat (first
    | (refine wpX_silent ?_ (fun K hK => ?_)
       · rfl
       apply Exists.intro
       refine ⟨fun w' => ?_, ?_⟩
       · go_simp
         exact ⟨rfl, rfl⟩
       go_simp
       refine hK _ _ ?_
       clear hK K)
    | (refine wpX_read ?_ (fun K hK => ?_)
       · rfl
       apply Exists.intro
       refine ⟨?_, ?_⟩
       · go_simp
         exact ⟨rfl, rfl⟩
       go_simp
       refine hK _ _ ?_
       clear hK K)
    | (refine wpX_float ?_ (fun K hK => ?_)
       · rfl
       apply Exists.intro
       refine ⟨fun w' hw' => ?_, ?_⟩
       · try dsimp only at hw'
         go_simp
         exact ⟨rfl, rfl⟩
       go_simp
       refine hK _ _ ?_
       clear hK K)
    | (refine wpX_not ?_ (fun K hK => ?_)
       · rfl
       go_simp
       refine hK _ _ ?_
       clear hK K))
  refine wpX_keeps ?_ (fun K hK => ?_)
  · rfl
  go_wp2_with (fail)
  refine (rknown_any base _ q G s b H.out).mono ?_
  rw [HB.out]
  rintro e w' ⟨rfl, hw⟩
  obtain rfl := hw.symm
  clear hw
  go_simp
  refine hK _ _ ⟨rfl, C3.out, ?_⟩
  clear hK K
  repeat (first
    | (refine wpX_silent ?_ (fun K hK => ?_)
       · rfl
       apply Exists.intro
       refine ⟨fun w' => ?_, ?_⟩
       · go_simp
         exact ⟨rfl, rfl⟩
       go_simp
       refine hK _ _ ?_
       clear hK K)
    | (refine wpX_read ?_ (fun K hK => ?_)
       · rfl
       apply Exists.intro
       refine ⟨?_, ?_⟩
       · go_simp
         exact ⟨rfl, rfl⟩
       go_simp
       refine hK _ _ ?_
       clear hK K)
    | (refine wpX_float ?_ (fun K hK => ?_)
       · rfl
       apply Exists.intro
       refine ⟨fun w' hw' => ?_, ?_⟩
       · try dsimp only at hw'
         go_simp
         exact ⟨rfl, rfl⟩
       go_simp
       refine hK _ _ ?_
       clear hK K)
    | (refine wpX_not ?_ (fun K hK => ?_)
       · rfl
       go_simp
       refine hK _ _ ?_
       clear hK K))
  refine wpX_nil (hQ' _ _ ?_)
  cases ka <;> cases kb
  all_goals go_wp2
  all_goals go_ret
  all_goals refine ⟨ret_dec ?_, by first | exact ((Kept.refl _ _).alloc _).drew | exact (((Kept.refl _ _).alloc _).drew).drewN _⟩
  all_goals (try subst_vars)
  all_goals rw [E.out]
  all_goals simp_all
set_option maxHeartbeats 1600000 in
set_option maxRecDepth 100000 in
theorem rright_7 (base : Nat) (w : World) (q : Nat) (G : Nat → Prop) (s : TS) (l : ByteArray) (a b : Int) (h : RAt base w q G s) :
    Calls Tryd.prog 41 #[.pointer (some ⟨q, 0, none⟩), nodeV ⟨7, l, a, b⟩] w fun e w' => e = .returned (.bool (decide (Right s.nodes ⟨7, l, a, b⟩))) ∧ Kept w w' (fun _ => False) := by
  obtain ⟨ka, hka⟩ : ∃ k, knownB s.nodes a = k := ⟨_, rfl⟩
  obtain ⟨kb, hkb⟩ : ∃ k, knownB s.nodes b = k := ⟨_, rfl⟩
  have hs0 : ((l.size : Int) ≤ 0) ↔ l.toList = [] := by
    rw [← str_nil]
    refine ⟨fun h => ?_, fun h => by rw [h]; decide⟩
    have h4 : l.size = 0 := by omega
    obtain ⟨⟨d⟩⟩ := l
    simp [ByteArray.size] at h4
    subst h4
    rfl
  have e : Right s.nodes ⟨7, l, a, b⟩ ↔ (ka = true ∧ kb = true ∧ l.toList = []) := by
    unfold Right
    rw [if_neg (show ¬ ((7 : Int) = 1) by decide)]
    simp [labelMax, arity, hka, hkb]
    try rw [hs0]
    try (constructor <;> (intro h; simp_all; done))
  have E := Lib.hid e
  have ka0 := (Kept.refl w (fun _ => False)).alloc (.cells #[.int .i64 7, .string l, .int .i64 a, .int .i64 b] 37)
  have H : Hid (RAt base (w.alloc (.cells #[.int .i64 7, .string l, .int .i64 a, .int .i64 b] 37)).drew q G s) := Lib.hid (h.kept ka0.drew)
  have HA := Lib.hid hka
  have HB := Lib.hid hkb
  have C3 : Hid ((w.alloc (.cells #[.int .i64 7, .string l, .int .i64 a, .int .i64 b] 37)).drew.cell? ⟨w.heap.size, 3, none⟩ = some (.int .i64 b)) := Lib.hid (by
    have := cellOf (j := 3) (heap_alloc_new w (.cells #[.int .i64 7, .string l, .int .i64 a, .int .i64 b] 37))
    exact this)
  clear h e hka hkb hs0
  unfold nodeV
  go_enter Tryd.func41, Tryd.ntmps41
  go_wp2_with (fail)
  refine wp_region_lex (fun w' => w'.cell? ⟨w.heap.size, 3, none⟩ = some (.int .i64 b)) [0, 0, 1, 2, 0, 0, 3, 2, 0, 0] (by kernel_rfl) (by kernel_rfl) (by kernel_rfl) (C3.out) (fun Q' hQ' => ?_)
  simp only [List.zip_cons_cons, List.zip_nil_right]
  repeat (first
    | (refine wpX_silent ?_ (fun K hK => ?_)
       · rfl
       apply Exists.intro
       refine ⟨fun w' => ?_, ?_⟩
       · go_simp
         exact ⟨rfl, rfl⟩
       go_simp
       refine hK _ _ ?_
       clear hK K)
    | (refine wpX_read ?_ (fun K hK => ?_)
       · rfl
       apply Exists.intro
       refine ⟨?_, ?_⟩
       · go_simp
         exact ⟨rfl, rfl⟩
       go_simp
       refine hK _ _ ?_
       clear hK K)
    | (refine wpX_float ?_ (fun K hK => ?_)
       · rfl
       apply Exists.intro
       refine ⟨fun w' hw' => ?_, ?_⟩
       · try dsimp only at hw'
         go_simp
         exact ⟨rfl, rfl⟩
       go_simp
       refine hK _ _ ?_
       clear hK K)
    | (refine wpX_not ?_ (fun K hK => ?_)
       · rfl
       go_simp
       refine hK _ _ ?_
       clear hK K))
  refine wpX_keeps ?_ (fun K hK => ?_)
  · rfl
  go_wp2_with (fail)
  refine (rknown_any base _ q G s a H.out).mono ?_
  rw [HA.out]
  rintro e w' ⟨rfl, hw⟩
  obtain rfl := hw.symm
  clear hw
  go_simp
  refine hK _ _ ⟨rfl, C3.out, ?_⟩
  clear hK K
  repeat (first
    | (refine wpX_silent ?_ (fun K hK => ?_)
       · rfl
       apply Exists.intro
       refine ⟨fun w' => ?_, ?_⟩
       · go_simp
         exact ⟨rfl, rfl⟩
       go_simp
       refine hK _ _ ?_
       clear hK K)
    | (refine wpX_read ?_ (fun K hK => ?_)
       · rfl
       apply Exists.intro
       refine ⟨?_, ?_⟩
       · go_simp
         exact ⟨rfl, rfl⟩
       go_simp
       refine hK _ _ ?_
       clear hK K)
    | (refine wpX_float ?_ (fun K hK => ?_)
       · rfl
       apply Exists.intro
       refine ⟨fun w' hw' => ?_, ?_⟩
       · try dsimp only at hw'
         go_simp
         exact ⟨rfl, rfl⟩
       go_simp
       refine hK _ _ ?_
       clear hK K)
    | (refine wpX_not ?_ (fun K hK => ?_)
       · rfl
       go_simp
       refine hK _ _ ?_
       clear hK K))
  refine wpX_keeps ?_ (fun K hK => ?_)
  · rfl
  go_wp2_with (fail)
  refine (rknown_any base _ q G s b H.out).mono ?_
  rw [HB.out]
  rintro e w' ⟨rfl, hw⟩
  obtain rfl := hw.symm
  clear hw
  go_simp
  refine hK _ _ ⟨rfl, C3.out, ?_⟩
  clear hK K
  repeat (first
    | (refine wpX_silent ?_ (fun K hK => ?_)
       · rfl
       apply Exists.intro
       refine ⟨fun w' => ?_, ?_⟩
       · go_simp
         exact ⟨rfl, rfl⟩
       go_simp
       refine hK _ _ ?_
       clear hK K)
    | (refine wpX_read ?_ (fun K hK => ?_)
       · rfl
       apply Exists.intro
       refine ⟨?_, ?_⟩
       · go_simp
         exact ⟨rfl, rfl⟩
       go_simp
       refine hK _ _ ?_
       clear hK K)
    | (refine wpX_float ?_ (fun K hK => ?_)
       · rfl
       apply Exists.intro
       refine ⟨fun w' hw' => ?_, ?_⟩
       · try dsimp only at hw'
         go_simp
         exact ⟨rfl, rfl⟩
       go_simp
       refine hK _ _ ?_
       clear hK K)
    | (refine wpX_not ?_ (fun K hK => ?_)
       · rfl
       go_simp
       refine hK _ _ ?_
       clear hK K))
  refine wpX_nil (hQ' _ _ ?_)
  cases ka <;> cases kb
  all_goals go_wp2
  all_goals go_ret
  all_goals refine ⟨ret_dec ?_, by first | exact ((Kept.refl _ _).alloc _).drew | exact (((Kept.refl _ _).alloc _).drew).drewN _⟩
  all_goals (try subst_vars)
  all_goals rw [E.out]
  all_goals simp_all
set_option maxHeartbeats 1600000 in
set_option maxRecDepth 100000 in
theorem rright_9 (base : Nat) (w : World) (q : Nat) (G : Nat → Prop) (s : TS) (l : ByteArray) (a b : Int) (h : RAt base w q G s) :
    Calls Tryd.prog 41 #[.pointer (some ⟨q, 0, none⟩), nodeV ⟨9, l, a, b⟩] w fun e w' => e = .returned (.bool (decide (Right s.nodes ⟨9, l, a, b⟩))) ∧ Kept w w' (fun _ => False) := by
  obtain ⟨ka, hka⟩ : ∃ k, knownB s.nodes a = k := ⟨_, rfl⟩
  obtain ⟨kb, hkb⟩ : ∃ k, knownB s.nodes b = k := ⟨_, rfl⟩
  have hs0 : ((l.size : Int) ≤ 0) ↔ l.toList = [] := by
    rw [← str_nil]
    refine ⟨fun h => ?_, fun h => by rw [h]; decide⟩
    have h4 : l.size = 0 := by omega
    obtain ⟨⟨d⟩⟩ := l
    simp [ByteArray.size] at h4
    subst h4
    rfl
  have e : Right s.nodes ⟨9, l, a, b⟩ ↔ (ka = true ∧ kb = true ∧ l.toList = []) := by
    unfold Right
    rw [if_neg (show ¬ ((9 : Int) = 1) by decide)]
    simp [labelMax, arity, hka, hkb]
    try rw [hs0]
    try (constructor <;> (intro h; simp_all; done))
  have E := Lib.hid e
  have ka0 := (Kept.refl w (fun _ => False)).alloc (.cells #[.int .i64 9, .string l, .int .i64 a, .int .i64 b] 37)
  have H : Hid (RAt base (w.alloc (.cells #[.int .i64 9, .string l, .int .i64 a, .int .i64 b] 37)).drew q G s) := Lib.hid (h.kept ka0.drew)
  have HA := Lib.hid hka
  have HB := Lib.hid hkb
  have C3 : Hid ((w.alloc (.cells #[.int .i64 9, .string l, .int .i64 a, .int .i64 b] 37)).drew.cell? ⟨w.heap.size, 3, none⟩ = some (.int .i64 b)) := Lib.hid (by
    have := cellOf (j := 3) (heap_alloc_new w (.cells #[.int .i64 9, .string l, .int .i64 a, .int .i64 b] 37))
    exact this)
  clear h e hka hkb hs0
  unfold nodeV
  go_enter Tryd.func41, Tryd.ntmps41
  go_wp2_with (fail)
  refine wp_region_lex (fun w' => w'.cell? ⟨w.heap.size, 3, none⟩ = some (.int .i64 b)) [0, 0, 1, 2, 0, 0, 3, 2, 0, 0] (by kernel_rfl) (by kernel_rfl) (by kernel_rfl) (C3.out) (fun Q' hQ' => ?_)
  simp only [List.zip_cons_cons, List.zip_nil_right]
  repeat (first
    | (refine wpX_silent ?_ (fun K hK => ?_)
       · rfl
       apply Exists.intro
       refine ⟨fun w' => ?_, ?_⟩
       · go_simp
         exact ⟨rfl, rfl⟩
       go_simp
       refine hK _ _ ?_
       clear hK K)
    | (refine wpX_read ?_ (fun K hK => ?_)
       · rfl
       apply Exists.intro
       refine ⟨?_, ?_⟩
       · go_simp
         exact ⟨rfl, rfl⟩
       go_simp
       refine hK _ _ ?_
       clear hK K)
    | (refine wpX_float ?_ (fun K hK => ?_)
       · rfl
       apply Exists.intro
       refine ⟨fun w' hw' => ?_, ?_⟩
       · try dsimp only at hw'
         go_simp
         exact ⟨rfl, rfl⟩
       go_simp
       refine hK _ _ ?_
       clear hK K)
    | (refine wpX_not ?_ (fun K hK => ?_)
       · rfl
       go_simp
       refine hK _ _ ?_
       clear hK K))
  refine wpX_keeps ?_ (fun K hK => ?_)
  · rfl
  go_wp2_with (fail)
  refine (rknown_any base _ q G s a H.out).mono ?_
  rw [HA.out]
  rintro e w' ⟨rfl, hw⟩
  obtain rfl := hw.symm
  clear hw
  go_simp
  refine hK _ _ ⟨rfl, C3.out, ?_⟩
  clear hK K
  repeat (first
    | (refine wpX_silent ?_ (fun K hK => ?_)
       · rfl
       apply Exists.intro
       refine ⟨fun w' => ?_, ?_⟩
       · go_simp
         exact ⟨rfl, rfl⟩
       go_simp
       refine hK _ _ ?_
       clear hK K)
    | (refine wpX_read ?_ (fun K hK => ?_)
       · rfl
       apply Exists.intro
       refine ⟨?_, ?_⟩
       · go_simp
         exact ⟨rfl, rfl⟩
       go_simp
       refine hK _ _ ?_
       clear hK K)
    | (refine wpX_float ?_ (fun K hK => ?_)
       · rfl
       apply Exists.intro
       refine ⟨fun w' hw' => ?_, ?_⟩
       · try dsimp only at hw'
         go_simp
         exact ⟨rfl, rfl⟩
       go_simp
       refine hK _ _ ?_
       clear hK K)
    | (refine wpX_not ?_ (fun K hK => ?_)
       · rfl
       go_simp
       refine hK _ _ ?_
       clear hK K))
  refine wpX_keeps ?_ (fun K hK => ?_)
  · rfl
  go_wp2_with (fail)
  refine (rknown_any base _ q G s b H.out).mono ?_
  rw [HB.out]
  rintro e w' ⟨rfl, hw⟩
  obtain rfl := hw.symm
  clear hw
  go_simp
  refine hK _ _ ⟨rfl, C3.out, ?_⟩
  clear hK K
  repeat (first
    | (refine wpX_silent ?_ (fun K hK => ?_)
       · rfl
       apply Exists.intro
       refine ⟨fun w' => ?_, ?_⟩
       · go_simp
         exact ⟨rfl, rfl⟩
       go_simp
       refine hK _ _ ?_
       clear hK K)
    | (refine wpX_read ?_ (fun K hK => ?_)
       · rfl
       apply Exists.intro
       refine ⟨?_, ?_⟩
       · go_simp
         exact ⟨rfl, rfl⟩
       go_simp
       refine hK _ _ ?_
       clear hK K)
    | (refine wpX_float ?_ (fun K hK => ?_)
       · rfl
       apply Exists.intro
       refine ⟨fun w' hw' => ?_, ?_⟩
       · try dsimp only at hw'
         go_simp
         exact ⟨rfl, rfl⟩
       go_simp
       refine hK _ _ ?_
       clear hK K)
    | (refine wpX_not ?_ (fun K hK => ?_)
       · rfl
       go_simp
       refine hK _ _ ?_
       clear hK K))
  refine wpX_nil (hQ' _ _ ?_)
  cases ka <;> cases kb
  all_goals go_wp2
  all_goals go_ret
  all_goals refine ⟨ret_dec ?_, by first | exact ((Kept.refl _ _).alloc _).drew | exact (((Kept.refl _ _).alloc _).drew).drewN _⟩
  all_goals (try subst_vars)
  all_goals rw [E.out]
  all_goals simp_all
set_option maxHeartbeats 1600000 in
set_option maxRecDepth 100000 in
theorem rright_4 (base : Nat) (w : World) (q : Nat) (G : Nat → Prop) (s : TS) (l : ByteArray) (a b : Int) (h : RAt base w q G s) :
    Calls Tryd.prog 41 #[.pointer (some ⟨q, 0, none⟩), nodeV ⟨4, l, a, b⟩] w fun e w' => e = .returned (.bool (decide (Right s.nodes ⟨4, l, a, b⟩))) ∧ Kept w w' (fun _ => False) := by
  obtain ⟨ka, hka⟩ : ∃ k, knownB s.nodes a = k := ⟨_, rfl⟩
  obtain ⟨kb, hkb⟩ : ∃ k, knownB s.nodes b = k := ⟨_, rfl⟩
  have hs0 : ((l.size : Int) ≤ 0) ↔ l.toList = [] := by
    rw [← str_nil]
    refine ⟨fun h => ?_, fun h => by rw [h]; decide⟩
    have h4 : l.size = 0 := by omega
    obtain ⟨⟨d⟩⟩ := l
    simp [ByteArray.size] at h4
    subst h4
    rfl
  have e : Right s.nodes ⟨4, l, a, b⟩ ↔ (ka = true ∧ b = 0 ∧ (l.size : Int) ≤ 32) := by
    unfold Right
    rw [if_neg (show ¬ ((4 : Int) = 1) by decide)]
    simp [labelMax, arity, hka, hkb]
    try rw [hs0]
    try (constructor <;> (intro h; simp_all; done))
  have E := Lib.hid e
  have ka0 := (Kept.refl w (fun _ => False)).alloc (.cells #[.int .i64 4, .string l, .int .i64 a, .int .i64 b] 37)
  have H : Hid (RAt base (w.alloc (.cells #[.int .i64 4, .string l, .int .i64 a, .int .i64 b] 37)).drew q G s) := Lib.hid (h.kept ka0.drew)
  have HA := Lib.hid hka
  have HB := Lib.hid hkb
  have C3 : Hid ((w.alloc (.cells #[.int .i64 4, .string l, .int .i64 a, .int .i64 b] 37)).drew.cell? ⟨w.heap.size, 3, none⟩ = some (.int .i64 b)) := Lib.hid (by
    have := cellOf (j := 3) (heap_alloc_new w (.cells #[.int .i64 4, .string l, .int .i64 a, .int .i64 b] 37))
    exact this)
  clear h e hka hkb hs0
  unfold nodeV
  go_enter Tryd.func41, Tryd.ntmps41
  go_wp2_with (fail)
  refine wp_region_lex (fun w' => w'.cell? ⟨w.heap.size, 3, none⟩ = some (.int .i64 b)) [0, 0, 1, 2, 0, 0, 3, 2, 0, 0] (by kernel_rfl) (by kernel_rfl) (by kernel_rfl) (C3.out) (fun Q' hQ' => ?_)
  simp only [List.zip_cons_cons, List.zip_nil_right]
  repeat (first
    | (refine wpX_silent ?_ (fun K hK => ?_)
       · rfl
       apply Exists.intro
       refine ⟨fun w' => ?_, ?_⟩
       · go_simp
         exact ⟨rfl, rfl⟩
       go_simp
       refine hK _ _ ?_
       clear hK K)
    | (refine wpX_read ?_ (fun K hK => ?_)
       · rfl
       apply Exists.intro
       refine ⟨?_, ?_⟩
       · go_simp
         exact ⟨rfl, rfl⟩
       go_simp
       refine hK _ _ ?_
       clear hK K)
    | (refine wpX_float ?_ (fun K hK => ?_)
       · rfl
       apply Exists.intro
       refine ⟨fun w' hw' => ?_, ?_⟩
       · try dsimp only at hw'
         go_simp
         exact ⟨rfl, rfl⟩
       go_simp
       refine hK _ _ ?_
       clear hK K)
    | (refine wpX_not ?_ (fun K hK => ?_)
       · rfl
       go_simp
       refine hK _ _ ?_
       clear hK K))
  refine wpX_keeps ?_ (fun K hK => ?_)
  · rfl
  go_wp2_with (fail)
  refine (rknown_any base _ q G s a H.out).mono ?_
  rw [HA.out]
  rintro e w' ⟨rfl, hw⟩
  obtain rfl := hw.symm
  clear hw
  go_simp
  refine hK _ _ ⟨rfl, C3.out, ?_⟩
  clear hK K
  repeat (first
    | (refine wpX_silent ?_ (fun K hK => ?_)
       · rfl
       apply Exists.intro
       refine ⟨fun w' => ?_, ?_⟩
       · go_simp
         exact ⟨rfl, rfl⟩
       go_simp
       refine hK _ _ ?_
       clear hK K)
    | (refine wpX_read ?_ (fun K hK => ?_)
       · rfl
       apply Exists.intro
       refine ⟨?_, ?_⟩
       · go_simp
         exact ⟨rfl, rfl⟩
       go_simp
       refine hK _ _ ?_
       clear hK K)
    | (refine wpX_float ?_ (fun K hK => ?_)
       · rfl
       apply Exists.intro
       refine ⟨fun w' hw' => ?_, ?_⟩
       · try dsimp only at hw'
         go_simp
         exact ⟨rfl, rfl⟩
       go_simp
       refine hK _ _ ?_
       clear hK K)
    | (refine wpX_not ?_ (fun K hK => ?_)
       · rfl
       go_simp
       refine hK _ _ ?_
       clear hK K))
  refine wpX_keeps ?_ (fun K hK => ?_)
  · rfl
  go_wp2_with (fail)
  refine (rknown_any base _ q G s b H.out).mono ?_
  rw [HB.out]
  rintro e w' ⟨rfl, hw⟩
  obtain rfl := hw.symm
  clear hw
  go_simp
  refine hK _ _ ⟨rfl, C3.out, ?_⟩
  clear hK K
  repeat (first
    | (refine wpX_silent ?_ (fun K hK => ?_)
       · rfl
       apply Exists.intro
       refine ⟨fun w' => ?_, ?_⟩
       · go_simp
         exact ⟨rfl, rfl⟩
       go_simp
       refine hK _ _ ?_
       clear hK K)
    | (refine wpX_read ?_ (fun K hK => ?_)
       · rfl
       apply Exists.intro
       refine ⟨?_, ?_⟩
       · go_simp
         exact ⟨rfl, rfl⟩
       go_simp
       refine hK _ _ ?_
       clear hK K)
    | (refine wpX_float ?_ (fun K hK => ?_)
       · rfl
       apply Exists.intro
       refine ⟨fun w' hw' => ?_, ?_⟩
       · try dsimp only at hw'
         go_simp
         exact ⟨rfl, rfl⟩
       go_simp
       refine hK _ _ ?_
       clear hK K)
    | (refine wpX_not ?_ (fun K hK => ?_)
       · rfl
       go_simp
       refine hK _ _ ?_
       clear hK K))
  refine wpX_nil (hQ' _ _ ?_)
  cases ka <;> cases kb
  all_goals go_wp2
  all_goals go_ret
  all_goals refine ⟨ret_dec ?_, by first | exact ((Kept.refl _ _).alloc _).drew | exact (((Kept.refl _ _).alloc _).drew).drewN _⟩
  all_goals (try subst_vars)
  all_goals rw [E.out]
  all_goals simp_all
set_option maxHeartbeats 1600000 in
set_option maxRecDepth 100000 in
theorem rright_5 (base : Nat) (w : World) (q : Nat) (G : Nat → Prop) (s : TS) (l : ByteArray) (a b : Int) (h : RAt base w q G s) :
    Calls Tryd.prog 41 #[.pointer (some ⟨q, 0, none⟩), nodeV ⟨5, l, a, b⟩] w fun e w' => e = .returned (.bool (decide (Right s.nodes ⟨5, l, a, b⟩))) ∧ Kept w w' (fun _ => False) := by
  obtain ⟨ka, hka⟩ : ∃ k, knownB s.nodes a = k := ⟨_, rfl⟩
  obtain ⟨kb, hkb⟩ : ∃ k, knownB s.nodes b = k := ⟨_, rfl⟩
  have hs0 : ((l.size : Int) ≤ 0) ↔ l.toList = [] := by
    rw [← str_nil]
    refine ⟨fun h => ?_, fun h => by rw [h]; decide⟩
    have h4 : l.size = 0 := by omega
    obtain ⟨⟨d⟩⟩ := l
    simp [ByteArray.size] at h4
    subst h4
    rfl
  have e : Right s.nodes ⟨5, l, a, b⟩ ↔ (ka = true ∧ kb = true ∧ (l.size : Int) ≤ 32) := by
    unfold Right
    rw [if_neg (show ¬ ((5 : Int) = 1) by decide)]
    simp [labelMax, arity, hka, hkb]
    try rw [hs0]
    try (constructor <;> (intro h; simp_all; done))
  have E := Lib.hid e
  have ka0 := (Kept.refl w (fun _ => False)).alloc (.cells #[.int .i64 5, .string l, .int .i64 a, .int .i64 b] 37)
  have H : Hid (RAt base (w.alloc (.cells #[.int .i64 5, .string l, .int .i64 a, .int .i64 b] 37)).drew q G s) := Lib.hid (h.kept ka0.drew)
  have HA := Lib.hid hka
  have HB := Lib.hid hkb
  have C3 : Hid ((w.alloc (.cells #[.int .i64 5, .string l, .int .i64 a, .int .i64 b] 37)).drew.cell? ⟨w.heap.size, 3, none⟩ = some (.int .i64 b)) := Lib.hid (by
    have := cellOf (j := 3) (heap_alloc_new w (.cells #[.int .i64 5, .string l, .int .i64 a, .int .i64 b] 37))
    exact this)
  clear h e hka hkb hs0
  unfold nodeV
  go_enter Tryd.func41, Tryd.ntmps41
  go_wp2_with (fail)
  refine wp_region_lex (fun w' => w'.cell? ⟨w.heap.size, 3, none⟩ = some (.int .i64 b)) [0, 0, 1, 2, 0, 0, 3, 2, 0, 0] (by kernel_rfl) (by kernel_rfl) (by kernel_rfl) (C3.out) (fun Q' hQ' => ?_)
  simp only [List.zip_cons_cons, List.zip_nil_right]
  repeat (first
    | (refine wpX_silent ?_ (fun K hK => ?_)
       · rfl
       apply Exists.intro
       refine ⟨fun w' => ?_, ?_⟩
       · go_simp
         exact ⟨rfl, rfl⟩
       go_simp
       refine hK _ _ ?_
       clear hK K)
    | (refine wpX_read ?_ (fun K hK => ?_)
       · rfl
       apply Exists.intro
       refine ⟨?_, ?_⟩
       · go_simp
         exact ⟨rfl, rfl⟩
       go_simp
       refine hK _ _ ?_
       clear hK K)
    | (refine wpX_float ?_ (fun K hK => ?_)
       · rfl
       apply Exists.intro
       refine ⟨fun w' hw' => ?_, ?_⟩
       · try dsimp only at hw'
         go_simp
         exact ⟨rfl, rfl⟩
       go_simp
       refine hK _ _ ?_
       clear hK K)
    | (refine wpX_not ?_ (fun K hK => ?_)
       · rfl
       go_simp
       refine hK _ _ ?_
       clear hK K))
  refine wpX_keeps ?_ (fun K hK => ?_)
  · rfl
  go_wp2_with (fail)
  refine (rknown_any base _ q G s a H.out).mono ?_
  rw [HA.out]
  rintro e w' ⟨rfl, hw⟩
  obtain rfl := hw.symm
  clear hw
  go_simp
  refine hK _ _ ⟨rfl, C3.out, ?_⟩
  clear hK K
  repeat (first
    | (refine wpX_silent ?_ (fun K hK => ?_)
       · rfl
       apply Exists.intro
       refine ⟨fun w' => ?_, ?_⟩
       · go_simp
         exact ⟨rfl, rfl⟩
       go_simp
       refine hK _ _ ?_
       clear hK K)
    | (refine wpX_read ?_ (fun K hK => ?_)
       · rfl
       apply Exists.intro
       refine ⟨?_, ?_⟩
       · go_simp
         exact ⟨rfl, rfl⟩
       go_simp
       refine hK _ _ ?_
       clear hK K)
    | (refine wpX_float ?_ (fun K hK => ?_)
       · rfl
       apply Exists.intro
       refine ⟨fun w' hw' => ?_, ?_⟩
       · try dsimp only at hw'
         go_simp
         exact ⟨rfl, rfl⟩
       go_simp
       refine hK _ _ ?_
       clear hK K)
    | (refine wpX_not ?_ (fun K hK => ?_)
       · rfl
       go_simp
       refine hK _ _ ?_
       clear hK K))
  refine wpX_keeps ?_ (fun K hK => ?_)
  · rfl
  go_wp2_with (fail)
  refine (rknown_any base _ q G s b H.out).mono ?_
  rw [HB.out]
  rintro e w' ⟨rfl, hw⟩
  obtain rfl := hw.symm
  clear hw
  go_simp
  refine hK _ _ ⟨rfl, C3.out, ?_⟩
  clear hK K
  repeat (first
    | (refine wpX_silent ?_ (fun K hK => ?_)
       · rfl
       apply Exists.intro
       refine ⟨fun w' => ?_, ?_⟩
       · go_simp
         exact ⟨rfl, rfl⟩
       go_simp
       refine hK _ _ ?_
       clear hK K)
    | (refine wpX_read ?_ (fun K hK => ?_)
       · rfl
       apply Exists.intro
       refine ⟨?_, ?_⟩
       · go_simp
         exact ⟨rfl, rfl⟩
       go_simp
       refine hK _ _ ?_
       clear hK K)
    | (refine wpX_float ?_ (fun K hK => ?_)
       · rfl
       apply Exists.intro
       refine ⟨fun w' hw' => ?_, ?_⟩
       · try dsimp only at hw'
         go_simp
         exact ⟨rfl, rfl⟩
       go_simp
       refine hK _ _ ?_
       clear hK K)
    | (refine wpX_not ?_ (fun K hK => ?_)
       · rfl
       go_simp
       refine hK _ _ ?_
       clear hK K))
  refine wpX_nil (hQ' _ _ ?_)
  cases ka <;> cases kb
  all_goals go_wp2
  all_goals go_ret
  all_goals refine ⟨ret_dec ?_, by first | exact ((Kept.refl _ _).alloc _).drew | exact (((Kept.refl _ _).alloc _).drew).drewN _⟩
  all_goals (try subst_vars)
  all_goals rw [E.out]
  all_goals simp_all
set_option maxHeartbeats 1600000 in
set_option maxRecDepth 100000 in
theorem rright_6 (base : Nat) (w : World) (q : Nat) (G : Nat → Prop) (s : TS) (l : ByteArray) (a b : Int) (h : RAt base w q G s) :
    Calls Tryd.prog 41 #[.pointer (some ⟨q, 0, none⟩), nodeV ⟨6, l, a, b⟩] w fun e w' => e = .returned (.bool (decide (Right s.nodes ⟨6, l, a, b⟩))) ∧ Kept w w' (fun _ => False) := by
  obtain ⟨ka, hka⟩ : ∃ k, knownB s.nodes a = k := ⟨_, rfl⟩
  obtain ⟨kb, hkb⟩ : ∃ k, knownB s.nodes b = k := ⟨_, rfl⟩
  have hs0 : ((l.size : Int) ≤ 0) ↔ l.toList = [] := by
    rw [← str_nil]
    refine ⟨fun h => ?_, fun h => by rw [h]; decide⟩
    have h4 : l.size = 0 := by omega
    obtain ⟨⟨d⟩⟩ := l
    simp [ByteArray.size] at h4
    subst h4
    rfl
  have e : Right s.nodes ⟨6, l, a, b⟩ ↔ (ka = true ∧ b = 0 ∧ l.toList = []) := by
    unfold Right
    rw [if_neg (show ¬ ((6 : Int) = 1) by decide)]
    simp [labelMax, arity, hka, hkb]
    try rw [hs0]
    try (constructor <;> (intro h; simp_all; done))
  have E := Lib.hid e
  have ka0 := (Kept.refl w (fun _ => False)).alloc (.cells #[.int .i64 6, .string l, .int .i64 a, .int .i64 b] 37)
  have H : Hid (RAt base (w.alloc (.cells #[.int .i64 6, .string l, .int .i64 a, .int .i64 b] 37)).drew q G s) := Lib.hid (h.kept ka0.drew)
  have HA := Lib.hid hka
  have HB := Lib.hid hkb
  have C3 : Hid ((w.alloc (.cells #[.int .i64 6, .string l, .int .i64 a, .int .i64 b] 37)).drew.cell? ⟨w.heap.size, 3, none⟩ = some (.int .i64 b)) := Lib.hid (by
    have := cellOf (j := 3) (heap_alloc_new w (.cells #[.int .i64 6, .string l, .int .i64 a, .int .i64 b] 37))
    exact this)
  clear h e hka hkb hs0
  unfold nodeV
  go_enter Tryd.func41, Tryd.ntmps41
  go_wp2_with (fail)
  refine wp_region_lex (fun w' => w'.cell? ⟨w.heap.size, 3, none⟩ = some (.int .i64 b)) [0, 0, 1, 2, 0, 0, 3, 2, 0, 0] (by kernel_rfl) (by kernel_rfl) (by kernel_rfl) (C3.out) (fun Q' hQ' => ?_)
  simp only [List.zip_cons_cons, List.zip_nil_right]
  repeat (first
    | (refine wpX_silent ?_ (fun K hK => ?_)
       · rfl
       apply Exists.intro
       refine ⟨fun w' => ?_, ?_⟩
       · go_simp
         exact ⟨rfl, rfl⟩
       go_simp
       refine hK _ _ ?_
       clear hK K)
    | (refine wpX_read ?_ (fun K hK => ?_)
       · rfl
       apply Exists.intro
       refine ⟨?_, ?_⟩
       · go_simp
         exact ⟨rfl, rfl⟩
       go_simp
       refine hK _ _ ?_
       clear hK K)
    | (refine wpX_float ?_ (fun K hK => ?_)
       · rfl
       apply Exists.intro
       refine ⟨fun w' hw' => ?_, ?_⟩
       · try dsimp only at hw'
         go_simp
         exact ⟨rfl, rfl⟩
       go_simp
       refine hK _ _ ?_
       clear hK K)
    | (refine wpX_not ?_ (fun K hK => ?_)
       · rfl
       go_simp
       refine hK _ _ ?_
       clear hK K))
  refine wpX_keeps ?_ (fun K hK => ?_)
  · rfl
  go_wp2_with (fail)
  refine (rknown_any base _ q G s a H.out).mono ?_
  rw [HA.out]
  rintro e w' ⟨rfl, hw⟩
  obtain rfl := hw.symm
  clear hw
  go_simp
  refine hK _ _ ⟨rfl, C3.out, ?_⟩
  clear hK K
  repeat (first
    | (refine wpX_silent ?_ (fun K hK => ?_)
       · rfl
       apply Exists.intro
       refine ⟨fun w' => ?_, ?_⟩
       · go_simp
         exact ⟨rfl, rfl⟩
       go_simp
       refine hK _ _ ?_
       clear hK K)
    | (refine wpX_read ?_ (fun K hK => ?_)
       · rfl
       apply Exists.intro
       refine ⟨?_, ?_⟩
       · go_simp
         exact ⟨rfl, rfl⟩
       go_simp
       refine hK _ _ ?_
       clear hK K)
    | (refine wpX_float ?_ (fun K hK => ?_)
       · rfl
       apply Exists.intro
       refine ⟨fun w' hw' => ?_, ?_⟩
       · try dsimp only at hw'
         go_simp
         exact ⟨rfl, rfl⟩
       go_simp
       refine hK _ _ ?_
       clear hK K)
    | (refine wpX_not ?_ (fun K hK => ?_)
       · rfl
       go_simp
       refine hK _ _ ?_
       clear hK K))
  refine wpX_keeps ?_ (fun K hK => ?_)
  · rfl
  go_wp2_with (fail)
  refine (rknown_any base _ q G s b H.out).mono ?_
  rw [HB.out]
  rintro e w' ⟨rfl, hw⟩
  obtain rfl := hw.symm
  clear hw
  go_simp
  refine hK _ _ ⟨rfl, C3.out, ?_⟩
  clear hK K
  repeat (first
    | (refine wpX_silent ?_ (fun K hK => ?_)
       · rfl
       apply Exists.intro
       refine ⟨fun w' => ?_, ?_⟩
       · go_simp
         exact ⟨rfl, rfl⟩
       go_simp
       refine hK _ _ ?_
       clear hK K)
    | (refine wpX_read ?_ (fun K hK => ?_)
       · rfl
       apply Exists.intro
       refine ⟨?_, ?_⟩
       · go_simp
         exact ⟨rfl, rfl⟩
       go_simp
       refine hK _ _ ?_
       clear hK K)
    | (refine wpX_float ?_ (fun K hK => ?_)
       · rfl
       apply Exists.intro
       refine ⟨fun w' hw' => ?_, ?_⟩
       · try dsimp only at hw'
         go_simp
         exact ⟨rfl, rfl⟩
       go_simp
       refine hK _ _ ?_
       clear hK K)
    | (refine wpX_not ?_ (fun K hK => ?_)
       · rfl
       go_simp
       refine hK _ _ ?_
       clear hK K))
  refine wpX_nil (hQ' _ _ ?_)
  cases ka <;> cases kb
  all_goals go_wp2
  all_goals go_ret
  all_goals refine ⟨ret_dec ?_, by first | exact ((Kept.refl _ _).alloc _).drew | exact (((Kept.refl _ _).alloc _).drew).drewN _⟩
  all_goals (try subst_vars)
  all_goals rw [E.out]
  all_goals simp_all
end Go.Proofs.YtaifjojfmkcmjaaDoor.Term
