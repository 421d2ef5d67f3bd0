/-
  Making a term, walked.
-/
import Derived.Test.YtaifjojfmkcmjaaDoorTerm2
namespace Go.Proofs.YtaifjojfmkcmjaaDoor.Term
open Go.RowKit Go.Proofs.YtaifjojfmkcmjaaDoorBase Go.Proofs.YtaifjojfmkcmjaaDoorLex2
set_option linter.unusedVariables false
set_option linter.unusedSimpArgs false

theorem wpX_lookup {P : Program} {ops : Array Oper} {S : World → Prop} {Q' : Act → World → Prop} {a : Act} {w : World} {o : Oper} {rest : List (Nat × Oper)} (t : TypeId) (x i : Operand) (c : Bool) (hop : o.op = .lookup t x i c) (hg : Region.wanted o (yielded ops a.tmps) = true) (X I : Value) (hx : a.eval x = X) (hi : a.eval i = I) (v : Value) (hrun : (Instr.lookup t X I c).run P w = .ok v w)
    (h : ∀ K : Act → World → Prop, (∀ a w, wpX P ops S Q' rest a w → K a w) → K (a.put o.dst v) w) : wpX P ops S Q' ((1, o) :: rest) a w := by
  refine wpX_read hg (fun K hK => ⟨v, ?_, h K hK⟩)
  unfold execOp
  simp only [hop, hx, hi, Sem.run_bind, hrun, Result.andThen_ok]
  exact ⟨rfl, rfl⟩
theorem wp_update_node {o : Oper} {a : Act} {w : World} {K : Act → World → Prop} {Q : Exit → Act → World → Prop} (x i v : Operand) (ho : o.op = .mapUpdate 79 x i v) (n : Node) (l : List Node) (m : Nat) (u : Value) (hx : a.eval x = .map (some m)) (hi : a.eval i = nodeV n) (hv : a.eval v = u)
    (hn : idx l n = 0) (hb : w.heap[m]? = some (.map (entries l).toArray l.length)) (h : K (a.put o.dst undef) (setMap w m (.map ((entries l).toArray.push ⟨nodeV n, u, l.length⟩) (l.length + 1)))) : o.wp Tryd.prog a w K Q := by
  have hr := run_update_node n l m u w hn hb
  unfold Oper.wp execOp
  simp only [ho, hx, hi, hv, Sem.run_bind, hr, Result.andThen_ok]
  exact h
theorem setMap_at {w : World} {m : Nat} {o o' : Obj} (hb : w.heap[m]? = some o) : (setMap w m o').heap[m]? = some o' := (MapKept.heap_set hb).1
theorem setMap_kept {w : World} {m : Nat} {o' : Obj} : Kept w (setMap w m o') (fun k => k = m) := by
  refine ⟨rfl, rfl, rfl, by simp [setMap], fun k hk hne => ?_⟩
  simp only [setMap, Array.getElem?_setIfInBounds]
  rw [if_neg (fun e => hne e.symm)]

theorem own_ne_map {w : World} {base : Nat} {e : TypeId} {size : Nat} {v : Value} {n : Nat} {xs : List Value} {m : Nat} {es : Array MapEntry} {k : Nat} (h : w.ownsRow base e size v n xs) (hm : w.heap[m]? = some (.map es k)) : v.ownBlock ≠ some m := by
  rcases h.2 with ⟨rfl, _⟩ | ⟨g, cap, cur, rfl, hg, hh, r⟩
  · simp [Value.ownBlock]
  · intro e
    simp only [Value.ownBlock, Option.some.injEq] at e
    subst e
    rw [hm] at hh
    cases hh
theorem mk_old {s : TS} {n : Node} (h : idx s.nodes n ≠ 0) : mk s n = ((idx s.nodes n, 0), s) := by unfold mk; rw [if_pos h]
theorem mk_bad {s : TS} {n : Node} (h : idx s.nodes n = 0) (h2 : ¬ Right s.nodes n) : mk s n = ((0, 10), s) := by unfold mk; rw [if_neg (by simpa using h), if_pos h2]
theorem mk_full {s : TS} {n : Node} (h : idx s.nodes n = 0) (h2 : Right s.nodes n) (h3 : 262144 ≤ s.nodes.length) : mk s n = ((0, 11), s) := by unfold mk; rw [if_neg (by simpa using h), if_neg (by simpa using h2), if_pos h3]
theorem mk_new {s : TS} {n : Node} (h : idx s.nodes n = 0) (h2 : Right s.nodes n) (h3 : ¬ 262144 ≤ s.nodes.length) : mk s n = ((s.nodes.length + 1, 0), { s with nodes := s.nodes ++ [n] }) := by unfold mk; rw [if_neg (by simpa using h), if_neg (by simpa using h2), if_neg h3]

set_option maxRecDepth 100000 in
theorem make_old (w0 w : World) (p : Nat) (F : Nat → Prop) (s : TS) (n : Node) (h : SAt w0 w p F s) (hi : idx s.nodes n ≠ 0) :
    Calls Tryd.prog 13 #[.pointer (some ⟨p, 0, none⟩), nodeV n] w fun e w' => e = .returned (.tuple #[.int .i64 (mk s n).1.1, .int .i64 (mk s n).1.2]) ∧ Kept w w' (fun _ => False) := by
  rw [mk_old hi]
  have e : decide (idx s.nodes n ≠ 0) = true := by simpa using hi
  obtain ⟨nv, m, hp, hm, hb1, hb2, hb3, ho, hF⟩ := h.at_
  obtain ⟨A, c, rfl, hc, hcm⟩ := own_slice ho
  have pl := blk_lt hp
  have c1 := cellOf (j := 1) hp
  have c0 := cellOf (j := 0) hp
  simp at c0 c1
  have ka := ((Kept.refl w (fun _ => False)).alloc (.cells #[.int .i64 n.kind, .string n.label, .int .i64 n.a, .int .i64 n.b] 37)).drew
  have LK := Lib.hid (run_lookup_node n s.nodes s.nodes.length m _ (ka.blk hm (fun h => h)))
  have H := Lib.hid h
  have HA := Lib.hid (h.kept ka)
  unfold nodeV
  go_enter Tryd.func13, Tryd.ntmps13
  go_wp2
  refine wp_region_lex (fun _ => True) [0, 0, 0, 1, 1, 1, 0, 0, 0, 0, 0] (by kernel_rfl) (by kernel_rfl) (by kernel_rfl) (trivial) (fun Q' hQ' => ?_)
  simp only [List.zip_cons_cons, List.zip_nil_right]
  repeat (first
    | (refine wpX_silent ?_ (fun K hK => ?_)
       · rfl
       apply Exists.intro
       refine ⟨fun w' => ?_, ?_⟩
       · go_simp
         exact ⟨rfl, rfl⟩
       go_simp
       refine hK _ _ ?_
       clear hK K)
    | (refine wpX_read ?_ (fun K hK => ?_)
       · rfl
       apply Exists.intro
       refine ⟨?_, ?_⟩
       · go_simp
         exact ⟨rfl, rfl⟩
       go_simp
       refine hK _ _ ?_
       clear hK K)
    | (refine wpX_float ?_ (fun K hK => ?_)
       · rfl
       apply Exists.intro
       refine ⟨fun w' hw' => ?_, ?_⟩
       · try dsimp only at hw'
         go_simp
         exact ⟨rfl, rfl⟩
       go_simp
       refine hK _ _ ?_
       clear hK K)
    | (refine wpX_not ?_ (fun K hK => ?_)
       · rfl
       go_simp
       refine hK _ _ ?_
       clear hK K))
  refine wpX_lookup _ _ _ _ rfl rfl _ _ rfl rfl _ LK.out (fun K hK => ?_)
  rw [e]
  refine hK _ _ ?_
  clear hK K
  repeat (first
    | (refine wpX_silent ?_ (fun K hK => ?_)
       · rfl
       apply Exists.intro
       refine ⟨fun w' => ?_, ?_⟩
       · go_simp
         exact ⟨rfl, rfl⟩
       go_simp
       refine hK _ _ ?_
       clear hK K)
    | (refine wpX_read ?_ (fun K hK => ?_)
       · rfl
       apply Exists.intro
       refine ⟨?_, ?_⟩
       · go_simp
         exact ⟨rfl, rfl⟩
       go_simp
       refine hK _ _ ?_
       clear hK K)
    | (refine wpX_float ?_ (fun K hK => ?_)
       · rfl
       apply Exists.intro
       refine ⟨fun w' hw' => ?_, ?_⟩
       · try dsimp only at hw'
         go_simp
         exact ⟨rfl, rfl⟩
       go_simp
       refine hK _ _ ?_
       clear hK K)
    | (refine wpX_not ?_ (fun K hK => ?_)
       · rfl
       go_simp
       refine hK _ _ ?_
       clear hK K))
  refine wpX_nil (hQ' _ _ ?_)
  go_wp2
  go_ret2
  exact ⟨rfl, ka⟩

theorem right_any (w0 w : World) (p : Nat) (F : Nat → Prop) (s : TS) (n : Node) (h : SAt w0 w p F s) (hl : n.label.size ≤ 9223372036854775807) :
    Calls Tryd.prog 40 #[.pointer (some ⟨p, 0, none⟩), nodeV n] w fun e w' => e = .returned (.bool (decide (Right s.nodes n))) ∧ Kept w w' (fun _ => False) := by
  by_cases hk : n.kind = 1
  · exact right_atom w0 w p F s n hk
  · obtain ⟨k, l, a, b⟩ := n
    exact right_other w0 w p F s k l a b h hk hl
set_option maxRecDepth 100000 in
theorem make_bad (w0 w : World) (p : Nat) (F : Nat → Prop) (s : TS) (n : Node) (h : SAt w0 w p F s) (hl : n.label.size ≤ 9223372036854775807) (hi : idx s.nodes n = 0) (hr : ¬ Right s.nodes n) :
    Calls Tryd.prog 13 #[.pointer (some ⟨p, 0, none⟩), nodeV n] w fun e w' => e = .returned (.tuple #[.int .i64 (mk s n).1.1, .int .i64 (mk s n).1.2]) ∧ Kept w w' (fun _ => False) := by
  rw [mk_bad hi hr]
  have hd : decide (Right s.nodes n) = false := by simpa using hr
  have e : decide (idx s.nodes n ≠ 0) = false := by simpa using hi
  obtain ⟨nv, m, hp, hm, hb1, hb2, hb3, ho, hF⟩ := h.at_
  obtain ⟨A, c, rfl, hc, hcm⟩ := own_slice ho
  have pl := blk_lt hp
  have c1 := cellOf (j := 1) hp
  have c0 := cellOf (j := 0) hp
  simp at c0 c1
  have ka := ((Kept.refl w (fun _ => False)).alloc (.cells #[.int .i64 n.kind, .string n.label, .int .i64 n.a, .int .i64 n.b] 37)).drew
  have LK := Lib.hid (run_lookup_node n s.nodes s.nodes.length m _ (ka.blk hm (fun h => h)))
  have H := Lib.hid h
  have HA := Lib.hid (h.kept ka)
  unfold nodeV
  go_enter Tryd.func13, Tryd.ntmps13
  go_wp2
  refine wp_region_lex (fun _ => True) [0, 0, 0, 1, 1, 1, 0, 0, 0, 0, 0] (by kernel_rfl) (by kernel_rfl) (by kernel_rfl) (trivial) (fun Q' hQ' => ?_)
  simp only [List.zip_cons_cons, List.zip_nil_right]
  repeat (first
    | (refine wpX_silent ?_ (fun K hK => ?_)
       · rfl
       apply Exists.intro
       refine ⟨fun w' => ?_, ?_⟩
       · go_simp
         exact ⟨rfl, rfl⟩
       go_simp
       refine hK _ _ ?_
       clear hK K)
    | (refine wpX_read ?_ (fun K hK => ?_)
       · rfl
       apply Exists.intro
       refine ⟨?_, ?_⟩
       · go_simp
         exact ⟨rfl, rfl⟩
       go_simp
       refine hK _ _ ?_
       clear hK K)
    | (refine wpX_float ?_ (fun K hK => ?_)
       · rfl
       apply Exists.intro
       refine ⟨fun w' hw' => ?_, ?_⟩
       · try dsimp only at hw'
         go_simp
         exact ⟨rfl, rfl⟩
       go_simp
       refine hK _ _ ?_
       clear hK K)
    | (refine wpX_not ?_ (fun K hK => ?_)
       · rfl
       go_simp
       refine hK _ _ ?_
       clear hK K))
  refine wpX_lookup _ _ _ _ rfl rfl _ _ rfl rfl _ LK.out (fun K hK => ?_)
  rw [e]
  refine hK _ _ ?_
  clear hK K
  repeat (first
    | (refine wpX_silent ?_ (fun K hK => ?_)
       · rfl
       apply Exists.intro
       refine ⟨fun w' => ?_, ?_⟩
       · go_simp
         exact ⟨rfl, rfl⟩
       go_simp
       refine hK _ _ ?_
       clear hK K)
    | (refine wpX_read ?_ (fun K hK => ?_)
       · rfl
       apply Exists.intro
       refine ⟨?_, ?_⟩
       · go_simp
         exact ⟨rfl, rfl⟩
       go_simp
       refine hK _ _ ?_
       clear hK K)
    | (refine wpX_float ?_ (fun K hK => ?_)
       · rfl
       apply Exists.intro
       refine ⟨fun w' hw' => ?_, ?_⟩
       · try dsimp only at hw'
         go_simp
         exact ⟨rfl, rfl⟩
       go_simp
       refine hK _ _ ?_
       clear hK K)
    | (refine wpX_not ?_ (fun K hK => ?_)
       · rfl
       go_simp
       refine hK _ _ ?_
       clear hK K))
  refine wpX_nil (hQ' _ _ ?_)
  go_wp2_with (fail)
  obtain ⟨w1, hw1⟩ : ∃ w1, (w.alloc (.cells #[.int .i64 n.kind, .string n.label, .int .i64 n.a, .int .i64 n.b] 37)).drew = w1 := ⟨_, rfl⟩
  rw [hw1] at ka HA ⊢
  have hbx : w1.heap[w.heap.size]? = some (.cells #[.int .i64 n.kind, .string n.label, .int .i64 n.a, .int .i64 n.b] 37 (0, 0)) := by rw [← hw1]; exact heap_alloc_new w _
  clear hw1
  refine (right_any w0 _ p F s n HA.out hl).mono ?_
  rintro e w2 ⟨rfl, hk⟩
  have K2 := Lib.hid (ka.trans hk (fun _ h => h.elim))
  have HX := Lib.hid (hk.blk hbx (fun h => h))
  clear hk hbx ka
  rw [hd]
  go_wp2
  go_ret2
  exact ⟨rfl, K2.out⟩
set_option maxRecDepth 100000 in
theorem make_full (w0 w : World) (p : Nat) (F : Nat → Prop) (s : TS) (n : Node) (h : SAt w0 w p F s) (hl : n.label.size ≤ 9223372036854775807) (hi : idx s.nodes n = 0) (hr : Right s.nodes n) (hf : 262144 ≤ s.nodes.length) :
    Calls Tryd.prog 13 #[.pointer (some ⟨p, 0, none⟩), nodeV n] w fun e w' => e = .returned (.tuple #[.int .i64 (mk s n).1.1, .int .i64 (mk s n).1.2]) ∧ Kept w w' (fun _ => False) := by
  rw [mk_full hi hr hf]
  have hd : decide (Right s.nodes n) = true := by simpa using hr
  have e : decide (idx s.nodes n ≠ 0) = false := by simpa using hi
  obtain ⟨nv, m, hp, hm, hb1, hb2, hb3, ho, hF⟩ := h.at_
  obtain ⟨A, c, rfl, hc, hcm⟩ := own_slice ho
  have pl := blk_lt hp
  have c1 := cellOf (j := 1) hp
  have c0 := cellOf (j := 0) hp
  simp at c0 c1
  have ka := ((Kept.refl w (fun _ => False)).alloc (.cells #[.int .i64 n.kind, .string n.label, .int .i64 n.a, .int .i64 n.b] 37)).drew
  have LK := Lib.hid (run_lookup_node n s.nodes s.nodes.length m _ (ka.blk hm (fun h => h)))
  have H := Lib.hid h
  have HA := Lib.hid (h.kept ka)
  unfold nodeV
  go_enter Tryd.func13, Tryd.ntmps13
  go_wp2
  refine wp_region_lex (fun _ => True) [0, 0, 0, 1, 1, 1, 0, 0, 0, 0, 0] (by kernel_rfl) (by kernel_rfl) (by kernel_rfl) (trivial) (fun Q' hQ' => ?_)
  simp only [List.zip_cons_cons, List.zip_nil_right]
  repeat (first
    | (refine wpX_silent ?_ (fun K hK => ?_)
       · rfl
       apply Exists.intro
       refine ⟨fun w' => ?_, ?_⟩
       · go_simp
         exact ⟨rfl, rfl⟩
       go_simp
       refine hK _ _ ?_
       clear hK K)
    | (refine wpX_read ?_ (fun K hK => ?_)
       · rfl
       apply Exists.intro
       refine ⟨?_, ?_⟩
       · go_simp
         exact ⟨rfl, rfl⟩
       go_simp
       refine hK _ _ ?_
       clear hK K)
    | (refine wpX_float ?_ (fun K hK => ?_)
       · rfl
       apply Exists.intro
       refine ⟨fun w' hw' => ?_, ?_⟩
       · try dsimp only at hw'
         go_simp
         exact ⟨rfl, rfl⟩
       go_simp
       refine hK _ _ ?_
       clear hK K)
    | (refine wpX_not ?_ (fun K hK => ?_)
       · rfl
       go_simp
       refine hK _ _ ?_
       clear hK K))
  refine wpX_lookup _ _ _ _ rfl rfl _ _ rfl rfl _ LK.out (fun K hK => ?_)
  rw [e]
  refine hK _ _ ?_
  clear hK K
  repeat (first
    | (refine wpX_silent ?_ (fun K hK => ?_)
       · rfl
       apply Exists.intro
       refine ⟨fun w' => ?_, ?_⟩
       · go_simp
         exact ⟨rfl, rfl⟩
       go_simp
       refine hK _ _ ?_
       clear hK K)
    | (refine wpX_read ?_ (fun K hK => ?_)
       · rfl
       apply Exists.intro
       refine ⟨?_, ?_⟩
       · go_simp
         exact ⟨rfl, rfl⟩
       go_simp
       refine hK _ _ ?_
       clear hK K)
    | (refine wpX_float ?_ (fun K hK => ?_)
       · rfl
       apply Exists.intro
       refine ⟨fun w' hw' => ?_, ?_⟩
       · try dsimp only at hw'
         go_simp
         exact ⟨rfl, rfl⟩
       go_simp
       refine hK _ _ ?_
       clear hK K)
    | (refine wpX_not ?_ (fun K hK => ?_)
       · rfl
       go_simp
       refine hK _ _ ?_
       clear hK K))
  refine wpX_nil (hQ' _ _ ?_)
  go_wp2_with (fail)
  obtain ⟨w1, hw1⟩ : ∃ w1, (w.alloc (.cells #[.int .i64 n.kind, .string n.label, .int .i64 n.a, .int .i64 n.b] 37)).drew = w1 := ⟨_, rfl⟩
  rw [hw1] at ka HA ⊢
  have hbx : w1.heap[w.heap.size]? = some (.cells #[.int .i64 n.kind, .string n.label, .int .i64 n.a, .int .i64 n.b] 37 (0, 0)) := by rw [← hw1]; exact heap_alloc_new w _
  clear hw1
  refine (right_any w0 _ p F s n HA.out hl).mono ?_
  rintro e w2 ⟨rfl, hk⟩
  have K2 := Lib.hid (ka.trans hk (fun _ h => h.elim))
  have HX := Lib.hid (hk.blk hbx (fun h => h))
  clear hk hbx ka
  rw [hd]
  have c2 : w2.cell? ⟨p, 0, none⟩ = some (.slice A s.nodes.length c) := by rw [← c0]; simp only [World.cell?, K2.out.block p pl (fun h => h)]
  have q : (262144 : Int) ≤ s.nodes.length := by omega
  have hle := H.out.ok.len
  clear c0 c1
  go_wp2
  go_ret2
  exact ⟨rfl, K2.out⟩
set_option maxHeartbeats 1600000 in
set_option maxRecDepth 100000 in
theorem make_new (w0 w : World) (p : Nat) (F : Nat → Prop) (s : TS) (n : Node) (h : SAt w0 w p F s) (hl : n.label.size ≤ 9223372036854775807) (hi : idx s.nodes n = 0) (hr : Right s.nodes n) (hf : ¬ 262144 ≤ s.nodes.length) :
    Calls Tryd.prog 13 #[.pointer (some ⟨p, 0, none⟩), nodeV n] w fun e w' => e = .returned (.tuple #[.int .i64 (mk s n).1.1, .int .i64 (mk s n).1.2]) ∧ TNext w0 w w' p F (mk s n).2 := by
  have hok := Lib.hid (mk_ok h.ok n)
  rw [mk_new hi hr hf] at hok ⊢
  have hd : decide (Right s.nodes n) = true := by simpa using hr
  have e : decide (idx s.nodes n ≠ 0) = false := by simpa using hi
  obtain ⟨nv, m, hp, hm, hb1, hb2, hb3, ho, hF⟩ := h.at_
  obtain ⟨A, c, rfl, hc, hcm⟩ := own_slice ho
  have pl := blk_lt hp
  have c1 := cellOf (j := 1) hp
  have c0 := cellOf (j := 0) hp
  simp at c0 c1
  have ka := ((Kept.refl w (fun _ => False)).alloc (.cells #[.int .i64 n.kind, .string n.label, .int .i64 n.a, .int .i64 n.b] 37)).drew
  have LK := Lib.hid (run_lookup_node n s.nodes s.nodes.length m _ (ka.blk hm (fun h => h)))
  have H := Lib.hid h
  have HA := Lib.hid (h.kept ka)
  unfold nodeV
  go_enter Tryd.func13, Tryd.ntmps13
  go_wp2
  refine wp_region_lex (fun _ => True) [0, 0, 0, 1, 1, 1, 0, 0, 0, 0, 0] (by kernel_rfl) (by kernel_rfl) (by kernel_rfl) (trivial) (fun Q' hQ' => ?_)
  simp only [List.zip_cons_cons, List.zip_nil_right]
  repeat (first
    | (refine wpX_silent ?_ (fun K hK => ?_)
       · rfl
       apply Exists.intro
       refine ⟨fun w' => ?_, ?_⟩
       · go_simp
         exact ⟨rfl, rfl⟩
       go_simp
       refine hK _ _ ?_
       clear hK K)
    | (refine wpX_read ?_ (fun K hK => ?_)
       · rfl
       apply Exists.intro
       refine ⟨?_, ?_⟩
       · go_simp
         exact ⟨rfl, rfl⟩
       go_simp
       refine hK _ _ ?_
       clear hK K)
    | (refine wpX_float ?_ (fun K hK => ?_)
       · rfl
       apply Exists.intro
       refine ⟨fun w' hw' => ?_, ?_⟩
       · try dsimp only at hw'
         go_simp
         exact ⟨rfl, rfl⟩
       go_simp
       refine hK _ _ ?_
       clear hK K)
    | (refine wpX_not ?_ (fun K hK => ?_)
       · rfl
       go_simp
       refine hK _ _ ?_
       clear hK K))
  refine wpX_lookup _ _ _ _ rfl rfl _ _ rfl rfl _ LK.out (fun K hK => ?_)
  rw [e]
  refine hK _ _ ?_
  clear hK K
  repeat (first
    | (refine wpX_silent ?_ (fun K hK => ?_)
       · rfl
       apply Exists.intro
       refine ⟨fun w' => ?_, ?_⟩
       · go_simp
         exact ⟨rfl, rfl⟩
       go_simp
       refine hK _ _ ?_
       clear hK K)
    | (refine wpX_read ?_ (fun K hK => ?_)
       · rfl
       apply Exists.intro
       refine ⟨?_, ?_⟩
       · go_simp
         exact ⟨rfl, rfl⟩
       go_simp
       refine hK _ _ ?_
       clear hK K)
    | (refine wpX_float ?_ (fun K hK => ?_)
       · rfl
       apply Exists.intro
       refine ⟨fun w' hw' => ?_, ?_⟩
       · try dsimp only at hw'
         go_simp
         exact ⟨rfl, rfl⟩
       go_simp
       refine hK _ _ ?_
       clear hK K)
    | (refine wpX_not ?_ (fun K hK => ?_)
       · rfl
       go_simp
       refine hK _ _ ?_
       clear hK K))
  refine wpX_nil (hQ' _ _ ?_)
  go_wp2_with (fail)
  obtain ⟨w1, hw1⟩ : ∃ w1, (w.alloc (.cells #[.int .i64 n.kind, .string n.label, .int .i64 n.a, .int .i64 n.b] 37)).drew = w1 := ⟨_, rfl⟩
  rw [hw1] at ka HA ⊢
  have hbx : w1.heap[w.heap.size]? = some (.cells #[.int .i64 n.kind, .string n.label, .int .i64 n.a, .int .i64 n.b] 37 (0, 0)) := by rw [← hw1]; exact heap_alloc_new w _
  clear hw1
  refine (right_any w0 _ p F s n HA.out hl).mono ?_
  rintro e w2 ⟨rfl, hk⟩
  have K2 := Lib.hid (ka.trans hk (fun _ h => h.elim))
  have HX := Lib.hid (hk.blk hbx (fun h => h))
  clear hk hbx ka
  rw [hd]
  have c2 : w2.cell? ⟨p, 0, none⟩ = some (.slice A s.nodes.length c) := by rw [← c0]; simp only [World.cell?, K2.out.block p pl (fun h => h)]
  have q : decide ((262144 : Int) ≤ s.nodes.length) = false := by simp; omega
  have bx := K2.out.size
  have hx0 := cellOf (j := 0) HX.out
  have hx1 := cellOf (j := 1) HX.out
  have hx2 := cellOf (j := 2) HX.out
  have hx3 := cellOf (j := 3) HX.out
  simp at hx0 hx1 hx2 hx3
  have HP := Lib.hid (K2.out.blk hp (fun h => h))
  have HM := Lib.hid (K2.out.blk hm (fun h => h))
  have HO := Lib.hid (own_keptF ho K2.out (fun _ _ h => h))
  have HF := Lib.hid hF
  have HF3 := Lib.hid hf
  have PL2 := Lib.hid (blk_lt (K2.out.blk hp (fun h => h)))
  have OL : Hid (∀ g, (Value.slice A s.nodes.length c).ownBlock = some g → g < w.heap.size) := Lib.hid (fun g hg => (ho.lt g hg).2)
  clear c0 c1 hp hm ho hF hf
  go_wp2
  refine wp_region_lex (fun w' => w'.cell? ⟨p, 0, none⟩ = some (.slice A s.nodes.length c)) [0, 0, 0, 0, 3, 1, 2, 4, 0, 0, 4] (by kernel_rfl) (by kernel_rfl) (by kernel_rfl) (c2) (fun Q' hQ' => ?_)
  simp only [List.zip_cons_cons, List.zip_nil_right]
  repeat (first
    | (refine wpX_silent ?_ (fun K hK => ?_)
       · rfl
       apply Exists.intro
       refine ⟨fun w' => ?_, ?_⟩
       · go_simp
         exact ⟨rfl, rfl⟩
       go_simp
       refine hK _ _ ?_
       clear hK K)
    | (refine wpX_read ?_ (fun K hK => ?_)
       · rfl
       apply Exists.intro
       refine ⟨?_, ?_⟩
       · go_simp
         exact ⟨rfl, rfl⟩
       go_simp
       refine hK _ _ ?_
       clear hK K)
    | (refine wpX_float ?_ (fun K hK => ?_)
       · rfl
       apply Exists.intro
       refine ⟨fun w' hw' => ?_, ?_⟩
       · try dsimp only at hw'
         go_simp
         exact ⟨rfl, rfl⟩
       go_simp
       refine hK _ _ ?_
       clear hK K)
    | (refine wpX_not ?_ (fun K hK => ?_)
       · rfl
       go_simp
       refine hK _ _ ?_
       clear hK K))
  refine wpX_keeps ?_ (fun K hK => ?_)
  · rfl
  have pl2 := PL2.out
  go_wp2
  -- S is shown by the walk
  refine wpX_heavy ?_ (fun K hK => ?_)
  · rfl
  refine wp_append_ownS _ (.tmp 35) (.tmp 37) 35 35 rfl w0.heap.size 37 _ 4 40 elemNode (.slice A s.nodes.length c) s.nodes.length (s.nodes.flatMap nodeC) rfl ?own (.slice (some ⟨w2.heap.size, 0, none⟩) 1 1) 1 (nodeC n) rfl ?src ?by1 ?ba (fun v' w3 o1 g1 b1 => ?_)
  case own => exact HO.out.alloc _
  case src =>
    refine Src.ofSlice _ elemNode.under _ 1 1 _ rfl (fun j u hj => ?_) ?_
    · have hlast := cellOf (j := j) (show ((w2.alloc (.cells #[.int .i64 n.kind, .string n.label, .int .i64 n.a, .int .i64 n.b] 37)).drew).heap[w2.heap.size]? = some (.cells #[.int .i64 n.kind, .string n.label, .int .i64 n.a, .int .i64 n.b] 37 (0, 0)) from heap_alloc_new w2 _)
      rw [Addr.add_lit, Nat.zero_add, hlast, ← hj]
      simp [nodeC]
    · intro u hu
      simp only [nodeC, List.mem_cons, List.not_mem_nil, or_false] at hu
      rcases hu with rfl | rfl | rfl | rfl <;> rfl
  case by1 => have := HF3.out; omega
  case ba => simp; omega
  have hpb := (Below.heap_alloc w2 (.cells #[.int .i64 n.kind, .string n.label, .int .i64 n.a, .int .i64 n.b] 37) p pl2).trans HP.out
  have hml := blk_lt HM.out
  have hmb := (Below.heap_alloc w2 (.cells #[.int .i64 n.kind, .string n.label, .int .i64 n.a, .int .i64 n.b] 37) m hml).trans HM.out
  have hxb := (Below.heap_alloc w2 (.cells #[.int .i64 n.kind, .string n.label, .int .i64 n.a, .int .i64 n.b] 37) _ (blk_lt HX.out)).trans HX.out
  have np : (Value.slice A s.nodes.length c).ownBlock ≠ some p := own_ne HO.out HP.out (by decide)
  have nm : (Value.slice A s.nodes.length c).ownBlock ≠ some m := own_ne_map HO.out HM.out
  have nx : (Value.slice A s.nodes.length c).ownBlock ≠ some w.heap.size := fun h => by have := OL.out _ h; omega
  have hp3 : w3.heap[p]? = _ := blk_grown (w := (w2.alloc (.cells #[.int .i64 n.kind, .string n.label, .int .i64 n.a, .int .i64 n.b] 37)).drew) hpb g1 (fun e => np e.symm)
  have hm3 : w3.heap[m]? = _ := blk_grown (w := (w2.alloc (.cells #[.int .i64 n.kind, .string n.label, .int .i64 n.a, .int .i64 n.b] 37)).drew) hmb g1 (fun e => nm e.symm)
  have hx3' : w3.heap[w.heap.size]? = _ := blk_grown (w := (w2.alloc (.cells #[.int .i64 n.kind, .string n.label, .int .i64 n.a, .int .i64 n.b] 37)).drew) hxb g1 (fun e => nx e.symm)
  have k3 : Kept w2 w3 (fun k => (Value.slice A s.nodes.length c).ownBlock = some k) := Kept.grown (((Kept.refl w2 _).alloc _).drew) g1 (fun k hk => .inl hk)
  have hne : p ≠ m := fun e => by subst e; rw [HP.out] at HM; cases HM.out
  have hnx : w.heap.size ≠ p := by omega
  obtain ⟨A', c', rfl, hc1, hc2⟩ := own_slice o1
  have np' : (Value.slice A' (s.nodes.length + 1) c').ownBlock ≠ some p := own_ne o1 hp3 (by decide)
  have k0 := cellOf (j := 0) hp3
  simp at k0
  have e0 := freeOf (j := 0) hp3
  have P4 := Lib.hid (blk_set hp3 0 (.slice A' (s.nodes.length + 1) c'))
  have M4 := Lib.hid (blk_far hm3 (p := ⟨p, 0, none⟩) (Ne.symm hne) (.slice A' (s.nodes.length + 1) c'))
  have X4 := Lib.hid (blk_far hx3' (p := ⟨p, 0, none⟩) hnx (.slice A' (s.nodes.length + 1) c'))
  have O4 := Lib.hid (own_far o1 (p := ⟨p, 0, none⟩) np' (.slice A' (s.nodes.length + 1) c'))
  have K4 : Hid (Kept w2 (w3.setCell ⟨p, 0, none⟩ (.slice A' (s.nodes.length + 1) c')) (fun k => k = p ∨ (Value.slice A s.nodes.length c).ownBlock = some k)) := Lib.hid ((k3.mono (fun _ h => .inr h)).setCell (p := ⟨p, 0, none⟩) (.inl (.inl rfl)) _)
  have B4 := Lib.hid b1
  clear o1 g1 b1 hpb hmb hxb hp3 hm3 hx3' k3 c2 hx0 hx1 hx2 hx3 np nm nx np'
  go_simp
  refine hK _ _ ⟨rfl, ?_⟩
  clear hK K
  repeat (first
    | (refine wpX_silent ?_ (fun K hK => ?_)
       · rfl
       apply Exists.intro
       refine ⟨fun w' => ?_, ?_⟩
       · go_simp
         exact ⟨rfl, rfl⟩
       go_simp
       refine hK _ _ ?_
       clear hK K)
    | (refine wpX_read ?_ (fun K hK => ?_)
       · rfl
       apply Exists.intro
       refine ⟨?_, ?_⟩
       · go_simp
         exact ⟨rfl, rfl⟩
       go_simp
       refine hK _ _ ?_
       clear hK K)
    | (refine wpX_float ?_ (fun K hK => ?_)
       · rfl
       apply Exists.intro
       refine ⟨fun w' hw' => ?_, ?_⟩
       · try dsimp only at hw'
         go_simp
         exact ⟨rfl, rfl⟩
       go_simp
       refine hK _ _ ?_
       clear hK K)
    | (refine wpX_not ?_ (fun K hK => ?_)
       · rfl
       go_simp
       refine hK _ _ ?_
       clear hK K))
  refine wpX_heavy ?_ (fun K hK => ?_)
  · rfl
  go_wp2
  refine wpX_nil (hQ' _ _ ?_)
  obtain ⟨w4, hw4⟩ : ∃ w4, w3.setCell ⟨p, 0, none⟩ (.slice A' (s.nodes.length + 1) c') = w4 := ⟨_, rfl⟩
  rw [hw4] at P4 M4 X4 O4 K4 ⊢
  clear k0 e0 hw4
  have y0 := cellOf (j := 0) P4.out
  have y1 := cellOf (j := 1) P4.out
  have x0 := cellOf (j := 0) X4.out
  have x1 := cellOf (j := 1) X4.out
  have x2 := cellOf (j := 2) X4.out
  have x3 := cellOf (j := 3) X4.out
  simp at y0 y1 x0 x1 x2 x3
  go_wp2
  refine wp_region_lex (fun _ => True) [0, 0, 0, 1, 1, 0, 0, 0, 1, 0, 4] (by kernel_rfl) (by kernel_rfl) (by kernel_rfl) (trivial) (fun Q' hQ' => ?_)
  simp only [List.zip_cons_cons, List.zip_nil_right]
  repeat (first
    | (refine wpX_silent ?_ (fun K hK => ?_)
       · rfl
       apply Exists.intro
       refine ⟨fun w' => ?_, ?_⟩
       · go_simp
         exact ⟨rfl, rfl⟩
       go_simp
       refine hK _ _ ?_
       clear hK K)
    | (refine wpX_read ?_ (fun K hK => ?_)
       · rfl
       apply Exists.intro
       refine ⟨?_, ?_⟩
       · go_simp
         exact ⟨rfl, rfl⟩
       go_simp
       refine hK _ _ ?_
       clear hK K)
    | (refine wpX_float ?_ (fun K hK => ?_)
       · rfl
       apply Exists.intro
       refine ⟨fun w' hw' => ?_, ?_⟩
       · try dsimp only at hw'
         go_simp
         exact ⟨rfl, rfl⟩
       go_simp
       refine hK _ _ ?_
       clear hK K)
    | (refine wpX_not ?_ (fun K hK => ?_)
       · rfl
       go_simp
       refine hK _ _ ?_
       clear hK K))
  refine wpX_heavy rfl (fun K hK => ?_)
  refine wp_update_node _ _ _ rfl n s.nodes m (.int .i64 ((s.nodes.length : Int) + 1)) rfl rfl ?u hi (show w4.drew.heap[m]? = _ from M4.out) ?_
  case u => first | rfl | (show Value.int _ _ = _; simp)
  have hm4 : w4.drew.heap[m]? = some (.map (entries s.nodes).toArray s.nodes.length) := M4.out
  have k5 : Kept w2 (setMap w4.drew m (.map ((entries s.nodes).toArray.push ⟨nodeV n, .int .i64 ((s.nodes.length : Int) + 1), s.nodes.length⟩) (s.nodes.length + 1))) (fun k => k = p ∨ (Value.slice A s.nodes.length c).ownBlock = some k ∨ k = m) :=
    Kept.trans (K4.out.drew.mono (fun _ h => h.elim .inl (fun h => .inr (.inl h)))) setMap_kept (fun k h => .inl (.inr (.inr h)))
  have kk : Kept w4 (setMap w4.drew m (.map ((entries s.nodes).toArray.push ⟨nodeV n, .int .i64 ((s.nodes.length : Int) + 1), s.nodes.length⟩) (s.nodes.length + 1))) (fun k => k = m) :=
    Kept.trans ((Kept.refl w4 (fun k => k = m)).drew) setMap_kept (fun k h => .inl h)
  have m5 : (setMap w4.drew m (.map ((entries s.nodes).toArray.push ⟨nodeV n, .int .i64 ((s.nodes.length : Int) + 1), s.nodes.length⟩) (s.nodes.length + 1))).heap[m]? = some (.map (entries (s.nodes ++ [n])).toArray (s.nodes.length + 1)) := by
    rw [entries_snoc]
    exact setMap_at hm4
  obtain ⟨w5, hw5⟩ : ∃ w5, setMap w4.drew m (.map ((entries s.nodes).toArray.push ⟨nodeV n, .int .i64 ((s.nodes.length : Int) + 1), s.nodes.length⟩) (s.nodes.length + 1)) = w5 := ⟨_, rfl⟩
  rw [hw5] at k5 kk m5 ⊢
  have P5 := Lib.hid (kk.blk P4.out hne)
  have O5 := Lib.hid (own_keptF O4.out kk (fun k hk e => own_ne_map O4.out M4.out (by rw [hk, e])))
  have M5 := Lib.hid m5
  have K5 := Lib.hid k5
  have z0 := cellOf (j := 0) P5.out
  simp at z0
  clear hw5 kk m5 k5 hm4 y0 y1 x0 x1 x2 x3
  go_simp
  refine hK _ _ ⟨rfl, ?_⟩
  clear hK K
  repeat (first
    | (refine wpX_silent ?_ (fun K hK => ?_)
       · rfl
       apply Exists.intro
       refine ⟨fun w' => ?_, ?_⟩
       · go_simp
         exact ⟨rfl, rfl⟩
       go_simp
       refine hK _ _ ?_
       clear hK K)
    | (refine wpX_read ?_ (fun K hK => ?_)
       · rfl
       apply Exists.intro
       refine ⟨?_, ?_⟩
       · go_simp
         exact ⟨rfl, rfl⟩
       go_simp
       refine hK _ _ ?_
       clear hK K)
    | (refine wpX_float ?_ (fun K hK => ?_)
       · rfl
       apply Exists.intro
       refine ⟨fun w' hw' => ?_, ?_⟩
       · try dsimp only at hw'
         go_simp
         exact ⟨rfl, rfl⟩
       go_simp
       refine hK _ _ ?_
       clear hK K)
    | (refine wpX_not ?_ (fun K hK => ?_)
       · rfl
       go_simp
       refine hK _ _ ?_
       clear hK K))
  refine wpX_nil (hQ' _ _ ?_)
  go_wp2
  go_ret2
  refine ⟨by simp, ?_⟩
  have hs2 := K2.out.size
  have kw : Kept w w5 F := by
    refine Kept.trans (K2.out.mono (fun _ h => h.elim)) K5.out (fun k hk => .inl ((HF.out k).2 ?_))
    rcases hk with rfl | hk | rfl
    · exact .inl rfl
    · exact .inr (.inr hk)
    · exact .inr (.inl rfl)
  refine ⟨fun k => k = p ∨ k = m ∨ (Value.slice A' (s.nodes.length + 1) c').ownBlock = some k, ⟨⟨.slice A' (s.nodes.length + 1) c', m, ?_, ?_, hb1, hb2, Nat.le_trans hb3 kw.size, ?_, fun k => Iff.rfl⟩, ?_, hok.out, H.out.gl⟩, ?_, kw⟩
  · have := P5.out
    simpa using this
  · simpa using M5.out
  · have := O5.out
    simpa [List.flatMap_append] using this
  · exact H.out.bel.trans (kw.below (fun k hk => H.out.at_.base_le k hk) hb3)
  · rintro k (rfl | rfl | hk)
    · exact .inl ((HF.out _).2 (.inl rfl))
    · exact .inl ((HF.out _).2 (.inr (.inl rfl)))
    · rcases B4.out k hk with h | h
      · exact .inl ((HF.out _).2 (.inr (.inr h)))
      · right
        simp at h
        omega
theorem make_any (w0 w : World) (p : Nat) (F : Nat → Prop) (s : TS) (n : Node) (h : SAt w0 w p F s) (hl : n.label.size ≤ 9223372036854775807) :
    Calls Tryd.prog 13 #[.pointer (some ⟨p, 0, none⟩), nodeV n] w fun e w' => e = .returned (.tuple #[.int .i64 (mk s n).1.1, .int .i64 (mk s n).1.2]) ∧ TNext w0 w w' p F (mk s n).2 := by
  by_cases hi : idx s.nodes n = 0
  · by_cases hr : Right s.nodes n
    · by_cases hf : 262144 ≤ s.nodes.length
      · refine (make_full w0 w p F s n h hl hi hr hf).mono ?_
        rintro e w' ⟨rfl, hk⟩
        refine ⟨rfl, ?_⟩
        rw [mk_full hi hr hf]
        exact TNext.of_kept h hk
      · exact make_new w0 w p F s n h hl hi hr hf
    · refine (make_bad w0 w p F s n h hl hi hr).mono ?_
      rintro e w' ⟨rfl, hk⟩
      refine ⟨rfl, ?_⟩
      rw [mk_bad hi hr]
      exact TNext.of_kept h hk
  · refine (make_old w0 w p F s n h hi).mono ?_
    rintro e w' ⟨rfl, hk⟩
    refine ⟨rfl, ?_⟩
    rw [mk_old hi]
    exact TNext.of_kept h hk
end Go.Proofs.YtaifjojfmkcmjaaDoor.Term
