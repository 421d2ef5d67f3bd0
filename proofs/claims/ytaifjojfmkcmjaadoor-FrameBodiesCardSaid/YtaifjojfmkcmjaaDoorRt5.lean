/-
  The reference's Make.
-/
import Derived.Test.YtaifjojfmkcmjaaDoorRt4
import Derived.Test.YtaifjojfmkcmjaaDoorTerm4
namespace Go.Proofs.YtaifjojfmkcmjaaDoor.Term
open Go.RowKit Go.Sort Go.Proofs.YtaifjojfmkcmjaaDoorBase Go.Proofs.YtaifjojfmkcmjaaDoorLex2
set_option linter.unusedVariables false
set_option linter.unusedSimpArgs false

theorem right_mono {l l' : List Node} {n : Node} (h : Right l n) : Right (l ++ l') n := by
  unfold Right at *
  split at h
  · rename_i h1
    rw [if_pos h1]
    exact h
  · rename_i h1
    rw [if_neg h1]
    obtain ⟨a1, a2, a3, a4, a5, a6⟩ := h
    refine ⟨a1, a2, a3, fun h => knownB_append (a4 h), fun h => knownB_append (a5 h), fun h => ?_⟩
    rw [getN_append (a4 (by rw [h]; decide))]
    exact a6 h
theorem mk_ref {s : TS} (h : TOk s) (n : Node) : mk s n = if ¬ Right s.nodes n then ((0, 10), s) else if idx s.nodes n ≠ 0 then ((idx s.nodes n, 0), s) else if 262144 ≤ s.nodes.length then ((0, 11), s) else ((s.nodes.length + 1, 0), { s with nodes := s.nodes ++ [n] }) := by
  unfold mk
  by_cases hi : idx s.nodes n ≠ 0
  · have hm : n ∈ s.nodes := by
      apply Decidable.not_not.1
      intro h
      exact hi (idx_zero.2 h)
    obtain ⟨l, ⟨t, ht⟩, hr⟩ := built_right h hm
    have := right_mono (l' := t) hr
    rw [ht] at this
    rw [if_pos hi, if_neg (by simpa using this), if_pos hi]
  · rw [if_neg hi, if_neg hi]

set_option maxHeartbeats 1600000 in
set_option maxRecDepth 100000 in
theorem rmake_any (base : Nat) (w : World) (q : Nat) (G : Nat → Prop) (s : TS) (n : Node) (h : RAt base w q G s) :
    Calls Tryd.prog 14 #[.pointer (some ⟨q, 0, none⟩), nodeV n] w fun e w' => e = .returned (.tuple #[.int .i64 (mk s n).1.1, .int .i64 (mk s n).1.2]) ∧ RNext base w w' q G (mk s n).2 := by
  have C1 := fun w' (h' : RAt base w' q G s) => rright_any base w' q G s n h'
  have C2 := fun w' (h' : RAt base w' q G s) => rfind_any base w' q G s n h'
  have hm := mk_ref h.ok n
  have hok := mk_ok h.ok n
  have H := Lib.hid h
  have hlen := h.ok.len
  rw [hm] at hok ⊢
  by_cases hr : Right s.nodes n
  · rw [if_neg (by simpa using hr)] at hok ⊢
    rw [decide_eq_true hr] at C1
    have HC1 := Lib.hid C1
    clear C1 hm hr
    obtain ⟨i, hi2⟩ : ∃ i, idx s.nodes n = i := ⟨_, rfl⟩
    rw [hi2] at C2 hok ⊢
    have HC2 := Lib.hid C2
    have HI := Lib.hid hi2
    clear C2 hi2 h
    unfold nodeV at HC1 HC2 ⊢
    obtain ⟨nk, nl, na, nb⟩ := n
    by_cases hi : i ≠ 0
    · rw [if_pos hi]
      have q0 : (0 : Int) < i := by omega
      clear hok
      go_enter Tryd.func14, Tryd.ntmps14
      have ka := (Kept.refl w (fun _ => False)).alloc (.cells #[.int .i64 nk, .string nl, .int .i64 na, .int .i64 nb] 37)
      have hb := heap_alloc_new w (.cells #[.int .i64 nk, .string nl, .int .i64 na, .int .i64 nb] 37)
      have HB := Lib.hid hb
      have KA := Lib.hid ka
      clear hb ka
      go_wp2_with (fail)
      refine (HC1.out _ (H.out.kept KA.out)).mono ?_
      rintro e w1 ⟨rfl, hk⟩
      have K1 := Lib.hid (KA.out.trans hk (fun _ h => h.elim))
      have hb1 := hk.blk HB.out (fun h => h)
      have HB1 := Lib.hid hb1
      have n0 := cellOf (j := 0) hb1
      have n1 := cellOf (j := 1) hb1
      have n2 := cellOf (j := 2) hb1
      have n3 := cellOf (j := 3) hb1
      have nl1 := blk_lt hb1
      simp at n0 n1 n2 n3
      clear hk hb1
      go_wp2_with (fail)
      refine (HC2.out _ (H.out.kept K1.out)).mono ?_
      rintro e w2 ⟨rfl, hk⟩
      have K2 := Lib.hid (K1.out.trans hk (fun _ h => h.elim))
      have HB2 := Lib.hid (hk.blk HB1.out (fun h => h))
      clear hk n0 n1 n2 n3 nl1
      go_wp2
      go_ret2
      exact ⟨rfl, RNext.of_kept H.out K2.out⟩
    · have hi : i = 0 := by omega
      subst hi
      rw [if_neg (by simp)] at hok ⊢
      by_cases hf : 262144 ≤ s.nodes.length
      · rw [if_pos hf]
        obtain ⟨A, c, hc, hle, hcm, _⟩ := H.out.node
        have PC := Lib.hid hc
        have pl := World.block_lt_of_cell? _ _ hc
        have q1 : decide ((262144 : Int) ≤ s.nodes.length) = true := by simp; omega
        clear hok hc hf
        go_enter Tryd.func14, Tryd.ntmps14
        have ka := (Kept.refl w (fun _ => False)).alloc (.cells #[.int .i64 nk, .string nl, .int .i64 na, .int .i64 nb] 37)
        have hb := heap_alloc_new w (.cells #[.int .i64 nk, .string nl, .int .i64 na, .int .i64 nb] 37)
        have HB := Lib.hid hb
        have KA := Lib.hid ka
        clear hb ka
        go_wp2_with (fail)
        refine (HC1.out _ (H.out.kept KA.out)).mono ?_
        rintro e w1 ⟨rfl, hk⟩
        have K1 := Lib.hid (KA.out.trans hk (fun _ h => h.elim))
        have hb1 := hk.blk HB.out (fun h => h)
        have HB1 := Lib.hid hb1
        have n0 := cellOf (j := 0) hb1
        have n1 := cellOf (j := 1) hb1
        have n2 := cellOf (j := 2) hb1
        have n3 := cellOf (j := 3) hb1
        have nl1 := blk_lt hb1
        simp at n0 n1 n2 n3
        clear hk hb1
        go_wp2_with (fail)
        refine (HC2.out _ (H.out.kept K1.out)).mono ?_
        rintro e w2 ⟨rfl, hk⟩
        have K2 := Lib.hid (K1.out.trans hk (fun _ h => h.elim))
        have HB2 := Lib.hid (hk.blk HB1.out (fun h => h))
        clear hk n0 n1 n2 n3 nl1
        have c2 : w2.cell? ⟨q, 0, none⟩ = some (.slice A s.nodes.length c) := by rw [← PC.out]; simp only [World.cell?, K2.out.block q pl (fun h => h)]
        go_wp2
        go_ret2
        exact ⟨rfl, RNext.of_kept H.out K2.out⟩
      · rw [if_neg hf] at hok ⊢
        simp only at hok ⊢
        have HOK := Lib.hid hok
        obtain ⟨nv, hp, hb0, hbw, ho, hG, _⟩ := H.out
        obtain ⟨A, c, rfl, hcc, hcm⟩ := own_slice ho
        have HP0 := Lib.hid hp
        have HO0 := Lib.hid ho
        have HG := Lib.hid hG
        have pl := blk_lt hp
        have q1 : decide ((262144 : Int) ≤ s.nodes.length) = false := by simp; omega
        have HF3 := Lib.hid hf
        clear hok hp ho hG hf
        go_enter Tryd.func14, Tryd.ntmps14
        have ka := (Kept.refl w (fun _ => False)).alloc (.cells #[.int .i64 nk, .string nl, .int .i64 na, .int .i64 nb] 37)
        have hb := heap_alloc_new w (.cells #[.int .i64 nk, .string nl, .int .i64 na, .int .i64 nb] 37)
        have HB := Lib.hid hb
        have KA := Lib.hid ka
        clear hb ka
        go_wp2_with (fail)
        refine (HC1.out _ (H.out.kept KA.out)).mono ?_
        rintro e w1 ⟨rfl, hk⟩
        have K1 := Lib.hid (KA.out.trans hk (fun _ h => h.elim))
        have hb1 := hk.blk HB.out (fun h => h)
        have HB1 := Lib.hid hb1
        have n0 := cellOf (j := 0) hb1
        have n1 := cellOf (j := 1) hb1
        have n2 := cellOf (j := 2) hb1
        have n3 := cellOf (j := 3) hb1
        have nl1 := blk_lt hb1
        simp at n0 n1 n2 n3
        clear hk hb1
        go_wp2_with (fail)
        refine (HC2.out _ (H.out.kept K1.out)).mono ?_
        rintro e w2 ⟨rfl, hk⟩
        have K2 := Lib.hid (K1.out.trans hk (fun _ h => h.elim))
        have HB2 := Lib.hid (hk.blk HB1.out (fun h => h))
        clear hk n0 n1 n2 n3 nl1
        have hp2 := K2.out.blk HP0.out (fun h => h)
        have c2 := cellOf (j := 0) hp2
        simp at c2
        have HP := Lib.hid hp2
        have HO := Lib.hid (own_keptF HO0.out K2.out (fun _ _ h => h))
        have OL : Hid (∀ g, (Value.slice A s.nodes.length c).ownBlock = some g → g < w.heap.size) := Lib.hid (fun g hg => (HO0.out.lt g hg).2)
        have pl2 := blk_lt hp2
        have hx0 := cellOf (j := 0) HB2.out
        have hx1 := cellOf (j := 1) HB2.out
        have hx2 := cellOf (j := 2) HB2.out
        have hx3 := cellOf (j := 3) HB2.out
        simp at hx0 hx1 hx2 hx3
        have nl2 := blk_lt HB2.out
        have PL2 := Lib.hid pl2
        clear hp2
        go_wp2
        refine wp_region_lex (fun w' => w'.cell? ⟨q, 0, none⟩ = some (.slice A s.nodes.length c)) [0, 0, 0, 0, 3, 1, 2, 4, 0, 0, 4] (by kernel_rfl) (by kernel_rfl) (by kernel_rfl) (c2) (fun Q' hQ' => ?_)
        simp only [List.zip_cons_cons, List.zip_nil_right]
        repeat (first
          | (refine wpX_silent ?_ (fun K hK => ?_)
             · rfl
             apply Exists.intro
             refine ⟨fun w' => ?_, ?_⟩
             · go_simp
               exact ⟨rfl, rfl⟩
             go_simp
             refine hK _ _ ?_
             clear hK K)
          | (refine wpX_read ?_ (fun K hK => ?_)
             · rfl
             apply Exists.intro
             refine ⟨?_, ?_⟩
             · go_simp
               exact ⟨rfl, rfl⟩
             go_simp
             refine hK _ _ ?_
             clear hK K)
          | (refine wpX_float ?_ (fun K hK => ?_)
             · rfl
             apply Exists.intro
             refine ⟨fun w' hw' => ?_, ?_⟩
             · try dsimp only at hw'
               go_simp
               exact ⟨rfl, rfl⟩
             go_simp
             refine hK _ _ ?_
             clear hK K)
          | (refine wpX_not ?_ (fun K hK => ?_)
             · rfl
             go_simp
             refine hK _ _ ?_
             clear hK K))
        refine wpX_keeps ?_ (fun K hK => ?_)
        · rfl
        have pl2 := PL2.out
        go_wp2
        -- S is shown by the walk
        refine wpX_heavy ?_ (fun K hK => ?_)
        · rfl
        refine wp_append_ownS _ (.tmp 27) (.tmp 29) 35 35 rfl base 37 _ 4 40 elemNode (.slice A s.nodes.length c) s.nodes.length (s.nodes.flatMap nodeC) rfl ?own (.slice (some ⟨w2.heap.size, 0, none⟩) 1 1) 1 (nodeC ⟨nk, nl, na, nb⟩) rfl ?src ?by1 ?ba (fun v' w3 o1 g1 b1 => ?_)
        case own => exact HO.out.alloc _
        case src =>
          refine Src.ofSlice _ elemNode.under _ 1 1 _ rfl (fun j u hj => ?_) ?_
          · have hlast := cellOf (j := j) (show ((w2.alloc (.cells #[.int .i64 nk, .string nl, .int .i64 na, .int .i64 nb] 37)).drew).heap[w2.heap.size]? = some (.cells #[.int .i64 nk, .string nl, .int .i64 na, .int .i64 nb] 37 (0, 0)) from heap_alloc_new w2 _)
            rw [Addr.add_lit, Nat.zero_add, hlast, ← hj]
            simp [nodeC]
          · intro u hu
            simp only [nodeC, List.mem_cons, List.not_mem_nil, or_false] at hu
            rcases hu with rfl | rfl | rfl | rfl <;> rfl
        case by1 => have := HF3.out; omega
        case ba => have h1 := K2.out.size; simp; omega
        have hpb := (Below.heap_alloc w2 (.cells #[.int .i64 nk, .string nl, .int .i64 na, .int .i64 nb] 37) q pl2).trans HP.out
        have np : (Value.slice A s.nodes.length c).ownBlock ≠ some q := own_ne HO.out HP.out (by decide)
        have hp3 : w3.heap[q]? = _ := blk_grown (w := (w2.alloc (.cells #[.int .i64 nk, .string nl, .int .i64 na, .int .i64 nb] 37)).drew) hpb g1 (fun e => np e.symm)
        have k3 : Kept w2 w3 (fun k => (Value.slice A s.nodes.length c).ownBlock = some k) := Kept.grown (((Kept.refl w2 _).alloc _).drew) g1 (fun k hk => .inl hk)
        obtain ⟨A', c', rfl, hc1, hc2⟩ := own_slice o1
        have np' : (Value.slice A' (s.nodes.length + 1) c').ownBlock ≠ some q := own_ne o1 hp3 (by decide)
        have k0 := cellOf (j := 0) hp3
        simp at k0
        have e0 := freeOf (j := 0) hp3
        have P4 := Lib.hid (blk_set hp3 0 (.slice A' (s.nodes.length + 1) c'))
        have O4 := Lib.hid (own_far o1 (p := ⟨q, 0, none⟩) np' (.slice A' (s.nodes.length + 1) c'))
        have K4 : Hid (Kept w2 (w3.setCell ⟨q, 0, none⟩ (.slice A' (s.nodes.length + 1) c')) (fun k => k = q ∨ (Value.slice A s.nodes.length c).ownBlock = some k)) := Lib.hid ((k3.mono (fun _ h => .inr h)).setCell (p := ⟨q, 0, none⟩) (.inl (.inl rfl)) _)
        have B4 := Lib.hid b1
        clear o1 g1 b1 hpb hp3 k3 c2 hx0 hx1 hx2 hx3 np np' nl2
        go_simp
        refine hK _ _ ⟨rfl, ?_⟩
        clear hK K
        repeat (first
          | (refine wpX_silent ?_ (fun K hK => ?_)
             · rfl
             apply Exists.intro
             refine ⟨fun w' => ?_, ?_⟩
             · go_simp
               exact ⟨rfl, rfl⟩
             go_simp
             refine hK _ _ ?_
             clear hK K)
          | (refine wpX_read ?_ (fun K hK => ?_)
             · rfl
             apply Exists.intro
             refine ⟨?_, ?_⟩
             · go_simp
               exact ⟨rfl, rfl⟩
             go_simp
             refine hK _ _ ?_
             clear hK K)
          | (refine wpX_float ?_ (fun K hK => ?_)
             · rfl
             apply Exists.intro
             refine ⟨fun w' hw' => ?_, ?_⟩
             · try dsimp only at hw'
               go_simp
               exact ⟨rfl, rfl⟩
             go_simp
             refine hK _ _ ?_
             clear hK K)
          | (refine wpX_not ?_ (fun K hK => ?_)
             · rfl
             go_simp
             refine hK _ _ ?_
             clear hK K))
        refine wpX_heavy ?_ (fun K hK => ?_)
        · rfl
        go_wp2
        refine wpX_nil (hQ' _ _ ?_)
        obtain ⟨w4, hw4⟩ : ∃ w4, w3.setCell ⟨q, 0, none⟩ (.slice A' (s.nodes.length + 1) c') = w4 := ⟨_, rfl⟩
        rw [hw4] at P4 O4 K4 ⊢
        clear k0 e0 hw4
        have y0 := cellOf (j := 0) P4.out
        simp at y0
        go_wp2
        go_ret2
        refine ⟨by simp, ?_⟩
        have hs2 := K2.out.size
        have kw : Kept w w4 G := by
          refine Kept.trans (K2.out.mono (fun _ h => h.elim)) K4.out (fun k hk => .inl ((HG.out k).2 ?_))
          rcases hk with rfl | hk
          · exact .inl rfl
          · exact .inr hk
        refine ⟨fun k => k = q ∨ (Value.slice A' (s.nodes.length + 1) c').ownBlock = some k, ⟨.slice A' (s.nodes.length + 1) c', ?_, hb0, Nat.le_trans hbw kw.size, ?_, fun k => Iff.rfl, HOK.out⟩, ?_, kw⟩
        · have := P4.out
          simpa using this
        · have := O4.out
          simpa [List.flatMap_append] using this
        · rintro k (rfl | hk)
          · exact .inl ((HG.out _).2 (.inl rfl))
          · rcases B4.out k hk with h | h
            · exact .inl ((HG.out _).2 (.inr h))
            · right
              simp at h
              omega
  · rw [if_pos hr]
    rw [decide_eq_false hr] at C1
    have HC1 := Lib.hid C1
    clear C1 C2 hm hr hok h
    unfold nodeV at HC1 ⊢
    obtain ⟨nk, nl, na, nb⟩ := n
    go_enter Tryd.func14, Tryd.ntmps14
    have ka := (Kept.refl w (fun _ => False)).alloc (.cells #[.int .i64 nk, .string nl, .int .i64 na, .int .i64 nb] 37)
    have KA := Lib.hid ka
    clear ka
    go_wp2_with (fail)
    refine (HC1.out _ (H.out.kept KA.out)).mono ?_
    rintro e w1 ⟨rfl, hk⟩
    have K1 := Lib.hid (KA.out.trans hk (fun _ h => h.elim))
    clear hk
    go_wp2
    go_ret2
    exact ⟨rfl, RNext.of_kept H.out K1.out⟩
end Go.Proofs.YtaifjojfmkcmjaaDoor.Term
