/-
  FrameSigns, walked.
-/
import Derived.Test.YtaifjojfmkcmjaaDoorSignP
import Derived.Test.YtaifjojfmkcmjaaDoorOpen3
namespace Go.Proofs.YtaifjojfmkcmjaaDoor.Term
open Go.RowKit Go.Sort Go.Proofs.YtaifjojfmkcmjaaDoorBase Go.Proofs.YtaifjojfmkcmjaaDoorLex2 Go.Proofs.YtaifjojfmkcmjaaDoor.Dec
set_option linter.unusedVariables false
set_option linter.unusedSimpArgs false

/-- Six cells of an argument. -/
def Six (w : World) (g o : Nat) (a0 a1 a2 a3 a4 a5 : Int) : Prop := w.cell? ⟨g, o, none⟩ = some (.int .i64 a0) ∧ w.cell? ⟨g, o + 1, none⟩ = some (.int .i64 a1) ∧ w.cell? ⟨g, o + 2, none⟩ = some (.int .i64 a2) ∧ w.cell? ⟨g, o + 3, none⟩ = some (.int .i64 a3) ∧ w.cell? ⟨g, o + 4, none⟩ = some (.int .i64 a4) ∧ w.cell? ⟨g, o + 5, none⟩ = some (.int .i64 a5)
theorem Six.kept {w w' : World} {g o : Nat} {a0 a1 a2 a3 a4 a5 : Int} (h : Six w g o a0 a1 a2 a3 a4 a5) (hk : Kept w w' (fun _ => False)) : Six w' g o a0 a1 a2 a3 a4 a5 := by
  obtain ⟨h0, h1, h2, h3, h4, h5⟩ := h
  have hl := World.block_lt_of_cell? _ _ h0
  have e := hk.block g hl (fun h => h)
  unfold Six
  simp only [World.cell?, e] at *
  exact ⟨h0, h1, h2, h3, h4, h5⟩
set_option maxHeartbeats 6400000 in
set_option maxRecDepth 100000 in
theorem signs_any (A : Option Addr) (n c : Nat) (l : List Int) (w : World) (hg : Gl w) (hr : RowIn w A n (l.map (Value.int .i64))) :
    Calls Tryd.prog 6 #[.slice A n c] w fun e w' => e = .returned (.bool true) ∧ Kept w w' (fun _ => False) := by
  have HG := Lib.hid hg
  have hn : n = l.length := by rw [hr.len, List.length_map]
  have hm := hr.max
  unfold maxLen at hm
  subst hn
  have HR := Lib.hid hr
  clear hg hr
  by_cases h6 : l.length = 6
  · obtain ⟨a0, a1, a2, a3, a4, a5, rfl⟩ : ∃ a0 a1 a2 a3 a4 a5, l = [a0, a1, a2, a3, a4, a5] := by
      match l, h6 with
      | [a0, a1, a2, a3, a4, a5], _ => exact ⟨_, _, _, _, _, _, rfl⟩
    obtain ⟨g, o, rfl, hgl, hx⟩ := HR.out.cell (by simp)
    have h0 := hx 0 _ rfl
    have h1 := hx 1 _ rfl
    have h2 := hx 2 _ rfl
    have h3 := hx 3 _ rfl
    have h4 := hx 4 _ rfl
    have h5 := hx 5 _ rfl
    have L0 : Hid (Six w g o a0 a1 a2 a3 a4 a5) := Lib.hid ⟨h0, h1, h2, h3, h4, h5⟩
    clear hx h0 h1 h2 h3 h4 h5 h6
    simp only [List.length_cons, List.length_nil] at *
    go_enter Tryd.func6, Tryd.ntmps6
    go_wp2_with (fail)
    refine (anchor_any w _ (Below.refl _ _) HG.out).mono ?_
    rintro e w1 ⟨rfl, hk⟩
    have K1 := Lib.hid hk
    have L1 := Lib.hid (L0.out.kept hk)
    clear hk
    go_wp2
    go_loopw [15] (fun iv wr => wr = w1 ∧ ∃ k : Nat, k ≤ 6 ∧ iv = .int .i64 k ∧ ∀ z ∈ [a0, a1, a2, a3, a4, a5].take k, 1 ≤ z ∧ z ≤ 9) (fun iv _ => (6 - intOf iv).toNat)
    case atStart => exact ⟨rfl, 0, Nat.zero_le _, rfl, by simp⟩
    case round =>
      obtain ⟨hw0, k, hk6, rfl, hall⟩ := hrel
      obtain rfl := hw0.symm
      clear hw0
      have HALL := Lib.hid hall
      clear hall
      by_cases hlt : k < 6
      · obtain ⟨x, hxk⟩ : ∃ x, [a0, a1, a2, a3, a4, a5][k]? = some x := ⟨_, List.getElem?_eq_getElem (by simp; omega)⟩
        have cx : w1.cell? ⟨g, o + k, none⟩ = some (.int .i64 x) := by
          obtain ⟨h0, h1, h2, h3, h4, h5⟩ := L1.out
          match k, hlt, hxk with
          | 0, _, hxk => rw [← Option.some.inj hxk]; exact h0
          | 1, _, hxk => rw [← Option.some.inj hxk]; exact h1
          | 2, _, hxk => rw [← Option.some.inj hxk]; exact h2
          | 3, _, hxk => rw [← Option.some.inj hxk]; exact h3
          | 4, _, hxk => rw [← Option.some.inj hxk]; exact h4
          | 5, _, hxk => rw [← Option.some.inj hxk]; exact h5
        have HXK := Lib.hid hxk
        have q1 : (k : Int) < 6 := by omega
        have q0 : (0 : Int) ≤ k := by omega
        clear hxk
        by_cases hx1 : x < 1
        · go_wp2
          go_ret
          exact ⟨rfl, K1.out⟩
        · by_cases hx9 : 9 < x
          · go_wp2
            go_ret
            exact ⟨rfl, K1.out⟩
          · go_wp2
            go_roundw
            case rel =>
              refine ⟨trivial, k + 1, by omega, by go_num, ?_⟩
              intro z hz
              rw [List.take_add_one, HXK.out] at hz
              rcases List.mem_append.1 hz with hz | hz
              · exact HALL.out z hz
              · have : z = x := by simpa using hz
                omega
            case measure => simp [intOf]; omega
      · have hk : k = 6 := by omega
        subst hk
        have hall := HALL.out
        simp only [List.take_succ_cons, List.take_zero, List.mem_cons, List.not_mem_nil, or_false, forall_eq_or_imp, forall_eq] at hall
        obtain ⟨r0, r1, r2, r3, r4, r5⟩ := hall
        clear HALL hlt hk6
        have k0 := known_store 9 (t := a0) r0.1 (by omega)
        have k1 := known_store 9 (t := a1) r1.1 (by omega)
        have k2 := known_store 9 (t := a2) r2.1 (by omega)
        have k3 := known_store 9 (t := a3) r3.1 (by omega)
        have k4 := known_store 9 (t := a4) r4.1 (by omega)
        have k5 := known_store 9 (t := a5) r5.1 (by omega)
        have at0 := atom_is 9 (t := a0) r0.1 (by omega)
        obtain ⟨⟨hh, s1, s2⟩, g1⟩ := sign_is (s := storeN 9) (k := a0) (c := a1) (x := a2) (ok_store 9 (by decide)) k0 k1 k2 (by rw [store_len]; decide)
        obtain ⟨⟨sig, S1⟩, e1⟩ : ∃ r, signT (storeN 9) a0 a1 a2 = r := ⟨_, rfl⟩
        rw [e1] at s1 s2 g1
        simp only at s1 s2 g1
        have len1 := g1.2.1
        rw [store_len] at len1
        have sig0 : ¬ ((sig : Int) = 0) := by have := knownB_iff.1 s1.1; omega
        obtain ⟨p2, g2⟩ := pub_is (s := S1) (k := a0) g1.2.2 (known_ext k0 g1.1) (by omega)
        obtain ⟨⟨pb2, S2⟩, e2⟩ : ∃ r, put S1 (pubN a0) = r := ⟨_, rfl⟩
        rw [e2] at p2 g2
        simp only at p2 g2
        have G2 := g1.trans g2
        have len2 := g2.2.1
        obtain ⟨v3, g3⟩ := frameV_is (c' := a1) (x' := a2) G2.2.2 (s1.ext g2.1) (s2.ext g2.1) p2 (known_ext k1 G2.1) (known_ext k2 G2.1) (by omega)
        have v3 := v3.2 ⟨rfl, rfl, rfl⟩
        obtain ⟨S3, e3⟩ : ∃ S, (signedT S2 a1 a2).2 = S := ⟨_, rfl⟩
        rw [e3] at g3
        have G3 := G2.trans g3
        have len3 := g3.2.1
        obtain ⟨p4, g4⟩ := pub_is (s := S3) (k := a0) g3.2.2 (known_ext k0 G3.1) (by omega)
        obtain ⟨⟨pb4, S4⟩, e4⟩ : ∃ r, put S3 (pubN a0) = r := ⟨_, rfl⟩
        rw [e4] at p4 g4
        simp only at p4 g4
        have G4 := G3.trans g4
        have len4 := g4.2.1
        obtain ⟨v5, g5⟩ := frameV_no (pub := pb4) (c := a1) (x := a2) G4.2.2 (at0.ext G4.1) (by simp [atomN]) (known_ext k1 G4.1) (known_ext k2 G4.1) (by omega)
        obtain ⟨S5, e5⟩ : ∃ S, (signedT S4 a1 a2).2 = S := ⟨_, rfl⟩
        rw [e5] at g5
        have G5 := G4.trans g5
        have len5 := g5.2.1
        obtain ⟨p6, g6⟩ := pub_is (s := S5) (k := a0) g5.2.2 (known_ext k0 G5.1) (by omega)
        obtain ⟨⟨pb6, S6⟩, e6⟩ : ∃ r, put S5 (pubN a0) = r := ⟨_, rfl⟩
        rw [e6] at p6 g6
        simp only at p6 g6
        have G6 := G5.trans g6
        have len6 := g6.2.1
        have v7 : frameV S6 pb6 0 a2 sig = false := frameV_none G6.2.2
        have e7 : (signedT S6 0 a2).2 = S6 := by rw [signed_none G6.2.2]
        obtain ⟨p8, g8⟩ := pub_is (s := S6) (k := a3) G6.2.2 (known_ext k3 G6.1) (by omega)
        obtain ⟨⟨pb8, S8⟩, e8⟩ : ∃ r, put S6 (pubN a3) = r := ⟨_, rfl⟩
        rw [e8] at p8 g8
        simp only at p8 g8
        have G8 := G6.trans g8
        have len8 := g8.2.1
        have gx : S1.nodes <+: S8.nodes := g2.1.trans (g3.1.trans (g4.1.trans (g5.1.trans (g6.1.trans g8.1))))
        obtain ⟨v9, g9⟩ := frameV_is (c' := a4) (x' := a5) G8.2.2 (s1.ext gx) (s2.ext gx) p8 (known_ext k4 G8.1) (known_ext k5 G8.1) (by omega)
        obtain ⟨V, hV⟩ : ∃ V, frameV S8 pb8 a4 a5 sig = V := ⟨_, rfl⟩
        rw [hV] at v9
        have E1 := Lib.hid e1
        have E2 := Lib.hid e2
        have E3 := Lib.hid e3
        have E4 := Lib.hid e4
        have E5 := Lib.hid e5
        have E6 := Lib.hid e6
        have E7 := Lib.hid e7
        have E8 := Lib.hid e8
        have V3 := Lib.hid v3
        have V5 := Lib.hid v5
        have V7 := Lib.hid v7
        have V9 := Lib.hid v9
        have HV := Lib.hid hV
        have qs : ((sig : Int) == 0) = false := by simpa using sig0
        clear k0 k1 k2 k3 k4 k5 at0 s1 s2 g1 e1 len1 sig0 p2 g2 e2 G2 len2 v3 g3 e3 G3 len3 p4 g4 e4 G4 len4 v5 g5 e5 G5 len5 p6 g6 e6 G6 len6 v7 e7 p8 g8 e8 G8 len8 gx v9 g9 hV r0 r1 r2 r3 r4 r5
        go_wp2_with (fail)
        refine (stores_any w _ 9 (by decide) (K1.out.below (fun _ h => h.elim) (Nat.le_refl _)) HG.out).mono ?_
        rintro e w2 ⟨p, q, rfl, hT⟩
        have T2 := Lib.hid hT
        have kk := hT.choose_spec.choose_spec.2.2.2.2
        have L2 := Lib.hid (L1.out.kept kk)
        clear hT kk
        go_wp2_with (fail)
        obtain ⟨c0, c1, c2, c3, c4, c5⟩ := L2.out
        refine wp_region_lex (fun _ => True) [0, 0, 0, 1, 0, 0, 1, 0, 0, 1, 4, 0] (by kernel_rfl) (by kernel_rfl) (by kernel_rfl) (trivial) (fun Q' hQ' => ?_)
        simp only [List.zip_cons_cons, List.zip_nil_right]
        repeat (first
          | (refine wpX_silent ?_ (fun K hK => ?_)
             · rfl
             apply Exists.intro
             refine ⟨fun w' => ?_, ?_⟩
             · go_simp
               exact ⟨rfl, rfl⟩
             go_simp
             refine hK _ _ ?_
             clear hK K)
          | (refine wpX_read ?_ (fun K hK => ?_)
             · rfl
             apply Exists.intro
             refine ⟨?_, ?_⟩
             · go_simp
               exact ⟨rfl, rfl⟩
             go_simp
             refine hK _ _ ?_
             clear hK K)
          | (refine wpX_float ?_ (fun K hK => ?_)
             · rfl
             apply Exists.intro
             refine ⟨fun w' hw' => ?_, ?_⟩
             · try dsimp only at hw'
               go_simp
               exact ⟨rfl, rfl⟩
             go_simp
             refine hK _ _ ?_
             clear hK K)
          | (refine wpX_not ?_ (fun K hK => ?_)
             · rfl
             go_simp
             refine hK _ _ ?_
             clear hK K))
        refine wpX_heavy ?_ (fun K hK => ?_)
        · rfl
        go_wp2_with (fail)
        refine ((T2.out.kept (Kept.refl _ _).drew).call fun F1 h1 => frame_sign w _ p F1 _ a0 a1 a2 h1).mono ?_
        rw [E1.out]
        rintro e w3 ⟨rfl, hT⟩
        have T3 := Lib.hid hT
        have kk := hT.choose_spec.choose_spec.2.2.2.2
        have L3 := Lib.hid (L1.out.kept kk)
        clear hT kk c0 c1 c2 c3 c4 c5
        go_simp
        refine hK _ _ ⟨rfl, ?_⟩
        clear hK K
        repeat (first
          | (refine wpX_silent ?_ (fun K hK => ?_)
             · rfl
             apply Exists.intro
             refine ⟨fun w' => ?_, ?_⟩
             · go_simp
               exact ⟨rfl, rfl⟩
             go_simp
             refine hK _ _ ?_
             clear hK K)
          | (refine wpX_read ?_ (fun K hK => ?_)
             · rfl
             apply Exists.intro
             refine ⟨?_, ?_⟩
             · go_simp
               exact ⟨rfl, rfl⟩
             go_simp
             refine hK _ _ ?_
             clear hK K)
          | (refine wpX_float ?_ (fun K hK => ?_)
             · rfl
             apply Exists.intro
             refine ⟨fun w' hw' => ?_, ?_⟩
             · try dsimp only at hw'
               go_simp
               exact ⟨rfl, rfl⟩
             go_simp
             refine hK _ _ ?_
             clear hK K)
          | (refine wpX_not ?_ (fun K hK => ?_)
             · rfl
             go_simp
             refine hK _ _ ?_
             clear hK K))
        refine wpX_nil (hQ' _ _ ?_)
        obtain ⟨c0, c1, c2, c3, c4, c5⟩ := L3.out
        go_wp2_with (fail)
        refine wp_region_lex (fun w' => Six w' g o a0 a1 a2 a3 a4 a5) [0, 0, 0, 0, 0, 0, 0, 1, 2, 0, 0, 3, 0, 0, 3, 0, 2, 0, 0, 0, 0, 0, 0, 0, 1, 2, 0, 0, 3, 0, 0, 3, 0, 0, 3, 2, 0, 0, 0, 0, 0, 0, 1, 2, 0, 0, 3, 0, 2, 0] (by kernel_rfl) (by kernel_rfl) (by kernel_rfl) (L3.out) (fun Q' hQ' => ?_)
        simp only [List.zip_cons_cons, List.zip_nil_right]
        unfold Six
        repeat (first
          | (refine wpX_silent ?_ (fun K hK => ?_)
             · rfl
             apply Exists.intro
             refine ⟨fun w' => ?_, ?_⟩
             · go_simp
               exact ⟨rfl, rfl⟩
             go_simp
             refine hK _ _ ?_
             clear hK K)
          | (refine wpX_read ?_ (fun K hK => ?_)
             · rfl
             apply Exists.intro
             refine ⟨?_, ?_⟩
             · go_simp
               exact ⟨rfl, rfl⟩
             go_simp
             refine hK _ _ ?_
             clear hK K)
          | (refine wpX_float ?_ (fun K hK => ?_)
             · rfl
             apply Exists.intro
             refine ⟨fun w' hw' => ?_, ?_⟩
             · try dsimp only at hw'
               go_simp
               exact ⟨rfl, rfl⟩
             go_simp
             refine hK _ _ ?_
             clear hK K)
          | (refine wpX_not ?_ (fun K hK => ?_)
             · rfl
             go_simp
             refine hK _ _ ?_
             clear hK K))
        refine wpX_keeps ?_ (fun K hK => ?_)
        · rfl
        go_wp2_with (fail)
        refine ((T3.out.kept (Kept.refl _ _).drew).call fun F1 h1 => pub_any w _ p F1 _ a0 h1).mono ?_
        rw [E2.out]
        rintro e w4 ⟨rfl, hT⟩
        have T4 := Lib.hid hT
        have kk := hT.choose_spec.choose_spec.2.2.2.2
        have L4 := Lib.hid (L1.out.kept kk)
        clear hT kk
        go_simp
        refine hK _ _ ⟨rfl, L4.out, ?_⟩
        clear hK K
        obtain ⟨c0, c1, c2, c3, c4, c5⟩ := L4.out
        repeat (first
          | (refine wpX_silent ?_ (fun K hK => ?_)
             · rfl
             apply Exists.intro
             refine ⟨fun w' => ?_, ?_⟩
             · go_simp
               exact ⟨rfl, rfl⟩
             go_simp
             refine hK _ _ ?_
             clear hK K)
          | (refine wpX_read ?_ (fun K hK => ?_)
             · rfl
             apply Exists.intro
             refine ⟨?_, ?_⟩
             · go_simp
               exact ⟨rfl, rfl⟩
             go_simp
             refine hK _ _ ?_
             clear hK K)
          | (refine wpX_float ?_ (fun K hK => ?_)
             · rfl
             apply Exists.intro
             refine ⟨fun w' hw' => ?_, ?_⟩
             · try dsimp only at hw'
               go_simp
               exact ⟨rfl, rfl⟩
             go_simp
             refine hK _ _ ?_
             clear hK K)
          | (refine wpX_not ?_ (fun K hK => ?_)
             · rfl
             go_simp
             refine hK _ _ ?_
             clear hK K))
        refine wpX_keeps ?_ (fun K hK => ?_)
        · rfl
        go_wp2_with (fail)
        refine (T4.out.call fun F1 h1 => frame_verify w _ p F1 _ _ a1 a2 _ h1).mono ?_
        rw [V3.out, E3.out]
        rintro e w5 ⟨rfl, hT⟩
        have T5 := Lib.hid hT
        have kk := hT.choose_spec.choose_spec.2.2.2.2
        have L5 := Lib.hid (L1.out.kept kk)
        clear hT kk
        go_simp
        refine hK _ _ ⟨rfl, L5.out, ?_⟩
        clear hK K
        obtain ⟨c0, c1, c2, c3, c4, c5⟩ := L5.out
        repeat (first
          | (refine wpX_silent ?_ (fun K hK => ?_)
             · rfl
             apply Exists.intro
             refine ⟨fun w' => ?_, ?_⟩
             · go_simp
               exact ⟨rfl, rfl⟩
             go_simp
             refine hK _ _ ?_
             clear hK K)
          | (refine wpX_read ?_ (fun K hK => ?_)
             · rfl
             apply Exists.intro
             refine ⟨?_, ?_⟩
             · go_simp
               exact ⟨rfl, rfl⟩
             go_simp
             refine hK _ _ ?_
             clear hK K)
          | (refine wpX_float ?_ (fun K hK => ?_)
             · rfl
             apply Exists.intro
             refine ⟨fun w' hw' => ?_, ?_⟩
             · try dsimp only at hw'
               go_simp
               exact ⟨rfl, rfl⟩
             go_simp
             refine hK _ _ ?_
             clear hK K)
          | (refine wpX_not ?_ (fun K hK => ?_)
             · rfl
             go_simp
             refine hK _ _ ?_
             clear hK K))
        refine wpX_keeps ?_ (fun K hK => ?_)
        · rfl
        go_wp2_with (fail)
        refine (T5.out.call fun F1 h1 => pub_any w _ p F1 _ a0 h1).mono ?_
        rw [E4.out]
        rintro e w6 ⟨rfl, hT⟩
        have T6 := Lib.hid hT
        have kk := hT.choose_spec.choose_spec.2.2.2.2
        have L6 := Lib.hid (L1.out.kept kk)
        clear hT kk
        go_simp
        refine hK _ _ ⟨rfl, L6.out, ?_⟩
        clear hK K
        obtain ⟨c0, c1, c2, c3, c4, c5⟩ := L6.out
        repeat (first
          | (refine wpX_silent ?_ (fun K hK => ?_)
             · rfl
             apply Exists.intro
             refine ⟨fun w' => ?_, ?_⟩
             · go_simp
               exact ⟨rfl, rfl⟩
             go_simp
             refine hK _ _ ?_
             clear hK K)
          | (refine wpX_read ?_ (fun K hK => ?_)
             · rfl
             apply Exists.intro
             refine ⟨?_, ?_⟩
             · go_simp
               exact ⟨rfl, rfl⟩
             go_simp
             refine hK _ _ ?_
             clear hK K)
          | (refine wpX_float ?_ (fun K hK => ?_)
             · rfl
             apply Exists.intro
             refine ⟨fun w' hw' => ?_, ?_⟩
             · try dsimp only at hw'
               go_simp
               exact ⟨rfl, rfl⟩
             go_simp
             refine hK _ _ ?_
             clear hK K)
          | (refine wpX_not ?_ (fun K hK => ?_)
             · rfl
             go_simp
             refine hK _ _ ?_
             clear hK K))
        refine wpX_keeps ?_ (fun K hK => ?_)
        · rfl
        go_wp2_with (fail)
        refine (T6.out.call fun F1 h1 => frame_verify w _ p F1 _ _ a1 a2 _ h1).mono ?_
        rw [V5.out, E5.out]
        rintro e w7 ⟨rfl, hT⟩
        have T7 := Lib.hid hT
        have kk := hT.choose_spec.choose_spec.2.2.2.2
        have L7 := Lib.hid (L1.out.kept kk)
        clear hT kk
        go_simp
        refine hK _ _ ⟨rfl, L7.out, ?_⟩
        clear hK K
        obtain ⟨c0, c1, c2, c3, c4, c5⟩ := L7.out
        repeat (first
          | (refine wpX_silent ?_ (fun K hK => ?_)
             · rfl
             apply Exists.intro
             refine ⟨fun w' => ?_, ?_⟩
             · go_simp
               exact ⟨rfl, rfl⟩
             go_simp
             refine hK _ _ ?_
             clear hK K)
          | (refine wpX_read ?_ (fun K hK => ?_)
             · rfl
             apply Exists.intro
             refine ⟨?_, ?_⟩
             · go_simp
               exact ⟨rfl, rfl⟩
             go_simp
             refine hK _ _ ?_
             clear hK K)
          | (refine wpX_float ?_ (fun K hK => ?_)
             · rfl
             apply Exists.intro
             refine ⟨fun w' hw' => ?_, ?_⟩
             · try dsimp only at hw'
               go_simp
               exact ⟨rfl, rfl⟩
             go_simp
             refine hK _ _ ?_
             clear hK K)
          | (refine wpX_not ?_ (fun K hK => ?_)
             · rfl
             go_simp
             refine hK _ _ ?_
             clear hK K))
        refine wpX_keeps ?_ (fun K hK => ?_)
        · rfl
        go_wp2_with (fail)
        refine (T7.out.call fun F1 h1 => pub_any w _ p F1 _ a0 h1).mono ?_
        rw [E6.out]
        rintro e w8 ⟨rfl, hT⟩
        have T8 := Lib.hid hT
        have kk := hT.choose_spec.choose_spec.2.2.2.2
        have L8 := Lib.hid (L1.out.kept kk)
        clear hT kk
        go_simp
        refine hK _ _ ⟨rfl, L8.out, ?_⟩
        clear hK K
        obtain ⟨c0, c1, c2, c3, c4, c5⟩ := L8.out
        repeat (first
          | (refine wpX_silent ?_ (fun K hK => ?_)
             · rfl
             apply Exists.intro
             refine ⟨fun w' => ?_, ?_⟩
             · go_simp
               exact ⟨rfl, rfl⟩
             go_simp
             refine hK _ _ ?_
             clear hK K)
          | (refine wpX_read ?_ (fun K hK => ?_)
             · rfl
             apply Exists.intro
             refine ⟨?_, ?_⟩
             · go_simp
               exact ⟨rfl, rfl⟩
             go_simp
             refine hK _ _ ?_
             clear hK K)
          | (refine wpX_float ?_ (fun K hK => ?_)
             · rfl
             apply Exists.intro
             refine ⟨fun w' hw' => ?_, ?_⟩
             · try dsimp only at hw'
               go_simp
               exact ⟨rfl, rfl⟩
             go_simp
             refine hK _ _ ?_
             clear hK K)
          | (refine wpX_not ?_ (fun K hK => ?_)
             · rfl
             go_simp
             refine hK _ _ ?_
             clear hK K))
        refine wpX_keeps ?_ (fun K hK => ?_)
        · rfl
        go_wp2_with (fail)
        refine (T8.out.call fun F1 h1 => frame_verify w _ p F1 _ _ 0 a2 _ h1).mono ?_
        rw [V7.out, E7.out]
        rintro e w9 ⟨rfl, hT⟩
        have T9 := Lib.hid hT
        have kk := hT.choose_spec.choose_spec.2.2.2.2
        have L9 := Lib.hid (L1.out.kept kk)
        clear hT kk
        go_simp
        refine hK _ _ ⟨rfl, L9.out, ?_⟩
        clear hK K
        obtain ⟨c0, c1, c2, c3, c4, c5⟩ := L9.out
        repeat (first
          | (refine wpX_silent ?_ (fun K hK => ?_)
             · rfl
             apply Exists.intro
             refine ⟨fun w' => ?_, ?_⟩
             · go_simp
               exact ⟨rfl, rfl⟩
             go_simp
             refine hK _ _ ?_
             clear hK K)
          | (refine wpX_read ?_ (fun K hK => ?_)
             · rfl
             apply Exists.intro
             refine ⟨?_, ?_⟩
             · go_simp
               exact ⟨rfl, rfl⟩
             go_simp
             refine hK _ _ ?_
             clear hK K)
          | (refine wpX_float ?_ (fun K hK => ?_)
             · rfl
             apply Exists.intro
             refine ⟨fun w' hw' => ?_, ?_⟩
             · try dsimp only at hw'
               go_simp
               exact ⟨rfl, rfl⟩
             go_simp
             refine hK _ _ ?_
             clear hK K)
          | (refine wpX_not ?_ (fun K hK => ?_)
             · rfl
             go_simp
             refine hK _ _ ?_
             clear hK K))
        refine wpX_nil (hQ' _ _ ?_)
        clear c0 c1 c2 c3 c4 c5
        by_cases d0 : a0 = a3
        · by_cases d1 : a1 = a4
          · by_cases d2 : a2 = a5
            · have hv := V9.out.2 ⟨d1, d2, d0⟩
              subst hv d0 d1 d2
              obtain ⟨c0, c1, c2, c3, c4, c5⟩ := L9.out
              go_wp2
              refine wp_region_lex (fun w' => Six w' g o a0 a1 a2 a0 a1 a2) [0, 0, 0, 0, 1, 2, 0, 0, 3, 0, 0, 3, 0, 2, 0, 0, 3, 0, 0, 3, 0, 0, 0, 0, 3, 0, 0, 3, 0, 0, 0, 0, 0, 3, 0, 0, 3, 0, 0, 0, 0] (by kernel_rfl) (by kernel_rfl) (by kernel_rfl) (L9.out) (fun Q' hQ' => ?_)
              simp only [List.zip_cons_cons, List.zip_nil_right]
              unfold Six
              repeat (first
                | (refine wpX_silent ?_ (fun K hK => ?_)
                   · rfl
                   apply Exists.intro
                   refine ⟨fun w' => ?_, ?_⟩
                   · go_simp
                     exact ⟨rfl, rfl⟩
                   go_simp
                   refine hK _ _ ?_
                   clear hK K)
                | (refine wpX_read ?_ (fun K hK => ?_)
                   · rfl
                   apply Exists.intro
                   refine ⟨?_, ?_⟩
                   · go_simp
                     exact ⟨rfl, rfl⟩
                   go_simp
                   refine hK _ _ ?_
                   clear hK K)
                | (refine wpX_float ?_ (fun K hK => ?_)
                   · rfl
                   apply Exists.intro
                   refine ⟨fun w' hw' => ?_, ?_⟩
                   · try dsimp only at hw'
                     go_simp
                     exact ⟨rfl, rfl⟩
                   go_simp
                   refine hK _ _ ?_
                   clear hK K)
                | (refine wpX_not ?_ (fun K hK => ?_)
                   · rfl
                   go_simp
                   refine hK _ _ ?_
                   clear hK K))
              refine wpX_keeps ?_ (fun K hK => ?_)
              · rfl
              go_wp2_with (fail)
              refine ((T9.out.kept (Kept.refl _ _).drew).call fun F1 h1 => pub_any w _ p F1 _ a0 h1).mono ?_
              rw [E8.out]
              rintro e w10 ⟨rfl, hT⟩
              have T10 := Lib.hid hT
              have kk := hT.choose_spec.choose_spec.2.2.2.2
              have L10 := Lib.hid (L1.out.kept kk)
              skip
              clear hT kk
              go_simp
              refine hK _ _ ⟨rfl, L10.out, ?_⟩
              clear hK K
              obtain ⟨c0, c1, c2, c3, c4, c5⟩ := L10.out
              repeat (first
                | (refine wpX_silent ?_ (fun K hK => ?_)
                   · rfl
                   apply Exists.intro
                   refine ⟨fun w' => ?_, ?_⟩
                   · go_simp
                     exact ⟨rfl, rfl⟩
                   go_simp
                   refine hK _ _ ?_
                   clear hK K)
                | (refine wpX_read ?_ (fun K hK => ?_)
                   · rfl
                   apply Exists.intro
                   refine ⟨?_, ?_⟩
                   · go_simp
                     exact ⟨rfl, rfl⟩
                   go_simp
                   refine hK _ _ ?_
                   clear hK K)
                | (refine wpX_float ?_ (fun K hK => ?_)
                   · rfl
                   apply Exists.intro
                   refine ⟨fun w' hw' => ?_, ?_⟩
                   · try dsimp only at hw'
                     go_simp
                     exact ⟨rfl, rfl⟩
                   go_simp
                   refine hK _ _ ?_
                   clear hK K)
                | (refine wpX_not ?_ (fun K hK => ?_)
                   · rfl
                   go_simp
                   refine hK _ _ ?_
                   clear hK K))
              refine wpX_keeps ?_ (fun K hK => ?_)
              · rfl
              go_wp2_with (fail)
              refine (T10.out.call fun F1 h1 => frame_verify w _ p F1 _ _ a1 a2 _ h1).mono ?_
              rw [HV.out]
              rintro e w11 ⟨rfl, hT⟩
              have T11 := Lib.hid hT
              have kk := hT.choose_spec.choose_spec.2.2.2.2
              have L11 := Lib.hid (L1.out.kept kk)
              have KE := Lib.hid (K1.out.trans kk (fun _ h => h.elim))
              clear hT kk
              go_simp
              refine hK _ _ ⟨rfl, L11.out, ?_⟩
              clear hK K
              obtain ⟨c0, c1, c2, c3, c4, c5⟩ := L11.out
              repeat (first
                | (refine wpX_silent ?_ (fun K hK => ?_)
                   · rfl
                   apply Exists.intro
                   refine ⟨fun w' => ?_, ?_⟩
                   · go_simp
                     exact ⟨rfl, rfl⟩
                   go_simp
                   refine hK _ _ ?_
                   clear hK K)
                | (refine wpX_read ?_ (fun K hK => ?_)
                   · rfl
                   apply Exists.intro
                   refine ⟨?_, ?_⟩
                   · go_simp
                     exact ⟨rfl, rfl⟩
                   go_simp
                   refine hK _ _ ?_
                   clear hK K)
                | (refine wpX_float ?_ (fun K hK => ?_)
                   · rfl
                   apply Exists.intro
                   refine ⟨fun w' hw' => ?_, ?_⟩
                   · try dsimp only at hw'
                     go_simp
                     exact ⟨rfl, rfl⟩
                   go_simp
                   refine hK _ _ ?_
                   clear hK K)
                | (refine wpX_not ?_ (fun K hK => ?_)
                   · rfl
                   go_simp
                   refine hK _ _ ?_
                   clear hK K))
              refine wpX_nil (hQ' _ _ ?_)
              go_wp2
              go_ret
              exact ⟨by simp, KE.out⟩
            · have hv : V = false := by
                cases V with
                | false => rfl
                | true => exact absurd (V9.out.1 rfl).2.1 d2
              have qd : (a2 == a5) = false := by simpa using d2
              subst hv d0 d1
              obtain ⟨c0, c1, c2, c3, c4, c5⟩ := L9.out
              go_wp2
              refine wp_region_lex (fun w' => Six w' g o a0 a1 a2 a0 a1 a5) [0, 0, 0, 0, 1, 2, 0, 0, 3, 0, 0, 3, 0, 2, 0, 0, 3, 0, 0, 3, 0, 0, 0, 0, 3, 0, 0, 3, 0, 0, 0, 0, 0, 3, 0, 0, 3, 0, 0, 0, 0] (by kernel_rfl) (by kernel_rfl) (by kernel_rfl) (L9.out) (fun Q' hQ' => ?_)
              simp only [List.zip_cons_cons, List.zip_nil_right]
              unfold Six
              repeat (first
                | (refine wpX_silent ?_ (fun K hK => ?_)
                   · rfl
                   apply Exists.intro
                   refine ⟨fun w' => ?_, ?_⟩
                   · go_simp
                     exact ⟨rfl, rfl⟩
                   go_simp
                   refine hK _ _ ?_
                   clear hK K)
                | (refine wpX_read ?_ (fun K hK => ?_)
                   · rfl
                   apply Exists.intro
                   refine ⟨?_, ?_⟩
                   · go_simp
                     exact ⟨rfl, rfl⟩
                   go_simp
                   refine hK _ _ ?_
                   clear hK K)
                | (refine wpX_float ?_ (fun K hK => ?_)
                   · rfl
                   apply Exists.intro
                   refine ⟨fun w' hw' => ?_, ?_⟩
                   · try dsimp only at hw'
                     go_simp
                     exact ⟨rfl, rfl⟩
                   go_simp
                   refine hK _ _ ?_
                   clear hK K)
                | (refine wpX_not ?_ (fun K hK => ?_)
                   · rfl
                   go_simp
                   refine hK _ _ ?_
                   clear hK K))
              refine wpX_keeps ?_ (fun K hK => ?_)
              · rfl
              go_wp2_with (fail)
              refine ((T9.out.kept (Kept.refl _ _).drew).call fun F1 h1 => pub_any w _ p F1 _ a0 h1).mono ?_
              rw [E8.out]
              rintro e w10 ⟨rfl, hT⟩
              have T10 := Lib.hid hT
              have kk := hT.choose_spec.choose_spec.2.2.2.2
              have L10 := Lib.hid (L1.out.kept kk)
              skip
              clear hT kk
              go_simp
              refine hK _ _ ⟨rfl, L10.out, ?_⟩
              clear hK K
              obtain ⟨c0, c1, c2, c3, c4, c5⟩ := L10.out
              repeat (first
                | (refine wpX_silent ?_ (fun K hK => ?_)
                   · rfl
                   apply Exists.intro
                   refine ⟨fun w' => ?_, ?_⟩
                   · go_simp
                     exact ⟨rfl, rfl⟩
                   go_simp
                   refine hK _ _ ?_
                   clear hK K)
                | (refine wpX_read ?_ (fun K hK => ?_)
                   · rfl
                   apply Exists.intro
                   refine ⟨?_, ?_⟩
                   · go_simp
                     exact ⟨rfl, rfl⟩
                   go_simp
                   refine hK _ _ ?_
                   clear hK K)
                | (refine wpX_float ?_ (fun K hK => ?_)
                   · rfl
                   apply Exists.intro
                   refine ⟨fun w' hw' => ?_, ?_⟩
                   · try dsimp only at hw'
                     go_simp
                     exact ⟨rfl, rfl⟩
                   go_simp
                   refine hK _ _ ?_
                   clear hK K)
                | (refine wpX_not ?_ (fun K hK => ?_)
                   · rfl
                   go_simp
                   refine hK _ _ ?_
                   clear hK K))
              refine wpX_keeps ?_ (fun K hK => ?_)
              · rfl
              go_wp2_with (fail)
              refine (T10.out.call fun F1 h1 => frame_verify w _ p F1 _ _ a1 a5 _ h1).mono ?_
              rw [HV.out]
              rintro e w11 ⟨rfl, hT⟩
              have T11 := Lib.hid hT
              have kk := hT.choose_spec.choose_spec.2.2.2.2
              have L11 := Lib.hid (L1.out.kept kk)
              have KE := Lib.hid (K1.out.trans kk (fun _ h => h.elim))
              clear hT kk
              go_simp
              refine hK _ _ ⟨rfl, L11.out, ?_⟩
              clear hK K
              obtain ⟨c0, c1, c2, c3, c4, c5⟩ := L11.out
              repeat (first
                | (refine wpX_silent ?_ (fun K hK => ?_)
                   · rfl
                   apply Exists.intro
                   refine ⟨fun w' => ?_, ?_⟩
                   · go_simp
                     exact ⟨rfl, rfl⟩
                   go_simp
                   refine hK _ _ ?_
                   clear hK K)
                | (refine wpX_read ?_ (fun K hK => ?_)
                   · rfl
                   apply Exists.intro
                   refine ⟨?_, ?_⟩
                   · go_simp
                     exact ⟨rfl, rfl⟩
                   go_simp
                   refine hK _ _ ?_
                   clear hK K)
                | (refine wpX_float ?_ (fun K hK => ?_)
                   · rfl
                   apply Exists.intro
                   refine ⟨fun w' hw' => ?_, ?_⟩
                   · try dsimp only at hw'
                     go_simp
                     exact ⟨rfl, rfl⟩
                   go_simp
                   refine hK _ _ ?_
                   clear hK K)
                | (refine wpX_not ?_ (fun K hK => ?_)
                   · rfl
                   go_simp
                   refine hK _ _ ?_
                   clear hK K))
              refine wpX_nil (hQ' _ _ ?_)
              go_wp2
              go_ret
              exact ⟨by simp, KE.out⟩
          · have hv : V = false := by
              cases V with
              | false => rfl
              | true => exact absurd (V9.out.1 rfl).1 d1
            have qd : (a1 == a4) = false := by simpa using d1
            subst hv d0
            obtain ⟨c0, c1, c2, c3, c4, c5⟩ := L9.out
            go_wp2
            refine wp_region_lex (fun w' => Six w' g o a0 a1 a2 a0 a4 a5) [0, 0, 0, 0, 1, 2, 0, 0, 3, 0, 0, 3, 0, 2, 0, 0, 3, 0, 0, 3, 0, 0, 0, 0, 3, 0, 0, 3, 0, 0, 0, 0, 0, 3, 0, 0, 3, 0, 0, 0, 0] (by kernel_rfl) (by kernel_rfl) (by kernel_rfl) (L9.out) (fun Q' hQ' => ?_)
            simp only [List.zip_cons_cons, List.zip_nil_right]
            unfold Six
            repeat (first
              | (refine wpX_silent ?_ (fun K hK => ?_)
                 · rfl
                 apply Exists.intro
                 refine ⟨fun w' => ?_, ?_⟩
                 · go_simp
                   exact ⟨rfl, rfl⟩
                 go_simp
                 refine hK _ _ ?_
                 clear hK K)
              | (refine wpX_read ?_ (fun K hK => ?_)
                 · rfl
                 apply Exists.intro
                 refine ⟨?_, ?_⟩
                 · go_simp
                   exact ⟨rfl, rfl⟩
                 go_simp
                 refine hK _ _ ?_
                 clear hK K)
              | (refine wpX_float ?_ (fun K hK => ?_)
                 · rfl
                 apply Exists.intro
                 refine ⟨fun w' hw' => ?_, ?_⟩
                 · try dsimp only at hw'
                   go_simp
                   exact ⟨rfl, rfl⟩
                 go_simp
                 refine hK _ _ ?_
                 clear hK K)
              | (refine wpX_not ?_ (fun K hK => ?_)
                 · rfl
                 go_simp
                 refine hK _ _ ?_
                 clear hK K))
            refine wpX_keeps ?_ (fun K hK => ?_)
            · rfl
            go_wp2_with (fail)
            refine ((T9.out.kept (Kept.refl _ _).drew).call fun F1 h1 => pub_any w _ p F1 _ a0 h1).mono ?_
            rw [E8.out]
            rintro e w10 ⟨rfl, hT⟩
            have T10 := Lib.hid hT
            have kk := hT.choose_spec.choose_spec.2.2.2.2
            have L10 := Lib.hid (L1.out.kept kk)
            skip
            clear hT kk
            go_simp
            refine hK _ _ ⟨rfl, L10.out, ?_⟩
            clear hK K
            obtain ⟨c0, c1, c2, c3, c4, c5⟩ := L10.out
            repeat (first
              | (refine wpX_silent ?_ (fun K hK => ?_)
                 · rfl
                 apply Exists.intro
                 refine ⟨fun w' => ?_, ?_⟩
                 · go_simp
                   exact ⟨rfl, rfl⟩
                 go_simp
                 refine hK _ _ ?_
                 clear hK K)
              | (refine wpX_read ?_ (fun K hK => ?_)
                 · rfl
                 apply Exists.intro
                 refine ⟨?_, ?_⟩
                 · go_simp
                   exact ⟨rfl, rfl⟩
                 go_simp
                 refine hK _ _ ?_
                 clear hK K)
              | (refine wpX_float ?_ (fun K hK => ?_)
                 · rfl
                 apply Exists.intro
                 refine ⟨fun w' hw' => ?_, ?_⟩
                 · try dsimp only at hw'
                   go_simp
                   exact ⟨rfl, rfl⟩
                 go_simp
                 refine hK _ _ ?_
                 clear hK K)
              | (refine wpX_not ?_ (fun K hK => ?_)
                 · rfl
                 go_simp
                 refine hK _ _ ?_
                 clear hK K))
            refine wpX_keeps ?_ (fun K hK => ?_)
            · rfl
            go_wp2_with (fail)
            refine (T10.out.call fun F1 h1 => frame_verify w _ p F1 _ _ a4 a5 _ h1).mono ?_
            rw [HV.out]
            rintro e w11 ⟨rfl, hT⟩
            have T11 := Lib.hid hT
            have kk := hT.choose_spec.choose_spec.2.2.2.2
            have L11 := Lib.hid (L1.out.kept kk)
            have KE := Lib.hid (K1.out.trans kk (fun _ h => h.elim))
            clear hT kk
            go_simp
            refine hK _ _ ⟨rfl, L11.out, ?_⟩
            clear hK K
            obtain ⟨c0, c1, c2, c3, c4, c5⟩ := L11.out
            repeat (first
              | (refine wpX_silent ?_ (fun K hK => ?_)
                 · rfl
                 apply Exists.intro
                 refine ⟨fun w' => ?_, ?_⟩
                 · go_simp
                   exact ⟨rfl, rfl⟩
                 go_simp
                 refine hK _ _ ?_
                 clear hK K)
              | (refine wpX_read ?_ (fun K hK => ?_)
                 · rfl
                 apply Exists.intro
                 refine ⟨?_, ?_⟩
                 · go_simp
                   exact ⟨rfl, rfl⟩
                 go_simp
                 refine hK _ _ ?_
                 clear hK K)
              | (refine wpX_float ?_ (fun K hK => ?_)
                 · rfl
                 apply Exists.intro
                 refine ⟨fun w' hw' => ?_, ?_⟩
                 · try dsimp only at hw'
                   go_simp
                   exact ⟨rfl, rfl⟩
                 go_simp
                 refine hK _ _ ?_
                 clear hK K)
              | (refine wpX_not ?_ (fun K hK => ?_)
                 · rfl
                 go_simp
                 refine hK _ _ ?_
                 clear hK K))
            refine wpX_nil (hQ' _ _ ?_)
            go_wp2
            go_ret
            exact ⟨by simp, KE.out⟩
        · have hv : V = false := by
            cases V with
            | false => rfl
            | true => exact absurd (V9.out.1 rfl).2.2 d0
          have qd : (a0 == a3) = false := by simpa using d0
          subst hv
          obtain ⟨c0, c1, c2, c3, c4, c5⟩ := L9.out
          go_wp2
          refine wp_region_lex (fun w' => Six w' g o a0 a1 a2 a3 a4 a5) [0, 0, 0, 0, 1, 2, 0, 0, 3, 0, 0, 3, 0, 2, 0, 0, 3, 0, 0, 3, 0, 0, 0, 0, 3, 0, 0, 3, 0, 0, 0, 0, 0, 3, 0, 0, 3, 0, 0, 0, 0] (by kernel_rfl) (by kernel_rfl) (by kernel_rfl) (L9.out) (fun Q' hQ' => ?_)
          simp only [List.zip_cons_cons, List.zip_nil_right]
          unfold Six
          repeat (first
            | (refine wpX_silent ?_ (fun K hK => ?_)
               · rfl
               apply Exists.intro
               refine ⟨fun w' => ?_, ?_⟩
               · go_simp
                 exact ⟨rfl, rfl⟩
               go_simp
               refine hK _ _ ?_
               clear hK K)
            | (refine wpX_read ?_ (fun K hK => ?_)
               · rfl
               apply Exists.intro
               refine ⟨?_, ?_⟩
               · go_simp
                 exact ⟨rfl, rfl⟩
               go_simp
               refine hK _ _ ?_
               clear hK K)
            | (refine wpX_float ?_ (fun K hK => ?_)
               · rfl
               apply Exists.intro
               refine ⟨fun w' hw' => ?_, ?_⟩
               · try dsimp only at hw'
                 go_simp
                 exact ⟨rfl, rfl⟩
               go_simp
               refine hK _ _ ?_
               clear hK K)
            | (refine wpX_not ?_ (fun K hK => ?_)
               · rfl
               go_simp
               refine hK _ _ ?_
               clear hK K))
          refine wpX_keeps ?_ (fun K hK => ?_)
          · rfl
          go_wp2_with (fail)
          refine ((T9.out.kept (Kept.refl _ _).drew).call fun F1 h1 => pub_any w _ p F1 _ a3 h1).mono ?_
          rw [E8.out]
          rintro e w10 ⟨rfl, hT⟩
          have T10 := Lib.hid hT
          have kk := hT.choose_spec.choose_spec.2.2.2.2
          have L10 := Lib.hid (L1.out.kept kk)
          skip
          clear hT kk
          go_simp
          refine hK _ _ ⟨rfl, L10.out, ?_⟩
          clear hK K
          obtain ⟨c0, c1, c2, c3, c4, c5⟩ := L10.out
          repeat (first
            | (refine wpX_silent ?_ (fun K hK => ?_)
               · rfl
               apply Exists.intro
               refine ⟨fun w' => ?_, ?_⟩
               · go_simp
                 exact ⟨rfl, rfl⟩
               go_simp
               refine hK _ _ ?_
               clear hK K)
            | (refine wpX_read ?_ (fun K hK => ?_)
               · rfl
               apply Exists.intro
               refine ⟨?_, ?_⟩
               · go_simp
                 exact ⟨rfl, rfl⟩
               go_simp
               refine hK _ _ ?_
               clear hK K)
            | (refine wpX_float ?_ (fun K hK => ?_)
               · rfl
               apply Exists.intro
               refine ⟨fun w' hw' => ?_, ?_⟩
               · try dsimp only at hw'
                 go_simp
                 exact ⟨rfl, rfl⟩
               go_simp
               refine hK _ _ ?_
               clear hK K)
            | (refine wpX_not ?_ (fun K hK => ?_)
               · rfl
               go_simp
               refine hK _ _ ?_
               clear hK K))
          refine wpX_keeps ?_ (fun K hK => ?_)
          · rfl
          go_wp2_with (fail)
          refine (T10.out.call fun F1 h1 => frame_verify w _ p F1 _ _ a4 a5 _ h1).mono ?_
          rw [HV.out]
          rintro e w11 ⟨rfl, hT⟩
          have T11 := Lib.hid hT
          have kk := hT.choose_spec.choose_spec.2.2.2.2
          have L11 := Lib.hid (L1.out.kept kk)
          have KE := Lib.hid (K1.out.trans kk (fun _ h => h.elim))
          clear hT kk
          go_simp
          refine hK _ _ ⟨rfl, L11.out, ?_⟩
          clear hK K
          obtain ⟨c0, c1, c2, c3, c4, c5⟩ := L11.out
          repeat (first
            | (refine wpX_silent ?_ (fun K hK => ?_)
               · rfl
               apply Exists.intro
               refine ⟨fun w' => ?_, ?_⟩
               · go_simp
                 exact ⟨rfl, rfl⟩
               go_simp
               refine hK _ _ ?_
               clear hK K)
            | (refine wpX_read ?_ (fun K hK => ?_)
               · rfl
               apply Exists.intro
               refine ⟨?_, ?_⟩
               · go_simp
                 exact ⟨rfl, rfl⟩
               go_simp
               refine hK _ _ ?_
               clear hK K)
            | (refine wpX_float ?_ (fun K hK => ?_)
               · rfl
               apply Exists.intro
               refine ⟨fun w' hw' => ?_, ?_⟩
               · try dsimp only at hw'
                 go_simp
                 exact ⟨rfl, rfl⟩
               go_simp
               refine hK _ _ ?_
               clear hK K)
            | (refine wpX_not ?_ (fun K hK => ?_)
               · rfl
               go_simp
               refine hK _ _ ?_
               clear hK K))
          refine wpX_nil (hQ' _ _ ?_)
          go_wp2
          go_ret
          exact ⟨by simp, KE.out⟩
  · have q6 : ((l.length : Int) == 6) = false := by simp; omega
    go_enter Tryd.func6, Tryd.ntmps6
    go_wp2_with (fail)
    refine (anchor_any w _ (Below.refl _ _) HG.out).mono ?_
    rintro e w1 ⟨rfl, hk⟩
    have K1 := Lib.hid hk
    clear hk
    go_wp2
    go_ret
    exact ⟨rfl, K1.out⟩
theorem signs_row (A : Option Addr) (n c : Nat) (l : List Int) (w : World) (hg : Gl w) (hr : RowIn w A n (l.map (Value.int .i64))) :
    Calls Tryd.prog 6 #[.slice A n c] w fun e w' => e = .returned (.bool true) ∧ Below w.heap.size w w' := by
  refine (signs_any A n c l w hg hr).mono ?_
  rintro e w' ⟨rfl, hk⟩
  exact ⟨rfl, hk.below (fun _ h => h.elim) (Nat.le_refl _)⟩
end Go.Proofs.YtaifjojfmkcmjaaDoor.Term
