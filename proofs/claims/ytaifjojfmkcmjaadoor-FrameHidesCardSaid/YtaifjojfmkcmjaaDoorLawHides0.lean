/-
  FrameHides, walked.
-/
import Derived.Test.YtaifjojfmkcmjaaDoorAnch
namespace Go.Proofs.YtaifjojfmkcmjaaDoor.Term
open Go.RowKit Go.Sort Go.Proofs.YtaifjojfmkcmjaaDoorBase Go.Proofs.YtaifjojfmkcmjaaDoorLex2 Go.Proofs.YtaifjojfmkcmjaaDoor.Dec
set_option linter.unusedVariables false
set_option linter.unusedSimpArgs false

theorem textN_inj {x y : ByteArray} : textN x = textN y ↔ x = y := ⟨fun h => congrArg Node.label h, fun h => by rw [h]⟩
theorem num_inj {a b : Int} : textN (numS a) = textN (numS b) ↔ a = b := by rw [textN_inj]; exact ⟨numS_inj, fun h => by rw [h]⟩
theorem seal_inj {a b c d : Int} : sealN a b = sealN c d ↔ a = c ∧ b = d := by simp [sealN]
theorem heads_iff {s : TS} (hs : TOk s) {h h' k f g f' g' : Int}
    (H : ∃ a b L, Is s h (sealN k L) ∧ IsList s L [a, b] ∧ Is s a (textN (numS f)) ∧ Is s b (textN (numS g)))
    (H' : ∃ a b L, Is s h' (sealN k L) ∧ IsList s L [a, b] ∧ Is s a (textN (numS f')) ∧ Is s b (textN (numS g'))) : h' = h ↔ f' = f ∧ g' = g := by
  obtain ⟨a, b, L, h1, h2, h3, h4⟩ := H
  obtain ⟨a', b', L', h1', h2', h3', h4'⟩ := H'
  rw [Is.iff hs h1' h1, seal_inj, IsList.iff hs h2' h2]
  simp only [true_and, List.cons.injEq, and_true]
  rw [Is.iff hs h3' h3, Is.iff hs h4' h4, num_inj, num_inj]
theorem trunks_iff {s : TS} (hs : TOk s) {h h' k sig : Int} {x x' : ByteArray}
    (H : ∃ a L, Is s h (sealN k L) ∧ IsList s L [a, sig] ∧ Is s a (textN x))
    (H' : ∃ a L, Is s h' (sealN k L) ∧ IsList s L [a, sig] ∧ Is s a (textN x')) : h' = h ↔ x' = x := by
  obtain ⟨a, L, h1, h2, h3⟩ := H
  obtain ⟨a', L', h1', h2', h3'⟩ := H'
  rw [Is.iff hs h1' h1, seal_inj, IsList.iff hs h2' h2]
  simp only [true_and, List.cons.injEq, and_true]
  rw [Is.iff hs h3' h3, textN_inj]

set_option maxHeartbeats 1600000 in
set_option maxRecDepth 100000 in
theorem hides_any (w : World) (hg : Gl w) (f g : Int) (x : ByteArray) (o0 o1 : Int) (y : ByteArray) (hf : I64 f) (hgg : I64 g) (h0 : I64 o0) (h1 : I64 o1) (hx : x.size ≤ 9223372036854775807) (hy : y.size ≤ 9223372036854775807) :
    Calls Tryd.prog 3 #[.int .i64 f, .int .i64 g, .string x, .agg #[.int .i64 o0, .int .i64 o1], .string y] w fun e w' => e = .returned (.bool true) ∧ Kept w w' (fun _ => False) := by
  have HG := Lib.hid hg
  have HF := Lib.hid hf
  have HGG := Lib.hid hgg
  have H0 := Lib.hid h0
  have H1 := Lib.hid h1
  have KA := Lib.hid ((Kept.refl w (fun _ => False)).alloc (.cells #[.int .i64 o0, .int .i64 o1] 22))
  have HO0 := Lib.hid (heap_alloc_new w (.cells #[.int .i64 o0, .int .i64 o1] 22))
  clear hf hgg h0 h1 hg
  by_cases c1 : x.size ≤ 1024
  · have q1 : ¬ ((1024 : Int) < x.size) := by omega
    by_cases c2 : y.size ≤ 1024
    · have q2 : ¬ ((1024 : Int) < y.size) := by omega
      by_cases c3 : f < 0
      ·
        go_enter Tryd.func3, Tryd.ntmps3
        go_wp2_with (fail)
        refine (anchor_any w _ (KA.out.below (fun _ h => h.elim) (Nat.le_refl _)) HG.out).mono ?_
        rintro e w2 ⟨rfl, hk⟩
        have K1 := Lib.hid (KA.out.trans hk (fun _ h => h.elim))
        have HO := Lib.hid (hk.blk HO0.out (fun h => h))
        clear hk
        go_wp2
        go_ret
        exact ⟨rfl, K1.out⟩
      by_cases c4 : 100 < f
      ·
        go_enter Tryd.func3, Tryd.ntmps3
        go_wp2_with (fail)
        refine (anchor_any w _ (KA.out.below (fun _ h => h.elim) (Nat.le_refl _)) HG.out).mono ?_
        rintro e w2 ⟨rfl, hk⟩
        have K1 := Lib.hid (KA.out.trans hk (fun _ h => h.elim))
        have HO := Lib.hid (hk.blk HO0.out (fun h => h))
        clear hk
        go_wp2
        go_ret
        exact ⟨rfl, K1.out⟩
      by_cases c5 : g < 0
      ·
        go_enter Tryd.func3, Tryd.ntmps3
        go_wp2_with (fail)
        refine (anchor_any w _ (KA.out.below (fun _ h => h.elim) (Nat.le_refl _)) HG.out).mono ?_
        rintro e w2 ⟨rfl, hk⟩
        have K1 := Lib.hid (KA.out.trans hk (fun _ h => h.elim))
        have HO := Lib.hid (hk.blk HO0.out (fun h => h))
        clear hk
        go_wp2
        go_ret
        exact ⟨rfl, K1.out⟩
      by_cases c6 : 1048576 < g
      ·
        go_enter Tryd.func3, Tryd.ntmps3
        go_wp2_with (fail)
        refine (anchor_any w _ (KA.out.below (fun _ h => h.elim) (Nat.le_refl _)) HG.out).mono ?_
        rintro e w2 ⟨rfl, hk⟩
        have K1 := Lib.hid (KA.out.trans hk (fun _ h => h.elim))
        have HO := Lib.hid (hk.blk HO0.out (fun h => h))
        clear hk
        go_wp2
        go_ret
        exact ⟨rfl, K1.out⟩
      have hH := hide_is (ok_store 4 (by decide)) (known_store 4 (t := 1) (by decide) (by decide)) (known_store 4 (t := 2) (by decide) (by decide)) (known_store 4 (t := 3) (by decide) (by decide)) (f := f) (g := g) (x := x) HF.out HGG.out c1 (by rw [store_len]; decide)
      have C1 := fun p F1 w1 h1 => hide_any w w1 p F1 (storeN 4) 1 2 f g x 3 h1 HF.out HGG.out hx
      have hS1 : (hideB (hideH (storeN 4) 1 f g).2 2 x 3).2 = hideS (storeN 4) 1 2 f g x 3 := rfl
      rw [hS1] at C1
      obtain ⟨h, hh⟩ : ∃ h, (hideH (storeN 4) 1 f g).1 = h := ⟨_, rfl⟩
      obtain ⟨t, ht⟩ : ∃ t, (hideB (hideH (storeN 4) 1 f g).2 2 x 3).1 = t := ⟨_, rfl⟩
      obtain ⟨S1, hS⟩ : ∃ S, hideS (storeN 4) 1 2 f g x 3 = S := ⟨_, rfl⟩
      rw [hh, ht, hS] at hH C1
      clear hh ht hS hS1
      have hlen1 : S1.nodes.length ≤ 19 := by have := hH.grow.2.1; rw [store_len] at this; omega
      have hH2 := hide_is hH.grow.2.2 (known_ext (known_store 4 (t := 1) (by decide) (by decide)) hH.grow.1) (known_ext (known_store 4 (t := 2) (by decide) (by decide)) hH.grow.1) (known_ext (known_store 4 (t := 3) (by decide) (by decide)) hH.grow.1) (f := o0) (g := o1) (x := y) H0.out H1.out c2 (by omega)
      have C2 := fun p F1 w1 h1 => hide_any w w1 p F1 S1 1 2 o0 o1 y 3 h1 H0.out H1.out hy
      have hS2 : (hideB (hideH S1 1 o0 o1).2 2 y 3).2 = hideS S1 1 2 o0 o1 y 3 := rfl
      rw [hS2] at C2
      obtain ⟨h', hh⟩ : ∃ h, (hideH S1 1 o0 o1).1 = h := ⟨_, rfl⟩
      obtain ⟨t', ht⟩ : ∃ t, (hideB (hideH S1 1 o0 o1).2 2 y 3).1 = t := ⟨_, rfl⟩
      obtain ⟨S2, hS⟩ : ∃ S, hideS S1 1 2 o0 o1 y 3 = S := ⟨_, rfl⟩
      rw [hh, ht, hS] at hH2 C2
      clear hh ht hS hS2
      have i1 : ((h' : Int) = h ↔ o0 = f ∧ o1 = g) := heads_iff hH2.grow.2.2 (hH.ext (k := 0) hH2.grow.1).1 hH2.head
      have i2 : ((t' : Int) = t ↔ y = x) := trunks_iff hH2.grow.2.2 (hH.ext (k := 0) hH2.grow.1).2 hH2.trunk
      have e1 : headT S1.nodes 1 h = ((f, g), true) := by
        obtain ⟨a, b, L, h1, h2, h3, h4⟩ := hH.head
        rw [head_is hH.grow.2.2 h1 h2 h3 h4 (by omega) (by omega), if_pos rfl]
      have e1' : headT S1.nodes 2 h = ((0, 0), false) := by
        obtain ⟨a, b, L, h1, h2, h3, h4⟩ := hH.head
        rw [head_is hH.grow.2.2 h1 h2 h3 h4 (by omega) (by omega), if_neg (by decide)]
      have e2 : trunkT S1.nodes 2 t = ((x, 3), true) := by
        obtain ⟨a, L, h1, h2, h3⟩ := hH.trunk
        rw [trunk_is hH.grow.2.2 h1 h2 h3, if_pos rfl]
      have e2' : trunkT S1.nodes 1 t = ((⟨#[]⟩, 0), false) := by
        obtain ⟨a, L, h1, h2, h3⟩ := hH.trunk
        rw [trunk_is hH.grow.2.2 h1 h2 h3, if_neg (by decide)]
      have I1 := Lib.hid i1
      have I2 := Lib.hid i2
      have E1 := Lib.hid e1
      have E1' := Lib.hid e1'
      have E2 := Lib.hid e2
      have E2' := Lib.hid e2'
      have HC1 := Lib.hid C1
      have HC2 := Lib.hid C2
      clear hH hH2 i1 i2 e1 e1' e2 e2' C1 C2 hlen1 c1 c2
      go_enter Tryd.func3, Tryd.ntmps3
      go_wp2_with (fail)
      refine (anchor_any w _ (KA.out.below (fun _ h => h.elim) (Nat.le_refl _)) HG.out).mono ?_
      rintro e w2 ⟨rfl, hk⟩
      have K1 := Lib.hid (KA.out.trans hk (fun _ h => h.elim))
      have HO := Lib.hid (hk.blk HO0.out (fun h => h))
      clear hk
      go_wp2_with (fail)
      refine (stores_any w _ 4 (by decide) (K1.out.below (fun _ h => h.elim) (Nat.le_refl _)) HG.out).mono ?_
      rintro e w3 ⟨p, q, rfl, hT⟩
      have T1 := Lib.hid hT
      clear hT
      go_wp2_with (fail)
      refine (T1.out.call fun F1 h1 => HC1.out p F1 _ h1).mono ?_
      rintro e w4 ⟨rfl, hT⟩
      have T2 := Lib.hid hT
      clear hT
      go_wp2_with (fail)
      refine (T2.out.ask fun F1 h1 => head_any w _ p F1 _ 1 _ h1).mono ?_
      rw [E1.out]
      rintro e w5 ⟨rfl, -, hT⟩
      have T3 := Lib.hid hT
      clear hT
      go_wp2_with (fail)
      refine (T3.out.ask fun F1 h1 => trunk_any w _ p F1 _ 2 _ h1).mono ?_
      rw [E2.out]
      rintro e w6 ⟨rfl, -, hT⟩
      have T4 := Lib.hid hT
      clear hT
      go_wp2_with (fail)
      refine (T4.out.ask fun F1 h1 => head_any w _ p F1 _ 2 _ h1).mono ?_
      rw [E1'.out]
      rintro e w7 ⟨rfl, -, hT⟩
      have T5 := Lib.hid hT
      clear hT
      go_wp2_with (fail)
      refine (T5.out.ask fun F1 h1 => trunk_any w _ p F1 _ 1 _ h1).mono ?_
      rw [E2'.out]
      rintro e w8 ⟨rfl, -, hT⟩
      have T6 := Lib.hid hT
      have hk8 := hT
      obtain ⟨_, _, _, _, _, _, hk8⟩ := hk8
      have hbo := hk8.blk HO.out (fun h => h)
      have co0 := cellOf (j := 0) hbo
      have co1 := cellOf (j := 1) hbo
      simp at co0 co1
      have HBO := Lib.hid hbo
      have gbo := blk_lt hbo
      clear hT hk8 hbo
      go_wp2_with (fail)
      refine (T6.out.call fun F1 h1 => HC2.out p F1 _ h1).mono ?_
      rintro e w9 ⟨rfl, hT⟩
      obtain ⟨_, _, _, _, _, _, hk9⟩ := hT
      have hbo := hk9.blk HO.out (fun h => h)
      have co0 := cellOf (j := 0) hbo
      have co1 := cellOf (j := 1) hbo
      simp at co0 co1
      have gbo := blk_lt hbo
      have K9 := Lib.hid (K1.out.trans hk9 (fun _ h => h.elim))
      clear hk9 hbo
      by_cases d2 : y = x
      · have g2 := I2.out.2 d2
        have s2 : ((t' : Int) == t) = true := by rw [g2]; simp
        have s2' : (y.toList == x.toList) = true := by rw [d2]; simp
        clear g2 d2
        by_cases d0 : o0 = f
        · by_cases d1 : o1 = g
          · have g1 := I1.out.2 ⟨d0, d1⟩
            have s1 : ((h' : Int) == h) = true := by rw [g1]; simp
            clear g1
            subst d0 d1
            go_wp2
            go_ret
            exact ⟨by simp, K9.out⟩
          · have g1 : ¬ ((h' : Int) = h) := fun e => d1 (I1.out.1 e).2
            have s1 : ((h' : Int) == h) = false := by simpa using g1
            have s0 : (o1 == g) = false := by simpa using d1
            clear g1
            subst d0
            go_wp2
            go_ret
            exact ⟨by simp, K9.out⟩
        · have g1 : ¬ ((h' : Int) = h) := fun e => d0 (I1.out.1 e).1
          have s1 : ((h' : Int) == h) = false := by simpa using g1
          have s0 : (o0 == f) = false := by simpa using d0
          clear g1
          go_wp2
          go_ret
          exact ⟨by simp, K9.out⟩
      · have g2 : ¬ ((t' : Int) = t) := fun e => d2 (I2.out.1 e)
        have s2 : ((t' : Int) == t) = false := by simpa using g2
        have s2' : (y.toList == x.toList) = false := str_ne d2
        clear g2 d2
        by_cases d0 : o0 = f
        · by_cases d1 : o1 = g
          · have g1 := I1.out.2 ⟨d0, d1⟩
            have s1 : ((h' : Int) == h) = true := by rw [g1]; simp
            clear g1
            subst d0 d1
            go_wp2
            go_ret
            exact ⟨by simp, K9.out⟩
          · have g1 : ¬ ((h' : Int) = h) := fun e => d1 (I1.out.1 e).2
            have s1 : ((h' : Int) == h) = false := by simpa using g1
            have s0 : (o1 == g) = false := by simpa using d1
            clear g1
            subst d0
            go_wp2
            go_ret
            exact ⟨by simp, K9.out⟩
        · have g1 : ¬ ((h' : Int) = h) := fun e => d0 (I1.out.1 e).1
          have s1 : ((h' : Int) == h) = false := by simpa using g1
          have s0 : (o0 == f) = false := by simpa using d0
          clear g1
          go_wp2
          go_ret
          exact ⟨by simp, K9.out⟩
    · have q2 : (1024 : Int) < y.size := by omega
      go_enter Tryd.func3, Tryd.ntmps3
      go_wp2_with (fail)
      refine (anchor_any w _ (KA.out.below (fun _ h => h.elim) (Nat.le_refl _)) HG.out).mono ?_
      rintro e w2 ⟨rfl, hk⟩
      have K1 := Lib.hid (KA.out.trans hk (fun _ h => h.elim))
      have HO := Lib.hid (hk.blk HO0.out (fun h => h))
      clear hk
      go_wp2
      go_ret
      exact ⟨rfl, K1.out⟩
  · have q1 : (1024 : Int) < x.size := by omega
    go_enter Tryd.func3, Tryd.ntmps3
    go_wp2_with (fail)
    refine (anchor_any w _ (KA.out.below (fun _ h => h.elim) (Nat.le_refl _)) HG.out).mono ?_
    rintro e w2 ⟨rfl, hk⟩
    have K1 := Lib.hid (KA.out.trans hk (fun _ h => h.elim))
    have HO := Lib.hid (hk.blk HO0.out (fun h => h))
    clear hk
    go_wp2
    go_ret
    exact ⟨rfl, K1.out⟩
theorem hides_row (f g : Int) (x : ByteArray) (o0 o1 : Int) (y : ByteArray) (w : World) (hg : Gl w) (hf : I64 f) (hgg : I64 g) (hx : x.size ≤ 140737488351232) (h0 : I64 o0) (h1 : I64 o1) (hy : y.size ≤ 140737488351232) :
    Calls Tryd.prog 3 #[.int .i64 f, .int .i64 g, .string x, .agg #[.int .i64 o0, .int .i64 o1], .string y] w fun e w' => e = .returned (.bool true) ∧ Below w.heap.size w w' := by
  refine (hides_any w hg f g x o0 o1 y hf hgg h0 h1 (by omega) (by omega)).mono ?_
  rintro e w' ⟨rfl, hk⟩
  exact ⟨rfl, hk.below (fun _ h => h.elim) (Nat.le_refl _)⟩
end Go.Proofs.YtaifjojfmkcmjaaDoor.Term
