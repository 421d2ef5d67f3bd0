/-
  FrameBodies, walked.
-/
import Derived.Test.YtaifjojfmkcmjaaDoorBdP
import Derived.Test.YtaifjojfmkcmjaaDoorAnch
namespace Go.Proofs.YtaifjojfmkcmjaaDoor.Term
open Go.RowKit Go.Sort Go.Proofs.YtaifjojfmkcmjaaDoorBase Go.Proofs.YtaifjojfmkcmjaaDoorLex2 Go.Proofs.YtaifjojfmkcmjaaDoor.Dec
set_option linter.unusedVariables false
set_option linter.unusedSimpArgs false

/-- The cells of a body that was laid. -/
def BodyC (w : World) (q : Nat) (A B C D : Option Addr) (ca cb cc cd : Nat) (b : BodyD) : Prop := Five w q (.slice A b.rem.length ca) (.slice B b.refs.length cb) (.slice C b.keys.length cc) (.slice D b.boxes.length cd) (.bool b.has)
/-- A new row of proposals. -/
theorem props_own {w0 w w' : World} {p : Nat} {F : Nat → Prop} {s : TS} {A : Option Addr} {c : Nat} {rem : List Int} (h : SAt w0 w p F s) (ho : w'.ownsRow w.heap.size 97 11 (.slice A rem.length c) rem.length (rem.flatMap propC)) : PropsIn w' F A rem := by
  intro k x hx
  have hk := (List.getElem?_eq_some_iff.1 hx).1
  rcases ho.2 with ⟨h1, h0⟩ | ⟨g, cap, cur, h1, hbg, hh, hnc, hcm, r⟩
  · omega
  · simp only [Value.slice.injEq] at h1
    obtain ⟨rfl, -, rfl⟩ := h1
    have key : ∀ j v, (propC x)[j]? = some v → w'.cell? ⟨g, 0 + k * 11 + j, none⟩ = some v := by
      intro j v hj
      have hj11 : j < 11 := (List.getElem?_eq_some_iff.1 hj).1
      have hf : (rem.flatMap propC)[k * 11 + j]? = some v := by
        have gen : ∀ (l : List Int) (k : Nat), l[k]? = some x → (l.flatMap propC)[k * 11 + j]? = some v := by
          intro l
          induction l with
          | nil => intro k hk; cases hk
          | cons y l ih =>
            intro k hk
            rw [List.flatMap_cons]
            cases k with
            | zero =>
              simp only [List.getElem?_cons_zero, Option.some.injEq] at hk
              subst hk
              rw [Nat.zero_mul, Nat.zero_add, List.getElem?_append_left (by exact hj11)]
              exact hj
            | succ k =>
              rw [List.getElem?_cons_succ] at hk
              have e : (k + 1) * 11 + j = (propC y).length + (k * 11 + j) := by simp only [propC, List.length_cons, List.length_nil]; omega
              rw [e, List.getElem?_append_right (Nat.le_add_right _ _), Nat.add_sub_cancel_left]
              exact ih k hk
        exact gen rem k hx
      have := ho.cells (g := g) rfl (k * 11 + j) v hf
      rw [Addr.add_lit] at this
      rw [show 0 + k * 11 + j = 0 + (k * 11 + j) by omega]
      exact this
    refine ⟨g, 0, rfl, ⟨blk_lt hh, fun hF => by have := h.at_.lt g hF; omega⟩, key 0 _ rfl, key 1 _ rfl, key 2 _ rfl, key 3 _ rfl, key 4 _ rfl, key 5 _ rfl, key 6 _ rfl, key 7 _ rfl, key 8 _ rfl, key 9 _ rfl, key 10 _ rfl⟩
theorem right_rem {b : BodyD} (h : rightB b = true) : b.rem.length ≤ 20 := by
  unfold rightB at h
  simp only [Bool.and_eq_true, decide_eq_true_eq] at h
  exact h.1.1.1.1
theorem right_boxes {b : BodyD} (h : rightB b = true) : b.boxes.length ≤ 20 := by
  unfold rightB at h
  simp only [Bool.and_eq_true, decide_eq_true_eq] at h
  exact h.1.2
set_option maxHeartbeats 3200000 in
set_option maxRecDepth 100000 in
theorem bodies_any (A B C D A' B' C' D' : Option Addr) (ca cb cc cd ca' cb' cc' cd' : Nat) (b c : BodyD) (w : World) (hg : Gl w) (h : BodyIn w A B C D b) (h' : BodyIn w A' B' C' D' c) (hi : ∀ x ∈ b.rem, I64 x) (hi' : ∀ x ∈ c.rem, I64 x) :
    Calls Tryd.prog 7 #[bodyV A B C D ca cb cc cd b, bodyV A' B' C' D' ca' cb' cc' cd' c] w fun e w' => e = .returned (.bool true) ∧ Kept w w' (fun _ => False) := by
  have HG := Lib.hid hg
  have HI := Lib.hid hi
  have HI' := Lib.hid hi'
  unfold bodyV
  obtain ⟨wa, q, hwa, hq, hk, ht1, ht2⟩ := laid_two (w := w) (a := .slice A b.rem.length ca) (b := .slice B b.refs.length cb) (c := .slice C b.keys.length cc) (d := .slice D b.boxes.length cd) (e := .bool b.has) (a' := .slice A' c.rem.length ca') (b' := .slice B' c.refs.length cb') (c' := .slice C' c.keys.length cc') (d' := .slice D' c.boxes.length cd') (e' := .bool c.has) (T := 60)
  have K1 := Lib.hid hk
  have T1 : Hid (BodyC wa q A B C D ca cb cc cd b) := Lib.hid ht1
  have T2 : Hid (BodyC wa (q + 1) A' B' C' D' ca' cb' cc' cd' c) := Lib.hid ht2
  have HB := Lib.hid (h.kept hk)
  have HC := Lib.hid (h'.kept hk)
  clear hk ht1 ht2 h h' hg hi hi'
  go_enter Tryd.func7, Tryd.ntmps7
  go_wp2_with (fail)
  refine (anchor_any w _ (K1.out.below (fun _ h => h.elim) (Nat.le_refl _)) HG.out).mono ?_
  rintro e w1 ⟨rfl, hk⟩
  have K1 := Lib.hid (K1.out.trans hk (fun _ h => h.elim))
  have HB := Lib.hid (HB.out.kept hk)
  have HC := Lib.hid (HC.out.kept hk)
  have T1 : Hid (BodyC w1 q A B C D ca cb cc cd b) := Lib.hid (Five.kept T1.out hk)
  have T2 : Hid (BodyC w1 (q + 1) A' B' C' D' ca' cb' cc' cd' c) := Lib.hid (Five.kept T2.out hk)
  clear hk hwa hq
  obtain ⟨e0, e1, e2, e3, e4⟩ := T1.out
  obtain ⟨f0, f1, f2, f3, f4⟩ := T2.out
  go_wp2_with (fail)
  refine (right_b w1 A B C D ca cb cc cd b HB.out).mono ?_
  rintro e w2 ⟨rfl, hk⟩
  have K1 := Lib.hid (K1.out.trans hk (fun _ h => h.elim))
  have HB := Lib.hid (HB.out.kept hk)
  have HC := Lib.hid (HC.out.kept hk)
  have T1 : Hid (BodyC w2 q A B C D ca cb cc cd b) := Lib.hid (Five.kept T1.out hk)
  have T2 : Hid (BodyC w2 (q + 1) A' B' C' D' ca' cb' cc' cd' c) := Lib.hid (Five.kept T2.out hk)
  clear hk e0 e1 e2 e3 e4 f0 f1 f2 f3 f4
  obtain ⟨e0, e1, e2, e3, e4⟩ := T1.out
  obtain ⟨f0, f1, f2, f3, f4⟩ := T2.out
  cases r1 : rightB b with
  | false =>
    go_wp2
    go_ret
    exact ⟨rfl, K1.out⟩
  | true =>
    have R1 := Lib.hid r1
    clear r1
    go_wp2_with (fail)
    refine (right_b w2 A' B' C' D' ca' cb' cc' cd' c HC.out).mono ?_
    rintro e w3 ⟨rfl, hk⟩
    have K1 := Lib.hid (K1.out.trans hk (fun _ h => h.elim))
    have HB := Lib.hid (HB.out.kept hk)
    have HC := Lib.hid (HC.out.kept hk)
    have T1 : Hid (BodyC w3 q A B C D ca cb cc cd b) := Lib.hid (Five.kept T1.out hk)
    have T2 : Hid (BodyC w3 (q + 1) A' B' C' D' ca' cb' cc' cd' c) := Lib.hid (Five.kept T2.out hk)
    clear hk e0 e1 e2 e3 e4 f0 f1 f2 f3 f4
    obtain ⟨e0, e1, e2, e3, e4⟩ := T1.out
    obtain ⟨f0, f1, f2, f3, f4⟩ := T2.out
    cases r2 : rightB c with
    | false =>
      go_wp2
      go_ret
      exact ⟨rfl, K1.out⟩
    | true =>
      have R2 := Lib.hid r2
      clear r2
      go_wp2_with (fail)
      refine (stores_any w _ 9 (by decide) (K1.out.below (fun _ h => h.elim) (Nat.le_refl _)) HG.out).mono ?_
      rintro e w4 ⟨p, qr, rfl, F, G, hs, hr, hd, hb, hk⟩
      have S0 := Lib.hid hs
      have OLD : Hid (Old w3 w4 F) := Lib.hid ⟨hk, fun k h => hb k (.inl h)⟩
      have HB3 := HB
      have HC3 := HC
      have T13 := T1
      have T23 := T2
      have K13 := K1
      clear hs hr hd hb
      have K1 := Lib.hid (K1.out.trans hk (fun _ h => h.elim))
      have HB := Lib.hid (HB.out.kept hk)
      have HC := Lib.hid (HC.out.kept hk)
      have T1 : Hid (BodyC w4 q A B C D ca cb cc cd b) := Lib.hid (Five.kept T1.out hk)
      have T2 : Hid (BodyC w4 (q + 1) A' B' C' D' ca' cb' cc' cd' c) := Lib.hid (Five.kept T2.out hk)
      clear hk e0 e1 e2 e3 e4 f0 f1 f2 f3 f4
      obtain ⟨e0, e1, e2, e3, e4⟩ := T1.out
      obtain ⟨f0, f1, f2, f3, f4⟩ := T2.out
      obtain ⟨⟨x, S1⟩, hx⟩ : ∃ r, commitT (storeN 9) b = r := ⟨_, rfl⟩
      obtain ⟨⟨y, S2⟩, hy⟩ : ∃ r, commitT S1 c = r := ⟨_, rfl⟩
      obtain ⟨i1, g1⟩ := commit_is (s := storeN 9) (b := b) (ok_store 9 (by decide)) (fun z h1 h2 => known_store 9 h1 (by omega)) R1.out HI.out (by rw [store_len]; decide)
      rw [hx] at i1 g1
      simp only at i1 g1
      have l1 := g1.2.1
      rw [store_len] at l1
      obtain ⟨i2, g2⟩ := commit_is (s := S1) (b := c) g1.2.2 (fun z h1 h2 => known_ext (known_store 9 h1 (by omega)) g1.1) R2.out HI'.out (by omega)
      rw [hy] at i2 g2
      simp only at i2 g2
      have x0 : ((x : Int) == 0) = false := by
        have k : knownB S1.nodes (x : Int) = true := by obtain ⟨_, _, _, h, _⟩ := i1; exact h.known
        have := knownB_iff.1 k
        simp
        omega
      have y0 : ((y : Int) == 0) = false := by
        have k : knownB S2.nodes (y : Int) = true := by obtain ⟨_, _, _, h, _⟩ := i2; exact h.known
        have := knownB_iff.1 k
        simp
        omega
      have xy := IsBody.iff g2.2.2 (i1.ext g2.1) i2
      have X0 := Lib.hid x0
      have Y0 := Lib.hid y0
      have XY : Hid (((x : Int) == (y : Int)) = sameB b c) := Lib.hid (by
        cases h : sameB b c with
        | true => rw [xy.2 h]; simp
        | false =>
          rw [beq_eq_false_iff_ne]
          intro e
          have := xy.1 e
          rw [h] at this
          cases this)
      clear i1 g1 l1 i2 g2 x0 y0 xy
      have EX := Lib.hid hx
      have EY := Lib.hid hy
      clear hx hy HB HC T1 T2 K1
      go_wp2
      refine wp_region_lex (fun w' => BodyC w' q A B C D ca cb cc cd b ∧ BodyC w' (q + 1) A' B' C' D' ca' cb' cc' cd' c) [0, 1, 2, 0, 3, 3, 2, 0, 3, 2, 0, 3, 2, 0, 3, 3, 2, 0, 3, 4, 0, 0] (by kernel_rfl) (by kernel_rfl) (by kernel_rfl) (⟨⟨e0, e1, e2, e3, e4⟩, f0, f1, f2, f3, f4⟩) (fun Q' hQ' => ?_)
      simp only [List.zip_cons_cons, List.zip_nil_right]
      unfold BodyC Five
      repeat (first
        | (refine wpX_silent ?_ (fun K hK => ?_)
           · rfl
           apply Exists.intro
           refine ⟨fun w' => ?_, ?_⟩
           · go_simp
             exact ⟨rfl, rfl⟩
           go_simp
           refine hK _ _ ?_
           clear hK K)
        | (refine wpX_read ?_ (fun K hK => ?_)
           · rfl
           apply Exists.intro
           refine ⟨?_, ?_⟩
           · go_simp
             exact ⟨rfl, rfl⟩
           go_simp
           refine hK _ _ ?_
           clear hK K)
        | (refine wpX_float ?_ (fun K hK => ?_)
           · rfl
           apply Exists.intro
           refine ⟨fun w' hw' => ?_, ?_⟩
           · try dsimp only at hw'
             go_simp
             exact ⟨rfl, rfl⟩
           go_simp
           refine hK _ _ ?_
           clear hK K)
        | (refine wpX_not ?_ (fun K hK => ?_)
           · rfl
           go_simp
           refine hK _ _ ?_
           clear hK K))
      have OLD : Hid (Old w3 w4.drew F) := Lib.hid ⟨OLD.out.1.drew, OLD.out.2⟩
      have S0 := Lib.hid (S0.out.kept (Kept.refl _ _).drew)
      refine wpX_keeps ?_ (fun K hK => ?_)
      · rfl
      go_wp2_with (fail)
      refine (props_b w4.drew A B C D ca cb cc cd b (rowK HB3.out.rem OLD.out.1) (right_rem R1.out)).mono ?_
      rintro e w5 ⟨⟨Ap, cp, rfl, hown⟩, hk⟩
      have PR := Lib.hid (props_own S0.out hown)
      have S0 := Lib.hid (S0.out.kept hk)
      have OLD : Hid (Old w3 w5 F) := Lib.hid ⟨OLD.out.1.trans hk (fun _ h => h.elim), OLD.out.2⟩
      clear hk hown
      have L : Hid (BodyC w5 q A B C D ca cb cc cd b ∧ BodyC w5 (q + 1) A' B' C' D' ca' cb' cc' cd' c) := Lib.hid ⟨Five.kept T13.out OLD.out.1, Five.kept T23.out OLD.out.1⟩
      clear e0 e1 e2 e3 e4 f0 f1 f2 f3 f4
      obtain ⟨⟨e0, e1, e2, e3, e4⟩, f0, f1, f2, f3, f4⟩ := L.out
      go_simp
      refine hK _ _ ⟨rfl, L.out, ?_⟩
      clear hK K
      repeat (first
        | (refine wpX_silent ?_ (fun K hK => ?_)
           · rfl
           apply Exists.intro
           refine ⟨fun w' => ?_, ?_⟩
           · go_simp
             exact ⟨rfl, rfl⟩
           go_simp
           refine hK _ _ ?_
           clear hK K)
        | (refine wpX_read ?_ (fun K hK => ?_)
           · rfl
           apply Exists.intro
           refine ⟨?_, ?_⟩
           · go_simp
             exact ⟨rfl, rfl⟩
           go_simp
           refine hK _ _ ?_
           clear hK K)
        | (refine wpX_float ?_ (fun K hK => ?_)
           · rfl
           apply Exists.intro
           refine ⟨fun w' hw' => ?_, ?_⟩
           · try dsimp only at hw'
             go_simp
             exact ⟨rfl, rfl⟩
           go_simp
           refine hK _ _ ?_
           clear hK K)
        | (refine wpX_not ?_ (fun K hK => ?_)
           · rfl
           go_simp
           refine hK _ _ ?_
           clear hK K))
      refine wpX_keeps ?_ (fun K hK => ?_)
      · rfl
      go_wp2_with (fail)
      refine (path_b w5 A B C D ca cb cc cd b).mono ?_
      rintro e w6 ⟨rfl, hk⟩
      have PR := Lib.hid (PR.out.kept hk)
      have S0 := Lib.hid (S0.out.kept hk)
      have OLD : Hid (Old w3 w6 F) := Lib.hid ⟨OLD.out.1.trans hk (fun _ h => h.elim), OLD.out.2⟩
      clear hk
      have L : Hid (BodyC w6 q A B C D ca cb cc cd b ∧ BodyC w6 (q + 1) A' B' C' D' ca' cb' cc' cd' c) := Lib.hid ⟨Five.kept T13.out OLD.out.1, Five.kept T23.out OLD.out.1⟩
      clear e0 e1 e2 e3 e4 f0 f1 f2 f3 f4
      obtain ⟨⟨e0, e1, e2, e3, e4⟩, f0, f1, f2, f3, f4⟩ := L.out
      go_simp
      refine hK _ _ ⟨rfl, L.out, ?_⟩
      clear hK K
      repeat (first
        | (refine wpX_silent ?_ (fun K hK => ?_)
           · rfl
           apply Exists.intro
           refine ⟨fun w' => ?_, ?_⟩
           · go_simp
             exact ⟨rfl, rfl⟩
           go_simp
           refine hK _ _ ?_
           clear hK K)
        | (refine wpX_read ?_ (fun K hK => ?_)
           · rfl
           apply Exists.intro
           refine ⟨?_, ?_⟩
           · go_simp
             exact ⟨rfl, rfl⟩
           go_simp
           refine hK _ _ ?_
           clear hK K)
        | (refine wpX_float ?_ (fun K hK => ?_)
           · rfl
           apply Exists.intro
           refine ⟨fun w' hw' => ?_, ?_⟩
           · try dsimp only at hw'
             go_simp
             exact ⟨rfl, rfl⟩
           go_simp
           refine hK _ _ ?_
           clear hK K)
        | (refine wpX_not ?_ (fun K hK => ?_)
           · rfl
           go_simp
           refine hK _ _ ?_
           clear hK K))
      refine wpX_keeps ?_ (fun K hK => ?_)
      · rfl
      go_wp2_with (fail)
      refine (commit_any w3 w w6 p F (storeN 9) Ap B C D cp cb cc cd b.rem b.refs b.keys b.boxes b.has S0.out OLD.out PR.out HB3.out.refs HB3.out.keys HB3.out.boxes (right_boxes R1.out) (right_rem R1.out) HI.out).mono ?_
      rw [show commitT (storeN 9) ⟨b.rem, b.refs, b.keys, b.boxes, b.has⟩ = commitT (storeN 9) b from rfl, EX.out]
      rintro e w7 ⟨rfl, F1, s1, b1, k1⟩
      have S1' := Lib.hid s1
      have OLD := Lib.hid (OLD.out.next b1 k1)
      clear s1 b1 k1
      have L : Hid (BodyC w7 q A B C D ca cb cc cd b ∧ BodyC w7 (q + 1) A' B' C' D' ca' cb' cc' cd' c) := Lib.hid ⟨Five.kept T13.out OLD.out.1, Five.kept T23.out OLD.out.1⟩
      clear e0 e1 e2 e3 e4 f0 f1 f2 f3 f4
      obtain ⟨⟨e0, e1, e2, e3, e4⟩, f0, f1, f2, f3, f4⟩ := L.out
      go_simp
      refine hK _ _ ⟨rfl, L.out, ?_⟩
      clear hK K
      repeat (first
        | (refine wpX_silent ?_ (fun K hK => ?_)
           · rfl
           apply Exists.intro
           refine ⟨fun w' => ?_, ?_⟩
           · go_simp
             exact ⟨rfl, rfl⟩
           go_simp
           refine hK _ _ ?_
           clear hK K)
        | (refine wpX_read ?_ (fun K hK => ?_)
           · rfl
           apply Exists.intro
           refine ⟨?_, ?_⟩
           · go_simp
             exact ⟨rfl, rfl⟩
           go_simp
           refine hK _ _ ?_
           clear hK K)
        | (refine wpX_float ?_ (fun K hK => ?_)
           · rfl
           apply Exists.intro
           refine ⟨fun w' hw' => ?_, ?_⟩
           · try dsimp only at hw'
             go_simp
             exact ⟨rfl, rfl⟩
           go_simp
           refine hK _ _ ?_
           clear hK K)
        | (refine wpX_not ?_ (fun K hK => ?_)
           · rfl
           go_simp
           refine hK _ _ ?_
           clear hK K))
      refine wpX_keeps ?_ (fun K hK => ?_)
      · rfl
      go_wp2_with (fail)
      refine (props_b w7 A' B' C' D' ca' cb' cc' cd' c (rowK HC3.out.rem OLD.out.1) (right_rem R2.out)).mono ?_
      rintro e w8 ⟨⟨Aq, cq, rfl, hown⟩, hk⟩
      have PR := Lib.hid (props_own S1'.out hown)
      have S1' := Lib.hid (S1'.out.kept hk)
      have OLD : Hid (Old w3 w8 F1) := Lib.hid ⟨OLD.out.1.trans hk (fun _ h => h.elim), OLD.out.2⟩
      clear hk hown
      have L : Hid (BodyC w8 q A B C D ca cb cc cd b ∧ BodyC w8 (q + 1) A' B' C' D' ca' cb' cc' cd' c) := Lib.hid ⟨Five.kept T13.out OLD.out.1, Five.kept T23.out OLD.out.1⟩
      clear e0 e1 e2 e3 e4 f0 f1 f2 f3 f4
      obtain ⟨⟨e0, e1, e2, e3, e4⟩, f0, f1, f2, f3, f4⟩ := L.out
      go_simp
      refine hK _ _ ⟨rfl, L.out, ?_⟩
      clear hK K
      repeat (first
        | (refine wpX_silent ?_ (fun K hK => ?_)
           · rfl
           apply Exists.intro
           refine ⟨fun w' => ?_, ?_⟩
           · go_simp
             exact ⟨rfl, rfl⟩
           go_simp
           refine hK _ _ ?_
           clear hK K)
        | (refine wpX_read ?_ (fun K hK => ?_)
           · rfl
           apply Exists.intro
           refine ⟨?_, ?_⟩
           · go_simp
             exact ⟨rfl, rfl⟩
           go_simp
           refine hK _ _ ?_
           clear hK K)
        | (refine wpX_float ?_ (fun K hK => ?_)
           · rfl
           apply Exists.intro
           refine ⟨fun w' hw' => ?_, ?_⟩
           · try dsimp only at hw'
             go_simp
             exact ⟨rfl, rfl⟩
           go_simp
           refine hK _ _ ?_
           clear hK K)
        | (refine wpX_not ?_ (fun K hK => ?_)
           · rfl
           go_simp
           refine hK _ _ ?_
           clear hK K))
      refine wpX_keeps ?_ (fun K hK => ?_)
      · rfl
      go_wp2_with (fail)
      refine (path_b w8 A' B' C' D' ca' cb' cc' cd' c).mono ?_
      rintro e w9 ⟨rfl, hk⟩
      have PR := Lib.hid (PR.out.kept hk)
      have S1' := Lib.hid (S1'.out.kept hk)
      have OLD : Hid (Old w3 w9 F1) := Lib.hid ⟨OLD.out.1.trans hk (fun _ h => h.elim), OLD.out.2⟩
      clear hk
      have L : Hid (BodyC w9 q A B C D ca cb cc cd b ∧ BodyC w9 (q + 1) A' B' C' D' ca' cb' cc' cd' c) := Lib.hid ⟨Five.kept T13.out OLD.out.1, Five.kept T23.out OLD.out.1⟩
      clear e0 e1 e2 e3 e4 f0 f1 f2 f3 f4
      obtain ⟨⟨e0, e1, e2, e3, e4⟩, f0, f1, f2, f3, f4⟩ := L.out
      go_simp
      refine hK _ _ ⟨rfl, L.out, ?_⟩
      clear hK K
      repeat (first
        | (refine wpX_silent ?_ (fun K hK => ?_)
           · rfl
           apply Exists.intro
           refine ⟨fun w' => ?_, ?_⟩
           · go_simp
             exact ⟨rfl, rfl⟩
           go_simp
           refine hK _ _ ?_
           clear hK K)
        | (refine wpX_read ?_ (fun K hK => ?_)
           · rfl
           apply Exists.intro
           refine ⟨?_, ?_⟩
           · go_simp
             exact ⟨rfl, rfl⟩
           go_simp
           refine hK _ _ ?_
           clear hK K)
        | (refine wpX_float ?_ (fun K hK => ?_)
           · rfl
           apply Exists.intro
           refine ⟨fun w' hw' => ?_, ?_⟩
           · try dsimp only at hw'
             go_simp
             exact ⟨rfl, rfl⟩
           go_simp
           refine hK _ _ ?_
           clear hK K)
        | (refine wpX_not ?_ (fun K hK => ?_)
           · rfl
           go_simp
           refine hK _ _ ?_
           clear hK K))
      refine wpX_heavy ?_ (fun K hK => ?_)
      · rfl
      go_wp2_with (fail)
      refine (commit_any w3 w w9 p F1 S1 Aq B' C' D' cq cb' cc' cd' c.rem c.refs c.keys c.boxes c.has S1'.out OLD.out PR.out HC3.out.refs HC3.out.keys HC3.out.boxes (right_boxes R2.out) (right_rem R2.out) HI'.out).mono ?_
      rw [show commitT S1 ⟨c.rem, c.refs, c.keys, c.boxes, c.has⟩ = commitT S1 c from rfl, EY.out]
      rintro e w10 ⟨rfl, F2, s2, b2, k2⟩
      have OLD := Lib.hid (OLD.out.next b2 k2)
      clear s2 b2 k2
      have L : Hid (BodyC w10 q A B C D ca cb cc cd b ∧ BodyC w10 (q + 1) A' B' C' D' ca' cb' cc' cd' c) := Lib.hid ⟨Five.kept T13.out OLD.out.1, Five.kept T23.out OLD.out.1⟩
      clear e0 e1 e2 e3 e4 f0 f1 f2 f3 f4
      obtain ⟨⟨e0, e1, e2, e3, e4⟩, f0, f1, f2, f3, f4⟩ := L.out
      go_simp
      refine hK _ _ ⟨rfl, ?_⟩
      clear hK K
      repeat (first
        | (refine wpX_silent ?_ (fun K hK => ?_)
           · rfl
           apply Exists.intro
           refine ⟨fun w' => ?_, ?_⟩
           · go_simp
             exact ⟨rfl, rfl⟩
           go_simp
           refine hK _ _ ?_
           clear hK K)
        | (refine wpX_read ?_ (fun K hK => ?_)
           · rfl
           apply Exists.intro
           refine ⟨?_, ?_⟩
           · go_simp
             exact ⟨rfl, rfl⟩
           go_simp
           refine hK _ _ ?_
           clear hK K)
        | (refine wpX_float ?_ (fun K hK => ?_)
           · rfl
           apply Exists.intro
           refine ⟨fun w' hw' => ?_, ?_⟩
           · try dsimp only at hw'
             go_simp
             exact ⟨rfl, rfl⟩
           go_simp
           refine hK _ _ ?_
           clear hK K)
        | (refine wpX_not ?_ (fun K hK => ?_)
           · rfl
           go_simp
           refine hK _ _ ?_
           clear hK K))
      refine wpX_nil (hQ' _ _ ?_)
      have x0 : ((x : Int) != 0) = true := by rw [bne, X0.out]; rfl
      have y0 : ((y : Int) != 0) = true := by rw [bne, Y0.out]; rfl
      have x1 : ¬ ((x : Int) = 0) := by simpa using X0.out
      have y1 : ¬ ((y : Int) = 0) := by simpa using Y0.out
      go_wp2_with (fail)
      refine (same_b w10 A B C D A' B' C' D' ca cb cc cd ca' cb' cc' cd' b c (HB3.out.kept OLD.out.1) (HC3.out.kept OLD.out.1)).mono ?_
      rintro e w11 ⟨rfl, hk⟩
      have KE := Lib.hid (K13.out.trans (OLD.out.1.trans hk (fun _ h => h.elim)) (fun _ h => h.elim))
      rw [← XY.out]
      clear hk e0 e1 e2 e3 e4 f0 f1 f2 f3 f4 x0 y0 x1 y1
      go_wp2
      go_ret
      exact ⟨by simp, KE.out⟩
theorem bodies_row (A B C D : Option Addr) (ca cb cc cd : Nat) (A' B' C' D' : Option Addr) (ca' cb' cc' cd' : Nat) (b c : BodyD) (w : World) (hg : Gl w) (h : BodyIn w A B C D b) (hi : ∀ x ∈ b.rem, I64 x) (h' : BodyIn w A' B' C' D' c) (hi' : ∀ x ∈ c.rem, I64 x) :
    Calls Tryd.prog 7 #[bodyV A B C D ca cb cc cd b, bodyV A' B' C' D' ca' cb' cc' cd' c] w fun e w' => e = .returned (.bool true) ∧ Below w.heap.size w w' := by
  refine (bodies_any A B C D A' B' C' D' ca cb cc cd ca' cb' cc' cd' b c w hg h h' hi hi').mono ?_
  rintro e w' ⟨rfl, hk⟩
  exact ⟨rfl, hk.below (fun _ h => h.elim) (Nat.le_refl _)⟩
end Go.Proofs.YtaifjojfmkcmjaaDoor.Term
