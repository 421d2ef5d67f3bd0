/-
  FramePlain, walked.
-/
import Derived.Test.YtaifjojfmkcmjaaDoorAnch
namespace Go.Proofs.YtaifjojfmkcmjaaDoor.Term
open Go.RowKit Go.Sort Go.Proofs.YtaifjojfmkcmjaaDoorBase Go.Proofs.YtaifjojfmkcmjaaDoorLex2 Go.Proofs.YtaifjojfmkcmjaaDoor.Dec
set_option linter.unusedVariables false
set_option linter.unusedSimpArgs false

/-- A content: a list of five, the first its group's number. -/
theorem content_is {s : TS} {g e f k b : Int} (h : TOk s) (hg : I64 g) (he : I64 e) (hf : I64 f) (hk : I64 k) (hb : knownB s.nodes b = true) (hl : s.nodes.length + 10 ≤ 262144) :
    (∃ x1 x2 x3 x4, IsList (contentT s g e f k b).2 (contentT s g e f k b).1 [x1, x2, x3, x4, b] ∧ Is (contentT s g e f k b).2 x1 (textN (numS g))) ∧ Grow s (contentT s g e f k b).2 10 := by
  obtain ⟨a1, a2⟩ := num_is h hg (by omega)
  obtain ⟨b1, b2⟩ := num_is a2.2.2 he (by have := a2.2.1; omega)
  have e2 := a2.trans b2
  obtain ⟨c1, c2⟩ := num_is e2.2.2 hf (by have := e2.2.1; omega)
  have e3 := e2.trans c2
  obtain ⟨d1, d2⟩ := num_is e3.2.2 hk (by have := e3.2.1; omega)
  have e4 := e3.trans d2
  obtain ⟨l1, l2⟩ := list_is (l := [((numG s g).1 : Int), ((numG (numG s g).2 e).1 : Int), ((numG (numG (numG s g).2 e).2 f).1 : Int), ((numG (numG (numG (numG s g).2 e).2 f).2 k).1 : Int), b]) e4.2.2 (by simp only [List.all_cons, List.all_nil, Bool.and_true, Bool.and_eq_true]; exact ⟨known_ext a1.1 (b2.1.trans (c2.1.trans d2.1)), known_ext b1.1 (c2.1.trans d2.1), known_ext c1.1 d2.1, d1.1, known_ext hb e4.1⟩) (by have := e4.2.1; simp only [List.length_cons, List.length_nil]; omega)
  have e5 := (e4.trans l2).mono (j := 10) (by simp)
  exact ⟨⟨_, _, _, _, l1, a1.ext (b2.1.trans (c2.1.trans (d2.1.trans l2.1)))⟩, e5⟩
/-- The cells of a new row of five. -/
theorem own_first {w : World} {base n : Nat} {e : TypeId} {v a : Value} {l : List Value} (h : w.ownsRow base e 1 v (n + 1) (a :: l)) : ∃ g c, v = .slice (some ⟨g, 0, none⟩) (n + 1) c ∧ base ≤ g ∧ g < w.heap.size ∧ n + 1 ≤ c ∧ c ≤ maxLen ∧ w.cell? ⟨g, 0, none⟩ = some a := by
  rcases h.2 with ⟨_, h0⟩ | ⟨g, cap, cur, h1, h2, h3, h4, h5, h6, h7⟩
  · omega
  · subst h1
    have e0 := h.cells (g := g) rfl 0 a rfl
    rw [Addr.add_lit, Nat.zero_add] at e0
    exact ⟨g, cap, rfl, h2, blk_lt h3, h4, h5, e0⟩

set_option maxHeartbeats 1600000 in
set_option maxRecDepth 100000 in
theorem lawplain_any (n : Int) (x : ByteArray) (w : World) (hg : Gl w) (hn : I64 n) (hx : x.size ≤ 140737488351232) :
    Calls Tryd.prog 5 #[.int .i64 n, .string x] w fun e w' => e = .returned (.bool true) ∧ Kept w w' (fun _ => False) := by
  have HG := Lib.hid hg
  have HN := Lib.hid hn
  clear hg hn
  by_cases c1 : x.size ≤ 1024
  · have q1 : ¬ ((1024 : Int) < x.size) := by omega
    obtain ⟨b1, b2⟩ := text_is (s := storeN 1) (x := ⟨#[98]⟩) (ok_store 1 (by decide)) (by decide) (by rw [store_len]; decide)
    obtain ⟨⟨b, S1⟩, hB⟩ : ∃ r, put (storeN 1) (textN ⟨#[98]⟩) = r := ⟨_, rfl⟩
    rw [hB] at b1 b2
    have l1 : S1.nodes.length ≤ 3 := by have := b2.2.1; rw [store_len] at this; simpa using this
    obtain ⟨⟨x1, x2, x3, x4, e1, e2⟩, e3⟩ := content_is (s := S1) (g := n) (e := 0) (f := 0) (k := 0) b2.2.2 HN.out (by unfold I64; omega) (by unfold I64; omega) (by unfold I64; omega) b1.1 (by omega)
    obtain ⟨⟨c, S2⟩, hC⟩ : ∃ r, contentT S1 n 0 0 0 b = r := ⟨_, rfl⟩
    simp only at e1 e2 e3 b1 b2
    rw [hC] at e1 e2 e3
    simp only at e1 e2 e3
    have hI := items_is e3.2.2 e1
    have hP := plain_is e2
    have l2 : S2.nodes.length ≤ 13 := by have := e3.2.1; omega
    obtain ⟨t1, t2⟩ := text_is (s := S2) (x := x) e3.2.2 c1 (by omega)
    obtain ⟨⟨t, S3⟩, hT⟩ : ∃ r, put S2 (textN x) = r := ⟨_, rfl⟩
    rw [hT] at t1 t2
    simp only at t1 t2
    have hW := plain_is t1
    have l3 : S3.nodes.length ≤ 14 := by have := t2.2.1; omega
    have HB := Lib.hid hB
    have HC := Lib.hid hC
    have HI := Lib.hid hI
    have HT := Lib.hid hT
    have HX := Lib.hid c1
    cases hwas : (plainB x).2 with
    | false =>
      rw [plainB_false hwas] at hW
      have HW := Lib.hid hW
      by_cases n1 : -1000000000 < n
      · by_cases n2 : n < 1000000000
        · rw [plainB_num n1 n2] at hP
          have HP := Lib.hid hP
          have d1 : decide (-1000000000 < n) = true := decide_eq_true n1
          have d2 : decide (n < 1000000000) = true := decide_eq_true n2
          clear hB hC hI hP hT hW hwas b1 b2 e1 e2 e3 t1 t2 c1 l1 l2 l3
          go_enter Tryd.func5, Tryd.ntmps5
          go_wp2_with (fail)
          refine (anchor_any w _ (Below.refl _ _) HG.out).mono ?_
          rintro e w1 ⟨rfl, hk⟩
          have K1 := Lib.hid hk
          clear hk
          go_wp2_with (fail)
          refine (stores_any w _ 1 (by decide) (K1.out.below (fun _ h => h.elim) (Nat.le_refl _)) HG.out).mono ?_
          rintro e w2 ⟨p, q, rfl, hT⟩
          have T1 := Lib.hid hT
          clear hT
          go_wp2_with (fail)
          refine (T1.out.call fun F1 h1 => text_any w _ p F1 _ ⟨#[98]⟩ h1 (by decide)).mono ?_
          rw [HB.out]
          rintro e w3 ⟨rfl, hT⟩
          have T2 := Lib.hid hT
          clear hT
          go_wp2_with (fail)
          refine (T2.out.call fun F1 h1 => content_any w _ p F1 _ n 0 0 0 _ h1 HN.out (by unfold I64; omega) (by unfold I64; omega) (by unfold I64; omega)).mono ?_
          rw [HC.out]
          rintro e w4 ⟨rfl, hT⟩
          have T3 := Lib.hid hT
          clear hT
          go_wp2_with (fail)
          refine (T3.out.ask fun F1 h1 => items_any w _ p F1 _ _ h1).mono ?_
          rw [HI.out]
          rintro e w5 ⟨⟨v, rfl, hown, -⟩, -, hT⟩
          have T4 := Lib.hid hT
          obtain ⟨g0, cc, rfl, hg0, hgl, hcc, hcm, c0⟩ := own_first (n := 4) hown
          clear hT hown
          have hcc : 5 ≤ cc := hcc
          go_wp2_with (fail)
          refine (T4.out.ask fun F1 h1 => plain_any w _ p F1 _ _ h1).mono ?_
          rw [HP.out]
          rintro e w6 ⟨rfl, -, hT⟩
          have T5 := Lib.hid hT
          clear hT c0 hg0 hgl
          go_wp2_with (fail)
          refine (T5.out.call fun F1 h1 => text_any w _ p F1 _ x h1 (by have := HX.out; omega)).mono ?_
          rw [HT.out]
          rintro e w7 ⟨rfl, hT⟩
          have T6 := Lib.hid hT
          clear hT
          go_wp2_with (fail)
          refine (T6.out.ask fun F1 h1 => plain_any w _ p F1 _ _ h1).mono ?_
          rw [HW.out]
          rintro e w8 ⟨rfl, -, hT⟩
          have T7 := Lib.hid hT
          clear hT
          obtain ⟨_, _, _, _, _, _, hk⟩ := T7.out
          have KE := Lib.hid (K1.out.trans hk (fun _ h => h.elim))
          clear hk
          go_wp2
          go_ret
          exact ⟨by simp, KE.out⟩
        · rw [plainB_big (fun h => n2 h.2)] at hP
          have HP := Lib.hid hP
          have d1 : decide (-1000000000 < n) = true := decide_eq_true n1
          have d2 : decide (n < 1000000000) = false := decide_eq_false n2
          clear hB hC hI hP hT hW hwas b1 b2 e1 e2 e3 t1 t2 c1 l1 l2 l3
          go_enter Tryd.func5, Tryd.ntmps5
          go_wp2_with (fail)
          refine (anchor_any w _ (Below.refl _ _) HG.out).mono ?_
          rintro e w1 ⟨rfl, hk⟩
          have K1 := Lib.hid hk
          clear hk
          go_wp2_with (fail)
          refine (stores_any w _ 1 (by decide) (K1.out.below (fun _ h => h.elim) (Nat.le_refl _)) HG.out).mono ?_
          rintro e w2 ⟨p, q, rfl, hT⟩
          have T1 := Lib.hid hT
          clear hT
          go_wp2_with (fail)
          refine (T1.out.call fun F1 h1 => text_any w _ p F1 _ ⟨#[98]⟩ h1 (by decide)).mono ?_
          rw [HB.out]
          rintro e w3 ⟨rfl, hT⟩
          have T2 := Lib.hid hT
          clear hT
          go_wp2_with (fail)
          refine (T2.out.call fun F1 h1 => content_any w _ p F1 _ n 0 0 0 _ h1 HN.out (by unfold I64; omega) (by unfold I64; omega) (by unfold I64; omega)).mono ?_
          rw [HC.out]
          rintro e w4 ⟨rfl, hT⟩
          have T3 := Lib.hid hT
          clear hT
          go_wp2_with (fail)
          refine (T3.out.ask fun F1 h1 => items_any w _ p F1 _ _ h1).mono ?_
          rw [HI.out]
          rintro e w5 ⟨⟨v, rfl, hown, -⟩, -, hT⟩
          have T4 := Lib.hid hT
          obtain ⟨g0, cc, rfl, hg0, hgl, hcc, hcm, c0⟩ := own_first (n := 4) hown
          clear hT hown
          have hcc : 5 ≤ cc := hcc
          go_wp2_with (fail)
          refine (T4.out.ask fun F1 h1 => plain_any w _ p F1 _ _ h1).mono ?_
          rw [HP.out]
          rintro e w6 ⟨rfl, -, hT⟩
          have T5 := Lib.hid hT
          clear hT c0 hg0 hgl
          go_wp2_with (fail)
          refine (T5.out.call fun F1 h1 => text_any w _ p F1 _ x h1 (by have := HX.out; omega)).mono ?_
          rw [HT.out]
          rintro e w7 ⟨rfl, hT⟩
          have T6 := Lib.hid hT
          clear hT
          go_wp2_with (fail)
          refine (T6.out.ask fun F1 h1 => plain_any w _ p F1 _ _ h1).mono ?_
          rw [HW.out]
          rintro e w8 ⟨rfl, -, hT⟩
          have T7 := Lib.hid hT
          clear hT
          obtain ⟨_, _, _, _, _, _, hk⟩ := T7.out
          have KE := Lib.hid (K1.out.trans hk (fun _ h => h.elim))
          clear hk
          go_wp2
          go_ret
          exact ⟨by simp, KE.out⟩
      · rw [plainB_big (fun h => n1 h.1)] at hP
        have HP := Lib.hid hP
        have d1 : decide (-1000000000 < n) = false := decide_eq_false n1
        clear hB hC hI hP hT hW hwas b1 b2 e1 e2 e3 t1 t2 c1 l1 l2 l3
        go_enter Tryd.func5, Tryd.ntmps5
        go_wp2_with (fail)
        refine (anchor_any w _ (Below.refl _ _) HG.out).mono ?_
        rintro e w1 ⟨rfl, hk⟩
        have K1 := Lib.hid hk
        clear hk
        go_wp2_with (fail)
        refine (stores_any w _ 1 (by decide) (K1.out.below (fun _ h => h.elim) (Nat.le_refl _)) HG.out).mono ?_
        rintro e w2 ⟨p, q, rfl, hT⟩
        have T1 := Lib.hid hT
        clear hT
        go_wp2_with (fail)
        refine (T1.out.call fun F1 h1 => text_any w _ p F1 _ ⟨#[98]⟩ h1 (by decide)).mono ?_
        rw [HB.out]
        rintro e w3 ⟨rfl, hT⟩
        have T2 := Lib.hid hT
        clear hT
        go_wp2_with (fail)
        refine (T2.out.call fun F1 h1 => content_any w _ p F1 _ n 0 0 0 _ h1 HN.out (by unfold I64; omega) (by unfold I64; omega) (by unfold I64; omega)).mono ?_
        rw [HC.out]
        rintro e w4 ⟨rfl, hT⟩
        have T3 := Lib.hid hT
        clear hT
        go_wp2_with (fail)
        refine (T3.out.ask fun F1 h1 => items_any w _ p F1 _ _ h1).mono ?_
        rw [HI.out]
        rintro e w5 ⟨⟨v, rfl, hown, -⟩, -, hT⟩
        have T4 := Lib.hid hT
        obtain ⟨g0, cc, rfl, hg0, hgl, hcc, hcm, c0⟩ := own_first (n := 4) hown
        clear hT hown
        have hcc : 5 ≤ cc := hcc
        go_wp2_with (fail)
        refine (T4.out.ask fun F1 h1 => plain_any w _ p F1 _ _ h1).mono ?_
        rw [HP.out]
        rintro e w6 ⟨rfl, -, hT⟩
        have T5 := Lib.hid hT
        clear hT c0 hg0 hgl
        go_wp2_with (fail)
        refine (T5.out.call fun F1 h1 => text_any w _ p F1 _ x h1 (by have := HX.out; omega)).mono ?_
        rw [HT.out]
        rintro e w7 ⟨rfl, hT⟩
        have T6 := Lib.hid hT
        clear hT
        go_wp2_with (fail)
        refine (T6.out.ask fun F1 h1 => plain_any w _ p F1 _ _ h1).mono ?_
        rw [HW.out]
        rintro e w8 ⟨rfl, -, hT⟩
        have T7 := Lib.hid hT
        clear hT
        obtain ⟨_, _, _, _, _, _, hk⟩ := T7.out
        have KE := Lib.hid (K1.out.trans hk (fun _ h => h.elim))
        clear hk
        go_wp2
        go_ret
        exact ⟨by simp, KE.out⟩
    | true =>
      obtain ⟨hnum, k1, k2⟩ := plainB_true hwas
      obtain ⟨k, hk⟩ : ∃ k, (plainB x).1 = k := ⟨_, rfl⟩
      have hpx : plainB x = (k, true) := by rw [← hk, ← hwas]
      rw [hk] at hnum k1 k2
      rw [hpx] at hW
      have HW := Lib.hid hW
      have HK : Hid (I64 k) := Lib.hid (by unfold I64; omega)
      obtain ⟨⟨y1, y2, y3, y4, f1, f2⟩, f3⟩ := content_is (s := S3) (g := k) (e := 0) (f := 0) (k := 0) t2.2.2 HK.out (by unfold I64; omega) (by unfold I64; omega) (by unfold I64; omega) t1.1 (by omega)
      obtain ⟨⟨c', S4⟩, hC2⟩ : ∃ r, contentT S3 k 0 0 0 t = r := ⟨_, rfl⟩
      rw [hC2] at f1 f2 f3
      simp only at f1 f2 f3
      have hI2 := items_is f3.2.2 f1
      rw [← hnum] at f2
      have hy : y1 = t := f2.uniq f3.2.2 (t1.ext f3.1)
      subst hy
      have HC2 := Lib.hid hC2
      have HI2 := Lib.hid hI2
      by_cases n1 : -1000000000 < n
      · by_cases n2 : n < 1000000000
        · rw [plainB_num n1 n2] at hP
          have HP := Lib.hid hP
          have d1 : decide (-1000000000 < n) = true := decide_eq_true n1
          have d2 : decide (n < 1000000000) = true := decide_eq_true n2
          clear hB hC hI hP hT hW hwas b1 b2 e1 e2 e3 t1 t2 c1 l1 l2 l3 hnum k1 k2 hk hpx f1 f2 f3 hC2 hI2
          go_enter Tryd.func5, Tryd.ntmps5
          go_wp2_with (fail)
          refine (anchor_any w _ (Below.refl _ _) HG.out).mono ?_
          rintro e w1 ⟨rfl, hk⟩
          have K1 := Lib.hid hk
          clear hk
          go_wp2_with (fail)
          refine (stores_any w _ 1 (by decide) (K1.out.below (fun _ h => h.elim) (Nat.le_refl _)) HG.out).mono ?_
          rintro e w2 ⟨p, q, rfl, hT⟩
          have T1 := Lib.hid hT
          clear hT
          go_wp2_with (fail)
          refine (T1.out.call fun F1 h1 => text_any w _ p F1 _ ⟨#[98]⟩ h1 (by decide)).mono ?_
          rw [HB.out]
          rintro e w3 ⟨rfl, hT⟩
          have T2 := Lib.hid hT
          clear hT
          go_wp2_with (fail)
          refine (T2.out.call fun F1 h1 => content_any w _ p F1 _ n 0 0 0 _ h1 HN.out (by unfold I64; omega) (by unfold I64; omega) (by unfold I64; omega)).mono ?_
          rw [HC.out]
          rintro e w4 ⟨rfl, hT⟩
          have T3 := Lib.hid hT
          clear hT
          go_wp2_with (fail)
          refine (T3.out.ask fun F1 h1 => items_any w _ p F1 _ _ h1).mono ?_
          rw [HI.out]
          rintro e w5 ⟨⟨v, rfl, hown, -⟩, -, hT⟩
          have T4 := Lib.hid hT
          obtain ⟨g0, cc, rfl, hg0, hgl, hcc, hcm, c0⟩ := own_first (n := 4) hown
          clear hT hown
          have hcc : 5 ≤ cc := hcc
          go_wp2_with (fail)
          refine (T4.out.ask fun F1 h1 => plain_any w _ p F1 _ _ h1).mono ?_
          rw [HP.out]
          rintro e w6 ⟨rfl, -, hT⟩
          have T5 := Lib.hid hT
          clear hT c0 hg0 hgl
          go_wp2_with (fail)
          refine (T5.out.call fun F1 h1 => text_any w _ p F1 _ x h1 (by have := HX.out; omega)).mono ?_
          rw [HT.out]
          rintro e w7 ⟨rfl, hT⟩
          have T6 := Lib.hid hT
          clear hT
          go_wp2_with (fail)
          refine (T6.out.ask fun F1 h1 => plain_any w _ p F1 _ _ h1).mono ?_
          rw [HW.out]
          rintro e w8 ⟨rfl, -, hT⟩
          have T7 := Lib.hid hT
          clear hT
          go_wp2_with (fail)
          refine (T7.out.call fun F1 h1 => content_any w _ p F1 _ k 0 0 0 _ h1 HK.out (by unfold I64; omega) (by unfold I64; omega) (by unfold I64; omega)).mono ?_
          rw [HC2.out]
          rintro e w9 ⟨rfl, hT⟩
          have T8 := Lib.hid hT
          clear hT
          go_wp2_with (fail)
          refine (T8.out.ask fun F1 h1 => items_any w _ p F1 _ _ h1).mono ?_
          rw [HI2.out]
          rintro e wa ⟨⟨v, rfl, hown, -⟩, -, hT⟩
          obtain ⟨_, _, _, _, _, _, hk⟩ := hT
          obtain ⟨g1, cd, rfl, hg1, hgl, hcd, hcm2, c0⟩ := own_first (n := 4) hown
          have KE := Lib.hid (K1.out.trans hk (fun _ h => h.elim))
          clear hk hown
          have hcd : 5 ≤ cd := hcd
          go_wp2
          go_ret
          exact ⟨by simp, KE.out⟩
        · rw [plainB_big (fun h => n2 h.2)] at hP
          have HP := Lib.hid hP
          have d1 : decide (-1000000000 < n) = true := decide_eq_true n1
          have d2 : decide (n < 1000000000) = false := decide_eq_false n2
          clear hB hC hI hP hT hW hwas b1 b2 e1 e2 e3 t1 t2 c1 l1 l2 l3 hnum k1 k2 hk hpx f1 f2 f3 hC2 hI2
          go_enter Tryd.func5, Tryd.ntmps5
          go_wp2_with (fail)
          refine (anchor_any w _ (Below.refl _ _) HG.out).mono ?_
          rintro e w1 ⟨rfl, hk⟩
          have K1 := Lib.hid hk
          clear hk
          go_wp2_with (fail)
          refine (stores_any w _ 1 (by decide) (K1.out.below (fun _ h => h.elim) (Nat.le_refl _)) HG.out).mono ?_
          rintro e w2 ⟨p, q, rfl, hT⟩
          have T1 := Lib.hid hT
          clear hT
          go_wp2_with (fail)
          refine (T1.out.call fun F1 h1 => text_any w _ p F1 _ ⟨#[98]⟩ h1 (by decide)).mono ?_
          rw [HB.out]
          rintro e w3 ⟨rfl, hT⟩
          have T2 := Lib.hid hT
          clear hT
          go_wp2_with (fail)
          refine (T2.out.call fun F1 h1 => content_any w _ p F1 _ n 0 0 0 _ h1 HN.out (by unfold I64; omega) (by unfold I64; omega) (by unfold I64; omega)).mono ?_
          rw [HC.out]
          rintro e w4 ⟨rfl, hT⟩
          have T3 := Lib.hid hT
          clear hT
          go_wp2_with (fail)
          refine (T3.out.ask fun F1 h1 => items_any w _ p F1 _ _ h1).mono ?_
          rw [HI.out]
          rintro e w5 ⟨⟨v, rfl, hown, -⟩, -, hT⟩
          have T4 := Lib.hid hT
          obtain ⟨g0, cc, rfl, hg0, hgl, hcc, hcm, c0⟩ := own_first (n := 4) hown
          clear hT hown
          have hcc : 5 ≤ cc := hcc
          go_wp2_with (fail)
          refine (T4.out.ask fun F1 h1 => plain_any w _ p F1 _ _ h1).mono ?_
          rw [HP.out]
          rintro e w6 ⟨rfl, -, hT⟩
          have T5 := Lib.hid hT
          clear hT c0 hg0 hgl
          go_wp2_with (fail)
          refine (T5.out.call fun F1 h1 => text_any w _ p F1 _ x h1 (by have := HX.out; omega)).mono ?_
          rw [HT.out]
          rintro e w7 ⟨rfl, hT⟩
          have T6 := Lib.hid hT
          clear hT
          go_wp2_with (fail)
          refine (T6.out.ask fun F1 h1 => plain_any w _ p F1 _ _ h1).mono ?_
          rw [HW.out]
          rintro e w8 ⟨rfl, -, hT⟩
          have T7 := Lib.hid hT
          clear hT
          go_wp2_with (fail)
          refine (T7.out.call fun F1 h1 => content_any w _ p F1 _ k 0 0 0 _ h1 HK.out (by unfold I64; omega) (by unfold I64; omega) (by unfold I64; omega)).mono ?_
          rw [HC2.out]
          rintro e w9 ⟨rfl, hT⟩
          have T8 := Lib.hid hT
          clear hT
          go_wp2_with (fail)
          refine (T8.out.ask fun F1 h1 => items_any w _ p F1 _ _ h1).mono ?_
          rw [HI2.out]
          rintro e wa ⟨⟨v, rfl, hown, -⟩, -, hT⟩
          obtain ⟨_, _, _, _, _, _, hk⟩ := hT
          obtain ⟨g1, cd, rfl, hg1, hgl, hcd, hcm2, c0⟩ := own_first (n := 4) hown
          have KE := Lib.hid (K1.out.trans hk (fun _ h => h.elim))
          clear hk hown
          have hcd : 5 ≤ cd := hcd
          go_wp2
          go_ret
          exact ⟨by simp, KE.out⟩
      · rw [plainB_big (fun h => n1 h.1)] at hP
        have HP := Lib.hid hP
        have d1 : decide (-1000000000 < n) = false := decide_eq_false n1
        clear hB hC hI hP hT hW hwas b1 b2 e1 e2 e3 t1 t2 c1 l1 l2 l3 hnum k1 k2 hk hpx f1 f2 f3 hC2 hI2
        go_enter Tryd.func5, Tryd.ntmps5
        go_wp2_with (fail)
        refine (anchor_any w _ (Below.refl _ _) HG.out).mono ?_
        rintro e w1 ⟨rfl, hk⟩
        have K1 := Lib.hid hk
        clear hk
        go_wp2_with (fail)
        refine (stores_any w _ 1 (by decide) (K1.out.below (fun _ h => h.elim) (Nat.le_refl _)) HG.out).mono ?_
        rintro e w2 ⟨p, q, rfl, hT⟩
        have T1 := Lib.hid hT
        clear hT
        go_wp2_with (fail)
        refine (T1.out.call fun F1 h1 => text_any w _ p F1 _ ⟨#[98]⟩ h1 (by decide)).mono ?_
        rw [HB.out]
        rintro e w3 ⟨rfl, hT⟩
        have T2 := Lib.hid hT
        clear hT
        go_wp2_with (fail)
        refine (T2.out.call fun F1 h1 => content_any w _ p F1 _ n 0 0 0 _ h1 HN.out (by unfold I64; omega) (by unfold I64; omega) (by unfold I64; omega)).mono ?_
        rw [HC.out]
        rintro e w4 ⟨rfl, hT⟩
        have T3 := Lib.hid hT
        clear hT
        go_wp2_with (fail)
        refine (T3.out.ask fun F1 h1 => items_any w _ p F1 _ _ h1).mono ?_
        rw [HI.out]
        rintro e w5 ⟨⟨v, rfl, hown, -⟩, -, hT⟩
        have T4 := Lib.hid hT
        obtain ⟨g0, cc, rfl, hg0, hgl, hcc, hcm, c0⟩ := own_first (n := 4) hown
        clear hT hown
        have hcc : 5 ≤ cc := hcc
        go_wp2_with (fail)
        refine (T4.out.ask fun F1 h1 => plain_any w _ p F1 _ _ h1).mono ?_
        rw [HP.out]
        rintro e w6 ⟨rfl, -, hT⟩
        have T5 := Lib.hid hT
        clear hT c0 hg0 hgl
        go_wp2_with (fail)
        refine (T5.out.call fun F1 h1 => text_any w _ p F1 _ x h1 (by have := HX.out; omega)).mono ?_
        rw [HT.out]
        rintro e w7 ⟨rfl, hT⟩
        have T6 := Lib.hid hT
        clear hT
        go_wp2_with (fail)
        refine (T6.out.ask fun F1 h1 => plain_any w _ p F1 _ _ h1).mono ?_
        rw [HW.out]
        rintro e w8 ⟨rfl, -, hT⟩
        have T7 := Lib.hid hT
        clear hT
        go_wp2_with (fail)
        refine (T7.out.call fun F1 h1 => content_any w _ p F1 _ k 0 0 0 _ h1 HK.out (by unfold I64; omega) (by unfold I64; omega) (by unfold I64; omega)).mono ?_
        rw [HC2.out]
        rintro e w9 ⟨rfl, hT⟩
        have T8 := Lib.hid hT
        clear hT
        go_wp2_with (fail)
        refine (T8.out.ask fun F1 h1 => items_any w _ p F1 _ _ h1).mono ?_
        rw [HI2.out]
        rintro e wa ⟨⟨v, rfl, hown, -⟩, -, hT⟩
        obtain ⟨_, _, _, _, _, _, hk⟩ := hT
        obtain ⟨g1, cd, rfl, hg1, hgl, hcd, hcm2, c0⟩ := own_first (n := 4) hown
        have KE := Lib.hid (K1.out.trans hk (fun _ h => h.elim))
        clear hk hown
        have hcd : 5 ≤ cd := hcd
        go_wp2
        go_ret
        exact ⟨by simp, KE.out⟩
  · have q1 : (1024 : Int) < x.size := by omega
    go_enter Tryd.func5, Tryd.ntmps5
    go_wp2_with (fail)
    refine (anchor_any w _ (Below.refl _ _) HG.out).mono ?_
    rintro e w1 ⟨rfl, hk⟩
    have K1 := Lib.hid hk
    clear hk
    go_wp2
    go_ret
    exact ⟨rfl, K1.out⟩
theorem lawplain_row (n : Int) (x : ByteArray) (w : World) (hg : Gl w) (hn : I64 n) (hx : x.size ≤ 140737488351232) :
    Calls Tryd.prog 5 #[.int .i64 n, .string x] w fun e w' => e = .returned (.bool true) ∧ Below w.heap.size w w' := by
  refine (lawplain_any n x w hg hn hx).mono ?_
  rintro e w' ⟨rfl, hk⟩
  exact ⟨rfl, hk.below (fun _ h => h.elim) (Nat.le_refl _)⟩
end Go.Proofs.YtaifjojfmkcmjaaDoor.Term
