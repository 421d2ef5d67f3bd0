/-
  Commits' bodies: which are right, which say the same, walked.
-/
import Derived.Test.YtaifjojfmkcmjaaDoorBd1
namespace Go.Proofs.YtaifjojfmkcmjaaDoor.Term
open Go.RowKit Go.Sort Go.Proofs.YtaifjojfmkcmjaaDoorBase Go.Proofs.YtaifjojfmkcmjaaDoorLex2 Go.Proofs.YtaifjojfmkcmjaaDoor.Dec
set_option linter.unusedVariables false
set_option linter.unusedSimpArgs false

/-- What a commit says. -/
structure BodyD where
  rem : List Int
  refs : List Int
  keys : List Int
  boxes : List (List Int)
  has : Bool
/-- Lists of numbers in a row. -/
structure BoxesIn (w : World) (A : Option Addr) (ls : List (List Int)) : Prop where
  max : ls.length ≤ maxLen
  cell : ∀ k l, ls[k]? = some l → ∃ g o B c, A = some ⟨g, o, none⟩ ∧ g < w.heap.size ∧ w.cell? ⟨g, o + k, none⟩ = some (.slice B l.length c) ∧ RowIn w B l.length (ic l)
theorem BoxesIn.kept {w w' : World} {A : Option Addr} {ls : List (List Int)} (h : BoxesIn w A ls) (hk : Kept w w' (fun _ => False)) : BoxesIn w' A ls := by
  refine ⟨h.max, fun k l hl => ?_⟩
  obtain ⟨g, o, B, c, h1, h2, h3, h4⟩ := h.cell k l hl
  have e := hk.block g h2 (fun h => h)
  exact ⟨g, o, B, c, h1, Nat.lt_of_lt_of_le h2 hk.size, by simp only [World.cell?, e] at *; exact h3, rowK h4 hk⟩
def bodyV (A B C D : Option Addr) (ca cb cc cd : Nat) (b : BodyD) : Value := .agg #[.slice A b.rem.length ca, .slice B b.refs.length cb, .slice C b.keys.length cc, .slice D b.boxes.length cd, .bool b.has]
structure BodyIn (w : World) (A B C D : Option Addr) (b : BodyD) : Prop where
  rem : RowIn w A b.rem.length (ic b.rem)
  refs : RowIn w B b.refs.length (ic b.refs)
  keys : RowIn w C b.keys.length (ic b.keys)
  boxes : BoxesIn w D b.boxes
theorem BodyIn.kept {w w' : World} {A B C D : Option Addr} {b : BodyD} (h : BodyIn w A B C D b) (hk : Kept w w' (fun _ => False)) : BodyIn w' A B C D b := ⟨rowK h.rem hk, rowK h.refs hk, rowK h.keys hk, h.boxes.kept hk⟩
def rightB (b : BodyD) : Bool := decide (b.rem.length ≤ 20) && amongB b.refs && amongB b.keys && decide (b.boxes.length ≤ 20) && b.boxes.all amongB
def sameB (b c : BodyD) : Bool := decide (b.rem = c.rem) && decide (b.refs = c.refs) && decide (b.has = c.has) && (!b.has || (decide (b.keys = c.keys) && decide (b.boxes = c.boxes)))

theorem laid_at (w : World) (a b c d : Value) (e : Value) (T : TypeId) : ∃ wb p, w.alloc (.cells #[a, b, c, d, e] T) = wb ∧ w.heap.size = p ∧ Kept w wb (fun _ => False) ∧ wb.cell? ⟨p, 0, none⟩ = some a ∧ wb.cell? ⟨p, 1, none⟩ = some b ∧ wb.cell? ⟨p, 2, none⟩ = some c ∧ wb.cell? ⟨p, 3, none⟩ = some d ∧ wb.cell? ⟨p, 4, none⟩ = some e :=
  ⟨_, _, rfl, rfl, (Kept.refl w _).alloc _, cellOf (heap_alloc_new w _), cellOf (heap_alloc_new w _), cellOf (heap_alloc_new w _), cellOf (heap_alloc_new w _), cellOf (heap_alloc_new w _)⟩
set_option maxHeartbeats 3200000 in
set_option maxRecDepth 100000 in
theorem right_b (w : World) (A B C D : Option Addr) (ca cb cc cd : Nat) (b : BodyD) (h : BodyIn w A B C D b) :
    Calls Tryd.prog 26 #[bodyV A B C D ca cb cc cd b] w fun e w' => e = .returned (.bool (rightB b)) ∧ Kept w w' (fun _ => False) := by
  obtain ⟨r, hr⟩ : ∃ r, rightB b = r := ⟨_, rfl⟩
  rw [hr]
  obtain ⟨rem, refs, keys, boxes, has⟩ := b
  have R : Hid ((decide (rem.length ≤ 20) && amongB refs && amongB keys && decide (boxes.length ≤ 20) && boxes.all amongB) = r) := Lib.hid hr
  have H1 := Lib.hid h.refs
  have H2 := Lib.hid h.keys
  have H3 := Lib.hid h.boxes
  have m1 := h.rem.max
  have m2 := h.refs.max
  have m3 := h.keys.max
  have m4 := h.boxes.max
  simp only at m1 m2 m3 m4
  unfold maxLen at m1 m2 m3 m4
  clear h hr
  unfold bodyV
  obtain ⟨wb, p, hwb, hp, hk, e0, e1, e2, e3, e4⟩ := laid_at w (.slice A rem.length ca) (.slice B refs.length cb) (.slice C keys.length cc) (.slice D boxes.length cd) (.bool has) 60
  have K1 := Lib.hid hk
  clear hk
  by_cases c1 : 20 < rem.length
  · have q1 : (20 : Int) < rem.length := by omega
    have RF : Hid (r = false) := Lib.hid (by rw [← R.out, decide_eq_false (show ¬ rem.length ≤ 20 by omega)]; rfl)
    go_enter Tryd.func26, Tryd.ntmps26
    go_wp2
    all_goals go_ret
    all_goals rw [RF.out]
    all_goals exact ⟨rfl, K1.out⟩
  · have q1 : ¬ (20 : Int) < rem.length := by omega
    go_enter Tryd.func26, Tryd.ntmps26
    go_wp2_with (fail)
    skip
    clear hwb hp
    refine (among_any wb refs B cb (rowK H1.out K1.out)).mono ?_
    rintro e w' ⟨rfl, hw⟩
    obtain rfl := hw.symm
    clear hw
    cases a1 : amongB refs with
    | false =>
      have RF : Hid (r = false) := Lib.hid (by rw [← R.out, a1]; simp)
      clear a1
      go_wp2
      all_goals go_ret
      all_goals rw [RF.out]
      all_goals exact ⟨rfl, K1.out⟩
    | true =>
      have A1 := Lib.hid a1
      clear a1
      go_wp2_with (fail)
      refine (among_any wb keys C cc (rowK H2.out K1.out)).mono ?_
      rintro e w' ⟨rfl, hw⟩
      obtain rfl := hw.symm
      clear hw
      cases a2 : amongB keys with
      | false =>
        have RF : Hid (r = false) := Lib.hid (by rw [← R.out, a2]; simp)
        clear a2
        go_wp2
        all_goals go_ret
        all_goals rw [RF.out]
        all_goals exact ⟨rfl, K1.out⟩
      | true =>
        have A2 := Lib.hid a2
        clear a2
        by_cases c4 : 20 < boxes.length
        · have q4 : (20 : Int) < boxes.length := by omega
          have RF : Hid (r = false) := Lib.hid (by rw [← R.out, decide_eq_false (show ¬ boxes.length ≤ 20 by omega)]; simp)
          go_wp2
          all_goals go_ret
          all_goals rw [RF.out]
          all_goals exact ⟨rfl, K1.out⟩
        · have q4 : ¬ (20 : Int) < boxes.length := by omega
          have RS : Hid (r = boxes.all amongB) := Lib.hid (by rw [← R.out, A1.out, A2.out, decide_eq_true (show rem.length ≤ 20 by omega), decide_eq_true (show boxes.length ≤ 20 by omega)]; simp)
          clear A1 A2 R
          go_wp2
          go_loopw [30] (fun iv wr => wr = wb ∧ ∃ k : Nat, k ≤ boxes.length ∧ iv = .int .i64 k ∧ (boxes.take k).all amongB = true) (fun iv _ => (boxes.length - intOf iv).toNat)
          case atStart => exact ⟨rfl, 0, Nat.zero_le _, rfl, rfl⟩
          case round =>
            obtain ⟨hw0, k, hk, rfl, hall⟩ := hrel
            obtain rfl := hw0.symm
            clear hw0
            have ALL := Lib.hid hall
            clear hall
            by_cases hlt : k < boxes.length
            · obtain ⟨l, hx⟩ : ∃ x, boxes[k]? = some x := ⟨_, List.getElem?_eq_getElem hlt⟩
              obtain ⟨g, o, E, ce, rfl, -, cx, hrow⟩ := (H3.out.kept K1.out).cell k l hx
              have HX := Lib.hid hx
              have ROW := Lib.hid hrow
              have q5 : (0 : Int) ≤ k := by omega
              have q6 : (k : Int) < boxes.length := by omega
              clear hx hrow
              go_wp2_with (fail)
              refine (among_any wb l E ce ROW.out).mono ?_
              rintro e w' ⟨rfl, hw⟩
              obtain rfl := hw.symm
              clear hw
              cases a5 : amongB l with
              | false =>
                have RF : Hid (r = false) := Lib.hid (by
                  rw [RS.out]
                  refine Bool.eq_false_iff.2 fun h => ?_
                  have := List.all_eq_true.1 h l (List.mem_of_getElem? HX.out)
                  rw [a5] at this
                  cases this)
                clear a5
                go_wp2
                all_goals go_ret
                all_goals rw [RF.out]
                all_goals exact ⟨rfl, K1.out⟩
              | true =>
                have A5 := Lib.hid a5
                clear a5
                go_wp2
                go_roundw
                case rel =>
                  refine ⟨trivial, k + 1, by omega, by go_num, ?_⟩
                  rw [List.take_add_one, HX.out]
                  simp only [Option.toList_some, List.all_append, ALL.out, A5.out, List.all_cons, List.all_nil, Bool.and_true, Bool.true_and]
                case measure => simp [intOf]; omega
            · have hk' : k = boxes.length := by omega
              subst hk'
              have RF : Hid (r = true) := Lib.hid (by
                rw [RS.out]
                have hall := ALL.out
                rw [List.take_length] at hall
                exact hall)
              go_wp2
              all_goals go_ret
              all_goals rw [RF.out]
              all_goals exact ⟨rfl, K1.out⟩
def Five (w : World) (p : Nat) (a b c d e : Value) : Prop := w.cell? ⟨p, 0, none⟩ = some a ∧ w.cell? ⟨p, 1, none⟩ = some b ∧ w.cell? ⟨p, 2, none⟩ = some c ∧ w.cell? ⟨p, 3, none⟩ = some d ∧ w.cell? ⟨p, 4, none⟩ = some e
theorem cellK {w w' : World} (h : Kept w w' (fun _ => False)) {g o : Nat} {v : Value} (hc : w.cell? ⟨g, o, none⟩ = some v) : w'.cell? ⟨g, o, none⟩ = some v := by
  have hl := World.block_lt_of_cell? _ _ hc
  have e := h.block g hl (fun h => h)
  simp only [World.cell?, e] at *
  exact hc
theorem Five.kept {w w' : World} {p : Nat} {a b c d e : Value} (h : Five w p a b c d e) (hk : Kept w w' (fun _ => False)) : Five w' p a b c d e := ⟨cellK hk h.1, cellK hk h.2.1, cellK hk h.2.2.1, cellK hk h.2.2.2.1, cellK hk h.2.2.2.2⟩
theorem laid_two {w : World} {a b c d e a' b' c' d' e' : Value} {T : TypeId} : ∃ wb p, (w.alloc (.cells #[a, b, c, d, e] T)).alloc (.cells #[a', b', c', d', e'] T) = wb ∧ w.heap.size = p ∧ Kept w wb (fun _ => False) ∧ Five wb p a b c d e ∧ Five wb (p + 1) a' b' c' d' e' := by
  have h1 := heap_alloc_new w (.cells #[a, b, c, d, e] T)
  have h2 := (Below.heap_alloc (w.alloc (.cells #[a, b, c, d, e] T)) (.cells #[a', b', c', d', e'] T) w.heap.size (by simp)).trans h1
  have h3 := heap_alloc_new (w.alloc (.cells #[a, b, c, d, e] T)) (.cells #[a', b', c', d', e'] T)
  have e1 : (w.alloc (.cells #[a, b, c, d, e] T)).heap.size = w.heap.size + 1 := by simp
  rw [e1] at h3
  exact ⟨_, _, rfl, rfl, ((Kept.refl w _).alloc _).alloc _, ⟨cellOf h2, cellOf h2, cellOf h2, cellOf h2, cellOf h2⟩, cellOf h3, cellOf h3, cellOf h3, cellOf h3, cellOf h3⟩
set_option maxHeartbeats 3200000 in
set_option maxRecDepth 100000 in
theorem same_b (w : World) (A B C D A' B' C' D' : Option Addr) (ca cb cc cd ca' cb' cc' cd' : Nat) (b c : BodyD) (h : BodyIn w A B C D b) (h' : BodyIn w A' B' C' D' c) :
    Calls Tryd.prog 30 #[bodyV A B C D ca cb cc cd b, bodyV A' B' C' D' ca' cb' cc' cd' c] w fun e w' => e = .returned (.bool (sameB b c)) ∧ Kept w w' (fun _ => False) := by
  obtain ⟨r, hr⟩ : ∃ r, sameB b c = r := ⟨_, rfl⟩
  rw [hr]
  obtain ⟨rem, refs, keys, boxes, has⟩ := b
  obtain ⟨rem', refs', keys', boxes', has'⟩ := c
  have R : Hid ((decide (rem = rem') && decide (refs = refs') && decide (has = has') && (!has || (decide (keys = keys') && decide (boxes = boxes')))) = r) := Lib.hid hr
  have H0 := Lib.hid h.rem
  have H1 := Lib.hid h.refs
  have H2 := Lib.hid h.keys
  have H3 := Lib.hid h.boxes
  have G0 := Lib.hid h'.rem
  have G1 := Lib.hid h'.refs
  have G2 := Lib.hid h'.keys
  have G3 := Lib.hid h'.boxes
  have m4 := h.boxes.max
  have m5 := h'.boxes.max
  simp only at m4 m5
  unfold maxLen at m4 m5
  clear h h' hr
  unfold bodyV
  obtain ⟨wb, p, hwb, hp, hk, ht1, ht2⟩ := laid_two (w := w) (a := .slice A rem.length ca) (b := .slice B refs.length cb) (c := .slice C keys.length cc) (d := .slice D boxes.length cd) (e := .bool has) (a' := .slice A' rem'.length ca') (b' := .slice B' refs'.length cb') (c' := .slice C' keys'.length cc') (d' := .slice D' boxes'.length cd') (e' := .bool has') (T := 60)
  have K1 := Lib.hid hk
  have T1 := Lib.hid ht1
  have T2 := Lib.hid ht2
  clear hk ht1 ht2
  obtain ⟨e0, e1, e2, e3, e4⟩ := T1.out
  obtain ⟨f0, f1, f2, f3, f4⟩ := T2.out
  go_enter Tryd.func30, Tryd.ntmps30
  go_wp2_with (fail)
  refine (ints_any wb rem rem' _ _ _ _ (rowK H0.out K1.out) (rowK G0.out K1.out)).mono ?_
  rintro e w1 ⟨rfl, hk⟩
  have K1 := Lib.hid (K1.out.trans hk (fun _ h => h.elim))
  have T1 := Lib.hid (T1.out.kept hk)
  have T2 := Lib.hid (T2.out.kept hk)
  clear hk e0 e1 e2 e3 e4 f0 f1 f2 f3 f4
  clear hwb hp
  by_cases c1 : rem = rem'
  · rw [decide_eq_true c1]
    have C1 := Lib.hid c1
    clear c1
    obtain ⟨e0, e1, e2, e3, e4⟩ := T1.out
    obtain ⟨f0, f1, f2, f3, f4⟩ := T2.out
    go_wp2_with (fail)
    refine (ints_any w1 refs refs' _ _ _ _ (rowK H1.out K1.out) (rowK G1.out K1.out)).mono ?_
    rintro e w2 ⟨rfl, hk⟩
    have K1 := Lib.hid (K1.out.trans hk (fun _ h => h.elim))
    have T1 := Lib.hid (T1.out.kept hk)
    have T2 := Lib.hid (T2.out.kept hk)
    clear hk e0 e1 e2 e3 e4 f0 f1 f2 f3 f4
    by_cases c2 : refs = refs'
    · rw [decide_eq_true c2]
      have C2 := Lib.hid c2
      clear c2
      obtain ⟨e0, e1, e2, e3, e4⟩ := T1.out
      obtain ⟨f0, f1, f2, f3, f4⟩ := T2.out
      by_cases c3 : has = has'
      · subst c3
        cases has with
        | false =>
          have RF : Hid (r = true) := Lib.hid (by rw [← R.out, decide_eq_true C1.out, decide_eq_true C2.out]; simp)
          go_wp2
          all_goals go_ret
          all_goals rw [RF.out]
          all_goals exact ⟨rfl, K1.out⟩
        | true =>
          have RS : Hid (r = (decide (keys = keys') && decide (boxes = boxes'))) := Lib.hid (by rw [← R.out, decide_eq_true C1.out, decide_eq_true C2.out]; simp)
          clear R C1 C2
          go_wp2_with (fail)
          refine (ints_any w2 keys keys' _ _ _ _ (rowK H2.out K1.out) (rowK G2.out K1.out)).mono ?_
          rintro e w3 ⟨rfl, hk⟩
          have K1 := Lib.hid (K1.out.trans hk (fun _ h => h.elim))
          have T1 := Lib.hid (T1.out.kept hk)
          have T2 := Lib.hid (T2.out.kept hk)
          clear hk e0 e1 e2 e3 e4 f0 f1 f2 f3 f4
          by_cases c4 : keys = keys'
          · rw [decide_eq_true c4]
            have RT : Hid (r = decide (boxes = boxes')) := Lib.hid (by rw [RS.out, decide_eq_true c4]; simp)
            clear RS c4
            obtain ⟨e0, e1, e2, e3, e4⟩ := T1.out
            obtain ⟨f0, f1, f2, f3, f4⟩ := T2.out
            by_cases c5 : boxes.length = boxes'.length
            · obtain ⟨n, hn⟩ : ∃ n, boxes.length = n := ⟨_, rfl⟩
              have hn' : boxes'.length = n := by rw [← c5, hn]
              clear e0 e1 e2 e3 e4 f0 f1 f2 f3 f4
              rw [hn] at T1 m4
              rw [hn'] at T2 m5
              have LL := Lib.hid hn
              have LM := Lib.hid hn'
              clear c5 hn hn'
              have q5 : ((n : Int) == n) = true := by simp
              obtain ⟨e0, e1, e2, e3, e4⟩ := T1.out
              obtain ⟨f0, f1, f2, f3, f4⟩ := T2.out
              go_wp2
              clear e0 e1 e2 e3 e4 f0 f1 f2 f3 f4
              go_loopw [49] (fun iv wr => Kept w3 wr (fun _ => False) ∧ ∃ k : Nat, k ≤ n ∧ iv = .int .i64 k ∧ boxes.take k = boxes'.take k) (fun iv _ => (n - intOf iv).toNat)
              case atStart => exact ⟨Kept.refl _ _, 0, Nat.zero_le _, rfl, rfl⟩
              case round =>
                obtain ⟨hk, k, hkn, rfl, hall⟩ := hrel
                have K2 := Lib.hid hk
                have K1 := Lib.hid (K1.out.trans hk (fun _ h => h.elim))
                have T1 := Lib.hid (T1.out.kept hk)
                have T2 := Lib.hid (T2.out.kept hk)
                have ALL := Lib.hid hall
                clear hk hall
                by_cases hlt : k < n
                · obtain ⟨l, hx⟩ : ∃ x, boxes[k]? = some x := ⟨_, List.getElem?_eq_getElem (by rw [LL.out]; exact hlt)⟩
                  obtain ⟨m, hy⟩ : ∃ x, boxes'[k]? = some x := ⟨_, List.getElem?_eq_getElem (by rw [LM.out]; exact hlt)⟩
                  obtain ⟨g, o, E, ce, rfl, -, cx, hrow⟩ := (H3.out.kept K1.out).cell k l hx
                  obtain ⟨g', o', E', ce', rfl, -, cy, hrow'⟩ := (G3.out.kept K1.out).cell k m hy
                  have HX := Lib.hid hx
                  have HY := Lib.hid hy
                  have ROW := Lib.hid hrow
                  have ROW' := Lib.hid hrow'
                  have q6 : (0 : Int) ≤ k := by omega
                  have q7 : (k : Int) < n := by omega
                  clear hx hy hrow hrow'
                  obtain ⟨e0, e1, e2, e3, e4⟩ := T1.out
                  obtain ⟨f0, f1, f2, f3, f4⟩ := T2.out
                  go_wp2_with (fail)
                  refine (ints_any wr l m _ _ _ _ ROW.out ROW'.out).mono ?_
                  rintro e w5 ⟨rfl, hk⟩
                  have K1 := Lib.hid (K1.out.trans hk (fun _ h => h.elim))
                  have K2 := Lib.hid (K2.out.trans hk (fun _ h => h.elim))
                  clear hk e0 e1 e2 e3 e4 f0 f1 f2 f3 f4 cx cy
                  by_cases c6 : l = m
                  · rw [decide_eq_true c6]
                    subst c6
                    go_wp2
                    go_roundw
                    case rel =>
                      refine ⟨K2.out, k + 1, by omega, by go_num, ?_⟩
                      rw [List.take_add_one, List.take_add_one, HX.out, HY.out, ALL.out]
                    case measure => simp [intOf]; omega
                  · rw [decide_eq_false c6]
                    have RF : Hid (r = false) := Lib.hid (by
                      rw [RT.out]
                      refine decide_eq_false (fun h => c6 ?_)
                      have hx := HX.out
                      rw [h, HY.out] at hx
                      exact (Option.some.inj hx).symm)
                    clear c6
                    go_wp2
                    all_goals go_ret
                    all_goals rw [RF.out]
                    all_goals exact ⟨rfl, K1.out⟩
                · have hk' : k = n := by omega
                  subst hk'
                  have RF : Hid (r = true) := Lib.hid (by
                    rw [RT.out]
                    have hall := ALL.out
                    rw [List.take_of_length_le (by rw [LL.out]; exact Nat.le_refl _), List.take_of_length_le (by rw [LM.out]; exact Nat.le_refl _)] at hall
                    exact decide_eq_true hall)
                  go_wp2
                  all_goals go_ret
                  all_goals rw [RF.out]
                  all_goals exact ⟨rfl, K1.out⟩
            · have q5 : ((boxes.length : Int) == boxes'.length) = false := by simp; omega
              have RF : Hid (r = false) := Lib.hid (by rw [RT.out]; exact decide_eq_false (fun h => c5 (by rw [h])))
              clear c5
              go_wp2
              all_goals go_ret
              all_goals rw [RF.out]
              all_goals exact ⟨rfl, K1.out⟩
          · rw [decide_eq_false c4]
            have RF : Hid (r = false) := Lib.hid (by rw [RS.out, decide_eq_false c4]; simp)
            clear c4
            obtain ⟨e0, e1, e2, e3, e4⟩ := T1.out
            obtain ⟨f0, f1, f2, f3, f4⟩ := T2.out
            go_wp2
            all_goals go_ret
            all_goals rw [RF.out]
            all_goals exact ⟨rfl, K1.out⟩
      · have q3 : (has == has') = false := by simpa using c3
        have RF : Hid (r = false) := Lib.hid (by rw [← R.out, decide_eq_false c3]; simp)
        clear c3
        go_wp2
        all_goals go_ret
        all_goals rw [RF.out]
        all_goals exact ⟨rfl, K1.out⟩
    · rw [decide_eq_false c2]
      have RF : Hid (r = false) := Lib.hid (by rw [← R.out, decide_eq_false c2]; simp)
      clear c2
      obtain ⟨e0, e1, e2, e3, e4⟩ := T1.out
      obtain ⟨f0, f1, f2, f3, f4⟩ := T2.out
      go_wp2
      all_goals go_ret
      all_goals rw [RF.out]
      all_goals exact ⟨rfl, K1.out⟩
  · rw [decide_eq_false c1]
    have RF : Hid (r = false) := Lib.hid (by rw [← R.out, decide_eq_false c1]; simp)
    clear c1
    obtain ⟨e0, e1, e2, e3, e4⟩ := T1.out
    obtain ⟨f0, f1, f2, f3, f4⟩ := T2.out
    go_wp2
    all_goals go_ret
    all_goals rw [RF.out]
    all_goals exact ⟨rfl, K1.out⟩
end Go.Proofs.YtaifjojfmkcmjaaDoor.Term
