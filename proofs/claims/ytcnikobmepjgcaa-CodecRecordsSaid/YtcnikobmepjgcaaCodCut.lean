/-
  CodecCut walked.
-/
import Derived.Test.YtcnikobmepjgcaaCodB
namespace Go.Proofs.Ytcnikobmepjgcaa.Codec
open Go.RowKit Go.Proofs.YtcnikobmepjgcaaBase Go.Proofs.YtcnikobmepjgcaaLex2 Go.Proofs.YtcnikobmepjgcaaNum
set_option linter.unusedVariables false
set_option linter.unusedSimpArgs false

def cN (m : Int) : Cod (List Int) := listC numC (bnd m)
theorem cN_good (m : Int) : Good (cN m) (okL okN (bnd m)) (bsL bsN) := listC_good numC_good (bnd_le m)
theorem cN_fair (m : Int) : Fair (cN m) := listC_fair numC_fair _
theorem cN_cost (m : Int) (l : List Int) : (cN m).cost l = 8 + 8 * l.length := by
  have : costs numC l = 8 * l.length := by
    induction l with
    | nil => rfl
    | cons x l ih => simp only [costs, List.map_cons, List.sum_cons, List.length_cons] at ih ⊢; rw [ih]; simp only [numC]; omega
  simp only [cN, listC, this]

theorem cut_out (A : Option Addr) (n c : Nat) (at_ : Int) (w : World) (hn : n ≤ maxLen) (h : 500 < n ∨ at_ < 0) : Calls Try.prog 5 #[.slice A n c, .int .i64 at_] w fun e w' => e = .returned (.bool true) ∧ Below w.heap.size w w' := by
  unfold maxLen at hn
  have HH := Lib.hid h
  clear h
  go_enter Try.func5, Try.ntmps5
  go_wp2_with (fail)
  refine (anchor_any _).mono ?_
  rintro e w1 ⟨rfl, hk⟩
  have K1 := Lib.hid hk
  clear hk
  by_cases h1 : 500 < n
  · have q : (500 : Int) < n := by omega
    go_wp2
    go_ret
    exact ⟨rfl, K1.out.nil_below⟩
  · have q : ¬ (500 : Int) < n := by omega
    have h2 := HH.out.resolve_left h1
    go_wp2
    go_ret
    exact ⟨rfl, K1.out.nil_below⟩

set_option maxHeartbeats 3200000 in
set_option maxRecDepth 100000 in
theorem cut_no (l : List Int) (A : Option Addr) (c : Nat) (at_ : Int) (w : World) (hr : RowIn w A l.length (l.map (Value.int .i64))) (hn : l.length ≤ 500) (ha : 0 ≤ at_) (hok : ¬ okL okN (bnd 500) l) : Calls Try.prog 5 #[.slice A l.length c, .int .i64 at_] w fun e w' => e = .returned (.bool true) ∧ Below w.heap.size w w' := by
  have q1 : ¬ (500 : Int) < l.length := by omega
  have q2 : ¬ at_ < 0 := by omega
  have EN := Lib.hid (enc_no (cN_good 500) hok)
  have HR := Lib.hid hr
  have HN := Lib.hid hn
  clear hr hok ha hn
  go_enter Try.func5, Try.ntmps5
  go_wp2_with (fail)
  refine (anchor_any _).mono ?_
  rintro e w1 ⟨rfl, hk⟩
  have K1 := Lib.hid hk
  clear hk
  go_wp2_with (fail)
  refine (number_any _).mono ?_
  rintro e w2 ⟨cv2, rfl, hc, hk⟩
  have HC2 := Lib.hid hc
  have K2 := Lib.hid (K1.out.nil_trans hk)
  clear hc hk
  go_wp2_with (fail)
  refine (listof_int numC numC_fair numC_one cv2 500 w2 HC2.out).mono ?_
  rintro e w4 ⟨cv4, rfl, hc, hk⟩
  obtain ⟨pf, pc, gf, gc, rfl⟩ := hc.parts
  have HC4 : Hid (IsCodec w4 (.agg #[.func (.func pf) #[] pc, .func (.func gf) #[] gc]) (cN 500)) := Lib.hid hc
  have K4 := Lib.hid (K2.out.nil_trans hk)
  clear hc hk
  obtain ⟨p, hp⟩ : ∃ p, w4.heap.size = p := ⟨_, rfl⟩
  obtain ⟨w5, hw5⟩ : ∃ w5, w4.alloc (.cells #[.func (.func pf) #[] pc, .func (.func gf) #[] gc] 40) = w5 := ⟨_, rfl⟩
  have HB : Hid (CB w5 p pf pc gf gc) := by rw [← hw5, ← hp]; exact Lib.hid (CB.of (heap_alloc_new w4 _))
  have kc : Hid (Kept w4 w5 (fun _ => False)) := by rw [← hw5]; exact Lib.hid ((Kept.refl w4 _).alloc _)
  have hpl : p < w5.heap.size := by rw [← hw5, ← hp]; simp
  have HW5 := Lib.hid hw5
  have HP := Lib.hid hp
  clear hw5 hp
  go_wp2_with (fail)
  rw [HW5.out, HP.out]
  obtain ⟨d0, d1⟩ := HB.out
  refine wp_region_lex (fun w' => CB w' p pf pc gf gc) [3, 2, 0, 2, 4, 0, 0, 0, 0, 0] (by kernel_rfl) (by kernel_rfl) (by kernel_rfl) (HB.out) (fun Q' hQ' => ?_)
  simp only [List.zip_cons_cons, List.zip_nil_right]
  unfold CB
  repeat (first
    | (refine wpX_silent ?_ (fun K hK => ?_)
       · rfl
       apply Exists.intro
       refine ⟨fun w' => ?_, ?_⟩
       · go_simp
         exact ⟨rfl, rfl⟩
       go_simp
       refine hK _ _ ?_
       clear hK K)
    | (refine wpX_read ?_ (fun K hK => ?_)
       · rfl
       apply Exists.intro
       refine ⟨?_, ?_⟩
       · go_simp
         exact ⟨rfl, rfl⟩
       go_simp
       refine hK _ _ ?_
       clear hK K)
    | (refine wpX_float ?_ (fun K hK => ?_)
       · rfl
       apply Exists.intro
       refine ⟨fun w' hw' => ?_, ?_⟩
       · try dsimp only at hw'
         go_simp
         exact ⟨rfl, rfl⟩
       go_simp
       refine hK _ _ ?_
       clear hK K)
    | (refine wpX_not ?_ (fun K hK => ?_)
       · rfl
       go_simp
       refine hK _ _ ?_
       clear hK K))
  refine wpX_keeps ?_ (fun K hK => ?_)
  · rfl
  go_wp2
  repeat (first
    | (refine wpX_silent ?_ (fun K hK => ?_)
       · rfl
       apply Exists.intro
       refine ⟨fun w' => ?_, ?_⟩
       · go_simp
         exact ⟨rfl, rfl⟩
       go_simp
       refine hK _ _ ?_
       clear hK K)
    | (refine wpX_read ?_ (fun K hK => ?_)
       · rfl
       apply Exists.intro
       refine ⟨?_, ?_⟩
       · go_simp
         exact ⟨rfl, rfl⟩
       go_simp
       refine hK _ _ ?_
       clear hK K)
    | (refine wpX_float ?_ (fun K hK => ?_)
       · rfl
       apply Exists.intro
       refine ⟨fun w' hw' => ?_, ?_⟩
       · try dsimp only at hw'
         go_simp
         exact ⟨rfl, rfl⟩
       go_simp
       refine hK _ _ ?_
       clear hK K)
    | (refine wpX_not ?_ (fun K hK => ?_)
       · rfl
       go_simp
       refine hK _ _ ?_
       clear hK K))
  refine wpX_keeps ?_ (fun K hK => ?_)
  · rfl
  have hm := HN.out
  have ho := own_empty w5.drew w5.heap.size 3 (Nat.le_refl _)
  have hs := src_row (c := c) (((HR.out.kept K4.out).kept kc.out).kept (((Kept.refl w5 (fun _ => False)).drew).alloc (.cells #[] 3))) (t := 22) elem_int.under (ints_one l)
  refine wp_append_ownS _ (.tmp 26) (.tmp 27) 22 22 rfl w5.heap.size 3 (.int .i64 0) 1 8 elem_int (.slice (some ⟨w5.heap.size, 0, none⟩) 0 0) 0 [] rfl ho (.slice A l.length c) l.length (l.map (Value.int .i64)) rfl hs (by omega) (by simp) (fun v' w6 o1 g1 b1 => ?_)
  have K6 := Lib.hid (Kept.grown ((((Kept.refl w5 (fun _ => False)).drew).alloc (.cells #[] 3))) g1 (fun k hk => .inr (Nat.le_of_eq (Option.some.inj hk))))
  simp only [Nat.zero_add, List.nil_append] at o1
  obtain ⟨A6, c6, rfl, _, r6⟩ := row_own o1
  have R6 := Lib.hid r6
  have CB6 := Lib.hid (HB.out.kept K6.out hpl)
  clear ho hs o1 g1 b1 hm r6
  go_simp
  refine hK _ _ ⟨rfl, CB6.out, ?_⟩
  clear hK K
  refine wpX_heavy rfl (fun K hK => ?_)
  go_wp2_with (fail)
  refine (encode_ints w4 _ (cN 500) l _ w6 HC4.out (cN_fair 500) (kc.out.same.trans K6.out.same) (rep_of_row (fun G w x => rfl) R6.out) (by have h1 := HN.out; unfold WRoom; rw [cN_cost]; simp only [List.length_nil]; omega)).mono ?_
  rw [EN.out]
  rintro e w7 ⟨rfl, hk⟩
  have K7 := Lib.hid (K6.out.nil_trans hk)
  clear hk
  go_simp
  refine hK _ _ ⟨rfl, ?_⟩
  clear hK K
  repeat (first
    | (refine wpX_silent ?_ (fun K hK => ?_)
       · rfl
       apply Exists.intro
       refine ⟨fun w' => ?_, ?_⟩
       · go_simp
         exact ⟨rfl, rfl⟩
       go_simp
       refine hK _ _ ?_
       clear hK K)
    | (refine wpX_read ?_ (fun K hK => ?_)
       · rfl
       apply Exists.intro
       refine ⟨?_, ?_⟩
       · go_simp
         exact ⟨rfl, rfl⟩
       go_simp
       refine hK _ _ ?_
       clear hK K)
    | (refine wpX_float ?_ (fun K hK => ?_)
       · rfl
       apply Exists.intro
       refine ⟨fun w' hw' => ?_, ?_⟩
       · try dsimp only at hw'
         go_simp
         exact ⟨rfl, rfl⟩
       go_simp
       refine hK _ _ ?_
       clear hK K)
    | (refine wpX_not ?_ (fun K hK => ?_)
       · rfl
       go_simp
       refine hK _ _ ?_
       clear hK K))
  refine wpX_nil (hQ' _ _ ?_)
  go_wp2
  go_ret
  exact ⟨rfl, (((K4.out.nil_trans kc.out).nil_trans K7.out)).nil_below⟩

theorem bsN_len (l : List Int) : (bsL bsN l).length ≤ 8 + 8 * l.length := by
  have h1 := encN_le l.length
  have h2 : ∀ l : List Int, (l.flatMap bsN).length ≤ 8 * l.length := by
    intro l
    induction l with
    | nil => simp
    | cons x l ih =>
      have := encN_le x.toNat
      simp only [List.flatMap_cons, List.length_append, List.length_cons, bsN] at ih ⊢
      omega
  have := h2 l
  simp only [bsL, List.length_append]
  omega

set_option maxHeartbeats 3200000 in
set_option maxRecDepth 100000 in
theorem cut_in (l : List Int) (A : Option Addr) (c : Nat) (a : Nat) (w : World) (hr : RowIn w A l.length (l.map (Value.int .i64))) (hn : l.length ≤ 500) (hok : okL okN (bnd 500) l) : Calls Try.prog 5 #[.slice A l.length c, .int .i64 a] w fun e w' => e = .returned (.bool true) ∧ Below w.heap.size w w' := by
  have q1 : ¬ (500 : Int) < l.length := by omega
  have g := cN_good 500
  obtain ⟨s, hs⟩ : ∃ s : ByteArray, ⟨(bsL bsN l).toArray⟩ = s := ⟨_, rfl⟩
  have hsd : s.data.toList = bsL bsN l := by rw [← hs]
  have hsl := bsN_len l
  rw [← hsd, len_data] at hsl
  have hpos : 1 ≤ s.size := by
    have h1 := List.length_pos_iff.2 (g.pos l hok)
    rw [← hsd, len_data] at h1
    exact h1
  have EN := Lib.hid (enc_ok g hok)
  rw [hs] at EN
  obtain ⟨k, hk⟩ : ∃ k, a % s.size = k := ⟨_, rfl⟩
  have hks : k < s.size := by rw [← hk]; exact Nat.mod_lt _ hpos
  have ECUT := Lib.hid (dec_cut (d := s.extract 0 k) g hok (by rw [← hsd, ByteArray.data_extract]; simp [List.take_prefix]) (by rw [← hsd, ByteArray.data_extract]; simp only [Array.toList_extract, List.extract_eq_take_drop, List.length_take, List.length_drop]; rw [len_data]; omega))
  have EDEC := Lib.hid (dec_ok (d := s) g hok hsd)
  have D1 := Lib.hid (show DSize s by unfold DSize; omega)
  have D2 := Lib.hid (show DSize (s.extract 0 k) by unfold DSize; rw [ByteArray.size_extract]; omega)
  have QM := Lib.hid (show (a : Int) % (s.size : Int) = (k : Int) by rw [← hk]; rfl)
  have QN := Lib.hid (show (a : Int).tmod (s.size : Int) = (k : Int) by rw [← hk]; rfl)
  obtain ⟨x, hx⟩ : ∃ x : Int, (a : Int) = x := ⟨_, rfl⟩
  have q2 : ¬ x < 0 := by omega
  rw [hx] at QM QN ⊢
  have KS := Lib.hid hks
  have HPOS := Lib.hid hpos
  have HR := Lib.hid hr
  have HN := Lib.hid hn
  clear hr hok hn hs hsd hsl hpos hk hks hx g
  go_enter Try.func5, Try.ntmps5
  go_wp2_with (fail)
  refine (anchor_any _).mono ?_
  rintro e w1 ⟨rfl, hk⟩
  have K1 := Lib.hid hk
  clear hk
  go_wp2_with (fail)
  refine (number_any _).mono ?_
  rintro e w2 ⟨cv2, rfl, hc, hk⟩
  have HC2 := Lib.hid hc
  have K2 := Lib.hid (K1.out.nil_trans hk)
  clear hc hk
  go_wp2_with (fail)
  refine (listof_int numC numC_fair numC_one cv2 500 w2 HC2.out).mono ?_
  rintro e w4 ⟨cv4, rfl, hc, hk⟩
  obtain ⟨pf, pc, gf, gc, rfl⟩ := hc.parts
  have HC4 : Hid (IsCodec w4 (.agg #[.func (.func pf) #[] pc, .func (.func gf) #[] gc]) (cN 500)) := Lib.hid hc
  have K4 := Lib.hid (K2.out.nil_trans hk)
  clear hc hk
  obtain ⟨p, hp⟩ : ∃ p, w4.heap.size = p := ⟨_, rfl⟩
  obtain ⟨w5, hw5⟩ : ∃ w5, w4.alloc (.cells #[.func (.func pf) #[] pc, .func (.func gf) #[] gc] 40) = w5 := ⟨_, rfl⟩
  have HB : Hid (CB w5 p pf pc gf gc) := by rw [← hw5, ← hp]; exact Lib.hid (CB.of (heap_alloc_new w4 _))
  have kc : Hid (Kept w4 w5 (fun _ => False)) := by rw [← hw5]; exact Lib.hid ((Kept.refl w4 _).alloc _)
  have hpl : p < w5.heap.size := by rw [← hw5, ← hp]; simp
  have HW5 := Lib.hid hw5
  have HP := Lib.hid hp
  clear hw5 hp
  go_wp2_with (fail)
  rw [HW5.out, HP.out]
  obtain ⟨d0, d1⟩ := HB.out
  refine wp_region_lex (fun w' => CB w' p pf pc gf gc) [3, 2, 0, 2, 4, 0, 0, 0, 0, 0] (by kernel_rfl) (by kernel_rfl) (by kernel_rfl) (HB.out) (fun Q' hQ' => ?_)
  simp only [List.zip_cons_cons, List.zip_nil_right]
  unfold CB
  repeat (first
    | (refine wpX_silent ?_ (fun K hK => ?_)
       · rfl
       apply Exists.intro
       refine ⟨fun w' => ?_, ?_⟩
       · go_simp
         exact ⟨rfl, rfl⟩
       go_simp
       refine hK _ _ ?_
       clear hK K)
    | (refine wpX_read ?_ (fun K hK => ?_)
       · rfl
       apply Exists.intro
       refine ⟨?_, ?_⟩
       · go_simp
         exact ⟨rfl, rfl⟩
       go_simp
       refine hK _ _ ?_
       clear hK K)
    | (refine wpX_float ?_ (fun K hK => ?_)
       · rfl
       apply Exists.intro
       refine ⟨fun w' hw' => ?_, ?_⟩
       · try dsimp only at hw'
         go_simp
         exact ⟨rfl, rfl⟩
       go_simp
       refine hK _ _ ?_
       clear hK K)
    | (refine wpX_not ?_ (fun K hK => ?_)
       · rfl
       go_simp
       refine hK _ _ ?_
       clear hK K))
  refine wpX_keeps ?_ (fun K hK => ?_)
  · rfl
  go_wp2
  repeat (first
    | (refine wpX_silent ?_ (fun K hK => ?_)
       · rfl
       apply Exists.intro
       refine ⟨fun w' => ?_, ?_⟩
       · go_simp
         exact ⟨rfl, rfl⟩
       go_simp
       refine hK _ _ ?_
       clear hK K)
    | (refine wpX_read ?_ (fun K hK => ?_)
       · rfl
       apply Exists.intro
       refine ⟨?_, ?_⟩
       · go_simp
         exact ⟨rfl, rfl⟩
       go_simp
       refine hK _ _ ?_
       clear hK K)
    | (refine wpX_float ?_ (fun K hK => ?_)
       · rfl
       apply Exists.intro
       refine ⟨fun w' hw' => ?_, ?_⟩
       · try dsimp only at hw'
         go_simp
         exact ⟨rfl, rfl⟩
       go_simp
       refine hK _ _ ?_
       clear hK K)
    | (refine wpX_not ?_ (fun K hK => ?_)
       · rfl
       go_simp
       refine hK _ _ ?_
       clear hK K))
  refine wpX_keeps ?_ (fun K hK => ?_)
  · rfl
  have hm := HN.out
  have ho := own_empty w5.drew w5.heap.size 3 (Nat.le_refl _)
  have hs := src_row (c := c) (((HR.out.kept K4.out).kept kc.out).kept (((Kept.refl w5 (fun _ => False)).drew).alloc (.cells #[] 3))) (t := 22) elem_int.under (ints_one l)
  refine wp_append_ownS _ (.tmp 26) (.tmp 27) 22 22 rfl w5.heap.size 3 (.int .i64 0) 1 8 elem_int (.slice (some ⟨w5.heap.size, 0, none⟩) 0 0) 0 [] rfl ho (.slice A l.length c) l.length (l.map (Value.int .i64)) rfl hs (by omega) (by simp) (fun v' w6 o1 g1 b1 => ?_)
  have K6 := Lib.hid (Kept.grown ((((Kept.refl w5 (fun _ => False)).drew).alloc (.cells #[] 3))) g1 (fun k hk => .inr (Nat.le_of_eq (Option.some.inj hk))))
  simp only [Nat.zero_add, List.nil_append] at o1
  obtain ⟨A6, c6, rfl, _, r6⟩ := row_own o1
  have R6 := Lib.hid r6
  have CB6 := Lib.hid (HB.out.kept K6.out hpl)
  clear ho hs o1 g1 b1 hm r6
  go_simp
  refine hK _ _ ⟨rfl, CB6.out, ?_⟩
  clear hK K
  refine wpX_heavy rfl (fun K hK => ?_)
  go_wp2_with (fail)
  refine (encode_ints w4 _ (cN 500) l _ w6 HC4.out (cN_fair 500) (kc.out.same.trans K6.out.same) (rep_of_row (fun G w x => rfl) R6.out) (by have h1 := HN.out; unfold WRoom; rw [cN_cost]; simp only [List.length_nil]; omega)).mono ?_
  rw [EN.out]
  rintro e w7 ⟨rfl, hk⟩
  have K7 := Lib.hid (K6.out.nil_trans hk)
  clear hk
  go_simp
  refine hK _ _ ⟨rfl, ?_⟩
  clear hK K
  repeat (first
    | (refine wpX_silent ?_ (fun K hK => ?_)
       · rfl
       apply Exists.intro
       refine ⟨fun w' => ?_, ?_⟩
       · go_simp
         exact ⟨rfl, rfl⟩
       go_simp
       refine hK _ _ ?_
       clear hK K)
    | (refine wpX_read ?_ (fun K hK => ?_)
       · rfl
       apply Exists.intro
       refine ⟨?_, ?_⟩
       · go_simp
         exact ⟨rfl, rfl⟩
       go_simp
       refine hK _ _ ?_
       clear hK K)
    | (refine wpX_float ?_ (fun K hK => ?_)
       · rfl
       apply Exists.intro
       refine ⟨fun w' hw' => ?_, ?_⟩
       · try dsimp only at hw'
         go_simp
         exact ⟨rfl, rfl⟩
       go_simp
       refine hK _ _ ?_
       clear hK K)
    | (refine wpX_not ?_ (fun K hK => ?_)
       · rfl
       go_simp
       refine hK _ _ ?_
       clear hK K))
  refine wpX_nil (hQ' _ _ ?_)
  have z1 : (1 : Int) ≤ s.size := by have := HPOS.out; omega
  have z2 : ((s.size : Int) == 0) = false := beq_eq_false_iff_ne.2 (by omega)
  have z3 : ¬ (s.size : Int) = 0 := by omega
  have qm := QM.out
  have qn := QN.out
  go_wp2
  have z4 : (k : Int) ≤ s.size := by have := KS.out; omega
  have z5 : (0 : Int) ≤ k := by omega
  clear z1 z2 z3 qm qn d0 d1
  obtain ⟨d0, d1⟩ := HB.out.kept K7.out hpl
  refine wp_region_lex (fun _ => True) [1, 0, 0, 0, 4, 0, 0, 0, 0, 0] (by kernel_rfl) (by kernel_rfl) (by kernel_rfl) (trivial) (fun Q' hQ' => ?_)
  simp only [List.zip_cons_cons, List.zip_nil_right]
  repeat (first
    | (refine wpX_silent ?_ (fun K hK => ?_)
       · rfl
       apply Exists.intro
       refine ⟨fun w' => ?_, ?_⟩
       · go_simp
         exact ⟨rfl, rfl⟩
       go_simp
       refine hK _ _ ?_
       clear hK K)
    | (refine wpX_read ?_ (fun K hK => ?_)
       · rfl
       apply Exists.intro
       refine ⟨?_, ?_⟩
       · go_simp
         exact ⟨rfl, rfl⟩
       go_simp
       refine hK _ _ ?_
       clear hK K)
    | (refine wpX_float ?_ (fun K hK => ?_)
       · rfl
       apply Exists.intro
       refine ⟨fun w' hw' => ?_, ?_⟩
       · try dsimp only at hw'
         go_simp
         exact ⟨rfl, rfl⟩
       go_simp
       refine hK _ _ ?_
       clear hK K)
    | (refine wpX_not ?_ (fun K hK => ?_)
       · rfl
       go_simp
       refine hK _ _ ?_
       clear hK K))
  refine wpX_heavy rfl (fun K hK => ?_)
  go_wp2_with (fail)
  refine (decode_ints w4 _ (cN 500) _ w7.drew HC4.out (cN_fair 500) (kc.out.same.trans K7.out.same) D2.out).mono ?_
  rw [ECUT.out]
  rintro e w8 ⟨hk, h⟩
  have K8 := Lib.hid (K7.out.drew.nil_trans hk)
  obtain rfl := (h.resolve_right fun h => absurd h.1 (by decide)).2
  clear hk h
  go_simp
  refine hK _ _ ⟨rfl, ?_⟩
  clear hK K
  repeat (first
    | (refine wpX_silent ?_ (fun K hK => ?_)
       · rfl
       apply Exists.intro
       refine ⟨fun w' => ?_, ?_⟩
       · go_simp
         exact ⟨rfl, rfl⟩
       go_simp
       refine hK _ _ ?_
       clear hK K)
    | (refine wpX_read ?_ (fun K hK => ?_)
       · rfl
       apply Exists.intro
       refine ⟨?_, ?_⟩
       · go_simp
         exact ⟨rfl, rfl⟩
       go_simp
       refine hK _ _ ?_
       clear hK K)
    | (refine wpX_float ?_ (fun K hK => ?_)
       · rfl
       apply Exists.intro
       refine ⟨fun w' hw' => ?_, ?_⟩
       · try dsimp only at hw'
         go_simp
         exact ⟨rfl, rfl⟩
       go_simp
       refine hK _ _ ?_
       clear hK K)
    | (refine wpX_not ?_ (fun K hK => ?_)
       · rfl
       go_simp
       refine hK _ _ ?_
       clear hK K))
  refine wpX_nil (hQ' _ _ ?_)
  clear d0 d1
  obtain ⟨d0, d1⟩ := HB.out.kept K8.out hpl
  go_wp2_with (fail)
  refine (decode_ints w4 _ (cN 500) _ w8 HC4.out (cN_fair 500) (kc.out.same.trans K8.out.same) D1.out).mono ?_
  rw [EDEC.out.1, EDEC.out.2]
  rintro e w9 ⟨hk, h⟩
  have K9 := Lib.hid (K8.out.nil_trans hk)
  obtain ⟨v, rfl, hv⟩ := (h.resolve_left fun h => h.1 rfl).2
  obtain ⟨A9, c9, rfl, hr9⟩ := row_of_rep (fun G w x u => num_rep) hv
  have R9 := Lib.hid hr9
  clear hk h hv hr9 d0 d1
  go_wp2_with (fail)
  refine (ints_eq l A9 A c9 c _ R9.out (((HR.out.kept K4.out).kept kc.out).kept K9.out)).mono ?_
  rintro e w10 ⟨rfl, hk⟩
  have K10 := Lib.hid (K9.out.nil_trans hk)
  clear hk
  go_wp2
  go_ret
  exact ⟨rfl, (((K4.out.nil_trans kc.out).nil_trans K10.out)).nil_below⟩

theorem cut_any (A : Option Addr) (n c : Nat) (at_ : Int) (l : List Int) (w : World) (hr : RowIn w A n (l.map (Value.int .i64))) (hx : -9223372036854775808 ≤ at_ ∧ at_ ≤ 9223372036854775807) : Calls Try.prog 5 #[.slice A n c, .int .i64 at_] w fun e w' => e = .returned (.bool true) ∧ Below w.heap.size w w' := by
  have hl : n = l.length := by have := hr.len; simpa using this
  subst hl
  by_cases h : 500 < l.length ∨ at_ < 0
  · exact cut_out A l.length c at_ w hr.max h
  by_cases hok : okL okN (bnd 500) l
  · obtain ⟨a, rfl⟩ : ∃ a : Nat, at_ = a := ⟨at_.toNat, by omega⟩
    exact cut_in l A c a w hr (by omega) hok
  · exact cut_no l A c at_ w hr (by omega) (by omega) hok
end Go.Proofs.Ytcnikobmepjgcaa.Codec
