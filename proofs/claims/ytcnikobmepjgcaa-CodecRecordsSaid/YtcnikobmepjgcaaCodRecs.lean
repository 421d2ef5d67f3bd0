/-
  CodecRecords walked.
-/
import Derived.Test.YtcnikobmepjgcaaCodRec
import Derived.Test.YtcnikobmepjgcaaCodCut
import Derived.Test.YtcnikobmepjgcaaLex3
namespace Go.Proofs.Ytcnikobmepjgcaa.Codec
open Go.RowKit Go.Proofs.YtcnikobmepjgcaaBase Go.Proofs.YtcnikobmepjgcaaLex2 Go.Proofs.YtcnikobmepjgcaaNum
set_option linter.unusedVariables false
set_option linter.unusedSimpArgs false

/-- The statement's record. -/
structure Thg where
  a : Int
  s : ByteArray
  l : List Int
  f : Bool
def tA : GPrt Thg := ⟨oneP numC 0 Thg.a (fun y x => { x with a := y }), okN, bsN, numC_good⟩
def tS : GPrt Thg := ⟨oneP (textC (bnd 100)) 1 Thg.s (fun y x => { x with s := y }), okT (bnd 100), bsT, textC_good (bnd_le 100)⟩
def tL : GPrt Thg := ⟨oneP (cN 100) 2 Thg.l (fun y x => { x with l := y }), okL okN (bnd 100), bsL bsN, cN_good 100⟩
def tF : GPrt Thg := ⟨oneP flagC 3 Thg.f (fun y x => { x with f := y }), fun _ => True, bsF, flagC_good⟩
def gT : List (GPrt Thg) := [tA, tS, tL, tF]
def zT : Thg := ⟨0, ⟨#[]⟩, [], false⟩
def cR : Cod Thg := recC 4 (prts gT) zT
theorem gT_fair : ∀ p ∈ prts gT, PFair 4 p := by
  intro p hp
  simp only [prts, gT, List.map_cons, List.map_nil, List.mem_cons, List.not_mem_nil, or_false] at hp
  rcases hp with rfl | rfl | rfl | rfl
  · exact oneP_fair numC_fair numC_one (by decide) (fun _ _ => rfl)
  · exact oneP_fair (textC_fair _) (textC_one _) (by decide) (fun _ _ => rfl)
  · exact oneP_fair (cN_fair _) (listC_one _ _) (by decide) (fun _ _ => rfl)
  · exact oneP_fair flagC_fair flagC_one (by decide) (fun _ _ => rfl)
theorem gT_off : (prts gT).Pairwise (fun p p' => Off 4 p p') := by
  simp only [prts, gT, List.map_cons, List.map_nil, List.pairwise_cons, List.mem_cons, List.not_mem_nil, or_false, List.Pairwise.nil, and_true]
  refine ⟨?_, ?_, ?_, fun _ h => h.elim⟩
  · rintro p (rfl | rfl | rfl) <;> exact oneP_off (by decide) (fun _ _ => rfl)
  · rintro p (rfl | rfl) <;> exact oneP_off (by decide) (fun _ _ => rfl)
  · rintro p rfl; exact oneP_off (by decide) (fun _ _ => rfl)
theorem gT_apart : Apart gT := by
  refine ⟨?_, ?_⟩
  · intro g hg
    simp only [gT, List.mem_cons, List.not_mem_nil, or_false] at hg
    rcases hg with rfl | rfl | rfl | rfl <;> exact fun _ _ => rfl
  · simp only [gT, List.pairwise_cons, List.mem_cons, List.not_mem_nil, or_false, List.Pairwise.nil, and_true]
    refine ⟨?_, ?_, ?_, fun _ h => h.elim⟩
    · rintro p (rfl | rfl | rfl) <;> exact fun _ _ => rfl
    · rintro p (rfl | rfl) <;> exact fun _ _ => rfl
    · rintro p rfl; exact fun _ _ => rfl
theorem cR_good : Good cR (okR gT) (bsR gT) := recC_good gT_apart (by simp [gT]) (fun x y h => by
  have h1 := h tA (by simp [gT])
  have h2 := h tS (by simp [gT])
  have h3 := h tL (by simp [gT])
  have h4 := h tF (by simp [gT])
  cases x; cases y
  simp only [tA, tS, tL, tF, oneP] at h1 h2 h3 h4
  subst h1 h2 h3 h4
  rfl)
theorem okR_iff (x : Thg) : okR gT x ↔ okN x.a ∧ okT (bnd 100) x.s ∧ okL okN (bnd 100) x.l := by
  unfold okR gT
  constructor
  · intro h
    exact ⟨h tA (by simp), h tS (by simp), h tL (by simp)⟩
  · rintro ⟨h1, h2, h3⟩ g hg
    simp only [List.mem_cons, List.not_mem_nil, or_false] at hg
    rcases hg with rfl | rfl | rfl | rfl
    · exact h1
    · exact h2
    · exact h3
    · trivial
theorem bsR_eq (x : Thg) : bsR gT x = bsN x.a ++ bsT x.s ++ bsL bsN x.l ++ bsF x.f := by
  simp [bsR, gT, tA, tS, tL, tF, oneP]
theorem cR_cost (x : Thg) : cR.cost x = 32 + x.s.size + 8 * x.l.length := by
  have h := cN_cost 100 x.l
  show 8 + (8 + x.s.size + ((cN 100).cost x.l + (8 + 0))) = _
  rw [h]
  omega
/-- The cells of the record that came in. -/
def XB (w : World) (p : Nat) (x : Thg) (A : Option Addr) (n c : Nat) : Prop := w.cell? ⟨p, 0, none⟩ = some (.int .i64 x.a) ∧ w.cell? ⟨p, 1, none⟩ = some (.string x.s) ∧ w.cell? ⟨p, 2, none⟩ = some (.slice A n c) ∧ w.cell? ⟨p, 3, none⟩ = some (.bool x.f)
theorem XB.kept {w w' : World} {p : Nat} {x : Thg} {A : Option Addr} {n c : Nat} (h : XB w p x A n c) (hp : p < w.heap.size) (hk : Kept w w' (fun _ => False)) : XB w' p x A n c := by
  have e := hk.block p hp (fun h => h)
  exact ⟨(cell_same e).trans h.1, (cell_same e).trans h.2.1, (cell_same e).trans h.2.2.1, (cell_same e).trans h.2.2.2⟩
set_option maxRecDepth 100000 in
theorem rep_thg {w : World} {x : Thg} {A : Option Addr} {n c : Nat} {B : Nat} (hr : RowIn w A n (x.l.map (Value.int .i64))) (hB : w.heap.size ≤ B) : cR.rep (fun k => k < B) w x (.agg #[.int .i64 x.a, .string x.s, .slice A n c, .bool x.f]) := by
  refine ⟨_, rfl, rfl, by simp [Value.oneCell'], ?_⟩
  intro p hp
  simp only [prts, gT, List.map_cons, List.map_nil, List.mem_cons, List.not_mem_nil, or_false] at hp
  rcases hp with rfl | rfl | rfl | rfl
  · rfl
  · rfl
  · exact (cN_fair 100).mono (fun k hk => Nat.lt_of_lt_of_le hk hB) (rep_of_row (c := numC) (fun G w x => rfl) hr)
  · rfl

set_option maxRecDepth 100000 in
theorem rec_out (x : Thg) (A : Option Addr) (n c : Nat) (at_ : Int) (w : World) (hn : n ≤ maxLen) (hs : x.s.size ≤ 9223372036854775807) (h : 200 < n ∨ 200 < x.s.size ∨ at_ < 0) :
    Calls Try.prog 11 #[.agg #[.int .i64 x.a, .string x.s, .slice A n c, .bool x.f], .int .i64 at_] w fun e w' => e = .returned (.bool true) ∧ Below w.heap.size w w' := by
  unfold maxLen at hn
  have HH := Lib.hid h
  clear h
  go_enter Try.func11, Try.ntmps11
  go_wp2_with (fail)
  have K0 := Lib.hid ((Kept.refl w (fun _ => False)).alloc (.cells #[.int .i64 x.a, .string x.s, .slice A n c, .bool x.f] 103))
  have B0 := heap_alloc_new w (.cells #[.int .i64 x.a, .string x.s, .slice A n c, .bool x.f] 103)
  refine (anchor_any _).mono ?_
  rintro e w1 ⟨rfl, hk⟩
  have K1 := Lib.hid (K0.out.nil_trans hk)
  have B1 := hk.blk B0 (fun h => h)
  have b1 := cellOf (j := 1) B1
  have b2 := cellOf (j := 2) B1
  simp at b1 b2
  clear hk B0 B1
  by_cases h1 : 200 < n
  · have q : (200 : Int) < n := by omega
    go_wp2
    go_ret
    exact ⟨rfl, K1.out.nil_below⟩
  · have q : ¬ (200 : Int) < n := by omega
    by_cases h2 : 200 < x.s.size
    · have q2 : (200 : Int) < x.s.size := by omega
      go_wp2
      go_ret
      exact ⟨rfl, K1.out.nil_below⟩
    · have q2 : ¬ (200 : Int) < x.s.size := by omega
      have h3 := (HH.out.resolve_left h1).resolve_left h2
      go_wp2
      go_ret
      exact ⟨rfl, K1.out.nil_below⟩

theorem rep_get {G : Nat → Prop} {w : World} {y : Thg} {v : Value} (h : cR.rep G w y v) : ∃ A c, v = .agg #[.int .i64 y.a, .string y.s, .slice A y.l.length c, .bool y.f] ∧ RowIn w A y.l.length (y.l.map (Value.int .i64)) := by
  obtain ⟨cs, rfl, hs, ha, h⟩ := h
  have h1 := h tA.p (by simp [prts, gT])
  have h2 := h tS.p (by simp [prts, gT])
  have h3 := h tL.p (by simp [prts, gT])
  have h4 := h tF.p (by simp [prts, gT])
  have e1 : cs.getD 0 undef = .int .i64 y.a := h1
  have e2 : cs.getD 1 undef = .string y.s := h2
  have e4 : cs.getD 3 undef = .bool y.f := h4
  obtain ⟨A, c, e3, hr⟩ := row_of_rep (fun G w x u => num_rep) (show RowRep numC G w y.l (cs.getD 2 undef) from h3)
  refine ⟨A, c, ?_, hr⟩
  congr 1
  apply Array.ext
  · simp [hs]
  · intro k hk1 hk2
    have : k = 0 ∨ k = 1 ∨ k = 2 ∨ k = 3 := by simp [hs] at hk1; omega
    rcases this with rfl | rfl | rfl | rfl
    · simpa [Array.getD, hs] using e1
    · simpa [Array.getD, hs] using e2
    · simpa [Array.getD, hs] using e3
    · simpa [Array.getD, hs] using e4
theorem decR (W : World) (cv : Value) (d : ByteArray) (w : World) (hc : IsCodec W cv cR) (hs : Same W w) (hd : DSize d) :
    Calls Try.prog 52 #[cv, .string d] w fun r w' => Kept w w' (fun _ => False) ∧ ((decE cR d ≠ 0 ∧ r = .returned (.tuple #[.agg #[.int .i64 0, .string ⟨#[]⟩, .slice none 0 0, .bool false], .int .i64 (decE cR d)])) ∨
      (decE cR d = 0 ∧ ∃ A c, r = .returned (.tuple #[.agg #[.int .i64 (cR.get ⟨d.data.toList, 0⟩).1.a, .string (cR.get ⟨d.data.toList, 0⟩).1.s, .slice A (cR.get ⟨d.data.toList, 0⟩).1.l.length c, .bool (cR.get ⟨d.data.toList, 0⟩).1.f], .int .i64 0]) ∧ RowIn w' A (cR.get ⟨d.data.toList, 0⟩).1.l.length ((cR.get ⟨d.data.toList, 0⟩).1.l.map (Value.int .i64)))) := by
  refine (decode_thing W cv (prts gT) zT d w hc (fun p hp => (gT_fair p hp).fair) hs hd).mono ?_
  rintro r w' ⟨hk, h⟩
  refine ⟨hk, ?_⟩
  rcases h with h | ⟨h1, v, rfl, h2⟩
  · exact .inl h
  · obtain ⟨A, c, rfl, hr⟩ := rep_get h2
    exact .inr ⟨h1, A, c, rfl, hr⟩
set_option maxHeartbeats 3200000 in
set_option maxRecDepth 100000 in
theorem rec_no_a (x : Thg) (A : Option Addr) (c : Nat) (at_ : Int) (w : World) (eb ed : Int)
  (hr : RowIn w A x.l.length (x.l.map (Value.int .i64))) (hn : x.l.length ≤ 200) (hs : x.s.size ≤ 200) (ha : 0 ≤ at_) (sr sa sb sd sk : ByteArray) (ER : Hid (encR cR x = (⟨#[]⟩, 22))) (EA : Hid (encR numC x.a = (sa, 22))) (EB : Hid (encR (textC (bnd 100)) x.s = (sb, eb))) (ED : Hid (encR (cN 100) x.l = (sd, ed))) (EK : Hid (encR flagC x.f = (sk, 0)))
    : Calls Try.prog 11 #[.agg #[.int .i64 x.a, .string x.s, .slice A x.l.length c, .bool x.f], .int .i64 at_] w fun e w' => e = .returned (.bool true) ∧ Below w.heap.size w w' := by
  have q1 : ¬ (200 : Int) < x.l.length := by omega
  have q2 : ¬ (200 : Int) < x.s.size := by omega
  have q3 : ¬ at_ < 0 := by omega
  have HR := Lib.hid hr
  have HN := Lib.hid hn
  have HS := Lib.hid hs
  clear hr hn hs ha
  go_enter Try.func11, Try.ntmps11
  go_wp2_with (fail)
  have K0 := Lib.hid ((Kept.refl w (fun _ => False)).alloc (.cells #[.int .i64 x.a, .string x.s, .slice A x.l.length c, .bool x.f] 103))
  have B0 := heap_alloc_new w (.cells #[.int .i64 x.a, .string x.s, .slice A x.l.length c, .bool x.f] 103)
  refine (anchor_any _).mono ?_
  rintro e w1 ⟨rfl, hk⟩
  have K1 := Lib.hid (K0.out.nil_trans hk)
  have B1 := hk.blk B0 (fun h => h)
  obtain ⟨p, hp⟩ : ∃ p, w.heap.size = p := ⟨_, rfl⟩
  rw [hp] at B1 ⊢
  have PL := Lib.hid (blk_lt B1)
  have X1 : Hid (XB w1 p x A x.l.length c) := Lib.hid ⟨cellOf (j := 0) B1, cellOf (j := 1) B1, cellOf (j := 2) B1, cellOf (j := 3) B1⟩
  have HB1 := Lib.hid B1
  have R1 := Lib.hid (HR.out.kept K1.out)
  obtain ⟨b0, b1, b2, b3⟩ := X1.out
  clear hk B0 B1 hp
  go_wp2_with (fail)
  clear b0 b1 b2 b3
  refine (number_any _).mono ?_
  rintro e w2 ⟨cv2, rfl, hc, hk⟩
  have C2 := Lib.hid hc
  have K2 := Lib.hid hk
  clear hc hk
  go_wp2_with (fail)
  refine (field_int_thing numC numC_fair numC_one 0 4 (by decide) Thg.a (fun y x => { x with a := y }) _ cv2 w2 C2.out getter_0).mono ?_
  rintro e w3 ⟨v3, rfl, hp, hk⟩
  obtain ⟨pa3, pb3, rfl, hpp, hpg⟩ := hp
  have P3 : Hid (PPut w3 103 4 pa3 tA.p ∧ PGet w3 103 4 pb3 tA.p) := Lib.hid ⟨hpp, hpg⟩
  have K3 := Lib.hid (K2.out.nil_trans hk)
  clear hpp hpg hk
  go_wp2_with (fail)
  refine (text_any 100 w3).mono ?_
  rintro e w4 ⟨cv4, rfl, hc, hk⟩
  have C4 := Lib.hid hc
  have K4 := Lib.hid hk
  clear hc hk
  go_wp2_with (fail)
  refine (field_str_thing (textC (bnd 100)) (textC_fair _) (textC_one _) 1 4 (by decide) Thg.s (fun y x => { x with s := y }) _ cv4 w4 C4.out getter_1).mono ?_
  rintro e w5 ⟨v5, rfl, hp, hk⟩
  obtain ⟨pa5, pb5, rfl, hpp, hpg⟩ := hp
  have P5 : Hid (PPut w5 103 4 pa5 tS.p ∧ PGet w5 103 4 pb5 tS.p) := Lib.hid ⟨hpp, hpg⟩
  have K5 := Lib.hid (K4.out.nil_trans hk)
  clear hpp hpg hk
  go_wp2_with (fail)
  refine (number_any _).mono ?_
  rintro e w6 ⟨cv6, rfl, hc, hk⟩
  have C6 := Lib.hid hc
  have K6 := Lib.hid hk
  clear hc hk
  go_wp2_with (fail)
  refine (listof_int numC numC_fair numC_one cv6 100 w6 C6.out).mono ?_
  rintro e w7 ⟨cv7, rfl, hc, hk⟩
  have C7 : Hid (IsCodec w7 cv7 (cN 100)) := Lib.hid hc
  have K7 := Lib.hid (K6.out.nil_trans hk)
  clear hc hk
  go_wp2_with (fail)
  refine (field_ints_thing (cN 100) (cN_fair _) (listC_one _ _) 2 4 (by decide) Thg.l (fun y x => { x with l := y }) _ cv7 w7 C7.out getter_2).mono ?_
  rintro e w8 ⟨v8, rfl, hp, hk⟩
  obtain ⟨pa8, pb8, rfl, hpp, hpg⟩ := hp
  have P8 : Hid (PPut w8 103 4 pa8 tL.p ∧ PGet w8 103 4 pb8 tL.p) := Lib.hid ⟨hpp, hpg⟩
  have K8 := Lib.hid (K7.out.nil_trans hk)
  clear hpp hpg hk
  go_wp2_with (fail)
  refine (flag_any _).mono ?_
  rintro e w9 ⟨cv9, rfl, hc, hk⟩
  have C9 := Lib.hid hc
  have K9 := Lib.hid hk
  clear hc hk
  go_wp2_with (fail)
  refine (field_bool_thing flagC flagC_fair flagC_one 3 4 (by decide) Thg.f (fun y x => { x with f := y }) _ cv9 w9 C9.out getter_3).mono ?_
  rintro e w10 ⟨v10, rfl, hp, hk⟩
  obtain ⟨pa10, pb10, rfl, hpp, hpg⟩ := hp
  have P10 : Hid (PPut w10 103 4 pa10 tF.p ∧ PGet w10 103 4 pb10 tF.p) := Lib.hid ⟨hpp, hpg⟩
  have K10 := Lib.hid (K9.out.nil_trans hk)
  clear hpp hpg hk
  go_wp2_with (fail)
  have k11 := (Kept.refl w10 (fun _ => False)).alloc (.cells #[pa3, pb3, pa5, pb5, pa8, pb8, pa10, pb10] 112)
  have b11 := heap_alloc_new w10 (.cells #[pa3, pb3, pa5, pb5, pa8, pb8, pa10, pb10] 112)
  obtain ⟨w11, hw11⟩ : ∃ w11, w10.alloc (.cells #[pa3, pb3, pa5, pb5, pa8, pb8, pa10, pb10] 112) = w11 := ⟨_, rfl⟩
  rw [hw11] at k11 b11 ⊢
  have K11 := Lib.hid k11
  have PA : Hid (PartsAt w11 103 4 w10.heap.size (prts gT)) := Lib.hid (by
    refine ⟨blk_lt b11, ?_⟩
    intro k q hq
    match k, hq with
    | 0, hq =>
      simp only [prts, gT, List.map_cons, List.map_nil, List.getElem?_cons_zero, Option.some.injEq] at hq
      subst hq
      exact ⟨_, _, cellOf (j := 0) b11, cellOf (j := 1) b11, P3.out.1.later (((K5.out.nil_trans K8.out).nil_trans K10.out).nil_trans k11).same, P3.out.2.later (((K5.out.nil_trans K8.out).nil_trans K10.out).nil_trans k11).same⟩
    | 1, hq =>
      simp only [prts, gT, List.map_cons, List.map_nil, List.getElem?_cons_zero, List.getElem?_cons_succ, Option.some.injEq] at hq
      subst hq
      exact ⟨_, _, cellOf (j := 2) b11, cellOf (j := 3) b11, P5.out.1.later ((K8.out.nil_trans K10.out).nil_trans k11).same, P5.out.2.later ((K8.out.nil_trans K10.out).nil_trans k11).same⟩
    | 2, hq =>
      simp only [prts, gT, List.map_cons, List.map_nil, List.getElem?_cons_zero, List.getElem?_cons_succ, Option.some.injEq] at hq
      subst hq
      exact ⟨_, _, cellOf (j := 4) b11, cellOf (j := 5) b11, P8.out.1.later (K10.out.nil_trans k11).same, P8.out.2.later (K10.out.nil_trans k11).same⟩
    | 3, hq =>
      simp only [prts, gT, List.map_cons, List.map_nil, List.getElem?_cons_zero, List.getElem?_cons_succ, Option.some.injEq] at hq
      subst hq
      exact ⟨_, _, cellOf (j := 6) b11, cellOf (j := 7) b11, P10.out.1.later k11.same, P10.out.2.later k11.same⟩
    | k + 4, hq => simp [prts, gT] at hq)
  have RT := Lib.hid (record_thing (prts gT) gT_fair gT_off zT w10.heap.size w11 (by decide) PA.out)
  have K11' := Lib.hid ((((K3.out.nil_trans K5.out).nil_trans K8.out).nil_trans K10.out).nil_trans K11.out)
  clear k11 b11 hw11
  refine RT.out.mono ?_
  rintro e w12 ⟨cv12, rfl, hc, hk⟩
  obtain ⟨pf, pc, gf, gc, rfl⟩ := hc.parts
  have C12 : Hid (IsCodec w12 (.agg #[.func (.func pf) #[] pc, .func (.func gf) #[] gc]) cR) := Lib.hid hc
  have K12 := Lib.hid (K11'.out.nil_trans hk)
  clear hc hk
  have hb13 := heap_alloc_new w12 (.cells #[.func (.func pf) #[] pc, .func (.func gf) #[] gc] 107)
  have kc := (Kept.refl w12 (fun _ => False)).alloc (.cells #[.func (.func pf) #[] pc, .func (.func gf) #[] gc] 107)
  obtain ⟨w13, hw13⟩ : ∃ w13, w12.alloc (.cells #[.func (.func pf) #[] pc, .func (.func gf) #[] gc] 107) = w13 := ⟨_, rfl⟩
  obtain ⟨cp, hcp⟩ : ∃ cp, w12.heap.size = cp := ⟨_, rfl⟩
  rw [hw13, hcp] at hb13
  rw [hw13] at kc
  have CBL := Lib.hid (blk_lt hb13)
  have HB := Lib.hid (CB.of hb13)
  have KC := Lib.hid kc
  have K13 := Lib.hid (K12.out.nil_trans kc)
  have PL13 := Lib.hid (Nat.lt_of_lt_of_le PL.out K13.out.size)
  have X13 := Lib.hid (X1.out.kept PL.out K13.out)
  have HW13 := Lib.hid hw13
  have HCP := Lib.hid hcp
  have pl12 := Nat.lt_of_lt_of_le PL.out K12.out.size
  obtain ⟨b0, b1, b2, b3⟩ := X1.out.kept PL.out K12.out
  clear hb13 kc hw13 hcp
  go_wp2_with (fail)
  clear b0 b1 b2 b3 pl12
  rw [HW13.out, HCP.out]
  have FR : Hid (Fair cR) := Lib.hid (recC_fair (fun p hp => (gT_fair p hp).fair) zT)
  refine (encode_thing w12 _ cR x _ w13 C12.out FR.out KC.out.same rfl (rep_thg (HR.out.kept (K1.out.nil_trans K13.out)) (Nat.le_refl _)) (by have h1 := HN.out; have h2 := HS.out; unfold WRoom; rw [cR_cost]; simp only [List.length_nil]; omega)).mono ?_
  rw [ER.out]
  rintro e w14 ⟨rfl, hk⟩
  have K14 := Lib.hid hk
  have R13 := Lib.hid (R1.out.kept K13.out)
  clear hk
  go_wp2_with (fail)
  have XC := Lib.hid ((X13.out.kept PL13.out K14.out))
  refine wp_region_lex (fun w' => w'.cell? ⟨p, 0, none⟩ = some (.int .i64 x.a)) [2, 0, 3, 4, 0, 0, 0, 0, 0] (by kernel_rfl) (by kernel_rfl) (by kernel_rfl) (XC.out.1) (fun Q' hQ' => ?_)
  simp only [List.zip_cons_cons, List.zip_nil_right]
  refine wpX_keeps ?_ (fun K hK => ?_)
  · rfl
  go_wp2_with (fail)
  refine (number_any _).mono ?_
  rintro e w15 ⟨cva7, rfl, hc, hk⟩
  have CA7 := Lib.hid hc
  have KA7 := Lib.hid (K14.out.drew.nil_trans hk)
  have XD := Lib.hid (X13.out.kept PL13.out KA7.out)
  clear hc hk
  go_simp
  refine hK _ _ ⟨rfl, XD.out.1, ?_⟩
  clear hK K
  repeat (first
    | (refine wpX_silent ?_ (fun K hK => ?_)
       · rfl
       apply Exists.intro
       refine ⟨fun w' => ?_, ?_⟩
       · go_simp
         exact ⟨rfl, rfl⟩
       go_simp
       refine hK _ _ ?_
       clear hK K)
    | (refine wpX_read ?_ (fun K hK => ?_)
       · rfl
       apply Exists.intro
       refine ⟨?_, ?_⟩
       · go_simp
         exact ⟨rfl, rfl⟩
       go_simp
       refine hK _ _ ?_
       clear hK K)
    | (refine wpX_float ?_ (fun K hK => ?_)
       · rfl
       apply Exists.intro
       refine ⟨fun w' hw' => ?_, ?_⟩
       · try dsimp only at hw'
         go_simp
         exact ⟨rfl, rfl⟩
       go_simp
       refine hK _ _ ?_
       clear hK K)
    | (refine wpX_not ?_ (fun K hK => ?_)
       · rfl
       go_simp
       refine hK _ _ ?_
       clear hK K))
  refine wpX_heavy rfl (fun K hK => ?_)
  go_wp2_with (fail)
  refine (encode_int _ _ numC x.a _ w15 CA7.out numC_fair (Same.refl _) rfl (by unfold WRoom; show (0 : Nat) + 8 ≤ 200000000000000; omega)).mono ?_
  rw [EA.out]
  rintro e w16 ⟨rfl, hk⟩
  have K16 := Lib.hid (KA7.out.nil_trans hk)
  clear hk XC XD
  go_simp
  refine hK _ _ ⟨rfl, ?_⟩
  clear hK K
  repeat (first
    | (refine wpX_silent ?_ (fun K hK => ?_)
       · rfl
       apply Exists.intro
       refine ⟨fun w' => ?_, ?_⟩
       · go_simp
         exact ⟨rfl, rfl⟩
       go_simp
       refine hK _ _ ?_
       clear hK K)
    | (refine wpX_read ?_ (fun K hK => ?_)
       · rfl
       apply Exists.intro
       refine ⟨?_, ?_⟩
       · go_simp
         exact ⟨rfl, rfl⟩
       go_simp
       refine hK _ _ ?_
       clear hK K)
    | (refine wpX_float ?_ (fun K hK => ?_)
       · rfl
       apply Exists.intro
       refine ⟨fun w' hw' => ?_, ?_⟩
       · try dsimp only at hw'
         go_simp
         exact ⟨rfl, rfl⟩
       go_simp
       refine hK _ _ ?_
       clear hK K)
    | (refine wpX_not ?_ (fun K hK => ?_)
       · rfl
       go_simp
       refine hK _ _ ?_
       clear hK K))
  refine wpX_nil (hQ' _ _ ?_)
  go_wp2_with (fail)
  have XC := Lib.hid ((X13.out.kept PL13.out K16.out))
  refine wp_region_lex (fun w' => w'.cell? ⟨p, 1, none⟩ = some (.string x.s)) [2, 0, 3, 4, 0, 0, 0, 0, 0] (by kernel_rfl) (by kernel_rfl) (by kernel_rfl) (XC.out.2.1) (fun Q' hQ' => ?_)
  simp only [List.zip_cons_cons, List.zip_nil_right]
  refine wpX_keeps ?_ (fun K hK => ?_)
  · rfl
  go_wp2_with (fail)
  refine (text_any 100 _).mono ?_
  rintro e w17 ⟨cva8, rfl, hc, hk⟩
  have CA8 := Lib.hid hc
  have KA8 := Lib.hid (K16.out.drew.nil_trans hk)
  have XD := Lib.hid (X13.out.kept PL13.out KA8.out)
  clear hc hk
  go_simp
  refine hK _ _ ⟨rfl, XD.out.2.1, ?_⟩
  clear hK K
  repeat (first
    | (refine wpX_silent ?_ (fun K hK => ?_)
       · rfl
       apply Exists.intro
       refine ⟨fun w' => ?_, ?_⟩
       · go_simp
         exact ⟨rfl, rfl⟩
       go_simp
       refine hK _ _ ?_
       clear hK K)
    | (refine wpX_read ?_ (fun K hK => ?_)
       · rfl
       apply Exists.intro
       refine ⟨?_, ?_⟩
       · go_simp
         exact ⟨rfl, rfl⟩
       go_simp
       refine hK _ _ ?_
       clear hK K)
    | (refine wpX_float ?_ (fun K hK => ?_)
       · rfl
       apply Exists.intro
       refine ⟨fun w' hw' => ?_, ?_⟩
       · try dsimp only at hw'
         go_simp
         exact ⟨rfl, rfl⟩
       go_simp
       refine hK _ _ ?_
       clear hK K)
    | (refine wpX_not ?_ (fun K hK => ?_)
       · rfl
       go_simp
       refine hK _ _ ?_
       clear hK K))
  refine wpX_heavy rfl (fun K hK => ?_)
  go_wp2_with (fail)
  refine (encode_str _ _ (textC (bnd 100)) x.s _ w17 CA8.out (textC_fair _) (Same.refl _) rfl (by have h2 := HS.out; unfold WRoom; simp only [textC, List.length_nil]; omega)).mono ?_
  rw [EB.out]
  rintro e w18 ⟨rfl, hk⟩
  have K18 := Lib.hid (KA8.out.nil_trans hk)
  clear hk XC XD
  go_simp
  refine hK _ _ ⟨rfl, ?_⟩
  clear hK K
  repeat (first
    | (refine wpX_silent ?_ (fun K hK => ?_)
       · rfl
       apply Exists.intro
       refine ⟨fun w' => ?_, ?_⟩
       · go_simp
         exact ⟨rfl, rfl⟩
       go_simp
       refine hK _ _ ?_
       clear hK K)
    | (refine wpX_read ?_ (fun K hK => ?_)
       · rfl
       apply Exists.intro
       refine ⟨?_, ?_⟩
       · go_simp
         exact ⟨rfl, rfl⟩
       go_simp
       refine hK _ _ ?_
       clear hK K)
    | (refine wpX_float ?_ (fun K hK => ?_)
       · rfl
       apply Exists.intro
       refine ⟨fun w' hw' => ?_, ?_⟩
       · try dsimp only at hw'
         go_simp
         exact ⟨rfl, rfl⟩
       go_simp
       refine hK _ _ ?_
       clear hK K)
    | (refine wpX_not ?_ (fun K hK => ?_)
       · rfl
       go_simp
       refine hK _ _ ?_
       clear hK K))
  refine wpX_nil (hQ' _ _ ?_)
  go_wp2_with (fail)
  have XC := Lib.hid ((X13.out.kept PL13.out K18.out))
  refine wp_region_lex (fun w' => w'.cell? ⟨p, 2, none⟩ = some (.slice A x.l.length c)) [2, 2, 0, 3, 4, 0, 0, 0, 0, 0] (by kernel_rfl) (by kernel_rfl) (by kernel_rfl) (XC.out.2.2.1) (fun Q' hQ' => ?_)
  simp only [List.zip_cons_cons, List.zip_nil_right]
  refine wpX_keeps ?_ (fun K hK => ?_)
  · rfl
  go_wp2_with (fail)
  refine (number_any _).mono ?_
  rintro e w19 ⟨cva9, rfl, hc, hk⟩
  have CA9 := Lib.hid hc
  have KA9 := Lib.hid (K18.out.drew.nil_trans hk)
  have XD := Lib.hid (X13.out.kept PL13.out KA9.out)
  clear hc hk
  go_simp
  refine hK _ _ ⟨rfl, XD.out.2.2.1, ?_⟩
  clear hK K
  refine wpX_keeps ?_ (fun K hK => ?_)
  · rfl
  go_wp2_with (fail)
  refine (listof_int numC numC_fair numC_one cva9 100 w19 CA9.out).mono ?_
  rintro e w20 ⟨cv20, rfl, hc, hk⟩
  have C20 : Hid (IsCodec w20 cv20 (cN 100)) := Lib.hid hc
  have K20 := Lib.hid (KA9.out.nil_trans hk)
  have XD2 := Lib.hid (X13.out.kept PL13.out K20.out)
  clear hc hk
  go_simp
  refine hK _ _ ⟨rfl, XD2.out.2.2.1, ?_⟩
  clear hK K XD2
  repeat (first
    | (refine wpX_silent ?_ (fun K hK => ?_)
       · rfl
       apply Exists.intro
       refine ⟨fun w' => ?_, ?_⟩
       · go_simp
         exact ⟨rfl, rfl⟩
       go_simp
       refine hK _ _ ?_
       clear hK K)
    | (refine wpX_read ?_ (fun K hK => ?_)
       · rfl
       apply Exists.intro
       refine ⟨?_, ?_⟩
       · go_simp
         exact ⟨rfl, rfl⟩
       go_simp
       refine hK _ _ ?_
       clear hK K)
    | (refine wpX_float ?_ (fun K hK => ?_)
       · rfl
       apply Exists.intro
       refine ⟨fun w' hw' => ?_, ?_⟩
       · try dsimp only at hw'
         go_simp
         exact ⟨rfl, rfl⟩
       go_simp
       refine hK _ _ ?_
       clear hK K)
    | (refine wpX_not ?_ (fun K hK => ?_)
       · rfl
       go_simp
       refine hK _ _ ?_
       clear hK K))
  refine wpX_heavy rfl (fun K hK => ?_)
  go_wp2_with (fail)
  refine (encode_ints _ _ (cN 100) x.l _ w20 C20.out (cN_fair _) (Same.refl _) (rep_of_row (c := numC) (fun G w x => rfl) (R13.out.kept K20.out)) (by have h1 := HN.out; unfold WRoom; rw [cN_cost]; simp only [List.length_nil]; omega)).mono ?_
  rw [ED.out]
  rintro e w21 ⟨rfl, hk⟩
  have K21 := Lib.hid (K20.out.nil_trans hk)
  clear hk XC XD
  go_simp
  refine hK _ _ ⟨rfl, ?_⟩
  clear hK K
  repeat (first
    | (refine wpX_silent ?_ (fun K hK => ?_)
       · rfl
       apply Exists.intro
       refine ⟨fun w' => ?_, ?_⟩
       · go_simp
         exact ⟨rfl, rfl⟩
       go_simp
       refine hK _ _ ?_
       clear hK K)
    | (refine wpX_read ?_ (fun K hK => ?_)
       · rfl
       apply Exists.intro
       refine ⟨?_, ?_⟩
       · go_simp
         exact ⟨rfl, rfl⟩
       go_simp
       refine hK _ _ ?_
       clear hK K)
    | (refine wpX_float ?_ (fun K hK => ?_)
       · rfl
       apply Exists.intro
       refine ⟨fun w' hw' => ?_, ?_⟩
       · try dsimp only at hw'
         go_simp
         exact ⟨rfl, rfl⟩
       go_simp
       refine hK _ _ ?_
       clear hK K)
    | (refine wpX_not ?_ (fun K hK => ?_)
       · rfl
       go_simp
       refine hK _ _ ?_
       clear hK K))
  refine wpX_nil (hQ' _ _ ?_)
  go_wp2_with (fail)
  have XC := Lib.hid ((X13.out.kept PL13.out K21.out))
  refine wp_region_lex (fun w' => w'.cell? ⟨p, 3, none⟩ = some (.bool x.f)) [2, 0, 3, 4, 0, 0, 0, 0, 0] (by kernel_rfl) (by kernel_rfl) (by kernel_rfl) (XC.out.2.2.2) (fun Q' hQ' => ?_)
  simp only [List.zip_cons_cons, List.zip_nil_right]
  refine wpX_keeps ?_ (fun K hK => ?_)
  · rfl
  go_wp2_with (fail)
  refine (flag_any _).mono ?_
  rintro e w22 ⟨cva10, rfl, hc, hk⟩
  have CA10 := Lib.hid hc
  have KA10 := Lib.hid (K21.out.drew.nil_trans hk)
  have XD := Lib.hid (X13.out.kept PL13.out KA10.out)
  clear hc hk
  go_simp
  refine hK _ _ ⟨rfl, XD.out.2.2.2, ?_⟩
  clear hK K
  repeat (first
    | (refine wpX_silent ?_ (fun K hK => ?_)
       · rfl
       apply Exists.intro
       refine ⟨fun w' => ?_, ?_⟩
       · go_simp
         exact ⟨rfl, rfl⟩
       go_simp
       refine hK _ _ ?_
       clear hK K)
    | (refine wpX_read ?_ (fun K hK => ?_)
       · rfl
       apply Exists.intro
       refine ⟨?_, ?_⟩
       · go_simp
         exact ⟨rfl, rfl⟩
       go_simp
       refine hK _ _ ?_
       clear hK K)
    | (refine wpX_float ?_ (fun K hK => ?_)
       · rfl
       apply Exists.intro
       refine ⟨fun w' hw' => ?_, ?_⟩
       · try dsimp only at hw'
         go_simp
         exact ⟨rfl, rfl⟩
       go_simp
       refine hK _ _ ?_
       clear hK K)
    | (refine wpX_not ?_ (fun K hK => ?_)
       · rfl
       go_simp
       refine hK _ _ ?_
       clear hK K))
  refine wpX_heavy rfl (fun K hK => ?_)
  go_wp2_with (fail)
  refine (encode_bool _ _ flagC x.f _ w22 CA10.out flagC_fair (Same.refl _) rfl (by unfold WRoom; show (0 : Nat) + 8 ≤ 200000000000000; omega)).mono ?_
  rw [EK.out]
  rintro e w23 ⟨rfl, hk⟩
  have K23 := Lib.hid (KA10.out.nil_trans hk)
  clear hk XC XD
  go_simp
  refine hK _ _ ⟨rfl, ?_⟩
  clear hK K
  repeat (first
    | (refine wpX_silent ?_ (fun K hK => ?_)
       · rfl
       apply Exists.intro
       refine ⟨fun w' => ?_, ?_⟩
       · go_simp
         exact ⟨rfl, rfl⟩
       go_simp
       refine hK _ _ ?_
       clear hK K)
    | (refine wpX_read ?_ (fun K hK => ?_)
       · rfl
       apply Exists.intro
       refine ⟨?_, ?_⟩
       · go_simp
         exact ⟨rfl, rfl⟩
       go_simp
       refine hK _ _ ?_
       clear hK K)
    | (refine wpX_float ?_ (fun K hK => ?_)
       · rfl
       apply Exists.intro
       refine ⟨fun w' hw' => ?_, ?_⟩
       · try dsimp only at hw'
         go_simp
         exact ⟨rfl, rfl⟩
       go_simp
       refine hK _ _ ?_
       clear hK K)
    | (refine wpX_not ?_ (fun K hK => ?_)
       · rfl
       go_simp
       refine hK _ _ ?_
       clear hK K))
  refine wpX_nil (hQ' _ _ ?_)
  go_wp2
  go_ret
  exact ⟨rfl, ((K1.out.nil_trans K13.out).nil_trans K23.out).nil_below⟩

set_option maxHeartbeats 3200000 in
set_option maxRecDepth 100000 in
theorem rec_no_b (x : Thg) (A : Option Addr) (c : Nat) (at_ : Int) (w : World) (eb ed : Int)
  (hr : RowIn w A x.l.length (x.l.map (Value.int .i64))) (hn : x.l.length ≤ 200) (hs : x.s.size ≤ 200) (ha : 0 ≤ at_) (sr sa sb sd sk : ByteArray) (ER : Hid (encR cR x = (⟨#[]⟩, 22))) (EA : Hid (encR numC x.a = (sa, 0))) (EB : Hid (encR (textC (bnd 100)) x.s = (sb, 22))) (ED : Hid (encR (cN 100) x.l = (sd, ed))) (EK : Hid (encR flagC x.f = (sk, 0)))
    : Calls Try.prog 11 #[.agg #[.int .i64 x.a, .string x.s, .slice A x.l.length c, .bool x.f], .int .i64 at_] w fun e w' => e = .returned (.bool true) ∧ Below w.heap.size w w' := by
  have q1 : ¬ (200 : Int) < x.l.length := by omega
  have q2 : ¬ (200 : Int) < x.s.size := by omega
  have q3 : ¬ at_ < 0 := by omega
  have HR := Lib.hid hr
  have HN := Lib.hid hn
  have HS := Lib.hid hs
  clear hr hn hs ha
  go_enter Try.func11, Try.ntmps11
  go_wp2_with (fail)
  have K0 := Lib.hid ((Kept.refl w (fun _ => False)).alloc (.cells #[.int .i64 x.a, .string x.s, .slice A x.l.length c, .bool x.f] 103))
  have B0 := heap_alloc_new w (.cells #[.int .i64 x.a, .string x.s, .slice A x.l.length c, .bool x.f] 103)
  refine (anchor_any _).mono ?_
  rintro e w1 ⟨rfl, hk⟩
  have K1 := Lib.hid (K0.out.nil_trans hk)
  have B1 := hk.blk B0 (fun h => h)
  obtain ⟨p, hp⟩ : ∃ p, w.heap.size = p := ⟨_, rfl⟩
  rw [hp] at B1 ⊢
  have PL := Lib.hid (blk_lt B1)
  have X1 : Hid (XB w1 p x A x.l.length c) := Lib.hid ⟨cellOf (j := 0) B1, cellOf (j := 1) B1, cellOf (j := 2) B1, cellOf (j := 3) B1⟩
  have HB1 := Lib.hid B1
  have R1 := Lib.hid (HR.out.kept K1.out)
  obtain ⟨b0, b1, b2, b3⟩ := X1.out
  clear hk B0 B1 hp
  go_wp2_with (fail)
  clear b0 b1 b2 b3
  refine (number_any _).mono ?_
  rintro e w2 ⟨cv2, rfl, hc, hk⟩
  have C2 := Lib.hid hc
  have K2 := Lib.hid hk
  clear hc hk
  go_wp2_with (fail)
  refine (field_int_thing numC numC_fair numC_one 0 4 (by decide) Thg.a (fun y x => { x with a := y }) _ cv2 w2 C2.out getter_0).mono ?_
  rintro e w3 ⟨v3, rfl, hp, hk⟩
  obtain ⟨pa3, pb3, rfl, hpp, hpg⟩ := hp
  have P3 : Hid (PPut w3 103 4 pa3 tA.p ∧ PGet w3 103 4 pb3 tA.p) := Lib.hid ⟨hpp, hpg⟩
  have K3 := Lib.hid (K2.out.nil_trans hk)
  clear hpp hpg hk
  go_wp2_with (fail)
  refine (text_any 100 w3).mono ?_
  rintro e w4 ⟨cv4, rfl, hc, hk⟩
  have C4 := Lib.hid hc
  have K4 := Lib.hid hk
  clear hc hk
  go_wp2_with (fail)
  refine (field_str_thing (textC (bnd 100)) (textC_fair _) (textC_one _) 1 4 (by decide) Thg.s (fun y x => { x with s := y }) _ cv4 w4 C4.out getter_1).mono ?_
  rintro e w5 ⟨v5, rfl, hp, hk⟩
  obtain ⟨pa5, pb5, rfl, hpp, hpg⟩ := hp
  have P5 : Hid (PPut w5 103 4 pa5 tS.p ∧ PGet w5 103 4 pb5 tS.p) := Lib.hid ⟨hpp, hpg⟩
  have K5 := Lib.hid (K4.out.nil_trans hk)
  clear hpp hpg hk
  go_wp2_with (fail)
  refine (number_any _).mono ?_
  rintro e w6 ⟨cv6, rfl, hc, hk⟩
  have C6 := Lib.hid hc
  have K6 := Lib.hid hk
  clear hc hk
  go_wp2_with (fail)
  refine (listof_int numC numC_fair numC_one cv6 100 w6 C6.out).mono ?_
  rintro e w7 ⟨cv7, rfl, hc, hk⟩
  have C7 : Hid (IsCodec w7 cv7 (cN 100)) := Lib.hid hc
  have K7 := Lib.hid (K6.out.nil_trans hk)
  clear hc hk
  go_wp2_with (fail)
  refine (field_ints_thing (cN 100) (cN_fair _) (listC_one _ _) 2 4 (by decide) Thg.l (fun y x => { x with l := y }) _ cv7 w7 C7.out getter_2).mono ?_
  rintro e w8 ⟨v8, rfl, hp, hk⟩
  obtain ⟨pa8, pb8, rfl, hpp, hpg⟩ := hp
  have P8 : Hid (PPut w8 103 4 pa8 tL.p ∧ PGet w8 103 4 pb8 tL.p) := Lib.hid ⟨hpp, hpg⟩
  have K8 := Lib.hid (K7.out.nil_trans hk)
  clear hpp hpg hk
  go_wp2_with (fail)
  refine (flag_any _).mono ?_
  rintro e w9 ⟨cv9, rfl, hc, hk⟩
  have C9 := Lib.hid hc
  have K9 := Lib.hid hk
  clear hc hk
  go_wp2_with (fail)
  refine (field_bool_thing flagC flagC_fair flagC_one 3 4 (by decide) Thg.f (fun y x => { x with f := y }) _ cv9 w9 C9.out getter_3).mono ?_
  rintro e w10 ⟨v10, rfl, hp, hk⟩
  obtain ⟨pa10, pb10, rfl, hpp, hpg⟩ := hp
  have P10 : Hid (PPut w10 103 4 pa10 tF.p ∧ PGet w10 103 4 pb10 tF.p) := Lib.hid ⟨hpp, hpg⟩
  have K10 := Lib.hid (K9.out.nil_trans hk)
  clear hpp hpg hk
  go_wp2_with (fail)
  have k11 := (Kept.refl w10 (fun _ => False)).alloc (.cells #[pa3, pb3, pa5, pb5, pa8, pb8, pa10, pb10] 112)
  have b11 := heap_alloc_new w10 (.cells #[pa3, pb3, pa5, pb5, pa8, pb8, pa10, pb10] 112)
  obtain ⟨w11, hw11⟩ : ∃ w11, w10.alloc (.cells #[pa3, pb3, pa5, pb5, pa8, pb8, pa10, pb10] 112) = w11 := ⟨_, rfl⟩
  rw [hw11] at k11 b11 ⊢
  have K11 := Lib.hid k11
  have PA : Hid (PartsAt w11 103 4 w10.heap.size (prts gT)) := Lib.hid (by
    refine ⟨blk_lt b11, ?_⟩
    intro k q hq
    match k, hq with
    | 0, hq =>
      simp only [prts, gT, List.map_cons, List.map_nil, List.getElem?_cons_zero, Option.some.injEq] at hq
      subst hq
      exact ⟨_, _, cellOf (j := 0) b11, cellOf (j := 1) b11, P3.out.1.later (((K5.out.nil_trans K8.out).nil_trans K10.out).nil_trans k11).same, P3.out.2.later (((K5.out.nil_trans K8.out).nil_trans K10.out).nil_trans k11).same⟩
    | 1, hq =>
      simp only [prts, gT, List.map_cons, List.map_nil, List.getElem?_cons_zero, List.getElem?_cons_succ, Option.some.injEq] at hq
      subst hq
      exact ⟨_, _, cellOf (j := 2) b11, cellOf (j := 3) b11, P5.out.1.later ((K8.out.nil_trans K10.out).nil_trans k11).same, P5.out.2.later ((K8.out.nil_trans K10.out).nil_trans k11).same⟩
    | 2, hq =>
      simp only [prts, gT, List.map_cons, List.map_nil, List.getElem?_cons_zero, List.getElem?_cons_succ, Option.some.injEq] at hq
      subst hq
      exact ⟨_, _, cellOf (j := 4) b11, cellOf (j := 5) b11, P8.out.1.later (K10.out.nil_trans k11).same, P8.out.2.later (K10.out.nil_trans k11).same⟩
    | 3, hq =>
      simp only [prts, gT, List.map_cons, List.map_nil, List.getElem?_cons_zero, List.getElem?_cons_succ, Option.some.injEq] at hq
      subst hq
      exact ⟨_, _, cellOf (j := 6) b11, cellOf (j := 7) b11, P10.out.1.later k11.same, P10.out.2.later k11.same⟩
    | k + 4, hq => simp [prts, gT] at hq)
  have RT := Lib.hid (record_thing (prts gT) gT_fair gT_off zT w10.heap.size w11 (by decide) PA.out)
  have K11' := Lib.hid ((((K3.out.nil_trans K5.out).nil_trans K8.out).nil_trans K10.out).nil_trans K11.out)
  clear k11 b11 hw11
  refine RT.out.mono ?_
  rintro e w12 ⟨cv12, rfl, hc, hk⟩
  obtain ⟨pf, pc, gf, gc, rfl⟩ := hc.parts
  have C12 : Hid (IsCodec w12 (.agg #[.func (.func pf) #[] pc, .func (.func gf) #[] gc]) cR) := Lib.hid hc
  have K12 := Lib.hid (K11'.out.nil_trans hk)
  clear hc hk
  have hb13 := heap_alloc_new w12 (.cells #[.func (.func pf) #[] pc, .func (.func gf) #[] gc] 107)
  have kc := (Kept.refl w12 (fun _ => False)).alloc (.cells #[.func (.func pf) #[] pc, .func (.func gf) #[] gc] 107)
  obtain ⟨w13, hw13⟩ : ∃ w13, w12.alloc (.cells #[.func (.func pf) #[] pc, .func (.func gf) #[] gc] 107) = w13 := ⟨_, rfl⟩
  obtain ⟨cp, hcp⟩ : ∃ cp, w12.heap.size = cp := ⟨_, rfl⟩
  rw [hw13, hcp] at hb13
  rw [hw13] at kc
  have CBL := Lib.hid (blk_lt hb13)
  have HB := Lib.hid (CB.of hb13)
  have KC := Lib.hid kc
  have K13 := Lib.hid (K12.out.nil_trans kc)
  have PL13 := Lib.hid (Nat.lt_of_lt_of_le PL.out K13.out.size)
  have X13 := Lib.hid (X1.out.kept PL.out K13.out)
  have HW13 := Lib.hid hw13
  have HCP := Lib.hid hcp
  have pl12 := Nat.lt_of_lt_of_le PL.out K12.out.size
  obtain ⟨b0, b1, b2, b3⟩ := X1.out.kept PL.out K12.out
  clear hb13 kc hw13 hcp
  go_wp2_with (fail)
  clear b0 b1 b2 b3 pl12
  rw [HW13.out, HCP.out]
  have FR : Hid (Fair cR) := Lib.hid (recC_fair (fun p hp => (gT_fair p hp).fair) zT)
  refine (encode_thing w12 _ cR x _ w13 C12.out FR.out KC.out.same rfl (rep_thg (HR.out.kept (K1.out.nil_trans K13.out)) (Nat.le_refl _)) (by have h1 := HN.out; have h2 := HS.out; unfold WRoom; rw [cR_cost]; simp only [List.length_nil]; omega)).mono ?_
  rw [ER.out]
  rintro e w14 ⟨rfl, hk⟩
  have K14 := Lib.hid hk
  have R13 := Lib.hid (R1.out.kept K13.out)
  clear hk
  go_wp2_with (fail)
  have XC := Lib.hid ((X13.out.kept PL13.out K14.out))
  refine wp_region_lex (fun w' => w'.cell? ⟨p, 0, none⟩ = some (.int .i64 x.a)) [2, 0, 3, 4, 0, 0, 0, 0, 0] (by kernel_rfl) (by kernel_rfl) (by kernel_rfl) (XC.out.1) (fun Q' hQ' => ?_)
  simp only [List.zip_cons_cons, List.zip_nil_right]
  refine wpX_keeps ?_ (fun K hK => ?_)
  · rfl
  go_wp2_with (fail)
  refine (number_any _).mono ?_
  rintro e w15 ⟨cva7, rfl, hc, hk⟩
  have CA7 := Lib.hid hc
  have KA7 := Lib.hid (K14.out.drew.nil_trans hk)
  have XD := Lib.hid (X13.out.kept PL13.out KA7.out)
  clear hc hk
  go_simp
  refine hK _ _ ⟨rfl, XD.out.1, ?_⟩
  clear hK K
  repeat (first
    | (refine wpX_silent ?_ (fun K hK => ?_)
       · rfl
       apply Exists.intro
       refine ⟨fun w' => ?_, ?_⟩
       · go_simp
         exact ⟨rfl, rfl⟩
       go_simp
       refine hK _ _ ?_
       clear hK K)
    | (refine wpX_read ?_ (fun K hK => ?_)
       · rfl
       apply Exists.intro
       refine ⟨?_, ?_⟩
       · go_simp
         exact ⟨rfl, rfl⟩
       go_simp
       refine hK _ _ ?_
       clear hK K)
    | (refine wpX_float ?_ (fun K hK => ?_)
       · rfl
       apply Exists.intro
       refine ⟨fun w' hw' => ?_, ?_⟩
       · try dsimp only at hw'
         go_simp
         exact ⟨rfl, rfl⟩
       go_simp
       refine hK _ _ ?_
       clear hK K)
    | (refine wpX_not ?_ (fun K hK => ?_)
       · rfl
       go_simp
       refine hK _ _ ?_
       clear hK K))
  refine wpX_heavy rfl (fun K hK => ?_)
  go_wp2_with (fail)
  refine (encode_int _ _ numC x.a _ w15 CA7.out numC_fair (Same.refl _) rfl (by unfold WRoom; show (0 : Nat) + 8 ≤ 200000000000000; omega)).mono ?_
  rw [EA.out]
  rintro e w16 ⟨rfl, hk⟩
  have K16 := Lib.hid (KA7.out.nil_trans hk)
  clear hk XC XD
  go_simp
  refine hK _ _ ⟨rfl, ?_⟩
  clear hK K
  repeat (first
    | (refine wpX_silent ?_ (fun K hK => ?_)
       · rfl
       apply Exists.intro
       refine ⟨fun w' => ?_, ?_⟩
       · go_simp
         exact ⟨rfl, rfl⟩
       go_simp
       refine hK _ _ ?_
       clear hK K)
    | (refine wpX_read ?_ (fun K hK => ?_)
       · rfl
       apply Exists.intro
       refine ⟨?_, ?_⟩
       · go_simp
         exact ⟨rfl, rfl⟩
       go_simp
       refine hK _ _ ?_
       clear hK K)
    | (refine wpX_float ?_ (fun K hK => ?_)
       · rfl
       apply Exists.intro
       refine ⟨fun w' hw' => ?_, ?_⟩
       · try dsimp only at hw'
         go_simp
         exact ⟨rfl, rfl⟩
       go_simp
       refine hK _ _ ?_
       clear hK K)
    | (refine wpX_not ?_ (fun K hK => ?_)
       · rfl
       go_simp
       refine hK _ _ ?_
       clear hK K))
  refine wpX_nil (hQ' _ _ ?_)
  go_wp2_with (fail)
  have XC := Lib.hid ((X13.out.kept PL13.out K16.out))
  refine wp_region_lex (fun w' => w'.cell? ⟨p, 1, none⟩ = some (.string x.s)) [2, 0, 3, 4, 0, 0, 0, 0, 0] (by kernel_rfl) (by kernel_rfl) (by kernel_rfl) (XC.out.2.1) (fun Q' hQ' => ?_)
  simp only [List.zip_cons_cons, List.zip_nil_right]
  refine wpX_keeps ?_ (fun K hK => ?_)
  · rfl
  go_wp2_with (fail)
  refine (text_any 100 _).mono ?_
  rintro e w17 ⟨cva8, rfl, hc, hk⟩
  have CA8 := Lib.hid hc
  have KA8 := Lib.hid (K16.out.drew.nil_trans hk)
  have XD := Lib.hid (X13.out.kept PL13.out KA8.out)
  clear hc hk
  go_simp
  refine hK _ _ ⟨rfl, XD.out.2.1, ?_⟩
  clear hK K
  repeat (first
    | (refine wpX_silent ?_ (fun K hK => ?_)
       · rfl
       apply Exists.intro
       refine ⟨fun w' => ?_, ?_⟩
       · go_simp
         exact ⟨rfl, rfl⟩
       go_simp
       refine hK _ _ ?_
       clear hK K)
    | (refine wpX_read ?_ (fun K hK => ?_)
       · rfl
       apply Exists.intro
       refine ⟨?_, ?_⟩
       · go_simp
         exact ⟨rfl, rfl⟩
       go_simp
       refine hK _ _ ?_
       clear hK K)
    | (refine wpX_float ?_ (fun K hK => ?_)
       · rfl
       apply Exists.intro
       refine ⟨fun w' hw' => ?_, ?_⟩
       · try dsimp only at hw'
         go_simp
         exact ⟨rfl, rfl⟩
       go_simp
       refine hK _ _ ?_
       clear hK K)
    | (refine wpX_not ?_ (fun K hK => ?_)
       · rfl
       go_simp
       refine hK _ _ ?_
       clear hK K))
  refine wpX_heavy rfl (fun K hK => ?_)
  go_wp2_with (fail)
  refine (encode_str _ _ (textC (bnd 100)) x.s _ w17 CA8.out (textC_fair _) (Same.refl _) rfl (by have h2 := HS.out; unfold WRoom; simp only [textC, List.length_nil]; omega)).mono ?_
  rw [EB.out]
  rintro e w18 ⟨rfl, hk⟩
  have K18 := Lib.hid (KA8.out.nil_trans hk)
  clear hk XC XD
  go_simp
  refine hK _ _ ⟨rfl, ?_⟩
  clear hK K
  repeat (first
    | (refine wpX_silent ?_ (fun K hK => ?_)
       · rfl
       apply Exists.intro
       refine ⟨fun w' => ?_, ?_⟩
       · go_simp
         exact ⟨rfl, rfl⟩
       go_simp
       refine hK _ _ ?_
       clear hK K)
    | (refine wpX_read ?_ (fun K hK => ?_)
       · rfl
       apply Exists.intro
       refine ⟨?_, ?_⟩
       · go_simp
         exact ⟨rfl, rfl⟩
       go_simp
       refine hK _ _ ?_
       clear hK K)
    | (refine wpX_float ?_ (fun K hK => ?_)
       · rfl
       apply Exists.intro
       refine ⟨fun w' hw' => ?_, ?_⟩
       · try dsimp only at hw'
         go_simp
         exact ⟨rfl, rfl⟩
       go_simp
       refine hK _ _ ?_
       clear hK K)
    | (refine wpX_not ?_ (fun K hK => ?_)
       · rfl
       go_simp
       refine hK _ _ ?_
       clear hK K))
  refine wpX_nil (hQ' _ _ ?_)
  go_wp2_with (fail)
  have XC := Lib.hid ((X13.out.kept PL13.out K18.out))
  refine wp_region_lex (fun w' => w'.cell? ⟨p, 2, none⟩ = some (.slice A x.l.length c)) [2, 2, 0, 3, 4, 0, 0, 0, 0, 0] (by kernel_rfl) (by kernel_rfl) (by kernel_rfl) (XC.out.2.2.1) (fun Q' hQ' => ?_)
  simp only [List.zip_cons_cons, List.zip_nil_right]
  refine wpX_keeps ?_ (fun K hK => ?_)
  · rfl
  go_wp2_with (fail)
  refine (number_any _).mono ?_
  rintro e w19 ⟨cva9, rfl, hc, hk⟩
  have CA9 := Lib.hid hc
  have KA9 := Lib.hid (K18.out.drew.nil_trans hk)
  have XD := Lib.hid (X13.out.kept PL13.out KA9.out)
  clear hc hk
  go_simp
  refine hK _ _ ⟨rfl, XD.out.2.2.1, ?_⟩
  clear hK K
  refine wpX_keeps ?_ (fun K hK => ?_)
  · rfl
  go_wp2_with (fail)
  refine (listof_int numC numC_fair numC_one cva9 100 w19 CA9.out).mono ?_
  rintro e w20 ⟨cv20, rfl, hc, hk⟩
  have C20 : Hid (IsCodec w20 cv20 (cN 100)) := Lib.hid hc
  have K20 := Lib.hid (KA9.out.nil_trans hk)
  have XD2 := Lib.hid (X13.out.kept PL13.out K20.out)
  clear hc hk
  go_simp
  refine hK _ _ ⟨rfl, XD2.out.2.2.1, ?_⟩
  clear hK K XD2
  repeat (first
    | (refine wpX_silent ?_ (fun K hK => ?_)
       · rfl
       apply Exists.intro
       refine ⟨fun w' => ?_, ?_⟩
       · go_simp
         exact ⟨rfl, rfl⟩
       go_simp
       refine hK _ _ ?_
       clear hK K)
    | (refine wpX_read ?_ (fun K hK => ?_)
       · rfl
       apply Exists.intro
       refine ⟨?_, ?_⟩
       · go_simp
         exact ⟨rfl, rfl⟩
       go_simp
       refine hK _ _ ?_
       clear hK K)
    | (refine wpX_float ?_ (fun K hK => ?_)
       · rfl
       apply Exists.intro
       refine ⟨fun w' hw' => ?_, ?_⟩
       · try dsimp only at hw'
         go_simp
         exact ⟨rfl, rfl⟩
       go_simp
       refine hK _ _ ?_
       clear hK K)
    | (refine wpX_not ?_ (fun K hK => ?_)
       · rfl
       go_simp
       refine hK _ _ ?_
       clear hK K))
  refine wpX_heavy rfl (fun K hK => ?_)
  go_wp2_with (fail)
  refine (encode_ints _ _ (cN 100) x.l _ w20 C20.out (cN_fair _) (Same.refl _) (rep_of_row (c := numC) (fun G w x => rfl) (R13.out.kept K20.out)) (by have h1 := HN.out; unfold WRoom; rw [cN_cost]; simp only [List.length_nil]; omega)).mono ?_
  rw [ED.out]
  rintro e w21 ⟨rfl, hk⟩
  have K21 := Lib.hid (K20.out.nil_trans hk)
  clear hk XC XD
  go_simp
  refine hK _ _ ⟨rfl, ?_⟩
  clear hK K
  repeat (first
    | (refine wpX_silent ?_ (fun K hK => ?_)
       · rfl
       apply Exists.intro
       refine ⟨fun w' => ?_, ?_⟩
       · go_simp
         exact ⟨rfl, rfl⟩
       go_simp
       refine hK _ _ ?_
       clear hK K)
    | (refine wpX_read ?_ (fun K hK => ?_)
       · rfl
       apply Exists.intro
       refine ⟨?_, ?_⟩
       · go_simp
         exact ⟨rfl, rfl⟩
       go_simp
       refine hK _ _ ?_
       clear hK K)
    | (refine wpX_float ?_ (fun K hK => ?_)
       · rfl
       apply Exists.intro
       refine ⟨fun w' hw' => ?_, ?_⟩
       · try dsimp only at hw'
         go_simp
         exact ⟨rfl, rfl⟩
       go_simp
       refine hK _ _ ?_
       clear hK K)
    | (refine wpX_not ?_ (fun K hK => ?_)
       · rfl
       go_simp
       refine hK _ _ ?_
       clear hK K))
  refine wpX_nil (hQ' _ _ ?_)
  go_wp2_with (fail)
  have XC := Lib.hid ((X13.out.kept PL13.out K21.out))
  refine wp_region_lex (fun w' => w'.cell? ⟨p, 3, none⟩ = some (.bool x.f)) [2, 0, 3, 4, 0, 0, 0, 0, 0] (by kernel_rfl) (by kernel_rfl) (by kernel_rfl) (XC.out.2.2.2) (fun Q' hQ' => ?_)
  simp only [List.zip_cons_cons, List.zip_nil_right]
  refine wpX_keeps ?_ (fun K hK => ?_)
  · rfl
  go_wp2_with (fail)
  refine (flag_any _).mono ?_
  rintro e w22 ⟨cva10, rfl, hc, hk⟩
  have CA10 := Lib.hid hc
  have KA10 := Lib.hid (K21.out.drew.nil_trans hk)
  have XD := Lib.hid (X13.out.kept PL13.out KA10.out)
  clear hc hk
  go_simp
  refine hK _ _ ⟨rfl, XD.out.2.2.2, ?_⟩
  clear hK K
  repeat (first
    | (refine wpX_silent ?_ (fun K hK => ?_)
       · rfl
       apply Exists.intro
       refine ⟨fun w' => ?_, ?_⟩
       · go_simp
         exact ⟨rfl, rfl⟩
       go_simp
       refine hK _ _ ?_
       clear hK K)
    | (refine wpX_read ?_ (fun K hK => ?_)
       · rfl
       apply Exists.intro
       refine ⟨?_, ?_⟩
       · go_simp
         exact ⟨rfl, rfl⟩
       go_simp
       refine hK _ _ ?_
       clear hK K)
    | (refine wpX_float ?_ (fun K hK => ?_)
       · rfl
       apply Exists.intro
       refine ⟨fun w' hw' => ?_, ?_⟩
       · try dsimp only at hw'
         go_simp
         exact ⟨rfl, rfl⟩
       go_simp
       refine hK _ _ ?_
       clear hK K)
    | (refine wpX_not ?_ (fun K hK => ?_)
       · rfl
       go_simp
       refine hK _ _ ?_
       clear hK K))
  refine wpX_heavy rfl (fun K hK => ?_)
  go_wp2_with (fail)
  refine (encode_bool _ _ flagC x.f _ w22 CA10.out flagC_fair (Same.refl _) rfl (by unfold WRoom; show (0 : Nat) + 8 ≤ 200000000000000; omega)).mono ?_
  rw [EK.out]
  rintro e w23 ⟨rfl, hk⟩
  have K23 := Lib.hid (KA10.out.nil_trans hk)
  clear hk XC XD
  go_simp
  refine hK _ _ ⟨rfl, ?_⟩
  clear hK K
  repeat (first
    | (refine wpX_silent ?_ (fun K hK => ?_)
       · rfl
       apply Exists.intro
       refine ⟨fun w' => ?_, ?_⟩
       · go_simp
         exact ⟨rfl, rfl⟩
       go_simp
       refine hK _ _ ?_
       clear hK K)
    | (refine wpX_read ?_ (fun K hK => ?_)
       · rfl
       apply Exists.intro
       refine ⟨?_, ?_⟩
       · go_simp
         exact ⟨rfl, rfl⟩
       go_simp
       refine hK _ _ ?_
       clear hK K)
    | (refine wpX_float ?_ (fun K hK => ?_)
       · rfl
       apply Exists.intro
       refine ⟨fun w' hw' => ?_, ?_⟩
       · try dsimp only at hw'
         go_simp
         exact ⟨rfl, rfl⟩
       go_simp
       refine hK _ _ ?_
       clear hK K)
    | (refine wpX_not ?_ (fun K hK => ?_)
       · rfl
       go_simp
       refine hK _ _ ?_
       clear hK K))
  refine wpX_nil (hQ' _ _ ?_)
  go_wp2
  go_ret
  exact ⟨rfl, ((K1.out.nil_trans K13.out).nil_trans K23.out).nil_below⟩

set_option maxHeartbeats 3200000 in
set_option maxRecDepth 100000 in
theorem rec_no_d (x : Thg) (A : Option Addr) (c : Nat) (at_ : Int) (w : World) (eb ed : Int)
  (hr : RowIn w A x.l.length (x.l.map (Value.int .i64))) (hn : x.l.length ≤ 200) (hs : x.s.size ≤ 200) (ha : 0 ≤ at_) (sr sa sb sd sk : ByteArray) (ER : Hid (encR cR x = (⟨#[]⟩, 22))) (EA : Hid (encR numC x.a = (sa, 0))) (EB : Hid (encR (textC (bnd 100)) x.s = (sb, 0))) (ED : Hid (encR (cN 100) x.l = (sd, 22))) (EK : Hid (encR flagC x.f = (sk, 0)))
    : Calls Try.prog 11 #[.agg #[.int .i64 x.a, .string x.s, .slice A x.l.length c, .bool x.f], .int .i64 at_] w fun e w' => e = .returned (.bool true) ∧ Below w.heap.size w w' := by
  have q1 : ¬ (200 : Int) < x.l.length := by omega
  have q2 : ¬ (200 : Int) < x.s.size := by omega
  have q3 : ¬ at_ < 0 := by omega
  have HR := Lib.hid hr
  have HN := Lib.hid hn
  have HS := Lib.hid hs
  clear hr hn hs ha
  go_enter Try.func11, Try.ntmps11
  go_wp2_with (fail)
  have K0 := Lib.hid ((Kept.refl w (fun _ => False)).alloc (.cells #[.int .i64 x.a, .string x.s, .slice A x.l.length c, .bool x.f] 103))
  have B0 := heap_alloc_new w (.cells #[.int .i64 x.a, .string x.s, .slice A x.l.length c, .bool x.f] 103)
  refine (anchor_any _).mono ?_
  rintro e w1 ⟨rfl, hk⟩
  have K1 := Lib.hid (K0.out.nil_trans hk)
  have B1 := hk.blk B0 (fun h => h)
  obtain ⟨p, hp⟩ : ∃ p, w.heap.size = p := ⟨_, rfl⟩
  rw [hp] at B1 ⊢
  have PL := Lib.hid (blk_lt B1)
  have X1 : Hid (XB w1 p x A x.l.length c) := Lib.hid ⟨cellOf (j := 0) B1, cellOf (j := 1) B1, cellOf (j := 2) B1, cellOf (j := 3) B1⟩
  have HB1 := Lib.hid B1
  have R1 := Lib.hid (HR.out.kept K1.out)
  obtain ⟨b0, b1, b2, b3⟩ := X1.out
  clear hk B0 B1 hp
  go_wp2_with (fail)
  clear b0 b1 b2 b3
  refine (number_any _).mono ?_
  rintro e w2 ⟨cv2, rfl, hc, hk⟩
  have C2 := Lib.hid hc
  have K2 := Lib.hid hk
  clear hc hk
  go_wp2_with (fail)
  refine (field_int_thing numC numC_fair numC_one 0 4 (by decide) Thg.a (fun y x => { x with a := y }) _ cv2 w2 C2.out getter_0).mono ?_
  rintro e w3 ⟨v3, rfl, hp, hk⟩
  obtain ⟨pa3, pb3, rfl, hpp, hpg⟩ := hp
  have P3 : Hid (PPut w3 103 4 pa3 tA.p ∧ PGet w3 103 4 pb3 tA.p) := Lib.hid ⟨hpp, hpg⟩
  have K3 := Lib.hid (K2.out.nil_trans hk)
  clear hpp hpg hk
  go_wp2_with (fail)
  refine (text_any 100 w3).mono ?_
  rintro e w4 ⟨cv4, rfl, hc, hk⟩
  have C4 := Lib.hid hc
  have K4 := Lib.hid hk
  clear hc hk
  go_wp2_with (fail)
  refine (field_str_thing (textC (bnd 100)) (textC_fair _) (textC_one _) 1 4 (by decide) Thg.s (fun y x => { x with s := y }) _ cv4 w4 C4.out getter_1).mono ?_
  rintro e w5 ⟨v5, rfl, hp, hk⟩
  obtain ⟨pa5, pb5, rfl, hpp, hpg⟩ := hp
  have P5 : Hid (PPut w5 103 4 pa5 tS.p ∧ PGet w5 103 4 pb5 tS.p) := Lib.hid ⟨hpp, hpg⟩
  have K5 := Lib.hid (K4.out.nil_trans hk)
  clear hpp hpg hk
  go_wp2_with (fail)
  refine (number_any _).mono ?_
  rintro e w6 ⟨cv6, rfl, hc, hk⟩
  have C6 := Lib.hid hc
  have K6 := Lib.hid hk
  clear hc hk
  go_wp2_with (fail)
  refine (listof_int numC numC_fair numC_one cv6 100 w6 C6.out).mono ?_
  rintro e w7 ⟨cv7, rfl, hc, hk⟩
  have C7 : Hid (IsCodec w7 cv7 (cN 100)) := Lib.hid hc
  have K7 := Lib.hid (K6.out.nil_trans hk)
  clear hc hk
  go_wp2_with (fail)
  refine (field_ints_thing (cN 100) (cN_fair _) (listC_one _ _) 2 4 (by decide) Thg.l (fun y x => { x with l := y }) _ cv7 w7 C7.out getter_2).mono ?_
  rintro e w8 ⟨v8, rfl, hp, hk⟩
  obtain ⟨pa8, pb8, rfl, hpp, hpg⟩ := hp
  have P8 : Hid (PPut w8 103 4 pa8 tL.p ∧ PGet w8 103 4 pb8 tL.p) := Lib.hid ⟨hpp, hpg⟩
  have K8 := Lib.hid (K7.out.nil_trans hk)
  clear hpp hpg hk
  go_wp2_with (fail)
  refine (flag_any _).mono ?_
  rintro e w9 ⟨cv9, rfl, hc, hk⟩
  have C9 := Lib.hid hc
  have K9 := Lib.hid hk
  clear hc hk
  go_wp2_with (fail)
  refine (field_bool_thing flagC flagC_fair flagC_one 3 4 (by decide) Thg.f (fun y x => { x with f := y }) _ cv9 w9 C9.out getter_3).mono ?_
  rintro e w10 ⟨v10, rfl, hp, hk⟩
  obtain ⟨pa10, pb10, rfl, hpp, hpg⟩ := hp
  have P10 : Hid (PPut w10 103 4 pa10 tF.p ∧ PGet w10 103 4 pb10 tF.p) := Lib.hid ⟨hpp, hpg⟩
  have K10 := Lib.hid (K9.out.nil_trans hk)
  clear hpp hpg hk
  go_wp2_with (fail)
  have k11 := (Kept.refl w10 (fun _ => False)).alloc (.cells #[pa3, pb3, pa5, pb5, pa8, pb8, pa10, pb10] 112)
  have b11 := heap_alloc_new w10 (.cells #[pa3, pb3, pa5, pb5, pa8, pb8, pa10, pb10] 112)
  obtain ⟨w11, hw11⟩ : ∃ w11, w10.alloc (.cells #[pa3, pb3, pa5, pb5, pa8, pb8, pa10, pb10] 112) = w11 := ⟨_, rfl⟩
  rw [hw11] at k11 b11 ⊢
  have K11 := Lib.hid k11
  have PA : Hid (PartsAt w11 103 4 w10.heap.size (prts gT)) := Lib.hid (by
    refine ⟨blk_lt b11, ?_⟩
    intro k q hq
    match k, hq with
    | 0, hq =>
      simp only [prts, gT, List.map_cons, List.map_nil, List.getElem?_cons_zero, Option.some.injEq] at hq
      subst hq
      exact ⟨_, _, cellOf (j := 0) b11, cellOf (j := 1) b11, P3.out.1.later (((K5.out.nil_trans K8.out).nil_trans K10.out).nil_trans k11).same, P3.out.2.later (((K5.out.nil_trans K8.out).nil_trans K10.out).nil_trans k11).same⟩
    | 1, hq =>
      simp only [prts, gT, List.map_cons, List.map_nil, List.getElem?_cons_zero, List.getElem?_cons_succ, Option.some.injEq] at hq
      subst hq
      exact ⟨_, _, cellOf (j := 2) b11, cellOf (j := 3) b11, P5.out.1.later ((K8.out.nil_trans K10.out).nil_trans k11).same, P5.out.2.later ((K8.out.nil_trans K10.out).nil_trans k11).same⟩
    | 2, hq =>
      simp only [prts, gT, List.map_cons, List.map_nil, List.getElem?_cons_zero, List.getElem?_cons_succ, Option.some.injEq] at hq
      subst hq
      exact ⟨_, _, cellOf (j := 4) b11, cellOf (j := 5) b11, P8.out.1.later (K10.out.nil_trans k11).same, P8.out.2.later (K10.out.nil_trans k11).same⟩
    | 3, hq =>
      simp only [prts, gT, List.map_cons, List.map_nil, List.getElem?_cons_zero, List.getElem?_cons_succ, Option.some.injEq] at hq
      subst hq
      exact ⟨_, _, cellOf (j := 6) b11, cellOf (j := 7) b11, P10.out.1.later k11.same, P10.out.2.later k11.same⟩
    | k + 4, hq => simp [prts, gT] at hq)
  have RT := Lib.hid (record_thing (prts gT) gT_fair gT_off zT w10.heap.size w11 (by decide) PA.out)
  have K11' := Lib.hid ((((K3.out.nil_trans K5.out).nil_trans K8.out).nil_trans K10.out).nil_trans K11.out)
  clear k11 b11 hw11
  refine RT.out.mono ?_
  rintro e w12 ⟨cv12, rfl, hc, hk⟩
  obtain ⟨pf, pc, gf, gc, rfl⟩ := hc.parts
  have C12 : Hid (IsCodec w12 (.agg #[.func (.func pf) #[] pc, .func (.func gf) #[] gc]) cR) := Lib.hid hc
  have K12 := Lib.hid (K11'.out.nil_trans hk)
  clear hc hk
  have hb13 := heap_alloc_new w12 (.cells #[.func (.func pf) #[] pc, .func (.func gf) #[] gc] 107)
  have kc := (Kept.refl w12 (fun _ => False)).alloc (.cells #[.func (.func pf) #[] pc, .func (.func gf) #[] gc] 107)
  obtain ⟨w13, hw13⟩ : ∃ w13, w12.alloc (.cells #[.func (.func pf) #[] pc, .func (.func gf) #[] gc] 107) = w13 := ⟨_, rfl⟩
  obtain ⟨cp, hcp⟩ : ∃ cp, w12.heap.size = cp := ⟨_, rfl⟩
  rw [hw13, hcp] at hb13
  rw [hw13] at kc
  have CBL := Lib.hid (blk_lt hb13)
  have HB := Lib.hid (CB.of hb13)
  have KC := Lib.hid kc
  have K13 := Lib.hid (K12.out.nil_trans kc)
  have PL13 := Lib.hid (Nat.lt_of_lt_of_le PL.out K13.out.size)
  have X13 := Lib.hid (X1.out.kept PL.out K13.out)
  have HW13 := Lib.hid hw13
  have HCP := Lib.hid hcp
  have pl12 := Nat.lt_of_lt_of_le PL.out K12.out.size
  obtain ⟨b0, b1, b2, b3⟩ := X1.out.kept PL.out K12.out
  clear hb13 kc hw13 hcp
  go_wp2_with (fail)
  clear b0 b1 b2 b3 pl12
  rw [HW13.out, HCP.out]
  have FR : Hid (Fair cR) := Lib.hid (recC_fair (fun p hp => (gT_fair p hp).fair) zT)
  refine (encode_thing w12 _ cR x _ w13 C12.out FR.out KC.out.same rfl (rep_thg (HR.out.kept (K1.out.nil_trans K13.out)) (Nat.le_refl _)) (by have h1 := HN.out; have h2 := HS.out; unfold WRoom; rw [cR_cost]; simp only [List.length_nil]; omega)).mono ?_
  rw [ER.out]
  rintro e w14 ⟨rfl, hk⟩
  have K14 := Lib.hid hk
  have R13 := Lib.hid (R1.out.kept K13.out)
  clear hk
  go_wp2_with (fail)
  have XC := Lib.hid ((X13.out.kept PL13.out K14.out))
  refine wp_region_lex (fun w' => w'.cell? ⟨p, 0, none⟩ = some (.int .i64 x.a)) [2, 0, 3, 4, 0, 0, 0, 0, 0] (by kernel_rfl) (by kernel_rfl) (by kernel_rfl) (XC.out.1) (fun Q' hQ' => ?_)
  simp only [List.zip_cons_cons, List.zip_nil_right]
  refine wpX_keeps ?_ (fun K hK => ?_)
  · rfl
  go_wp2_with (fail)
  refine (number_any _).mono ?_
  rintro e w15 ⟨cva7, rfl, hc, hk⟩
  have CA7 := Lib.hid hc
  have KA7 := Lib.hid (K14.out.drew.nil_trans hk)
  have XD := Lib.hid (X13.out.kept PL13.out KA7.out)
  clear hc hk
  go_simp
  refine hK _ _ ⟨rfl, XD.out.1, ?_⟩
  clear hK K
  repeat (first
    | (refine wpX_silent ?_ (fun K hK => ?_)
       · rfl
       apply Exists.intro
       refine ⟨fun w' => ?_, ?_⟩
       · go_simp
         exact ⟨rfl, rfl⟩
       go_simp
       refine hK _ _ ?_
       clear hK K)
    | (refine wpX_read ?_ (fun K hK => ?_)
       · rfl
       apply Exists.intro
       refine ⟨?_, ?_⟩
       · go_simp
         exact ⟨rfl, rfl⟩
       go_simp
       refine hK _ _ ?_
       clear hK K)
    | (refine wpX_float ?_ (fun K hK => ?_)
       · rfl
       apply Exists.intro
       refine ⟨fun w' hw' => ?_, ?_⟩
       · try dsimp only at hw'
         go_simp
         exact ⟨rfl, rfl⟩
       go_simp
       refine hK _ _ ?_
       clear hK K)
    | (refine wpX_not ?_ (fun K hK => ?_)
       · rfl
       go_simp
       refine hK _ _ ?_
       clear hK K))
  refine wpX_heavy rfl (fun K hK => ?_)
  go_wp2_with (fail)
  refine (encode_int _ _ numC x.a _ w15 CA7.out numC_fair (Same.refl _) rfl (by unfold WRoom; show (0 : Nat) + 8 ≤ 200000000000000; omega)).mono ?_
  rw [EA.out]
  rintro e w16 ⟨rfl, hk⟩
  have K16 := Lib.hid (KA7.out.nil_trans hk)
  clear hk XC XD
  go_simp
  refine hK _ _ ⟨rfl, ?_⟩
  clear hK K
  repeat (first
    | (refine wpX_silent ?_ (fun K hK => ?_)
       · rfl
       apply Exists.intro
       refine ⟨fun w' => ?_, ?_⟩
       · go_simp
         exact ⟨rfl, rfl⟩
       go_simp
       refine hK _ _ ?_
       clear hK K)
    | (refine wpX_read ?_ (fun K hK => ?_)
       · rfl
       apply Exists.intro
       refine ⟨?_, ?_⟩
       · go_simp
         exact ⟨rfl, rfl⟩
       go_simp
       refine hK _ _ ?_
       clear hK K)
    | (refine wpX_float ?_ (fun K hK => ?_)
       · rfl
       apply Exists.intro
       refine ⟨fun w' hw' => ?_, ?_⟩
       · try dsimp only at hw'
         go_simp
         exact ⟨rfl, rfl⟩
       go_simp
       refine hK _ _ ?_
       clear hK K)
    | (refine wpX_not ?_ (fun K hK => ?_)
       · rfl
       go_simp
       refine hK _ _ ?_
       clear hK K))
  refine wpX_nil (hQ' _ _ ?_)
  go_wp2_with (fail)
  have XC := Lib.hid ((X13.out.kept PL13.out K16.out))
  refine wp_region_lex (fun w' => w'.cell? ⟨p, 1, none⟩ = some (.string x.s)) [2, 0, 3, 4, 0, 0, 0, 0, 0] (by kernel_rfl) (by kernel_rfl) (by kernel_rfl) (XC.out.2.1) (fun Q' hQ' => ?_)
  simp only [List.zip_cons_cons, List.zip_nil_right]
  refine wpX_keeps ?_ (fun K hK => ?_)
  · rfl
  go_wp2_with (fail)
  refine (text_any 100 _).mono ?_
  rintro e w17 ⟨cva8, rfl, hc, hk⟩
  have CA8 := Lib.hid hc
  have KA8 := Lib.hid (K16.out.drew.nil_trans hk)
  have XD := Lib.hid (X13.out.kept PL13.out KA8.out)
  clear hc hk
  go_simp
  refine hK _ _ ⟨rfl, XD.out.2.1, ?_⟩
  clear hK K
  repeat (first
    | (refine wpX_silent ?_ (fun K hK => ?_)
       · rfl
       apply Exists.intro
       refine ⟨fun w' => ?_, ?_⟩
       · go_simp
         exact ⟨rfl, rfl⟩
       go_simp
       refine hK _ _ ?_
       clear hK K)
    | (refine wpX_read ?_ (fun K hK => ?_)
       · rfl
       apply Exists.intro
       refine ⟨?_, ?_⟩
       · go_simp
         exact ⟨rfl, rfl⟩
       go_simp
       refine hK _ _ ?_
       clear hK K)
    | (refine wpX_float ?_ (fun K hK => ?_)
       · rfl
       apply Exists.intro
       refine ⟨fun w' hw' => ?_, ?_⟩
       · try dsimp only at hw'
         go_simp
         exact ⟨rfl, rfl⟩
       go_simp
       refine hK _ _ ?_
       clear hK K)
    | (refine wpX_not ?_ (fun K hK => ?_)
       · rfl
       go_simp
       refine hK _ _ ?_
       clear hK K))
  refine wpX_heavy rfl (fun K hK => ?_)
  go_wp2_with (fail)
  refine (encode_str _ _ (textC (bnd 100)) x.s _ w17 CA8.out (textC_fair _) (Same.refl _) rfl (by have h2 := HS.out; unfold WRoom; simp only [textC, List.length_nil]; omega)).mono ?_
  rw [EB.out]
  rintro e w18 ⟨rfl, hk⟩
  have K18 := Lib.hid (KA8.out.nil_trans hk)
  clear hk XC XD
  go_simp
  refine hK _ _ ⟨rfl, ?_⟩
  clear hK K
  repeat (first
    | (refine wpX_silent ?_ (fun K hK => ?_)
       · rfl
       apply Exists.intro
       refine ⟨fun w' => ?_, ?_⟩
       · go_simp
         exact ⟨rfl, rfl⟩
       go_simp
       refine hK _ _ ?_
       clear hK K)
    | (refine wpX_read ?_ (fun K hK => ?_)
       · rfl
       apply Exists.intro
       refine ⟨?_, ?_⟩
       · go_simp
         exact ⟨rfl, rfl⟩
       go_simp
       refine hK _ _ ?_
       clear hK K)
    | (refine wpX_float ?_ (fun K hK => ?_)
       · rfl
       apply Exists.intro
       refine ⟨fun w' hw' => ?_, ?_⟩
       · try dsimp only at hw'
         go_simp
         exact ⟨rfl, rfl⟩
       go_simp
       refine hK _ _ ?_
       clear hK K)
    | (refine wpX_not ?_ (fun K hK => ?_)
       · rfl
       go_simp
       refine hK _ _ ?_
       clear hK K))
  refine wpX_nil (hQ' _ _ ?_)
  go_wp2_with (fail)
  have XC := Lib.hid ((X13.out.kept PL13.out K18.out))
  refine wp_region_lex (fun w' => w'.cell? ⟨p, 2, none⟩ = some (.slice A x.l.length c)) [2, 2, 0, 3, 4, 0, 0, 0, 0, 0] (by kernel_rfl) (by kernel_rfl) (by kernel_rfl) (XC.out.2.2.1) (fun Q' hQ' => ?_)
  simp only [List.zip_cons_cons, List.zip_nil_right]
  refine wpX_keeps ?_ (fun K hK => ?_)
  · rfl
  go_wp2_with (fail)
  refine (number_any _).mono ?_
  rintro e w19 ⟨cva9, rfl, hc, hk⟩
  have CA9 := Lib.hid hc
  have KA9 := Lib.hid (K18.out.drew.nil_trans hk)
  have XD := Lib.hid (X13.out.kept PL13.out KA9.out)
  clear hc hk
  go_simp
  refine hK _ _ ⟨rfl, XD.out.2.2.1, ?_⟩
  clear hK K
  refine wpX_keeps ?_ (fun K hK => ?_)
  · rfl
  go_wp2_with (fail)
  refine (listof_int numC numC_fair numC_one cva9 100 w19 CA9.out).mono ?_
  rintro e w20 ⟨cv20, rfl, hc, hk⟩
  have C20 : Hid (IsCodec w20 cv20 (cN 100)) := Lib.hid hc
  have K20 := Lib.hid (KA9.out.nil_trans hk)
  have XD2 := Lib.hid (X13.out.kept PL13.out K20.out)
  clear hc hk
  go_simp
  refine hK _ _ ⟨rfl, XD2.out.2.2.1, ?_⟩
  clear hK K XD2
  repeat (first
    | (refine wpX_silent ?_ (fun K hK => ?_)
       · rfl
       apply Exists.intro
       refine ⟨fun w' => ?_, ?_⟩
       · go_simp
         exact ⟨rfl, rfl⟩
       go_simp
       refine hK _ _ ?_
       clear hK K)
    | (refine wpX_read ?_ (fun K hK => ?_)
       · rfl
       apply Exists.intro
       refine ⟨?_, ?_⟩
       · go_simp
         exact ⟨rfl, rfl⟩
       go_simp
       refine hK _ _ ?_
       clear hK K)
    | (refine wpX_float ?_ (fun K hK => ?_)
       · rfl
       apply Exists.intro
       refine ⟨fun w' hw' => ?_, ?_⟩
       · try dsimp only at hw'
         go_simp
         exact ⟨rfl, rfl⟩
       go_simp
       refine hK _ _ ?_
       clear hK K)
    | (refine wpX_not ?_ (fun K hK => ?_)
       · rfl
       go_simp
       refine hK _ _ ?_
       clear hK K))
  refine wpX_heavy rfl (fun K hK => ?_)
  go_wp2_with (fail)
  refine (encode_ints _ _ (cN 100) x.l _ w20 C20.out (cN_fair _) (Same.refl _) (rep_of_row (c := numC) (fun G w x => rfl) (R13.out.kept K20.out)) (by have h1 := HN.out; unfold WRoom; rw [cN_cost]; simp only [List.length_nil]; omega)).mono ?_
  rw [ED.out]
  rintro e w21 ⟨rfl, hk⟩
  have K21 := Lib.hid (K20.out.nil_trans hk)
  clear hk XC XD
  go_simp
  refine hK _ _ ⟨rfl, ?_⟩
  clear hK K
  repeat (first
    | (refine wpX_silent ?_ (fun K hK => ?_)
       · rfl
       apply Exists.intro
       refine ⟨fun w' => ?_, ?_⟩
       · go_simp
         exact ⟨rfl, rfl⟩
       go_simp
       refine hK _ _ ?_
       clear hK K)
    | (refine wpX_read ?_ (fun K hK => ?_)
       · rfl
       apply Exists.intro
       refine ⟨?_, ?_⟩
       · go_simp
         exact ⟨rfl, rfl⟩
       go_simp
       refine hK _ _ ?_
       clear hK K)
    | (refine wpX_float ?_ (fun K hK => ?_)
       · rfl
       apply Exists.intro
       refine ⟨fun w' hw' => ?_, ?_⟩
       · try dsimp only at hw'
         go_simp
         exact ⟨rfl, rfl⟩
       go_simp
       refine hK _ _ ?_
       clear hK K)
    | (refine wpX_not ?_ (fun K hK => ?_)
       · rfl
       go_simp
       refine hK _ _ ?_
       clear hK K))
  refine wpX_nil (hQ' _ _ ?_)
  go_wp2_with (fail)
  have XC := Lib.hid ((X13.out.kept PL13.out K21.out))
  refine wp_region_lex (fun w' => w'.cell? ⟨p, 3, none⟩ = some (.bool x.f)) [2, 0, 3, 4, 0, 0, 0, 0, 0] (by kernel_rfl) (by kernel_rfl) (by kernel_rfl) (XC.out.2.2.2) (fun Q' hQ' => ?_)
  simp only [List.zip_cons_cons, List.zip_nil_right]
  refine wpX_keeps ?_ (fun K hK => ?_)
  · rfl
  go_wp2_with (fail)
  refine (flag_any _).mono ?_
  rintro e w22 ⟨cva10, rfl, hc, hk⟩
  have CA10 := Lib.hid hc
  have KA10 := Lib.hid (K21.out.drew.nil_trans hk)
  have XD := Lib.hid (X13.out.kept PL13.out KA10.out)
  clear hc hk
  go_simp
  refine hK _ _ ⟨rfl, XD.out.2.2.2, ?_⟩
  clear hK K
  repeat (first
    | (refine wpX_silent ?_ (fun K hK => ?_)
       · rfl
       apply Exists.intro
       refine ⟨fun w' => ?_, ?_⟩
       · go_simp
         exact ⟨rfl, rfl⟩
       go_simp
       refine hK _ _ ?_
       clear hK K)
    | (refine wpX_read ?_ (fun K hK => ?_)
       · rfl
       apply Exists.intro
       refine ⟨?_, ?_⟩
       · go_simp
         exact ⟨rfl, rfl⟩
       go_simp
       refine hK _ _ ?_
       clear hK K)
    | (refine wpX_float ?_ (fun K hK => ?_)
       · rfl
       apply Exists.intro
       refine ⟨fun w' hw' => ?_, ?_⟩
       · try dsimp only at hw'
         go_simp
         exact ⟨rfl, rfl⟩
       go_simp
       refine hK _ _ ?_
       clear hK K)
    | (refine wpX_not ?_ (fun K hK => ?_)
       · rfl
       go_simp
       refine hK _ _ ?_
       clear hK K))
  refine wpX_heavy rfl (fun K hK => ?_)
  go_wp2_with (fail)
  refine (encode_bool _ _ flagC x.f _ w22 CA10.out flagC_fair (Same.refl _) rfl (by unfold WRoom; show (0 : Nat) + 8 ≤ 200000000000000; omega)).mono ?_
  rw [EK.out]
  rintro e w23 ⟨rfl, hk⟩
  have K23 := Lib.hid (KA10.out.nil_trans hk)
  clear hk XC XD
  go_simp
  refine hK _ _ ⟨rfl, ?_⟩
  clear hK K
  repeat (first
    | (refine wpX_silent ?_ (fun K hK => ?_)
       · rfl
       apply Exists.intro
       refine ⟨fun w' => ?_, ?_⟩
       · go_simp
         exact ⟨rfl, rfl⟩
       go_simp
       refine hK _ _ ?_
       clear hK K)
    | (refine wpX_read ?_ (fun K hK => ?_)
       · rfl
       apply Exists.intro
       refine ⟨?_, ?_⟩
       · go_simp
         exact ⟨rfl, rfl⟩
       go_simp
       refine hK _ _ ?_
       clear hK K)
    | (refine wpX_float ?_ (fun K hK => ?_)
       · rfl
       apply Exists.intro
       refine ⟨fun w' hw' => ?_, ?_⟩
       · try dsimp only at hw'
         go_simp
         exact ⟨rfl, rfl⟩
       go_simp
       refine hK _ _ ?_
       clear hK K)
    | (refine wpX_not ?_ (fun K hK => ?_)
       · rfl
       go_simp
       refine hK _ _ ?_
       clear hK K))
  refine wpX_nil (hQ' _ _ ?_)
  go_wp2
  go_ret
  exact ⟨rfl, ((K1.out.nil_trans K13.out).nil_trans K23.out).nil_below⟩

set_option maxHeartbeats 3200000 in
set_option maxRecDepth 100000 in
theorem rec_in (x : Thg) (A : Option Addr) (c : Nat) (at_ : Int) (w : World)
  (hr : RowIn w A x.l.length (x.l.map (Value.int .i64))) (hn : x.l.length ≤ 200) (hs : x.s.size ≤ 200) (ha : 0 ≤ at_) (sr sa sb sd sk : ByteArray) (ER : Hid (encR cR x = (sr, 0))) (EA : Hid (encR numC x.a = (sa, 0))) (EB : Hid (encR (textC (bnd 100)) x.s = (sb, 0))) (ED : Hid (encR (cN 100) x.l = (sd, 0))) (EK : Hid (encR flagC x.f = (sk, 0)))
    (DR : Hid (DSize sr)) (DRE : Hid (decE cR sr = 0)) (DRV : Hid ((cR.get ⟨sr.data.toList, 0⟩).1 = x)) (k : Nat) (KS : Hid (k < sr.size)) (HPOS : Hid (1 ≤ sr.size)) (QM : Hid (at_ % (sr.size : Int) = (k : Int))) (QN : Hid (at_.tmod (sr.size : Int) = (k : Int))) (D1 : Hid (DSize sr)) (D2 : Hid (DSize (sr.extract 0 k))) (D3 : Hid (DSize (sr ++ ⟨#[0]⟩))) (ECUT : Hid (decE cR (sr.extract 0 k) = 20)) (EMORE : Hid (decE cR (sr ++ ⟨#[0]⟩) = 21)) (sab sabd : ByteArray) (QA : Hid (∀ w, (Op.stringOp .add sr ⟨#[0]⟩).run Try.prog w = .ok (.string (sr ++ ⟨#[0]⟩)) w)) (QB : Hid (∀ w, (Op.stringOp .add sa sb).run Try.prog w = .ok (.string sab) w)) (QC : Hid (∀ w, (Op.stringOp .add sab sd).run Try.prog w = .ok (.string sabd) w)) (QD : Hid (∀ w, (Op.stringOp .add sabd sk).run Try.prog w = .ok (.string sr) w)) : Calls Try.prog 11 #[.agg #[.int .i64 x.a, .string x.s, .slice A x.l.length c, .bool x.f], .int .i64 at_] w fun e w' => e = .returned (.bool true) ∧ Below w.heap.size w w' := by
  have q1 : ¬ (200 : Int) < x.l.length := by omega
  have q2 : ¬ (200 : Int) < x.s.size := by omega
  have q3 : ¬ at_ < 0 := by omega
  have HR := Lib.hid hr
  have HN := Lib.hid hn
  have HS := Lib.hid hs
  clear hr hn hs ha
  go_enter Try.func11, Try.ntmps11
  go_wp2_with (fail)
  have K0 := Lib.hid ((Kept.refl w (fun _ => False)).alloc (.cells #[.int .i64 x.a, .string x.s, .slice A x.l.length c, .bool x.f] 103))
  have B0 := heap_alloc_new w (.cells #[.int .i64 x.a, .string x.s, .slice A x.l.length c, .bool x.f] 103)
  refine (anchor_any _).mono ?_
  rintro e w1 ⟨rfl, hk⟩
  have K1 := Lib.hid (K0.out.nil_trans hk)
  have B1 := hk.blk B0 (fun h => h)
  obtain ⟨p, hp⟩ : ∃ p, w.heap.size = p := ⟨_, rfl⟩
  rw [hp] at B1 ⊢
  have PL := Lib.hid (blk_lt B1)
  have X1 : Hid (XB w1 p x A x.l.length c) := Lib.hid ⟨cellOf (j := 0) B1, cellOf (j := 1) B1, cellOf (j := 2) B1, cellOf (j := 3) B1⟩
  have HB1 := Lib.hid B1
  have R1 := Lib.hid (HR.out.kept K1.out)
  obtain ⟨b0, b1, b2, b3⟩ := X1.out
  clear hk B0 B1 hp
  go_wp2_with (fail)
  clear b0 b1 b2 b3
  refine (number_any _).mono ?_
  rintro e w2 ⟨cv2, rfl, hc, hk⟩
  have C2 := Lib.hid hc
  have K2 := Lib.hid hk
  clear hc hk
  go_wp2_with (fail)
  refine (field_int_thing numC numC_fair numC_one 0 4 (by decide) Thg.a (fun y x => { x with a := y }) _ cv2 w2 C2.out getter_0).mono ?_
  rintro e w3 ⟨v3, rfl, hp, hk⟩
  obtain ⟨pa3, pb3, rfl, hpp, hpg⟩ := hp
  have P3 : Hid (PPut w3 103 4 pa3 tA.p ∧ PGet w3 103 4 pb3 tA.p) := Lib.hid ⟨hpp, hpg⟩
  have K3 := Lib.hid (K2.out.nil_trans hk)
  clear hpp hpg hk
  go_wp2_with (fail)
  refine (text_any 100 w3).mono ?_
  rintro e w4 ⟨cv4, rfl, hc, hk⟩
  have C4 := Lib.hid hc
  have K4 := Lib.hid hk
  clear hc hk
  go_wp2_with (fail)
  refine (field_str_thing (textC (bnd 100)) (textC_fair _) (textC_one _) 1 4 (by decide) Thg.s (fun y x => { x with s := y }) _ cv4 w4 C4.out getter_1).mono ?_
  rintro e w5 ⟨v5, rfl, hp, hk⟩
  obtain ⟨pa5, pb5, rfl, hpp, hpg⟩ := hp
  have P5 : Hid (PPut w5 103 4 pa5 tS.p ∧ PGet w5 103 4 pb5 tS.p) := Lib.hid ⟨hpp, hpg⟩
  have K5 := Lib.hid (K4.out.nil_trans hk)
  clear hpp hpg hk
  go_wp2_with (fail)
  refine (number_any _).mono ?_
  rintro e w6 ⟨cv6, rfl, hc, hk⟩
  have C6 := Lib.hid hc
  have K6 := Lib.hid hk
  clear hc hk
  go_wp2_with (fail)
  refine (listof_int numC numC_fair numC_one cv6 100 w6 C6.out).mono ?_
  rintro e w7 ⟨cv7, rfl, hc, hk⟩
  have C7 : Hid (IsCodec w7 cv7 (cN 100)) := Lib.hid hc
  have K7 := Lib.hid (K6.out.nil_trans hk)
  clear hc hk
  go_wp2_with (fail)
  refine (field_ints_thing (cN 100) (cN_fair _) (listC_one _ _) 2 4 (by decide) Thg.l (fun y x => { x with l := y }) _ cv7 w7 C7.out getter_2).mono ?_
  rintro e w8 ⟨v8, rfl, hp, hk⟩
  obtain ⟨pa8, pb8, rfl, hpp, hpg⟩ := hp
  have P8 : Hid (PPut w8 103 4 pa8 tL.p ∧ PGet w8 103 4 pb8 tL.p) := Lib.hid ⟨hpp, hpg⟩
  have K8 := Lib.hid (K7.out.nil_trans hk)
  clear hpp hpg hk
  go_wp2_with (fail)
  refine (flag_any _).mono ?_
  rintro e w9 ⟨cv9, rfl, hc, hk⟩
  have C9 := Lib.hid hc
  have K9 := Lib.hid hk
  clear hc hk
  go_wp2_with (fail)
  refine (field_bool_thing flagC flagC_fair flagC_one 3 4 (by decide) Thg.f (fun y x => { x with f := y }) _ cv9 w9 C9.out getter_3).mono ?_
  rintro e w10 ⟨v10, rfl, hp, hk⟩
  obtain ⟨pa10, pb10, rfl, hpp, hpg⟩ := hp
  have P10 : Hid (PPut w10 103 4 pa10 tF.p ∧ PGet w10 103 4 pb10 tF.p) := Lib.hid ⟨hpp, hpg⟩
  have K10 := Lib.hid (K9.out.nil_trans hk)
  clear hpp hpg hk
  go_wp2_with (fail)
  have k11 := (Kept.refl w10 (fun _ => False)).alloc (.cells #[pa3, pb3, pa5, pb5, pa8, pb8, pa10, pb10] 112)
  have b11 := heap_alloc_new w10 (.cells #[pa3, pb3, pa5, pb5, pa8, pb8, pa10, pb10] 112)
  obtain ⟨w11, hw11⟩ : ∃ w11, w10.alloc (.cells #[pa3, pb3, pa5, pb5, pa8, pb8, pa10, pb10] 112) = w11 := ⟨_, rfl⟩
  rw [hw11] at k11 b11 ⊢
  have K11 := Lib.hid k11
  have PA : Hid (PartsAt w11 103 4 w10.heap.size (prts gT)) := Lib.hid (by
    refine ⟨blk_lt b11, ?_⟩
    intro k q hq
    match k, hq with
    | 0, hq =>
      simp only [prts, gT, List.map_cons, List.map_nil, List.getElem?_cons_zero, Option.some.injEq] at hq
      subst hq
      exact ⟨_, _, cellOf (j := 0) b11, cellOf (j := 1) b11, P3.out.1.later (((K5.out.nil_trans K8.out).nil_trans K10.out).nil_trans k11).same, P3.out.2.later (((K5.out.nil_trans K8.out).nil_trans K10.out).nil_trans k11).same⟩
    | 1, hq =>
      simp only [prts, gT, List.map_cons, List.map_nil, List.getElem?_cons_zero, List.getElem?_cons_succ, Option.some.injEq] at hq
      subst hq
      exact ⟨_, _, cellOf (j := 2) b11, cellOf (j := 3) b11, P5.out.1.later ((K8.out.nil_trans K10.out).nil_trans k11).same, P5.out.2.later ((K8.out.nil_trans K10.out).nil_trans k11).same⟩
    | 2, hq =>
      simp only [prts, gT, List.map_cons, List.map_nil, List.getElem?_cons_zero, List.getElem?_cons_succ, Option.some.injEq] at hq
      subst hq
      exact ⟨_, _, cellOf (j := 4) b11, cellOf (j := 5) b11, P8.out.1.later (K10.out.nil_trans k11).same, P8.out.2.later (K10.out.nil_trans k11).same⟩
    | 3, hq =>
      simp only [prts, gT, List.map_cons, List.map_nil, List.getElem?_cons_zero, List.getElem?_cons_succ, Option.some.injEq] at hq
      subst hq
      exact ⟨_, _, cellOf (j := 6) b11, cellOf (j := 7) b11, P10.out.1.later k11.same, P10.out.2.later k11.same⟩
    | k + 4, hq => simp [prts, gT] at hq)
  have RT := Lib.hid (record_thing (prts gT) gT_fair gT_off zT w10.heap.size w11 (by decide) PA.out)
  have K11' := Lib.hid ((((K3.out.nil_trans K5.out).nil_trans K8.out).nil_trans K10.out).nil_trans K11.out)
  clear k11 b11 hw11
  refine RT.out.mono ?_
  rintro e w12 ⟨cv12, rfl, hc, hk⟩
  obtain ⟨pf, pc, gf, gc, rfl⟩ := hc.parts
  have C12 : Hid (IsCodec w12 (.agg #[.func (.func pf) #[] pc, .func (.func gf) #[] gc]) cR) := Lib.hid hc
  have K12 := Lib.hid (K11'.out.nil_trans hk)
  clear hc hk
  have hb13 := heap_alloc_new w12 (.cells #[.func (.func pf) #[] pc, .func (.func gf) #[] gc] 107)
  have kc := (Kept.refl w12 (fun _ => False)).alloc (.cells #[.func (.func pf) #[] pc, .func (.func gf) #[] gc] 107)
  obtain ⟨w13, hw13⟩ : ∃ w13, w12.alloc (.cells #[.func (.func pf) #[] pc, .func (.func gf) #[] gc] 107) = w13 := ⟨_, rfl⟩
  obtain ⟨cp, hcp⟩ : ∃ cp, w12.heap.size = cp := ⟨_, rfl⟩
  rw [hw13, hcp] at hb13
  rw [hw13] at kc
  have CBL := Lib.hid (blk_lt hb13)
  have HB := Lib.hid (CB.of hb13)
  have KC := Lib.hid kc
  have K13 := Lib.hid (K12.out.nil_trans kc)
  have PL13 := Lib.hid (Nat.lt_of_lt_of_le PL.out K13.out.size)
  have X13 := Lib.hid (X1.out.kept PL.out K13.out)
  have HW13 := Lib.hid hw13
  have HCP := Lib.hid hcp
  have pl12 := Nat.lt_of_lt_of_le PL.out K12.out.size
  obtain ⟨b0, b1, b2, b3⟩ := X1.out.kept PL.out K12.out
  clear hb13 kc hw13 hcp
  go_wp2_with (fail)
  clear b0 b1 b2 b3 pl12
  rw [HW13.out, HCP.out]
  have FR : Hid (Fair cR) := Lib.hid (recC_fair (fun p hp => (gT_fair p hp).fair) zT)
  refine (encode_thing w12 _ cR x _ w13 C12.out FR.out KC.out.same rfl (rep_thg (HR.out.kept (K1.out.nil_trans K13.out)) (Nat.le_refl _)) (by have h1 := HN.out; have h2 := HS.out; unfold WRoom; rw [cR_cost]; simp only [List.length_nil]; omega)).mono ?_
  rw [ER.out]
  rintro e w14 ⟨rfl, hk⟩
  have K14 := Lib.hid hk
  have R13 := Lib.hid (R1.out.kept K13.out)
  clear hk
  go_wp2_with (fail)
  have XC := Lib.hid ((X13.out.kept PL13.out K14.out))
  refine wp_region_lex (fun w' => w'.cell? ⟨p, 0, none⟩ = some (.int .i64 x.a)) [2, 0, 3, 4, 0, 0, 0, 0, 0] (by kernel_rfl) (by kernel_rfl) (by kernel_rfl) (XC.out.1) (fun Q' hQ' => ?_)
  simp only [List.zip_cons_cons, List.zip_nil_right]
  refine wpX_keeps ?_ (fun K hK => ?_)
  · rfl
  go_wp2_with (fail)
  refine (number_any _).mono ?_
  rintro e w15 ⟨cva7, rfl, hc, hk⟩
  have CA7 := Lib.hid hc
  have KA7 := Lib.hid (K14.out.drew.nil_trans hk)
  have XD := Lib.hid (X13.out.kept PL13.out KA7.out)
  clear hc hk
  go_simp
  refine hK _ _ ⟨rfl, XD.out.1, ?_⟩
  clear hK K
  repeat (first
    | (refine wpX_silent ?_ (fun K hK => ?_)
       · rfl
       apply Exists.intro
       refine ⟨fun w' => ?_, ?_⟩
       · go_simp
         exact ⟨rfl, rfl⟩
       go_simp
       refine hK _ _ ?_
       clear hK K)
    | (refine wpX_read ?_ (fun K hK => ?_)
       · rfl
       apply Exists.intro
       refine ⟨?_, ?_⟩
       · go_simp
         exact ⟨rfl, rfl⟩
       go_simp
       refine hK _ _ ?_
       clear hK K)
    | (refine wpX_float ?_ (fun K hK => ?_)
       · rfl
       apply Exists.intro
       refine ⟨fun w' hw' => ?_, ?_⟩
       · try dsimp only at hw'
         go_simp
         exact ⟨rfl, rfl⟩
       go_simp
       refine hK _ _ ?_
       clear hK K)
    | (refine wpX_not ?_ (fun K hK => ?_)
       · rfl
       go_simp
       refine hK _ _ ?_
       clear hK K))
  refine wpX_heavy rfl (fun K hK => ?_)
  go_wp2_with (fail)
  refine (encode_int _ _ numC x.a _ w15 CA7.out numC_fair (Same.refl _) rfl (by unfold WRoom; show (0 : Nat) + 8 ≤ 200000000000000; omega)).mono ?_
  rw [EA.out]
  rintro e w16 ⟨rfl, hk⟩
  have K16 := Lib.hid (KA7.out.nil_trans hk)
  clear hk XC XD
  go_simp
  refine hK _ _ ⟨rfl, ?_⟩
  clear hK K
  repeat (first
    | (refine wpX_silent ?_ (fun K hK => ?_)
       · rfl
       apply Exists.intro
       refine ⟨fun w' => ?_, ?_⟩
       · go_simp
         exact ⟨rfl, rfl⟩
       go_simp
       refine hK _ _ ?_
       clear hK K)
    | (refine wpX_read ?_ (fun K hK => ?_)
       · rfl
       apply Exists.intro
       refine ⟨?_, ?_⟩
       · go_simp
         exact ⟨rfl, rfl⟩
       go_simp
       refine hK _ _ ?_
       clear hK K)
    | (refine wpX_float ?_ (fun K hK => ?_)
       · rfl
       apply Exists.intro
       refine ⟨fun w' hw' => ?_, ?_⟩
       · try dsimp only at hw'
         go_simp
         exact ⟨rfl, rfl⟩
       go_simp
       refine hK _ _ ?_
       clear hK K)
    | (refine wpX_not ?_ (fun K hK => ?_)
       · rfl
       go_simp
       refine hK _ _ ?_
       clear hK K))
  refine wpX_nil (hQ' _ _ ?_)
  go_wp2_with (fail)
  have XC := Lib.hid ((X13.out.kept PL13.out K16.out))
  refine wp_region_lex (fun w' => w'.cell? ⟨p, 1, none⟩ = some (.string x.s)) [2, 0, 3, 4, 0, 0, 0, 0, 0] (by kernel_rfl) (by kernel_rfl) (by kernel_rfl) (XC.out.2.1) (fun Q' hQ' => ?_)
  simp only [List.zip_cons_cons, List.zip_nil_right]
  refine wpX_keeps ?_ (fun K hK => ?_)
  · rfl
  go_wp2_with (fail)
  refine (text_any 100 _).mono ?_
  rintro e w17 ⟨cva8, rfl, hc, hk⟩
  have CA8 := Lib.hid hc
  have KA8 := Lib.hid (K16.out.drew.nil_trans hk)
  have XD := Lib.hid (X13.out.kept PL13.out KA8.out)
  clear hc hk
  go_simp
  refine hK _ _ ⟨rfl, XD.out.2.1, ?_⟩
  clear hK K
  repeat (first
    | (refine wpX_silent ?_ (fun K hK => ?_)
       · rfl
       apply Exists.intro
       refine ⟨fun w' => ?_, ?_⟩
       · go_simp
         exact ⟨rfl, rfl⟩
       go_simp
       refine hK _ _ ?_
       clear hK K)
    | (refine wpX_read ?_ (fun K hK => ?_)
       · rfl
       apply Exists.intro
       refine ⟨?_, ?_⟩
       · go_simp
         exact ⟨rfl, rfl⟩
       go_simp
       refine hK _ _ ?_
       clear hK K)
    | (refine wpX_float ?_ (fun K hK => ?_)
       · rfl
       apply Exists.intro
       refine ⟨fun w' hw' => ?_, ?_⟩
       · try dsimp only at hw'
         go_simp
         exact ⟨rfl, rfl⟩
       go_simp
       refine hK _ _ ?_
       clear hK K)
    | (refine wpX_not ?_ (fun K hK => ?_)
       · rfl
       go_simp
       refine hK _ _ ?_
       clear hK K))
  refine wpX_heavy rfl (fun K hK => ?_)
  go_wp2_with (fail)
  refine (encode_str _ _ (textC (bnd 100)) x.s _ w17 CA8.out (textC_fair _) (Same.refl _) rfl (by have h2 := HS.out; unfold WRoom; simp only [textC, List.length_nil]; omega)).mono ?_
  rw [EB.out]
  rintro e w18 ⟨rfl, hk⟩
  have K18 := Lib.hid (KA8.out.nil_trans hk)
  clear hk XC XD
  go_simp
  refine hK _ _ ⟨rfl, ?_⟩
  clear hK K
  repeat (first
    | (refine wpX_silent ?_ (fun K hK => ?_)
       · rfl
       apply Exists.intro
       refine ⟨fun w' => ?_, ?_⟩
       · go_simp
         exact ⟨rfl, rfl⟩
       go_simp
       refine hK _ _ ?_
       clear hK K)
    | (refine wpX_read ?_ (fun K hK => ?_)
       · rfl
       apply Exists.intro
       refine ⟨?_, ?_⟩
       · go_simp
         exact ⟨rfl, rfl⟩
       go_simp
       refine hK _ _ ?_
       clear hK K)
    | (refine wpX_float ?_ (fun K hK => ?_)
       · rfl
       apply Exists.intro
       refine ⟨fun w' hw' => ?_, ?_⟩
       · try dsimp only at hw'
         go_simp
         exact ⟨rfl, rfl⟩
       go_simp
       refine hK _ _ ?_
       clear hK K)
    | (refine wpX_not ?_ (fun K hK => ?_)
       · rfl
       go_simp
       refine hK _ _ ?_
       clear hK K))
  refine wpX_nil (hQ' _ _ ?_)
  go_wp2_with (fail)
  have XC := Lib.hid ((X13.out.kept PL13.out K18.out))
  refine wp_region_lex (fun w' => w'.cell? ⟨p, 2, none⟩ = some (.slice A x.l.length c)) [2, 2, 0, 3, 4, 0, 0, 0, 0, 0] (by kernel_rfl) (by kernel_rfl) (by kernel_rfl) (XC.out.2.2.1) (fun Q' hQ' => ?_)
  simp only [List.zip_cons_cons, List.zip_nil_right]
  refine wpX_keeps ?_ (fun K hK => ?_)
  · rfl
  go_wp2_with (fail)
  refine (number_any _).mono ?_
  rintro e w19 ⟨cva9, rfl, hc, hk⟩
  have CA9 := Lib.hid hc
  have KA9 := Lib.hid (K18.out.drew.nil_trans hk)
  have XD := Lib.hid (X13.out.kept PL13.out KA9.out)
  clear hc hk
  go_simp
  refine hK _ _ ⟨rfl, XD.out.2.2.1, ?_⟩
  clear hK K
  refine wpX_keeps ?_ (fun K hK => ?_)
  · rfl
  go_wp2_with (fail)
  refine (listof_int numC numC_fair numC_one cva9 100 w19 CA9.out).mono ?_
  rintro e w20 ⟨cv20, rfl, hc, hk⟩
  have C20 : Hid (IsCodec w20 cv20 (cN 100)) := Lib.hid hc
  have K20 := Lib.hid (KA9.out.nil_trans hk)
  have XD2 := Lib.hid (X13.out.kept PL13.out K20.out)
  clear hc hk
  go_simp
  refine hK _ _ ⟨rfl, XD2.out.2.2.1, ?_⟩
  clear hK K XD2
  repeat (first
    | (refine wpX_silent ?_ (fun K hK => ?_)
       · rfl
       apply Exists.intro
       refine ⟨fun w' => ?_, ?_⟩
       · go_simp
         exact ⟨rfl, rfl⟩
       go_simp
       refine hK _ _ ?_
       clear hK K)
    | (refine wpX_read ?_ (fun K hK => ?_)
       · rfl
       apply Exists.intro
       refine ⟨?_, ?_⟩
       · go_simp
         exact ⟨rfl, rfl⟩
       go_simp
       refine hK _ _ ?_
       clear hK K)
    | (refine wpX_float ?_ (fun K hK => ?_)
       · rfl
       apply Exists.intro
       refine ⟨fun w' hw' => ?_, ?_⟩
       · try dsimp only at hw'
         go_simp
         exact ⟨rfl, rfl⟩
       go_simp
       refine hK _ _ ?_
       clear hK K)
    | (refine wpX_not ?_ (fun K hK => ?_)
       · rfl
       go_simp
       refine hK _ _ ?_
       clear hK K))
  refine wpX_heavy rfl (fun K hK => ?_)
  go_wp2_with (fail)
  refine (encode_ints _ _ (cN 100) x.l _ w20 C20.out (cN_fair _) (Same.refl _) (rep_of_row (c := numC) (fun G w x => rfl) (R13.out.kept K20.out)) (by have h1 := HN.out; unfold WRoom; rw [cN_cost]; simp only [List.length_nil]; omega)).mono ?_
  rw [ED.out]
  rintro e w21 ⟨rfl, hk⟩
  have K21 := Lib.hid (K20.out.nil_trans hk)
  clear hk XC XD
  go_simp
  refine hK _ _ ⟨rfl, ?_⟩
  clear hK K
  repeat (first
    | (refine wpX_silent ?_ (fun K hK => ?_)
       · rfl
       apply Exists.intro
       refine ⟨fun w' => ?_, ?_⟩
       · go_simp
         exact ⟨rfl, rfl⟩
       go_simp
       refine hK _ _ ?_
       clear hK K)
    | (refine wpX_read ?_ (fun K hK => ?_)
       · rfl
       apply Exists.intro
       refine ⟨?_, ?_⟩
       · go_simp
         exact ⟨rfl, rfl⟩
       go_simp
       refine hK _ _ ?_
       clear hK K)
    | (refine wpX_float ?_ (fun K hK => ?_)
       · rfl
       apply Exists.intro
       refine ⟨fun w' hw' => ?_, ?_⟩
       · try dsimp only at hw'
         go_simp
         exact ⟨rfl, rfl⟩
       go_simp
       refine hK _ _ ?_
       clear hK K)
    | (refine wpX_not ?_ (fun K hK => ?_)
       · rfl
       go_simp
       refine hK _ _ ?_
       clear hK K))
  refine wpX_nil (hQ' _ _ ?_)
  go_wp2_with (fail)
  have XC := Lib.hid ((X13.out.kept PL13.out K21.out))
  refine wp_region_lex (fun w' => w'.cell? ⟨p, 3, none⟩ = some (.bool x.f)) [2, 0, 3, 4, 0, 0, 0, 0, 0] (by kernel_rfl) (by kernel_rfl) (by kernel_rfl) (XC.out.2.2.2) (fun Q' hQ' => ?_)
  simp only [List.zip_cons_cons, List.zip_nil_right]
  refine wpX_keeps ?_ (fun K hK => ?_)
  · rfl
  go_wp2_with (fail)
  refine (flag_any _).mono ?_
  rintro e w22 ⟨cva10, rfl, hc, hk⟩
  have CA10 := Lib.hid hc
  have KA10 := Lib.hid (K21.out.drew.nil_trans hk)
  have XD := Lib.hid (X13.out.kept PL13.out KA10.out)
  clear hc hk
  go_simp
  refine hK _ _ ⟨rfl, XD.out.2.2.2, ?_⟩
  clear hK K
  repeat (first
    | (refine wpX_silent ?_ (fun K hK => ?_)
       · rfl
       apply Exists.intro
       refine ⟨fun w' => ?_, ?_⟩
       · go_simp
         exact ⟨rfl, rfl⟩
       go_simp
       refine hK _ _ ?_
       clear hK K)
    | (refine wpX_read ?_ (fun K hK => ?_)
       · rfl
       apply Exists.intro
       refine ⟨?_, ?_⟩
       · go_simp
         exact ⟨rfl, rfl⟩
       go_simp
       refine hK _ _ ?_
       clear hK K)
    | (refine wpX_float ?_ (fun K hK => ?_)
       · rfl
       apply Exists.intro
       refine ⟨fun w' hw' => ?_, ?_⟩
       · try dsimp only at hw'
         go_simp
         exact ⟨rfl, rfl⟩
       go_simp
       refine hK _ _ ?_
       clear hK K)
    | (refine wpX_not ?_ (fun K hK => ?_)
       · rfl
       go_simp
       refine hK _ _ ?_
       clear hK K))
  refine wpX_heavy rfl (fun K hK => ?_)
  go_wp2_with (fail)
  refine (encode_bool _ _ flagC x.f _ w22 CA10.out flagC_fair (Same.refl _) rfl (by unfold WRoom; show (0 : Nat) + 8 ≤ 200000000000000; omega)).mono ?_
  rw [EK.out]
  rintro e w23 ⟨rfl, hk⟩
  have K23 := Lib.hid (KA10.out.nil_trans hk)
  clear hk XC XD
  go_simp
  refine hK _ _ ⟨rfl, ?_⟩
  clear hK K
  repeat (first
    | (refine wpX_silent ?_ (fun K hK => ?_)
       · rfl
       apply Exists.intro
       refine ⟨fun w' => ?_, ?_⟩
       · go_simp
         exact ⟨rfl, rfl⟩
       go_simp
       refine hK _ _ ?_
       clear hK K)
    | (refine wpX_read ?_ (fun K hK => ?_)
       · rfl
       apply Exists.intro
       refine ⟨?_, ?_⟩
       · go_simp
         exact ⟨rfl, rfl⟩
       go_simp
       refine hK _ _ ?_
       clear hK K)
    | (refine wpX_float ?_ (fun K hK => ?_)
       · rfl
       apply Exists.intro
       refine ⟨fun w' hw' => ?_, ?_⟩
       · try dsimp only at hw'
         go_simp
         exact ⟨rfl, rfl⟩
       go_simp
       refine hK _ _ ?_
       clear hK K)
    | (refine wpX_not ?_ (fun K hK => ?_)
       · rfl
       go_simp
       refine hK _ _ ?_
       clear hK K))
  refine wpX_nil (hQ' _ _ ?_)
  obtain ⟨d0, d1⟩ := HB.out.kept K23.out CBL.out
  go_wp2_with (fail)
  clear d0 d1
  refine (decR w13 _ sr w23 (C12.out.later KC.out.same) K23.out.same DR.out).mono ?_
  rw [DRE.out, DRV.out]
  rintro e w24 ⟨hk, h⟩
  obtain ⟨A', c', rfl, hr'⟩ := (h.resolve_left fun h => h.1 rfl).2
  have K24 := Lib.hid (K23.out.nil_trans hk)
  have R24 := Lib.hid hr'
  obtain ⟨d0, d1⟩ := HB.out.kept K24.out CBL.out
  have cl24 := Nat.lt_of_lt_of_le CBL.out K24.out.size
  clear hk h hr'
  go_wp2_with (fail)
  have z1 : (1 : Int) ≤ sr.size := by have := HPOS.out; omega
  have z2 : ((sr.size : Int) == 0) = false := beq_eq_false_iff_ne.2 (by omega)
  have z3 : ¬ (sr.size : Int) = 0 := by omega
  have z4 : (k : Int) ≤ sr.size := by have := KS.out; omega
  have z5 : (0 : Int) ≤ k := by omega
  have qm := QM.out
  have qn := QN.out
  have z6 : ¬ sr = ByteArray.empty := fun h => by
    have h1 := HPOS.out
    rw [h] at h1
    exact absurd h1 (by decide)
  have qw : IntKind.i64.wrap (at_.tmod sr.size) = k := by rw [qn]; exact IntWalk.i64_in _ (by have := KS.out; have := D1.out; unfold DSize at this; omega)
  have ka := (Kept.refl w24 (fun _ => False)).alloc (.cells #[.int .i64 x.a, .string x.s, .slice A' x.l.length c', .bool x.f] 103)
  have hba := heap_alloc_new w24 (.cells #[.int .i64 x.a, .string x.s, .slice A' x.l.length c', .bool x.f] 103)
  obtain ⟨w25, hw25⟩ : ∃ w25, w24.alloc (.cells #[.int .i64 x.a, .string x.s, .slice A' x.l.length c', .bool x.f] 103) = w25 := ⟨_, rfl⟩
  obtain ⟨yp, hyp⟩ : ∃ yp, w24.heap.size = yp := ⟨_, rfl⟩
  rw [hw25] at ka hba ⊢
  rw [hyp] at hba ⊢
  have YL := Lib.hid (blk_lt hba)
  have Y25 : Hid (XB w25 yp x A' x.l.length c') := Lib.hid ⟨cellOf (j := 0) hba, cellOf (j := 1) hba, cellOf (j := 2) hba, cellOf (j := 3) hba⟩
  have K25 := Lib.hid (K24.out.nil_trans ka)
  have R25 := Lib.hid (R24.out.kept ka)
  have CL25 := Lib.hid (Nat.lt_of_lt_of_le cl24 ka.size)
  have HB25 := Lib.hid (HB.out.kept K25.out CBL.out)
  clear ka hba hw25 hyp d0 d1 cl24
  refine wp_region_fork (fun w' => CB w' cp pf pc gf gc) [3, 0, 0, 0, 0, 0, 0, 4, 0, 0, 0, 2, 4, 0] [0, 1, 2, 3, 4, 5, 6] [8, 9, 10] [12, 13] 7 11 (by kernel_rfl) (by kernel_rfl) (by kernel_rfl) (HB25.out) (fun Q' hQ' => ?_)
  simp only [pick, List.zip_cons_cons, List.zip_nil_right, List.cons_append, List.nil_append, List.filterMap_cons, List.filterMap_nil, List.getElem?_cons_zero, List.getElem?_cons_succ]
  unfold CB
  repeat (first
    | (refine wpX_silent ?_ (fun K hK => ?_)
       · rfl
       apply Exists.intro
       refine ⟨fun w' => ?_, ?_⟩
       · go_simp
         exact ⟨rfl, rfl⟩
       go_simp
       refine hK _ _ ?_
       clear hK K)
    | (refine wpX_read ?_ (fun K hK => ?_)
       · rfl
       apply Exists.intro
       refine ⟨?_, ?_⟩
       · go_simp
         exact ⟨rfl, rfl⟩
       go_simp
       refine hK _ _ ?_
       clear hK K)
    | (refine wpX_float ?_ (fun K hK => ?_)
       · rfl
       apply Exists.intro
       refine ⟨fun w' hw' => ?_, ?_⟩
       · try dsimp only at hw'
         go_simp
         exact ⟨rfl, rfl⟩
       go_simp
       refine hK _ _ ?_
       clear hK K)
    | (refine wpX_not ?_ (fun K hK => ?_)
       · rfl
       go_simp
       refine hK _ _ ?_
       clear hK K))
  refine wpX_nil ⟨?_, ?_⟩
  · refine wpX_heavy rfl (fun K hK => ?_)
    go_wp2_with (fail)
    clear z1 z2 z3 z4 z5 z6 qm qn qw
    refine (decR w13 _ _ w25.drew (C12.out.later KC.out.same) K25.out.drew.same D2.out).mono ?_
    rw [ECUT.out]
    rintro e w26 ⟨hk, h⟩
    have K26 := Lib.hid (((Kept.refl w25 (fun _ => False)).drew).nil_trans hk)
    obtain rfl := (h.resolve_right fun h => absurd h.1 (by decide)).2
    have CB26 := Lib.hid (HB25.out.kept K26.out CL25.out)
    have CL26 := Lib.hid (Nat.lt_of_lt_of_le CL25.out K26.out.size)
    clear hk h
    go_simp
    refine hK _ _ ⟨rfl, ?_⟩
    clear hK K
    repeat (first
      | (refine wpX_silent ?_ (fun K hK => ?_)
         · rfl
         apply Exists.intro
         refine ⟨fun w' => ?_, ?_⟩
         · go_simp
           exact ⟨rfl, rfl⟩
         go_simp
         refine hK _ _ ?_
         clear hK K)
      | (refine wpX_read ?_ (fun K hK => ?_)
         · rfl
         apply Exists.intro
         refine ⟨?_, ?_⟩
         · go_simp
           exact ⟨rfl, rfl⟩
         go_simp
         refine hK _ _ ?_
         clear hK K)
      | (refine wpX_float ?_ (fun K hK => ?_)
         · rfl
         apply Exists.intro
         refine ⟨fun w' hw' => ?_, ?_⟩
         · try dsimp only at hw'
           go_simp
           exact ⟨rfl, rfl⟩
         go_simp
         refine hK _ _ ?_
         clear hK K)
      | (refine wpX_not ?_ (fun K hK => ?_)
         · rfl
         go_simp
         refine hK _ _ ?_
         clear hK K))
    have ka := (Kept.refl w26 (fun _ => False)).alloc (.cells #[.int .i64 0, .string ⟨#[]⟩, .slice none 0 0, .bool false] 103)
    refine wpX_keeps ?_ (fun K hK => ?_)
    · rfl
    go_wp2_with (fail)
    refine ⟨CB26.out.kept ka CL26.out, ?_⟩
    repeat (first
      | (refine wpX_silent ?_ (fun K hK => ?_)
         · rfl
         apply Exists.intro
         refine ⟨fun w' => ?_, ?_⟩
         · go_simp
           exact ⟨rfl, rfl⟩
         go_simp
         refine hK _ _ ?_
         clear hK K)
      | (refine wpX_read ?_ (fun K hK => ?_)
         · rfl
         apply Exists.intro
         refine ⟨?_, ?_⟩
         · go_simp
           exact ⟨rfl, rfl⟩
         go_simp
         refine hK _ _ ?_
         clear hK K)
      | (refine wpX_float ?_ (fun K hK => ?_)
         · rfl
         apply Exists.intro
         refine ⟨fun w' hw' => ?_, ?_⟩
         · try dsimp only at hw'
           go_simp
           exact ⟨rfl, rfl⟩
         go_simp
         refine hK _ _ ?_
         clear hK K)
      | (refine wpX_not ?_ (fun K hK => ?_)
         · rfl
         go_simp
         refine hK _ _ ?_
         clear hK K))
    refine wpX_heavy rfl (fun K hK => ?_)
    refine wp_store_row 103 _ _ rfl w26.heap.size #[.int .i64 0, .string ⟨#[]⟩, .slice none 0 0, .bool false] rfl rfl _ _ (heap_alloc_new _ _) (by kernel_rfl) rfl (by simp [Value.oneCell']) ?_
    rw [Go.World.setRow_alloc_new]
    go_simp
    refine hK _ _ ⟨rfl, ?_⟩
    clear hK K
    repeat (first
      | (refine wpX_silent ?_ (fun K hK => ?_)
         · rfl
         apply Exists.intro
         refine ⟨fun w' => ?_, ?_⟩
         · go_simp
           exact ⟨rfl, rfl⟩
         go_simp
         refine hK _ _ ?_
         clear hK K)
      | (refine wpX_read ?_ (fun K hK => ?_)
         · rfl
         apply Exists.intro
         refine ⟨?_, ?_⟩
         · go_simp
           exact ⟨rfl, rfl⟩
         go_simp
         refine hK _ _ ?_
         clear hK K)
      | (refine wpX_float ?_ (fun K hK => ?_)
         · rfl
         apply Exists.intro
         refine ⟨fun w' hw' => ?_, ?_⟩
         · try dsimp only at hw'
           go_simp
           exact ⟨rfl, rfl⟩
         go_simp
         refine hK _ _ ?_
         clear hK K)
      | (refine wpX_not ?_ (fun K hK => ?_)
         · rfl
         go_simp
         refine hK _ _ ?_
         clear hK K))
    refine wpX_nil (hQ' _ _ ?_)
    have J27 := Lib.hid (K26.out.nil_trans ka)
    obtain ⟨w27, hw27⟩ : ∃ w27, w26.alloc (.cells #[.int .i64 0, .string ⟨#[]⟩, .slice none 0 0, .bool false] 103) = w27 := ⟨_, rfl⟩
    rw [hw27] at J27 ⊢
    clear ka hw27
    have K27 := Lib.hid (K25.out.nil_trans J27.out)
    obtain ⟨d0, d1⟩ := HB25.out.kept J27.out CL25.out
    have qa := QA.out
    go_wp2_with (fail)
    clear d0 d1 qa
    refine (decR w13 _ _ w27 (C12.out.later KC.out.same) K27.out.same D3.out).mono ?_
    rw [EMORE.out]
    rintro e w28 ⟨hk, h⟩
    obtain rfl := (h.resolve_right fun h => absurd h.1 (by decide)).2
    have J28 := Lib.hid (J27.out.nil_trans hk)
    have ka := (Kept.refl w28 (fun _ => False)).alloc (.cells #[.int .i64 0, .string ⟨#[]⟩, .slice none 0 0, .bool false] 103)
    have yl := Nat.lt_of_lt_of_le YL.out J28.out.size
    have pl := Nat.lt_of_lt_of_le PL13.out (K25.out.nil_trans J28.out).size
    obtain ⟨y0, y1, y2, y3⟩ := Y25.out.kept YL.out J28.out
    obtain ⟨x0, x1, x2, x3⟩ := X13.out.kept PL13.out (K25.out.nil_trans J28.out)
    have R28 := Lib.hid ((R25.out.kept J28.out).kept ka)
    have R13' := Lib.hid ((R13.out.kept (K25.out.nil_trans J28.out)).kept ka)
    have K28 := Lib.hid ((K25.out.nil_trans J28.out).nil_trans ka)
    clear hk h ka
    have qb := QB.out
    have qc := QC.out
    have qd := QD.out
    go_wp2_with (fail)
    refine (ints_eq x.l A' A c' c _ R28.out R13'.out).mono ?_
    rintro e w29 ⟨rfl, hk⟩
    have K29 := Lib.hid (K28.out.nil_trans hk)
    clear y0 y1 y2 y3 x0 x1 x2 x3 qb qc qd
    obtain ⟨_, _, _, y3⟩ := Y25.out.kept YL.out (J28.out.nil_trans (((Kept.refl w28 (fun _ => False)).alloc _).nil_trans hk))
    obtain ⟨_, _, _, x3⟩ := X13.out.kept PL13.out K29.out
    clear hk
    go_wp2
    go_ret
    exact ⟨rfl, ((K1.out.nil_trans K13.out).nil_trans K29.out).nil_below⟩
  · refine wpX_keeps ?_ (fun K hK => ?_)
    · rfl
    clear z1 z2 z3 z4 z5 z6 qm qn qw
    go_wp2_with (fail)
    have ka := ((Kept.refl w25 (fun _ => False)).alloc (.cells #[.int .i64 0, .string ⟨#[]⟩, .slice none 0 0, .bool false] 103)).drew
    have hz : ((w25.alloc (.cells #[.int .i64 0, .string ⟨#[]⟩, .slice none 0 0, .bool false] 103)).drew).heap[w25.heap.size]? = some (.cells #[.int .i64 0, .string ⟨#[]⟩, .slice none 0 0, .bool false] 103 (0, 0)) := heap_alloc_new w25 (.cells #[.int .i64 0, .string ⟨#[]⟩, .slice none 0 0, .bool false] 103)
    obtain ⟨w25b, hw25b⟩ : ∃ w25b, (w25.alloc (.cells #[.int .i64 0, .string ⟨#[]⟩, .slice none 0 0, .bool false] 103)).drew = w25b := ⟨_, rfl⟩
    obtain ⟨zp, hzp⟩ : ∃ zp, w25.heap.size = zp := ⟨_, rfl⟩
    have hzp' : w25.heap.size = zp := hzp
    rw [hw25b] at ka hz
    rw [hzp] at hz
    have KA := Lib.hid ka
    have HZ := Lib.hid hz
    have HW25B := Lib.hid hw25b
    have HZP := Lib.hid hzp'
    have CB25B := Lib.hid (HB25.out.kept ka CL25.out)
    clear ka hz hw25b hzp hzp'
    refine ⟨HB25.out.kept ((Kept.refl w25 (fun _ => False)).alloc _) CL25.out, ?_⟩
    rw [HW25B.out, HZP.out]
    have YZ := Lib.hid (show yp < zp by rw [← HZP.out]; exact YL.out)
    refine wpX_heavy rfl (fun K hK => ?_)
    go_wp2_with (fail)
    refine (decR w13 _ _ w25b (C12.out.later KC.out.same) (K25.out.nil_trans KA.out).same D2.out).mono ?_
    rw [ECUT.out]
    rintro e w26 ⟨hk, h⟩
    have K26 := Lib.hid (KA.out.nil_trans hk)
    have HZ26 := Lib.hid (hk.blk HZ.out (fun h => h))
    obtain rfl := (h.resolve_right fun h => absurd h.1 (by decide)).2
    clear hk h
    go_simp
    refine hK _ _ ⟨rfl, ?_⟩
    clear hK K
    repeat (first
      | (refine wpX_silent ?_ (fun K hK => ?_)
         · rfl
         apply Exists.intro
         refine ⟨fun w' => ?_, ?_⟩
         · go_simp
           exact ⟨rfl, rfl⟩
         go_simp
         refine hK _ _ ?_
         clear hK K)
      | (refine wpX_read ?_ (fun K hK => ?_)
         · rfl
         apply Exists.intro
         refine ⟨?_, ?_⟩
         · go_simp
           exact ⟨rfl, rfl⟩
         go_simp
         refine hK _ _ ?_
         clear hK K)
      | (refine wpX_float ?_ (fun K hK => ?_)
         · rfl
         apply Exists.intro
         refine ⟨fun w' hw' => ?_, ?_⟩
         · try dsimp only at hw'
           go_simp
           exact ⟨rfl, rfl⟩
         go_simp
         refine hK _ _ ?_
         clear hK K)
      | (refine wpX_not ?_ (fun K hK => ?_)
         · rfl
         go_simp
         refine hK _ _ ?_
         clear hK K))
    refine wpX_heavy rfl (fun K hK => ?_)
    refine wp_store_row 103 _ _ rfl zp #[.int .i64 0, .string ⟨#[]⟩, .slice none 0 0, .bool false] rfl rfl _ _ HZ26.out (by kernel_rfl) rfl (by simp [Value.oneCell']) ?_
    go_simp
    refine hK _ _ ⟨rfl, ?_⟩
    clear hK K
    repeat (first
      | (refine wpX_silent ?_ (fun K hK => ?_)
         · rfl
         apply Exists.intro
         refine ⟨fun w' => ?_, ?_⟩
         · go_simp
           exact ⟨rfl, rfl⟩
         go_simp
         refine hK _ _ ?_
         clear hK K)
      | (refine wpX_read ?_ (fun K hK => ?_)
         · rfl
         apply Exists.intro
         refine ⟨?_, ?_⟩
         · go_simp
           exact ⟨rfl, rfl⟩
         go_simp
         refine hK _ _ ?_
         clear hK K)
      | (refine wpX_float ?_ (fun K hK => ?_)
         · rfl
         apply Exists.intro
         refine ⟨fun w' hw' => ?_, ?_⟩
         · try dsimp only at hw'
           go_simp
           exact ⟨rfl, rfl⟩
         go_simp
         refine hK _ _ ?_
         clear hK K)
      | (refine wpX_not ?_ (fun K hK => ?_)
         · rfl
         go_simp
         refine hK _ _ ?_
         clear hK K))
    refine wpX_nil (hQ' _ _ ?_)
    have kr : Kept w26 (w26.setRow zp #[.int .i64 0, .string ⟨#[]⟩, .slice none 0 0, .bool false]) (fun j => j = zp) := ⟨rfl, rfl, rfl, by simp, fun j _ hj => setRow_other w26 zp j _ hj⟩
    have J27 := Lib.hid (K26.out.trans kr (fun k h => .inr (by rw [HZP.out]; omega)))
    obtain ⟨w27, hw27⟩ : ∃ w27, w26.setRow zp #[.int .i64 0, .string ⟨#[]⟩, .slice none 0 0, .bool false] = w27 := ⟨_, rfl⟩
    rw [hw27] at J27 ⊢
    clear kr hw27
    have K27 := Lib.hid (K25.out.nil_trans J27.out)
    obtain ⟨d0, d1⟩ := HB25.out.kept J27.out CL25.out
    have qa := QA.out
    go_wp2_with (fail)
    clear d0 d1 qa
    refine (decR w13 _ _ w27 (C12.out.later KC.out.same) K27.out.same D3.out).mono ?_
    rw [EMORE.out]
    rintro e w28 ⟨hk, h⟩
    obtain rfl := (h.resolve_right fun h => absurd h.1 (by decide)).2
    have J28 := Lib.hid (J27.out.nil_trans hk)
    have ka := (Kept.refl w28 (fun _ => False)).alloc (.cells #[.int .i64 0, .string ⟨#[]⟩, .slice none 0 0, .bool false] 103)
    have yl := Nat.lt_of_lt_of_le YL.out J28.out.size
    have pl := Nat.lt_of_lt_of_le PL13.out (K25.out.nil_trans J28.out).size
    obtain ⟨y0, y1, y2, y3⟩ := Y25.out.kept YL.out J28.out
    obtain ⟨x0, x1, x2, x3⟩ := X13.out.kept PL13.out (K25.out.nil_trans J28.out)
    have R28 := Lib.hid ((R25.out.kept J28.out).kept ka)
    have R13' := Lib.hid ((R13.out.kept (K25.out.nil_trans J28.out)).kept ka)
    have K28 := Lib.hid ((K25.out.nil_trans J28.out).nil_trans ka)
    clear hk h ka
    have qb := QB.out
    have qc := QC.out
    have qd := QD.out
    go_wp2_with (fail)
    refine (ints_eq x.l A' A c' c _ R28.out R13'.out).mono ?_
    rintro e w29 ⟨rfl, hk⟩
    have K29 := Lib.hid (K28.out.nil_trans hk)
    clear y0 y1 y2 y3 x0 x1 x2 x3 qb qc qd
    obtain ⟨_, _, _, y3⟩ := Y25.out.kept YL.out (J28.out.nil_trans (((Kept.refl w28 (fun _ => False)).alloc _).nil_trans hk))
    obtain ⟨_, _, _, x3⟩ := X13.out.kept PL13.out K29.out
    clear hk
    go_wp2
    go_ret
    exact ⟨rfl, ((K1.out.nil_trans K13.out).nil_trans K29.out).nil_below⟩

theorem cat_run {P : Program} (a b c : ByteArray) (h : a.size + b.size ≤ 9223372036854775807) (hc : c.data.toList = a.data.toList ++ b.data.toList) (w : World) : (Op.stringOp .add a b).run P w = .ok (.string c) w := by
  rw [run_string_add_sum w a b h]
  have e : a ++ b = c := by
    rw [← mk_data c, hc]
    exact (mk_add a b).symm
  rw [e]
theorem bsT_size (s : ByteArray) : (bsT s).length ≤ 8 + s.size := by
  have := encN_le s.size
  unfold bsT
  rw [List.length_append, len_data]
  omega
theorem rec_any (x : Thg) (A : Option Addr) (c : Nat) (at_ : Int) (w : World) (hr : RowIn w A x.l.length (x.l.map (Value.int .i64))) (hs : x.s.size ≤ 9223372036854775807) (hat : -9223372036854775808 ≤ at_ ∧ at_ ≤ 9223372036854775807) :
    Calls Try.prog 11 #[.agg #[.int .i64 x.a, .string x.s, .slice A x.l.length c, .bool x.f], .int .i64 at_] w fun e w' => e = .returned (.bool true) ∧ Below w.heap.size w w' := by
  by_cases h : 200 < x.l.length ∨ 200 < x.s.size ∨ at_ < 0
  · exact rec_out x A x.l.length c at_ w hr.max hs h
  · have hn : x.l.length ≤ 200 := by omega
    have hs2 : x.s.size ≤ 200 := by omega
    have ha : 0 ≤ at_ := by omega
    have EK := Lib.hid (enc_ok flagC_good (x := x.f) trivial)
    by_cases hok : okR gT x
    · obtain ⟨h1, h2, h3⟩ := (okR_iff x).1 hok
      have g := cR_good
      obtain ⟨s, hsd⟩ : ∃ s : ByteArray, s.data.toList = bsR gT x := ⟨⟨(bsR gT x).toArray⟩, by simp⟩
      have hms : (⟨(bsR gT x).toArray⟩ : ByteArray) = s := by rw [← hsd, mk_data]
      have hbl : (bsR gT x).length ≤ 3000 := by
        rw [bsR_eq]
        have e1 := encN_le x.a.toNat
        have e2 := bsT_size x.s
        have e3 := bsN_len x.l
        have e4 := encN_le (if x.f then 1 else 0)
        simp only [List.length_append, bsN, bsF]
        omega
      have hsl : s.size ≤ 3000 := by rw [← len_data, hsd]; exact hbl
      have hpos : 1 ≤ s.size := by
        have h1 := List.length_pos_iff.2 (g.pos x hok)
        rw [← hsd, len_data] at h1
        exact h1
      have ER := Lib.hid (enc_ok g hok)
      rw [hms] at ER
      have EA := Lib.hid (enc_ok numC_good h1)
      have EB := Lib.hid (enc_ok (textC_good (bnd_le 100)) h2)
      have ED := Lib.hid (enc_ok (cN_good 100) h3)
      obtain ⟨a, rfl⟩ : ∃ a : Nat, at_ = a := ⟨at_.toNat, by omega⟩
      have hks : a % s.size < s.size := Nat.mod_lt _ hpos
      have e4 := encN_le (if x.f then 1 else 0)
      have e1 := encN_le x.a.toNat
      have e2 := bsT_size x.s
      have e3 := bsN_len x.l
      have hDE := dec_ok (d := s) g hok hsd
      refine rec_in x A c a w hr hn hs2 ha s _ _ _ _ ER EA EB ED EK (Lib.hid (by unfold DSize; omega)) (Lib.hid hDE.1) (Lib.hid hDE.2) (a % s.size) (Lib.hid hks) (Lib.hid hpos) (Lib.hid rfl) (Lib.hid rfl) (Lib.hid (by unfold DSize; omega)) (Lib.hid (by unfold DSize; rw [ByteArray.size_extract]; omega))
        (Lib.hid (by unfold DSize; rw [ByteArray.size_append]; have : (ByteArray.mk #[0]).size = 1 := rfl; omega))
        (Lib.hid (dec_cut (d := s.extract 0 (a % s.size)) g hok (by rw [← hsd, ByteArray.data_extract]; simp [List.take_prefix]) (by rw [← hsd, ByteArray.data_extract]; simp only [Array.toList_extract, List.extract_eq_take_drop, List.length_take, List.length_drop, len_data]; omega)))
        (Lib.hid (dec_more g hok (l := [0]) (by simp) (by rw [← hsd, ByteArray.data_append]; simp)))
        ⟨(bsN x.a ++ bsT x.s).toArray⟩ ⟨(bsN x.a ++ bsT x.s ++ bsL bsN x.l).toArray⟩ (Lib.hid (fun w => run_string_add_sum w s _ (by have : (ByteArray.mk #[0]).size = 1 := rfl; omega)))
        (Lib.hid (cat_run _ _ _ (by simp only [size_mk, bsN]; omega) (by simp))) (Lib.hid (cat_run _ _ _ (by simp only [size_mk, List.length_append, bsN] at *; omega) (by simp)))
        (Lib.hid (cat_run _ _ _ (by simp only [size_mk, List.length_append, bsN, bsF] at *; omega) (by rw [hsd, bsR_eq])))
    · have ER := Lib.hid (enc_no cR_good hok)
      have hnot : ¬ (okN x.a ∧ okT (bnd 100) x.s ∧ okL okN (bnd 100) x.l) := fun h => hok ((okR_iff x).2 h)
      by_cases h1 : okN x.a
      · have EA := Lib.hid (enc_ok numC_good h1)
        by_cases h2 : okT (bnd 100) x.s
        · have EB := Lib.hid (enc_ok (textC_good (bnd_le 100)) h2)
          have ED := Lib.hid (enc_no (cN_good 100) (fun h3 => hnot ⟨h1, h2, h3⟩))
          exact rec_no_d x A c at_ w 0 0 hr hn hs2 ha ⟨#[]⟩ _ _ _ _ ER EA EB ED EK
        · have EB := Lib.hid (enc_no (textC_good (bnd_le 100)) h2)
          exact rec_no_b x A c at_ w 0 _ hr hn hs2 ha ⟨#[]⟩ _ _ _ _ ER EA EB (Lib.hid rfl) EK
      · have EA := Lib.hid (enc_no numC_good h1)
        exact rec_no_a x A c at_ w _ _ hr hn hs2 ha ⟨#[]⟩ _ _ _ _ ER EA (Lib.hid rfl) (Lib.hid rfl) EK
end Go.Proofs.Ytcnikobmepjgcaa.Codec
