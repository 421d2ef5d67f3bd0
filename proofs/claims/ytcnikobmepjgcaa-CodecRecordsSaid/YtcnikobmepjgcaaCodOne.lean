/-
  CodecOne walked.
-/
import Derived.Test.YtcnikobmepjgcaaCodA
namespace Go.Proofs.Ytcnikobmepjgcaa.Codec
open Go.RowKit Go.Proofs.YtcnikobmepjgcaaBase Go.Proofs.YtcnikobmepjgcaaLex2 Go.Proofs.YtcnikobmepjgcaaNum
set_option linter.unusedVariables false
set_option linter.unusedSimpArgs false

def Cheap {α : Type} (c : Cod α) (bs : α → List UInt8) : Prop := ∀ x, c.cost x ≤ 8 * (bs x).length
theorem textC_cheap (m : Nat) : Cheap (textC m) bsT := fun x => by
  have := encN_pos x.size
  simp only [textC, bsT, List.length_append, len_data]
  omega
theorem numC_cheap : Cheap numC bsN := fun x => by
  have := encN_pos x.toNat
  simp only [numC, bsN]
  omega
theorem flagC_cheap : Cheap flagC bsF := fun x => by
  have := encN_pos (if x then 1 else 0)
  simp only [flagC, bsF]
  omega
theorem costs_cheap {α : Type} {c : Cod α} {bs : α → List UInt8} (h : Cheap c bs) : ∀ l, costs c l ≤ 8 * (l.flatMap bs).length
  | [] => by simp [costs]
  | x :: l => by
    have h1 := costs_cheap h l
    have h2 := h x
    simp only [costs, List.map_cons, List.sum_cons, List.flatMap_cons, List.length_append] at h1 ⊢
    omega
theorem listC_cheap {α : Type} {c : Cod α} {bs : α → List UInt8} (h : Cheap c bs) (m : Nat) : Cheap (listC c m) (bsL bs) := fun l => by
  have h1 := costs_cheap h l
  have := encN_pos l.length
  simp only [listC, bsL, List.length_append]
  omega
theorem IsCodec.parts {α : Type} {W : World} {cv : Value} {c : Cod α} (h : IsCodec W cv c) : ∃ f caps g caps2, cv = .agg #[.func (.func f) #[] caps, .func (.func g) #[] caps2] := by obtain ⟨pv, gv, rfl, ⟨f, caps, rfl, _⟩, ⟨g, caps2, rfl, _⟩⟩ := h; exact ⟨f, caps, g, caps2, rfl⟩
theorem rep_later {α : Type} {c : Cod α} (hf : Fair c) {w1 w2 : World} {B : Nat} {x : α} {v : Value} (h : c.rep (fun k => B ≤ k ∧ k < w1.heap.size) w1 x v) (hk : Kept w1 w2 (fun _ => False)) : c.rep (fun k => k < w2.heap.size) w2 x v :=
  hf.keep (hf.mono (fun k hk2 => by have := hk2.2; have := hk.size; omega) h) (fun k hk2 hk3 => hk.block k hk2 (fun h => h))

def c3 : Cod (List (List ByteArray)) := listC (listC (textC (bnd 100)) (bnd 100)) (bnd 100)
def ok3 : List (List ByteArray) → Prop := okL (okL (okT (bnd 100)) (bnd 100)) (bnd 100)
def bs3 : List (List ByteArray) → List UInt8 := bsL (bsL bsT)
theorem c3_good : Good c3 ok3 bs3 := listC_good (listC_good (textC_good (bnd_le _)) (bnd_le _)) (bnd_le _)
theorem c3_fair : Fair c3 := listC_fair (listC_fair (textC_fair _) _) _
theorem c3_cheap : Cheap c3 bs3 := listC_cheap (listC_cheap (textC_cheap _) _) _

theorem one_out (d : ByteArray) (w : World) (h : 5000 < d.size) (hs : d.size ≤ 140737488351232) : Calls Try.prog 7 #[.string d] w fun e w' => e = .returned (.bool true) ∧ Below w.heap.size w w' := by
  have q1 : (5000 : Int) < d.size := by omega
  clear h
  go_enter Try.func7, Try.ntmps7
  go_wp2_with (fail)
  refine (anchor_any _).mono ?_
  rintro e w1 ⟨rfl, hk⟩
  have K1 := Lib.hid hk
  clear hk
  go_wp2
  go_ret
  exact ⟨rfl, K1.out.nil_below⟩

set_option maxHeartbeats 1600000 in
set_option maxRecDepth 100000 in
theorem one_bad (d : ByteArray) (w : World) (h : d.size ≤ 5000) (he : decE c3 d ≠ 0) : Calls Try.prog 7 #[.string d] w fun e w' => e = .returned (.bool true) ∧ Below w.heap.size w w' := by
  have q1 : ¬ (5000 : Int) < d.size := by omega
  have hds : DSize d := by unfold DSize; omega
  obtain ⟨er, hee⟩ : ∃ er, decE c3 d = er := ⟨_, rfl⟩
  rw [hee] at he
  have q2 : (er == 0) = false := by simpa using he
  have q3 : decide (er = 0) = false := by simpa using he
  have HDS := Lib.hid hds
  have HEE := Lib.hid hee
  have HE := Lib.hid he
  clear h hds he hee
  go_enter Try.func7, Try.ntmps7
  go_wp2_with (fail)
  refine (anchor_any _).mono ?_
  rintro e w1 ⟨rfl, hk⟩
  have K1 := Lib.hid hk
  clear hk
  go_wp2_with (fail)
  refine (text_any 100 _).mono ?_
  rintro e w2 ⟨cv2, rfl, hc, hk⟩
  have HC2 := Lib.hid hc
  have K2 := Lib.hid (K1.out.nil_trans hk)
  clear hc hk
  go_wp2_with (fail)
  refine (listof_str (textC (bnd 100)) (textC_fair _) (textC_one _) cv2 100 w2 HC2.out).mono ?_
  rintro e w3 ⟨cv3, rfl, hc, hk⟩
  have HC3 := Lib.hid hc
  have K3 := Lib.hid (K2.out.nil_trans hk)
  clear hc hk
  go_wp2_with (fail)
  refine (listof_strs (listC (textC (bnd 100)) (bnd 100)) (listC_fair (textC_fair _) _) (listC_one _ _) cv3 100 w3 HC3.out).mono ?_
  rintro e w4 ⟨cv4, rfl, hc, hk⟩
  obtain ⟨pf, pc, gf, gc, rfl⟩ := hc.parts
  have HC4 : Hid (IsCodec w4 (.agg #[.func (.func pf) #[] pc, .func (.func gf) #[] gc]) c3) := Lib.hid hc
  have K4 := Lib.hid (K3.out.nil_trans hk)
  clear hc hk
  have hb := heap_alloc_new w4 (.cells #[.func (.func pf) #[] pc, .func (.func gf) #[] gc] 53)
  have kc := Lib.hid ((Kept.refl w4 (fun _ => False)).alloc (.cells #[.func (.func pf) #[] pc, .func (.func gf) #[] gc] 53))
  have c0 := cellOf (j := 0) hb
  have c1 := cellOf (j := 1) hb
  simp at c0 c1
  clear hb
  go_wp2_with (fail)
  refine (decode_strss w4 (.agg #[.func (.func pf) #[] pc, .func (.func gf) #[] gc]) c3 d _ HC4.out c3_fair kc.out.same HDS.out).mono ?_
  rw [HEE.out]
  rintro e w5 ⟨hk, h⟩
  have K5 := Lib.hid ((K4.out.nil_trans kc.out).nil_trans hk)
  obtain rfl := (h.resolve_right fun h => HE.out h.1).2
  clear hk h
  go_wp2
  go_ret
  exact ⟨rfl, K5.out.nil_below⟩

set_option maxHeartbeats 3200000 in
set_option maxRecDepth 100000 in
theorem one_good (d : ByteArray) (w : World) (h : d.size ≤ 5000) (he : decE c3 d = 0) : Calls Try.prog 7 #[.string d] w fun e w' => e = .returned (.bool true) ∧ Below w.heap.size w w' := by
  have q1 : ¬ (5000 : Int) < d.size := by omega
  have hds : DSize d := by unfold DSize; omega
  obtain ⟨hok, hbs⟩ := dec_is c3_good he
  obtain ⟨x, hx⟩ : ∃ x, (c3.get ⟨d.data.toList, 0⟩).1 = x := ⟨_, rfl⟩
  rw [hx] at hok hbs
  have hpos : 1 ≤ d.size := by
    have h1 := c3_good.pos x hok
    rw [← hbs] at h1
    have h2 := List.length_pos_iff.2 h1
    rw [len_data] at h2
    exact h2
  have hen : encR c3 x = (d, 0) := by rw [enc_ok c3_good hok, ← hbs, mk_data]
  have hmore : decE c3 (d ++ ⟨#[0]⟩) = 21 := dec_more c3_good hok (l := [0]) (by simp) (by rw [← hbs, ByteArray.data_append]; simp)
  have hcut : decE c3 (d.extract 0 (d.size - 1)) = 20 := dec_cut c3_good hok (by rw [← hbs, ByteArray.data_extract]; simp; exact List.dropLast_prefix _) (by rw [← hbs, ByteArray.data_extract]; simp [len_data]; omega)
  have hroom : WRoom ⟨[], 0⟩ (c3.cost x) := by
    have h1 := c3_cheap x
    rw [← hbs, len_data] at h1
    unfold WRoom
    simp only [List.length_nil]
    omega
  have hm2 : DSize (d ++ ⟨#[0]⟩) := by unfold DSize; rw [ByteArray.size_append]; have : (ByteArray.mk #[0]).size = 1 := rfl; omega
  have hc2 : DSize (d.extract 0 (d.size - 1)) := by unfold DSize; rw [ByteArray.size_extract]; omega
  have HDS := Lib.hid hds
  have HEE := Lib.hid he
  have HX := Lib.hid hx
  have HEN := Lib.hid hen
  have HMORE := Lib.hid hmore
  have HCUT := Lib.hid hcut
  have HROOM := Lib.hid hroom
  have HM2 := Lib.hid hm2
  have HC2' := Lib.hid hc2
  have qp : (0 : Int) ≤ (d.size : Int) - 1 := by omega
  have qp1 : (1 : Int) ≤ (d.size : Int) := by omega
  have qp2 : (d.size : Int) - 1 ≤ d.size := by omega
  have qw : IntKind.i64.wrap ((d.size : Int) - 1) = (d.size : Int) - 1 := IntWalk.i64_in _ (by omega)
  have qn : ((d.size : Int) - 1).toNat = d.size - 1 := by omega
  have q5 : d.size + (ByteArray.mk #[0]).size ≤ 9223372036854775807 := by have : (ByteArray.mk #[0]).size = 1 := rfl; omega
  have qa := @run_string_add_sum Try.prog
  have QA : Hid (∀ w, (Op.stringOp .add d ⟨#[0]⟩).run Try.prog w = .ok (.string (d ++ ⟨#[0]⟩)) w) := Lib.hid (fun w => run_string_add_sum w d _ q5)
  clear h hds he hok hbs hx hen hmore hcut hroom hm2 hc2 hpos q5 qa
  go_enter Try.func7, Try.ntmps7
  go_wp2_with (fail)
  refine (anchor_any _).mono ?_
  rintro e w1 ⟨rfl, hk⟩
  have K1 := Lib.hid hk
  clear hk
  go_wp2_with (fail)
  refine (text_any 100 _).mono ?_
  rintro e w2 ⟨cv2, rfl, hc, hk⟩
  have HC2 := Lib.hid hc
  have K2 := Lib.hid (K1.out.nil_trans hk)
  clear hc hk
  go_wp2_with (fail)
  refine (listof_str (textC (bnd 100)) (textC_fair _) (textC_one _) cv2 100 w2 HC2.out).mono ?_
  rintro e w3 ⟨cv3, rfl, hc, hk⟩
  have HC3 := Lib.hid hc
  have K3 := Lib.hid (K2.out.nil_trans hk)
  clear hc hk
  go_wp2_with (fail)
  refine (listof_strs (listC (textC (bnd 100)) (bnd 100)) (listC_fair (textC_fair _) _) (listC_one _ _) cv3 100 w3 HC3.out).mono ?_
  rintro e w4 ⟨cv4, rfl, hc, hk⟩
  obtain ⟨pf, pc, gf, gc, rfl⟩ := hc.parts
  have HC4 : Hid (IsCodec w4 (.agg #[.func (.func pf) #[] pc, .func (.func gf) #[] gc]) c3) := Lib.hid hc
  have K4 := Lib.hid (K3.out.nil_trans hk)
  clear hc hk
  have hb := heap_alloc_new w4 (.cells #[.func (.func pf) #[] pc, .func (.func gf) #[] gc] 53)
  have kc := Lib.hid ((Kept.refl w4 (fun _ => False)).alloc (.cells #[.func (.func pf) #[] pc, .func (.func gf) #[] gc] 53))
  have c0 := cellOf (j := 0) hb
  have c1 := cellOf (j := 1) hb
  simp at c0 c1
  clear hb
  go_wp2_with (fail)
  refine (decode_strss w4 (.agg #[.func (.func pf) #[] pc, .func (.func gf) #[] gc]) c3 d _ HC4.out c3_fair kc.out.same HDS.out).mono ?_
  rw [HEE.out, HX.out]
  rintro e w5 ⟨hk, h⟩
  have K5 := Lib.hid ((K4.out.nil_trans kc.out).nil_trans hk)
  have S5 := Lib.hid (kc.out.same.trans hk.same)
  have hb5 := (hk.same.blk (heap_alloc_new w4 (.cells #[.func (.func pf) #[] pc, .func (.func gf) #[] gc] 53)))
  have HB5 := Lib.hid hb5
  obtain ⟨v, rfl, hv⟩ := (h.resolve_left fun h => h.1 rfl).2
  have R5 := Lib.hid (rep_later c3_fair hv (Kept.refl _ _))
  clear hk h hv hb5 c0 c1
  have c0 := cellOf (j := 0) HB5.out
  have c1 := cellOf (j := 1) HB5.out
  simp at c0 c1
  go_wp2_with (fail)
  refine (encode_strss w4 _ c3 x v _ HC4.out c3_fair S5.out R5.out HROOM.out).mono ?_
  rw [HEN.out]
  rintro e w6 ⟨rfl, hk⟩
  have K6 := Lib.hid (K5.out.nil_trans hk)
  have S6 := Lib.hid (S5.out.trans hk.same)
  have HB6 := Lib.hid (hk.same.blk HB5.out)
  clear hk c0 c1
  have c0 := cellOf (j := 0) HB6.out
  have c1 := cellOf (j := 1) HB6.out
  simp at c0 c1
  have qa := QA.out
  go_wp2_with (fail)
  clear qa
  refine (decode_strss w4 _ c3 _ _ HC4.out c3_fair S6.out HM2.out).mono ?_
  rw [HMORE.out]
  rintro e w7 ⟨hk, h⟩
  have K7 := Lib.hid (K6.out.nil_trans hk)
  have S7 := Lib.hid (S6.out.trans hk.same)
  have HB7 := Lib.hid (hk.same.blk HB6.out)
  obtain rfl := (h.resolve_right fun h => absurd h.1 (by decide)).2
  clear hk h c0 c1
  have c0 := cellOf (j := 0) HB7.out
  have c1 := cellOf (j := 1) HB7.out
  simp at c0 c1
  go_wp2_with (fail)
  refine wp_region_lex (fun _ => True) [1, 0, 0, 0, 0, 0, 4, 0, 0, 0, 0, 0] (by kernel_rfl) (by kernel_rfl) (by kernel_rfl) (trivial) (fun Q' hQ' => ?_)
  simp only [List.zip_cons_cons, List.zip_nil_right]
  repeat (first
    | (refine wpX_silent ?_ (fun K hK => ?_)
       · rfl
       apply Exists.intro
       refine ⟨fun w' => ?_, ?_⟩
       · go_simp
         exact ⟨rfl, rfl⟩
       go_simp
       refine hK _ _ ?_
       clear hK K)
    | (refine wpX_read ?_ (fun K hK => ?_)
       · rfl
       apply Exists.intro
       refine ⟨?_, ?_⟩
       · go_simp
         exact ⟨rfl, rfl⟩
       go_simp
       refine hK _ _ ?_
       clear hK K)
    | (refine wpX_float ?_ (fun K hK => ?_)
       · rfl
       apply Exists.intro
       refine ⟨fun w' hw' => ?_, ?_⟩
       · try dsimp only at hw'
         go_simp
         exact ⟨rfl, rfl⟩
       go_simp
       refine hK _ _ ?_
       clear hK K)
    | (refine wpX_not ?_ (fun K hK => ?_)
       · rfl
       go_simp
       refine hK _ _ ?_
       clear hK K))
  refine wpX_heavy rfl (fun K hK => ?_)
  go_wp2_with (fail)
  refine (decode_strss w4 _ c3 _ w7.drew HC4.out c3_fair S7.out HC2'.out).mono ?_
  rw [HCUT.out]
  rintro e w8 ⟨hk, h⟩
  have K8 := Lib.hid (K7.out.drew.nil_trans hk)
  obtain rfl := (h.resolve_right fun h => absurd h.1 (by decide)).2
  clear hk h
  go_simp
  refine hK _ _ ⟨rfl, ?_⟩
  clear hK K
  repeat (first
    | (refine wpX_silent ?_ (fun K hK => ?_)
       · rfl
       apply Exists.intro
       refine ⟨fun w' => ?_, ?_⟩
       · go_simp
         exact ⟨rfl, rfl⟩
       go_simp
       refine hK _ _ ?_
       clear hK K)
    | (refine wpX_read ?_ (fun K hK => ?_)
       · rfl
       apply Exists.intro
       refine ⟨?_, ?_⟩
       · go_simp
         exact ⟨rfl, rfl⟩
       go_simp
       refine hK _ _ ?_
       clear hK K)
    | (refine wpX_float ?_ (fun K hK => ?_)
       · rfl
       apply Exists.intro
       refine ⟨fun w' hw' => ?_, ?_⟩
       · try dsimp only at hw'
         go_simp
         exact ⟨rfl, rfl⟩
       go_simp
       refine hK _ _ ?_
       clear hK K)
    | (refine wpX_not ?_ (fun K hK => ?_)
       · rfl
       go_simp
       refine hK _ _ ?_
       clear hK K))
  refine wpX_nil (hQ' _ _ ?_)
  go_wp2
  go_ret
  exact ⟨rfl, K8.out.nil_below⟩

theorem one_any (d : ByteArray) (w : World) (hs : d.size ≤ 140737488351232) : Calls Try.prog 7 #[.string d] w fun e w' => e = .returned (.bool true) ∧ Below w.heap.size w w' := by
  by_cases h : 5000 < d.size
  · exact one_out d w h hs
  by_cases he : decE c3 d = 0
  · exact one_good d w (by omega) he
  · exact one_bad d w (by omega) he

end Go.Proofs.Ytcnikobmepjgcaa.Codec
