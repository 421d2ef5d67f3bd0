/-
  CodecBack walked.
-/
import Derived.Test.YtcnikobmepjgcaaCodBounds
namespace Go.Proofs.Ytcnikobmepjgcaa.Codec
open Go.RowKit Go.Proofs.YtcnikobmepjgcaaBase Go.Proofs.YtcnikobmepjgcaaLex2 Go.Proofs.YtcnikobmepjgcaaNum
set_option linter.unusedVariables false
set_option linter.unusedSimpArgs false

theorem texts_eq (l : List ByteArray) (A B : Option Addr) (c d : Nat) (w : World) (ha : RowIn w A l.length (l.map Value.string)) (hb : RowIn w B l.length (l.map Value.string)) :
    Calls Try.prog 35 #[.slice A l.length c, .slice B l.length d] w fun e w' => e = .returned (.bool true) ∧ w' = w := by
  have hm := ha.max
  unfold maxLen at hm
  have HA := Lib.hid ha.cell
  have HB := Lib.hid hb.cell
  clear ha hb
  go_enter Try.func35, Try.ntmps35
  go_wp2
  go_loop [14] (fun i => ∃ k : Nat, k ≤ l.length ∧ i = .int .i64 k) (fun i => l.length - (intOf i).toNat)
  case atStart => exact ⟨0, Nat.zero_le _, rfl⟩
  case round =>
    obtain ⟨k, hk, rfl⟩ := hrel
    by_cases hlt : k < l.length
    · obtain ⟨b, off, rfl, hbl, hx⟩ := HA.out (by omega)
      obtain ⟨b2, off2, rfl, hbl2, hx2⟩ := HB.out (by omega)
      have c1 := hx k _ (by rw [List.getElem?_map, List.getElem?_eq_getElem hlt]; rfl)
      have c2 := hx2 k _ (by rw [List.getElem?_map, List.getElem?_eq_getElem hlt]; rfl)
      have q1 : (0 : Int) ≤ k := by omega
      have q2 : (k : Int) < l.length := by omega
      clear hx hx2
      go_wp2
      go_round
      case rel => exact ⟨k + 1, by omega, by go_num⟩
      case measure => simp [intOf]; omega
    · go_wp2
      go_ret
      exact ⟨rfl, rfl⟩

theorem rep_pair {α : Type} {c : Cod α} (hf : Fair c) {m : Nat} {w : World} {x y : α} {u v : Value} (T : TypeId) (hx : c.rep (fun k => k < w.heap.size) w x u) (hy : c.rep (fun k => k < w.heap.size) w y v) :
    (listC c m).rep (fun k => k < (w.alloc (.cells #[u, v] T)).heap.size) (w.alloc (.cells #[u, v] T)) [x, y] (.slice (some ⟨w.heap.size, 0, none⟩) 2 2) := by
  have hb := heap_alloc_new w (.cells #[u, v] T)
  have hk : ∀ k, k < w.heap.size → (w.alloc (.cells #[u, v] T)).heap[k]? = w.heap[k]? := fun k hk => Below.heap_alloc _ _ _ hk
  have hm : ∀ k, k < w.heap.size → k < (w.alloc (.cells #[u, v] T)).heap.size := fun k hk => by simp; omega
  refine ⟨_, _, _, rfl, rfl, by simp [maxLen], fun _ => ⟨_, _, rfl, by simp, by simp, fun k z hz => ?_⟩⟩
  match k, hz with
  | 0, hz =>
    simp at hz
    subst hz
    exact ⟨u, cellOf hb, hf.mono hm (hf.keep hx (fun k hk1 _ => hk k hk1))⟩
  | 1, hz =>
    simp at hz
    subst hz
    exact ⟨v, cellOf hb, hf.mono hm (hf.keep hy (fun k hk1 _ => hk k hk1))⟩
theorem rep_nil {α : Type} {c : Cod α} {m : Nat} {G : Nat → Prop} {w : World} : (listC c m).rep G w [] (.slice none 0 0) := ⟨none, 0, 0, rfl, rfl, Nat.zero_le _, fun h => absurd h (Nat.lt_irrefl 0)⟩

set_option maxRecDepth 100000 in
theorem back_out (A B : Option Addr) (n c m d : Nat) (w : World) (hn : n ≤ maxLen) (hm : m ≤ maxLen) (h : 200 < n ∨ 200 < m) : Calls Try.prog 9 #[.slice A n c, .slice B m d] w fun e w' => e = .returned (.bool true) ∧ Below w.heap.size w w' := by
  unfold maxLen at hn hm
  have HH := Lib.hid h
  clear h
  go_enter Try.func9, Try.ntmps9
  go_wp2_with (fail)
  refine (anchor_any _).mono ?_
  rintro e w1 ⟨rfl, hk⟩
  have K1 := Lib.hid hk
  clear hk
  by_cases h1 : 200 < n
  · have q : (200 : Int) < n := by omega
    go_wp2
    go_ret
    exact ⟨rfl, K1.out.nil_below⟩
  · have q : ¬ (200 : Int) < n := by omega
    have h2 : (200 : Int) < m := by have := HH.out.resolve_left h1; omega
    go_wp2
    go_ret
    exact ⟨rfl, K1.out.nil_below⟩

def cT (m : Int) : Cod (List ByteArray) := listC (textC (bnd 50)) (bnd m)
theorem cT_good (m : Int) : Good (cT m) (okL (okT (bnd 50)) (bnd m)) (bsL bsT) := listC_good (textC_good (bnd_le 50)) (bnd_le m)
theorem cT_fair (m : Int) : Fair (cT m) := listC_fair (textC_fair _) _
theorem cT_cheap (m : Int) : Cheap (cT m) (bsL bsT) := listC_cheap (textC_cheap _) _
def cA : Cod (List (List ByteArray)) := listC (cT 200) (bnd 2)
theorem cA_good : Good cA (okL (okL (okT (bnd 50)) (bnd 200)) (bnd 2)) (bsL (bsL bsT)) := listC_good (cT_good 200) (bnd_le 2)
theorem cA_fair : Fair cA := listC_fair (cT_fair 200) _
theorem cA_cheap : Cheap cA (bsL (bsL bsT)) := listC_cheap (cT_cheap 200) _
theorem bsT_len (l : List ByteArray) (h : ∀ s ∈ l, s.size ≤ 50) : (bsL bsT l).length ≤ 8 + 58 * l.length := by
  have h1 := encN_le l.length
  have h2 : ∀ l : List ByteArray, (∀ s ∈ l, s.size ≤ 50) → (l.flatMap bsT).length ≤ 58 * l.length := by
    intro l h
    induction l with
    | nil => simp
    | cons x l ih =>
      have h0 := ih (fun s hs => h s (List.mem_cons_of_mem _ hs))
      have h3 := h x List.mem_cons_self
      have := encN_le x.size
      simp only [List.flatMap_cons, List.length_append, List.length_cons, bsT, len_data] at h0 ⊢
      omega
  have := h2 l h
  simp only [bsL, List.length_append]
  omega

/-- What there is to know ahead of the walk's straight part. -/
structure BackFacts (l : List ByteArray) (f : List Bool) (s t : ByteArray) : Prop where
  EA : encR cA [l, []] = (s, 0)
  DA : decE cA s = 0
  VA : (cA.get ⟨s.data.toList, 0⟩).1 = [l, []]
  EB : encR (cF 200) f = (t, 0)
  DB : decE (cF 200) t = 0
  VB : ((cF 200).get ⟨t.data.toList, 0⟩).1 = f
  S1 : DSize s
  S2 : DSize t
  R1 : WRoom ⟨[], 0⟩ (cA.cost [l, []])
  R2 : ∀ m, WRoom ⟨[], 0⟩ ((cT m).cost l)
theorem back_facts (l : List ByteArray) (f : List Bool) (hl : l.length ≤ 200) (hf : f.length ≤ 200) (h : ∀ s ∈ l, s.size ≤ 50) : ∃ s t, BackFacts l f s t := by
  have h50 : bnd 50 = 50 := rfl
  have h200 : bnd 200 = 200 := rfl
  have h2 : bnd 2 = 2 := rfl
  have oT : ∀ x ∈ l, okT (bnd 50) x := fun x hx => by unfold okT; rw [h50]; exact h x hx
  have o1 : okL (okT (bnd 50)) (bnd 200) l := ⟨by rw [h200]; exact hl, oT⟩
  have o0 : okL (okT (bnd 50)) (bnd 200) [] := ⟨Nat.zero_le _, fun x hx => by cases hx⟩
  have oA : okL (okL (okT (bnd 50)) (bnd 200)) (bnd 2) [l, []] := ⟨by rw [h2]; simp, fun x hx => by
    rcases List.mem_cons.1 hx with rfl | hx
    · exact o1
    · rw [List.mem_singleton.1 hx]; exact o0⟩
  have oB := okF 200 f (by rw [h200]; exact hf)
  have b1 := bsT_len l h
  have bA : (bsL (bsL bsT) [l, []]).length ≤ 8 + (8 + 58 * l.length) + 8 := by
    have e1 := encN_le 2
    have e2 := encN_le 0
    have : (bsL bsT []).length = (encN 0).length := by simp [bsL]
    show (encN 2 ++ [l, []].flatMap (bsL bsT)).length ≤ _
    simp only [List.flatMap_cons, List.flatMap_nil, List.length_append, List.append_nil, this]
    omega
  have bB := bsF_len f
  obtain ⟨s, hs⟩ : ∃ s : ByteArray, ⟨(bsL (bsL bsT) [l, []]).toArray⟩ = s := ⟨_, rfl⟩
  obtain ⟨t, ht⟩ : ∃ s : ByteArray, ⟨(bsL bsF f).toArray⟩ = s := ⟨_, rfl⟩
  have hsd : s.data.toList = bsL (bsL bsT) [l, []] := by rw [← hs]
  have htd : t.data.toList = bsL bsF f := by rw [← ht]
  have ea := enc_ok cA_good oA
  have eb := enc_ok (cF_good 200) oB
  rw [hs] at ea
  rw [ht] at eb
  have da := dec_ok cA_good oA hsd
  have db := dec_ok (cF_good 200) oB htd
  refine ⟨s, t, ea, da.1, da.2, eb, db.1, db.2, ?_, ?_, ?_, ?_⟩
  · unfold DSize; rw [← len_data, hsd]; omega
  · unfold DSize; rw [← len_data, htd]; omega
  · have := cA_cheap [l, []]
    unfold WRoom
    simp only [List.length_nil]
    omega
  · intro m
    have := cT_cheap m l
    unfold WRoom
    simp only [List.length_nil]
    omega

structure TailFacts (l : List ByteArray) (u : ByteArray) : Prop where
  E1 : encR (cT ((l.length : Int) - 1)) l = (⟨#[]⟩, 22)
  E2 : encR (cT (l.length : Int)) l = (u, 0)
  D3 : decE (cT ((l.length : Int) - 1)) u = 22
  S3 : DSize u
theorem tail_facts (l : List ByteArray) (hl : l.length ≤ 200) (h0 : l.length ≠ 0) (h : ∀ s ∈ l, s.size ≤ 50) : ∃ u, TailFacts l u := by
  have h50 : bnd 50 = 50 := rfl
  have oT : ∀ x ∈ l, okT (bnd 50) x := fun x hx => by unfold okT; rw [h50]; exact h x hx
  have b1 : bnd (l.length : Int) = l.length := by unfold bnd; rw [if_neg (by omega), if_neg (by omega)]; omega
  have b2 : bnd ((l.length : Int) - 1) = l.length - 1 := by unfold bnd; rw [if_neg (by omega), if_neg (by omega)]; omega
  have o1 : okL (okT (bnd 50)) (bnd (l.length : Int)) l := ⟨by rw [b1]; exact Nat.le_refl _, oT⟩
  have o2 : ¬ okL (okT (bnd 50)) (bnd ((l.length : Int) - 1)) l := fun h => by have := h.1; rw [b2] at this; omega
  obtain ⟨u, hu⟩ : ∃ s : ByteArray, ⟨(bsL bsT l).toArray⟩ = s := ⟨_, rfl⟩
  have hud : u.data.toList = bsL bsT l := by rw [← hu]
  have hb := bsT_len l h
  have e2 := enc_ok (cT_good _) o1
  rw [hu] at e2
  refine ⟨u, enc_no (cT_good _) o2, e2, ?_, ?_⟩
  · have h1 : (cT ((l.length : Int) - 1)).get ⟨u.data.toList, 0⟩ = ([], ⟨l.flatMap bsT, 22⟩) := by
      rw [hud]
      simp only [cT, listC, bsL]
      rw [countN_over _ _ (by rw [b2]; omega) (by omega)]
      rfl
    rw [decE_fail (by rw [h1]; simp), h1]
  · unfold DSize; rw [← len_data, hud]; omega

set_option maxHeartbeats 3200000 in
set_option maxRecDepth 100000 in
theorem back_in (l : List ByteArray) (f : List Bool) (A B : Option Addr) (c d : Nat) (w : World) (ha : RowIn w A l.length (l.map Value.string)) (hb : RowIn w B f.length (f.map Value.bool)) (hl : l.length ≤ 200) (hf : f.length ≤ 200) :
    Calls Try.prog 9 #[.slice A l.length c, .slice B f.length d] w fun e w' => e = .returned (.bool true) ∧ Below w.heap.size w w' := by
  have HA := Lib.hid ha
  have HB := Lib.hid hb
  have HL := Lib.hid hl
  have HF := Lib.hid hf
  have q1 : ¬ (200 : Int) < l.length := by omega
  have q2 : ¬ (200 : Int) < f.length := by omega
  clear ha hb hl hf
  go_enter Try.func9, Try.ntmps9
  go_wp2_with (fail)
  refine (anchor_any _).mono ?_
  rintro e w1 ⟨rfl, hk⟩
  have K1 := Lib.hid hk
  have HA1 := Lib.hid (HA.out.kept hk)
  have HB1 := Lib.hid (HB.out.kept hk)
  clear hk
  go_wp2
  go_loop [37] (fun i => ∃ k : Nat, k ≤ l.length ∧ i = .int .i64 k ∧ ∀ s ∈ l.take k, s.size ≤ 50) (fun i => l.length - (intOf i).toNat)
  case atStart => exact ⟨0, Nat.zero_le _, rfl, fun s hs => by simp at hs⟩
  case round =>
    obtain ⟨k, hk, rfl, hsm⟩ := hrel
    by_cases hlt : k < l.length
    · obtain ⟨b, off, rfl, hbl, hx⟩ := HA1.out.cell (by omega)
      have c1 := hx k _ (by rw [List.getElem?_map, List.getElem?_eq_getElem hlt]; rfl)
      have z1 : (0 : Int) ≤ k := by omega
      have z2 : (k : Int) < l.length := by omega
      have HSM := Lib.hid hsm
      clear hx hsm
      by_cases h50 : 50 < (l[k]).size
      · have q3 : (50 : Int) < (l[k]).size := by omega
        go_wp2
        go_ret
        exact ⟨rfl, K1.out.nil_below⟩
      · have q3 : ¬ (50 : Int) < (l[k]).size := by omega
        go_wp2
        go_round
        case rel => exact ⟨k + 1, by omega, by go_num, fun s hs => by
          rw [List.take_succ_eq_append_getElem hlt] at hs
          rcases List.mem_append.1 hs with hs | hs
          · exact HSM.out s hs
          · rw [List.mem_singleton.1 hs]; omega⟩
        case measure => simp [intOf]; omega
    · have hkl : k = l.length := by omega
      subst hkl
      rw [List.take_length] at hsm
      obtain ⟨s, t, hfacts⟩ := back_facts l f HL.out HF.out hsm
      have FA := Lib.hid hfacts
      have HSM := Lib.hid hsm
      clear hfacts hsm hk
      go_wp2_with (fail)
      refine (text_any 50 _).mono ?_
      rintro e w2 ⟨cv2, rfl, hc, hk⟩
      have HC2 := Lib.hid hc
      have K2 := Lib.hid hk
      clear hc hk
      go_wp2_with (fail)
      refine (listof_str (textC (bnd 50)) (textC_fair _) (textC_one _) cv2 200 w2 HC2.out).mono ?_
      rintro e w3 ⟨cv3, rfl, hc, hk⟩
      have HC3 : Hid (IsCodec w3 cv3 (cT 200)) := Lib.hid hc
      have K3 := Lib.hid (K2.out.nil_trans hk)
      clear hc hk
      go_wp2_with (fail)
      refine (listof_strs (cT 200) (cT_fair 200) (listC_one _ _) cv3 2 w3 HC3.out).mono ?_
      rintro e w4 ⟨cv4, rfl, hc, hk⟩
      obtain ⟨pf, pc, gf, gc, rfl⟩ := hc.parts
      have HC4 : Hid (IsCodec w4 (.agg #[.func (.func pf) #[] pc, .func (.func gf) #[] gc]) cA) := Lib.hid hc
      have K4 := Lib.hid (K3.out.nil_trans hk)
      clear hc hk
      obtain ⟨p, hp⟩ : ∃ p, w4.heap.size = p := ⟨_, rfl⟩
      obtain ⟨w5, hw5⟩ : ∃ w5, w4.alloc (.cells #[.func (.func pf) #[] pc, .func (.func gf) #[] gc] 53) = w5 := ⟨_, rfl⟩
      have HB : Hid (CB w5 p pf pc gf gc) := by rw [← hw5, ← hp]; exact Lib.hid (CB.of (heap_alloc_new w4 _))
      have kc : Hid (Kept w4 w5 (fun _ => False)) := by rw [← hw5]; exact Lib.hid ((Kept.refl w4 _).alloc _)
      have hpl : p < w5.heap.size := by rw [← hw5, ← hp]; simp
      have HW5 := Lib.hid hw5
      have HP := Lib.hid hp
      have HA5 := Lib.hid ((HA1.out.kept K4.out).kept kc.out)
      clear hw5 hp
      go_wp2_with (fail)
      rw [HW5.out, HP.out]
      obtain ⟨d0, d1⟩ := HB.out
      refine wp_region_lex (fun w' => CB w' p pf pc gf gc) [3, 2, 0, 2, 2, 4, 0, 0, 0, 0, 0] (by kernel_rfl) (by kernel_rfl) (by kernel_rfl) (HB.out) (fun Q' hQ' => ?_)
      simp only [List.zip_cons_cons, List.zip_nil_right]
      unfold CB
      repeat (first
        | (refine wpX_silent ?_ (fun K hK => ?_)
           · rfl
           apply Exists.intro
           refine ⟨fun w' => ?_, ?_⟩
           · go_simp
             exact ⟨rfl, rfl⟩
           go_simp
           refine hK _ _ ?_
           clear hK K)
        | (refine wpX_read ?_ (fun K hK => ?_)
           · rfl
           apply Exists.intro
           refine ⟨?_, ?_⟩
           · go_simp
             exact ⟨rfl, rfl⟩
           go_simp
           refine hK _ _ ?_
           clear hK K)
        | (refine wpX_float ?_ (fun K hK => ?_)
           · rfl
           apply Exists.intro
           refine ⟨fun w' hw' => ?_, ?_⟩
           · try dsimp only at hw'
             go_simp
             exact ⟨rfl, rfl⟩
           go_simp
           refine hK _ _ ?_
           clear hK K)
        | (refine wpX_not ?_ (fun K hK => ?_)
           · rfl
           go_simp
           refine hK _ _ ?_
           clear hK K))
      refine wpX_keeps ?_ (fun K hK => ?_)
      · rfl
      go_wp2
      repeat (first
        | (refine wpX_silent ?_ (fun K hK => ?_)
           · rfl
           apply Exists.intro
           refine ⟨fun w' => ?_, ?_⟩
           · go_simp
             exact ⟨rfl, rfl⟩
           go_simp
           refine hK _ _ ?_
           clear hK K)
        | (refine wpX_read ?_ (fun K hK => ?_)
           · rfl
           apply Exists.intro
           refine ⟨?_, ?_⟩
           · go_simp
             exact ⟨rfl, rfl⟩
           go_simp
           refine hK _ _ ?_
           clear hK K)
        | (refine wpX_float ?_ (fun K hK => ?_)
           · rfl
           apply Exists.intro
           refine ⟨fun w' hw' => ?_, ?_⟩
           · try dsimp only at hw'
             go_simp
             exact ⟨rfl, rfl⟩
           go_simp
           refine hK _ _ ?_
           clear hK K)
        | (refine wpX_not ?_ (fun K hK => ?_)
           · rfl
           go_simp
           refine hK _ _ ?_
           clear hK K))
      refine wpX_keeps ?_ (fun K hK => ?_)
      · rfl
      have hm := HL.out
      have ho := own_empty w5.drew w5.heap.size 9 (Nat.le_refl _)
      have hs := src_row (c := c) (HA5.out.kept (((Kept.refl w5 (fun _ => False)).drew).alloc (.cells #[] 9))) (t := 55) elem_str.under (strs_one l)
      refine wp_append_ownS _ (.tmp 50) (.tmp 51) 55 55 rfl w5.heap.size 9 (.string ⟨#[]⟩) 1 16 elem_str (.slice (some ⟨w5.heap.size, 0, none⟩) 0 0) 0 [] rfl ho (.slice A l.length c) l.length (l.map Value.string) rfl hs (by omega) (by simp) (fun v' w6 o1 g1 b1 => ?_)
      have K6 := Lib.hid (Kept.grown ((((Kept.refl w5 (fun _ => False)).drew).alloc (.cells #[] 9))) g1 (fun k hk => .inr (Nat.le_of_eq (Option.some.inj hk))))
      simp only [Nat.zero_add, List.nil_append] at o1
      obtain ⟨A6, c6, rfl, _, r6⟩ := row_own o1
      have R6 := Lib.hid r6
      have CB6 := Lib.hid (HB.out.kept K6.out hpl)
      clear ho hs o1 g1 b1 hm r6
      go_simp
      refine hK _ _ ⟨rfl, CB6.out, ?_⟩
      clear hK K
      refine wpX_keeps ?_ (fun K hK => ?_)
      · rfl
      have hp6 : p < w6.heap.size := Nat.lt_of_lt_of_le hpl K6.out.size
      obtain ⟨e0, e1⟩ := CB6.out
      go_wp2
      refine wpX_heavy rfl (fun K hK => ?_)
      go_wp2_with (fail)
      have hrep := rep_pair (m := bnd 2) (cT_fair 200) 55 (rep_of_row (c := textC (bnd 50)) (cp := c6) (fun G w x => rfl) R6.out) (rep_nil (c := textC (bnd 50)) (m := bnd 200))
      have hkk := (Kept.refl w6 (fun _ => False)).alloc (.cells #[.slice A6 l.length c6, .slice none 0 0] 55)
      refine (encode_strss w4 _ cA [l, []] _ _ HC4.out cA_fair (kc.out.same.trans (K6.out.nil_trans hkk).same) hrep FA.out.R1).mono ?_
      rw [FA.out.EA]
      rintro e w7 ⟨rfl, hk⟩
      have K7 := Lib.hid ((K6.out.nil_trans hkk).nil_trans hk)
      clear hk hrep hkk e0 e1 hp6
      go_simp
      refine hK _ _ ⟨rfl, ?_⟩
      clear hK K
      repeat (first
        | (refine wpX_silent ?_ (fun K hK => ?_)
           · rfl
           apply Exists.intro
           refine ⟨fun w' => ?_, ?_⟩
           · go_simp
             exact ⟨rfl, rfl⟩
           go_simp
           refine hK _ _ ?_
           clear hK K)
        | (refine wpX_read ?_ (fun K hK => ?_)
           · rfl
           apply Exists.intro
           refine ⟨?_, ?_⟩
           · go_simp
             exact ⟨rfl, rfl⟩
           go_simp
           refine hK _ _ ?_
           clear hK K)
        | (refine wpX_float ?_ (fun K hK => ?_)
           · rfl
           apply Exists.intro
           refine ⟨fun w' hw' => ?_, ?_⟩
           · try dsimp only at hw'
             go_simp
             exact ⟨rfl, rfl⟩
           go_simp
           refine hK _ _ ?_
           clear hK K)
        | (refine wpX_not ?_ (fun K hK => ?_)
           · rfl
           go_simp
           refine hK _ _ ?_
           clear hK K))
      refine wpX_nil (hQ' _ _ ?_)
      clear d0 d1
      obtain ⟨d0, d1⟩ := HB.out.kept K7.out hpl
      go_wp2_with (fail)
      refine (decode_strss w4 _ cA s w7 HC4.out cA_fair (kc.out.same.trans K7.out.same) FA.out.S1).mono ?_
      rw [FA.out.DA, FA.out.VA]
      rintro e w8 ⟨hk, h⟩
      have K8 := Lib.hid (K7.out.nil_trans hk)
      obtain ⟨v, rfl, hv⟩ := (h.resolve_left fun h => h.1 rfl).2
      obtain ⟨Av, nv, cv, rfl, hnv, _, hcv⟩ := hv
      simp only [List.length_cons, List.length_nil, Nat.zero_add, Nat.reduceAdd] at hnv
      subst hnv
      obtain ⟨bv, ov, rfl, _, hbl, hx⟩ := hcv (by decide)
      obtain ⟨u0, hu0, hr0⟩ := hx 0 l rfl
      obtain ⟨u1, hu1, hr1⟩ := hx 1 [] rfl
      obtain ⟨A0, cp0, rfl, hro0⟩ := row_of_rep (f := Value.string) (fun G w x u h => h) hr0
      obtain ⟨A1, cp1, rfl, hro1⟩ := row_of_rep (f := Value.string) (fun G w x u h => h) hr1
      rw [Nat.add_zero] at hu0
      have RO := Lib.hid hro0
      have HA8 := Lib.hid (HA5.out.kept K8.out)
      have hlz : (([] : List ByteArray).length : Nat) = 0 := rfl
      rw [hlz] at hu1
      clear hk h hx hr0 hr1 hro0 hro1 hcv hlz d0 d1
      go_wp2_with (go_at_call 35; refine (texts_eq l A0 A cp0 c _ RO.out HA8.out).mono ?_; rintro e w9 ⟨rfl, rfl⟩)
      clear hu0 hu1 hbl
      have K9 := Lib.hid ((K4.out.nil_trans kc.out).nil_trans K8.out)
      refine (flag_any _).mono ?_
      rintro e w10 ⟨cv10, rfl, hc, hk⟩
      have HC10 := Lib.hid hc
      have K10 := Lib.hid (K9.out.nil_trans hk)
      clear hc hk
      go_wp2_with (fail)
      refine (listof_bool flagC flagC_fair flagC_one cv10 200 w10 HC10.out).mono ?_
      rintro e w11 ⟨cv11, rfl, hc, hk⟩
      obtain ⟨pf', pc', gf', gc', rfl⟩ := hc.parts
      have HC11 : Hid (IsCodec w11 (.agg #[.func (.func pf') #[] pc', .func (.func gf') #[] gc']) (cF 200)) := Lib.hid hc
      have K11 := Lib.hid (K10.out.nil_trans hk)
      clear hc hk
      obtain ⟨p', hp⟩ : ∃ p, w11.heap.size = p := ⟨_, rfl⟩
      obtain ⟨w12, hw12⟩ : ∃ w12, w11.alloc (.cells #[.func (.func pf') #[] pc', .func (.func gf') #[] gc'] 95) = w12 := ⟨_, rfl⟩
      have HB' : Hid (CB w12 p' pf' pc' gf' gc') := by rw [← hw12, ← hp]; exact Lib.hid (CB.of (heap_alloc_new w11 _))
      have kc' : Hid (Kept w11 w12 (fun _ => False)) := by rw [← hw12]; exact Lib.hid ((Kept.refl w11 _).alloc _)
      have hpl' : p' < w12.heap.size := by rw [← hw12, ← hp]; simp
      have HW12 := Lib.hid hw12
      have HP' := Lib.hid hp
      have HB12 := Lib.hid (HB1.out.kept (K11.out.nil_trans kc'.out))
      clear hw12 hp
      go_wp2_with (fail)
      rw [HW12.out, HP'.out]
      obtain ⟨d0, d1⟩ := HB'.out
      refine wp_region_lex (fun w' => CB w' p' pf' pc' gf' gc') [3, 2, 0, 2, 4, 0, 0, 0, 0, 0] (by kernel_rfl) (by kernel_rfl) (by kernel_rfl) (HB'.out) (fun Q' hQ' => ?_)
      simp only [List.zip_cons_cons, List.zip_nil_right]
      unfold CB
      repeat (first
        | (refine wpX_silent ?_ (fun K hK => ?_)
           · rfl
           apply Exists.intro
           refine ⟨fun w' => ?_, ?_⟩
           · go_simp
             exact ⟨rfl, rfl⟩
           go_simp
           refine hK _ _ ?_
           clear hK K)
        | (refine wpX_read ?_ (fun K hK => ?_)
           · rfl
           apply Exists.intro
           refine ⟨?_, ?_⟩
           · go_simp
             exact ⟨rfl, rfl⟩
           go_simp
           refine hK _ _ ?_
           clear hK K)
        | (refine wpX_float ?_ (fun K hK => ?_)
           · rfl
           apply Exists.intro
           refine ⟨fun w' hw' => ?_, ?_⟩
           · try dsimp only at hw'
             go_simp
             exact ⟨rfl, rfl⟩
           go_simp
           refine hK _ _ ?_
           clear hK K)
        | (refine wpX_not ?_ (fun K hK => ?_)
           · rfl
           go_simp
           refine hK _ _ ?_
           clear hK K))
      refine wpX_keeps ?_ (fun K hK => ?_)
      · rfl
      go_wp2
      repeat (first
        | (refine wpX_silent ?_ (fun K hK => ?_)
           · rfl
           apply Exists.intro
           refine ⟨fun w' => ?_, ?_⟩
           · go_simp
             exact ⟨rfl, rfl⟩
           go_simp
           refine hK _ _ ?_
           clear hK K)
        | (refine wpX_read ?_ (fun K hK => ?_)
           · rfl
           apply Exists.intro
           refine ⟨?_, ?_⟩
           · go_simp
             exact ⟨rfl, rfl⟩
           go_simp
           refine hK _ _ ?_
           clear hK K)
        | (refine wpX_float ?_ (fun K hK => ?_)
           · rfl
           apply Exists.intro
           refine ⟨fun w' hw' => ?_, ?_⟩
           · try dsimp only at hw'
             go_simp
             exact ⟨rfl, rfl⟩
           go_simp
           refine hK _ _ ?_
           clear hK K)
        | (refine wpX_not ?_ (fun K hK => ?_)
           · rfl
           go_simp
           refine hK _ _ ?_
           clear hK K))
      refine wpX_keeps ?_ (fun K hK => ?_)
      · rfl
      have hm := HF.out
      have ho := own_empty w12.drew w12.heap.size 4 (Nat.le_refl _)
      have hs := src_row (c := d) (HB12.out.kept (((Kept.refl w12 (fun _ => False)).drew).alloc (.cells #[] 4))) (t := 91) elem_bool.under (bools_one f)
      refine wp_append_ownS _ (.tmp 93) (.tmp 94) 91 91 rfl w12.heap.size 4 (.bool false) 1 1 elem_bool (.slice (some ⟨w12.heap.size, 0, none⟩) 0 0) 0 [] rfl ho (.slice B f.length d) f.length (f.map Value.bool) rfl hs (by omega) (by simp) (fun v' w13 o1 g1 b1 => ?_)
      have K13 := Lib.hid (Kept.grown ((((Kept.refl w12 (fun _ => False)).drew).alloc (.cells #[] 4))) g1 (fun k hk => .inr (Nat.le_of_eq (Option.some.inj hk))))
      simp only [Nat.zero_add, List.nil_append] at o1
      obtain ⟨A13, c13, rfl, _, r13⟩ := row_own o1
      have R13 := Lib.hid r13
      have CB13 := Lib.hid (HB'.out.kept K13.out hpl')
      clear ho hs o1 g1 b1 hm r13
      go_simp
      refine hK _ _ ⟨rfl, CB13.out, ?_⟩
      clear hK K
      refine wpX_heavy rfl (fun K hK => ?_)
      go_wp2_with (fail)
      refine (encode_bools w11 _ (cF 200) f _ w13 HC11.out (cF_fair 200) (kc'.out.same.trans K13.out.same) (rep_of_row (fun G w x => rfl) R13.out) (by have h1 := HF.out; unfold WRoom; rw [cF_cost]; simp only [List.length_nil]; omega)).mono ?_
      rw [FA.out.EB]
      rintro e w14 ⟨rfl, hk⟩
      have K14 := Lib.hid (K13.out.nil_trans hk)
      clear hk
      go_simp
      refine hK _ _ ⟨rfl, ?_⟩
      clear hK K
      repeat (first
        | (refine wpX_silent ?_ (fun K hK => ?_)
           · rfl
           apply Exists.intro
           refine ⟨fun w' => ?_, ?_⟩
           · go_simp
             exact ⟨rfl, rfl⟩
           go_simp
           refine hK _ _ ?_
           clear hK K)
        | (refine wpX_read ?_ (fun K hK => ?_)
           · rfl
           apply Exists.intro
           refine ⟨?_, ?_⟩
           · go_simp
             exact ⟨rfl, rfl⟩
           go_simp
           refine hK _ _ ?_
           clear hK K)
        | (refine wpX_float ?_ (fun K hK => ?_)
           · rfl
           apply Exists.intro
           refine ⟨fun w' hw' => ?_, ?_⟩
           · try dsimp only at hw'
             go_simp
             exact ⟨rfl, rfl⟩
           go_simp
           refine hK _ _ ?_
           clear hK K)
        | (refine wpX_not ?_ (fun K hK => ?_)
           · rfl
           go_simp
           refine hK _ _ ?_
           clear hK K))
      refine wpX_nil (hQ' _ _ ?_)
      clear d0 d1
      obtain ⟨d0, d1⟩ := HB'.out.kept K14.out hpl'
      go_wp2_with (fail)
      refine (decode_bools w11 _ (cF 200) t w14 HC11.out (cF_fair 200) (kc'.out.same.trans K14.out.same) FA.out.S2).mono ?_
      rw [FA.out.DB, FA.out.VB]
      rintro e w15 ⟨hk, h⟩
      have K15 := Lib.hid (K14.out.nil_trans hk)
      obtain ⟨v, rfl, hv⟩ := (h.resolve_left fun h => h.1 rfl).2
      obtain ⟨A15, c15, rfl, hr15⟩ := row_of_rep (f := Value.bool) (fun G w x u h => h) hv
      have R15 := Lib.hid hr15.cell
      have HB15 := Lib.hid (HB12.out.kept K15.out).cell
      have KK15 := Lib.hid ((K11.out.nil_trans kc'.out).nil_trans K15.out)
      clear hk h hv hr15 d0 d1
      go_wp2
      go_loop [120] (fun i => ∃ k : Nat, k ≤ f.length ∧ i = .int .i64 k) (fun i => f.length - (intOf i).toNat)
      case atStart => exact ⟨0, Nat.zero_le _, rfl⟩
      case round =>
        obtain ⟨k, hk, rfl⟩ := hrel
        by_cases hlt : k < f.length
        · obtain ⟨b, off, rfl, hbl, hx⟩ := R15.out (by omega)
          obtain ⟨b2, off2, rfl, hbl2, hx2⟩ := HB15.out (by omega)
          have c1 := hx k _ (by rw [List.getElem?_map, List.getElem?_eq_getElem hlt]; rfl)
          have c2 := hx2 k _ (by rw [List.getElem?_map, List.getElem?_eq_getElem hlt]; rfl)
          have q1 : (0 : Int) ≤ k := by omega
          have q2 : (k : Int) < f.length := by omega
          clear hx hx2
          go_wp2
          go_round
          case rel => exact ⟨k + 1, by omega, by go_num⟩
          case measure => simp [intOf]; omega
        · have hkf : k = f.length := by omega
          subst hkf
          by_cases h0 : l.length = 0
          · have q0 : ((l.length : Int) == 0) = true := by simp [h0]
            have q0' : (l.length : Int) = 0 := by omega
            go_wp2
            go_ret
            exact ⟨rfl, (K1.out.nil_trans KK15.out).nil_below⟩
          have q0 : ((l.length : Int) == 0) = false := beq_eq_false_iff_ne.2 (by omega)
          have q0' : decide ((l.length : Int) = 0) = false := by simp only [decide_eq_false_iff_not]; omega
          obtain ⟨u, hu⟩ := tail_facts l HL.out h0 HSM.out
          have FT := Lib.hid hu
          have HA15 := Lib.hid (HA1.out.kept KK15.out)
          clear hu h0 hk
          go_wp2_with (fail)
          refine (text_any 50 _).mono ?_
          rintro e w20 ⟨cv20, rfl, hc, hk⟩
          have HC := Lib.hid hc
          have K20 := Lib.hid hk
          clear hc hk
          go_wp2_with (fail)
          refine (listof_str (textC (bnd 50)) (textC_fair _) (textC_one _) cv20 ((l.length : Int) - 1) w20 HC.out).mono ?_
          rintro e w21 ⟨cv21, rfl, hc, hk⟩
          clear HC
          have HC : Hid (IsCodec w21 cv21 (cT ((l.length : Int) - 1))) := Lib.hid hc
          have K21 := Lib.hid (K20.out.nil_trans hk)
          clear hc hk
          go_wp2_with (fail)
          refine (encode_strs w21 cv21 (cT ((l.length : Int) - 1)) l _ w21 HC.out (cT_fair _) (Same.refl _) (rep_of_row (fun G w x => rfl) (HA15.out.kept K21.out)) (FA.out.R2 _)).mono ?_
          rw [FT.out.E1]
          rintro e w22 ⟨rfl, hk⟩
          have K22 := Lib.hid (K21.out.nil_trans hk)
          clear hk HC
          go_wp2_with (fail)
          refine (text_any 50 _).mono ?_
          rintro e w23 ⟨cv23, rfl, hc, hk⟩
          have HC := Lib.hid hc
          have K23 := Lib.hid (K22.out.nil_trans hk)
          clear hc hk
          go_wp2_with (fail)
          refine (listof_str (textC (bnd 50)) (textC_fair _) (textC_one _) cv23 (l.length : Int) w23 HC.out).mono ?_
          rintro e w24 ⟨cv24, rfl, hc, hk⟩
          clear HC
          have HC : Hid (IsCodec w24 cv24 (cT (l.length : Int))) := Lib.hid hc
          have K24 := Lib.hid (K23.out.nil_trans hk)
          clear hc hk
          go_wp2_with (fail)
          refine (encode_strs w24 cv24 (cT (l.length : Int)) l _ w24 HC.out (cT_fair _) (Same.refl _) (rep_of_row (fun G w x => rfl) (HA15.out.kept K24.out)) (FA.out.R2 _)).mono ?_
          rw [FT.out.E2]
          rintro e w25 ⟨rfl, hk⟩
          have K25 := Lib.hid (K24.out.nil_trans hk)
          clear hk HC
          go_wp2_with (fail)
          refine (text_any 50 _).mono ?_
          rintro e w26 ⟨cv26, rfl, hc, hk⟩
          have HC := Lib.hid hc
          have K26 := Lib.hid (K25.out.nil_trans hk)
          clear hc hk
          go_wp2_with (fail)
          refine (listof_str (textC (bnd 50)) (textC_fair _) (textC_one _) cv26 ((l.length : Int) - 1) w26 HC.out).mono ?_
          rintro e w27 ⟨cv27, rfl, hc, hk⟩
          clear HC
          have HC : Hid (IsCodec w27 cv27 (cT ((l.length : Int) - 1))) := Lib.hid hc
          have K27 := Lib.hid (K26.out.nil_trans hk)
          clear hc hk
          go_wp2_with (fail)
          refine (decode_strs w27 cv27 (cT ((l.length : Int) - 1)) u w27 HC.out (cT_fair _) (Same.refl _) FT.out.S3).mono ?_
          rw [FT.out.D3]
          rintro e w28 ⟨hk, h⟩
          have K28 := Lib.hid (K27.out.nil_trans hk)
          obtain rfl := (h.resolve_right fun h => absurd h.1 (by decide)).2
          clear hk h
          go_wp2
          go_ret
          exact ⟨rfl, ((K1.out.nil_trans KK15.out).nil_trans K28.out).nil_below⟩

theorem back_any (A : Option Addr) (n c : Nat) (B : Option Addr) (m d : Nat) (l : List ByteArray) (f : List Bool) (w : World) (ha : RowIn w A n (l.map Value.string)) (hz : ∀ s ∈ l, s.size ≤ 140737488351232) (hb : RowIn w B m (f.map Value.bool)) :
    Calls Try.prog 9 #[.slice A n c, .slice B m d] w fun e w' => e = .returned (.bool true) ∧ Below w.heap.size w w' := by
  have hl : n = l.length := by have := ha.len; simpa using this
  have hm : m = f.length := by have := hb.len; simpa using this
  subst hl hm
  by_cases h : 200 < l.length ∨ 200 < f.length
  · exact back_out A B l.length c f.length d w ha.max hb.max h
  · exact back_in l f A B c d w ha hb (by omega) (by omega)
end Go.Proofs.Ytcnikobmepjgcaa.Codec
