/-
  Journals' bytes scanned and framed, by the package and by the reference, walked.
-/
import Derived.Test.YtegonafacbokeaaJr1
import Derived.Test.YtegonafacbokeaaRef2
import Derived.Test.YtegonafacbokeaaRef4
import Derived.Test.YtegonafacbokeaaOpen
namespace Go.Proofs.Ytegonafacbokeaa.Codec
open Go.RowKit Go.Proofs.YtegonafacbokeaaBase Go.Proofs.YtegonafacbokeaaLex2 Go.Proofs.YtegonafacbokeaaNum
set_option linter.unusedVariables false
set_option linter.unusedSimpArgs false

theorem elem_str : Elem Try.prog 23 9 (.string ⟨#[]⟩) 1 16 := ⟨by kernel_rfl, by obtain ⟨i, h1, h2, h3, h4⟩ := info_parts (show (Try.prog.info? 9).map (fun i => (i.zero, i.size, i.bytes)) = some (some (.string ⟨#[]⟩), 1, 16) by kernel_rfl); exact ⟨i, h1, h2, h3, h4⟩, rfl, by decide, by decide⟩
def mkB (l : List UInt8) : ByteArray := ⟨l.toArray⟩
def strV (l : List UInt8) : Value := .string (mkB l)
/-- What a scan answers. -/
def ScanRes (d : ByteArray) (w : World) (e : Ending) (w' : World) : Prop :=
  Kept w w' (fun _ => False) ∧ ∃ A c, e = .returned (.tuple #[.slice A (scanL d.data.toList).1.length c, .int .i64 (scanL d.data.toList).2]) ∧ RowIn w' A (scanL d.data.toList).1.length ((scanL d.data.toList).1.map strV) ∧ (scanL d.data.toList).1.length ≤ c ∧ ∀ b, (Value.slice A 0 0).ownBlock = some b → w.heap.size ≤ b ∧ b < w'.heap.size
/-- What holds at the loop's head: what is scanned, and what is left. -/
def ScanRel (d : ByteArray) (w : World) (ov av : Value) (wr : World) : Prop :=
  ∃ (xs : List (List UInt8)) (a : Nat), a ≤ d.size ∧ av = .int .i64 (a : Int) ∧ 2 * xs.length ≤ a ∧ Kept w wr (fun _ => False) ∧ wr.ownsRow w.heap.size 9 1 ov xs.length (xs.map strV) ∧
    scanL d.data.toList = (xs ++ (scanL (d.data.toList.drop a)).1, a + (scanL (d.data.toList.drop a)).2)
theorem drop_text (d : ByteArray) (a : Nat) : (d.extract a d.size).data.toList = d.data.toList.drop a := by
  rw [ByteArray.data_extract]
  simp only [Array.toList_extract, List.extract_eq_take_drop]
  rw [List.take_of_length_le]
  rw [List.length_drop, len_data]
  exact Nat.le_refl _

set_option maxHeartbeats 3200000 in
set_option maxRecDepth 100000 in
theorem jscan_any (d : ByteArray) (w : World) (hd : DSize d) (hd2 : d.size ≤ 10000000000000) : Calls Try.prog 8 #[.string d] w (ScanRes d w) := by
  have HD := Lib.hid hd2
  clear hd hd2
  go_enter Try.func8, Try.ntmps8
  go_wp2
  go_loopw [4, 5] (fun ov av wr => ScanRel d w ov av wr) (fun _ av _ => (d.size + 1 - intOf av).toNat)
  case atStart => exact ⟨[], 0, Nat.zero_le _, rfl, Nat.le_refl _, Kept.refl _ _, World.ownsRow_nil _ _ _ _, by simp⟩
  case round =>
    obtain ⟨xs, a, ha, rfl, hxa, hk, ho, hs⟩ := hrel
    have HK := Lib.hid hk
    have HO := Lib.hid ho
    have HS := Lib.hid hs
    have HA := Lib.hid ha
    have HXA := Lib.hid hxa
    have hdd := HD.out
    have q1 : (0 : Int) ≤ a := by omega
    have q2 : (a : Int) ≤ d.size := by omega
    have D2 := Lib.hid (show DSize (d.extract a d.size) by unfold DSize; rw [ByteArray.size_extract]; omega)
    obtain ⟨y, hy⟩ : ∃ y, d.extract a d.size = y := ⟨_, rfl⟩
    have hyd : y.data.toList = d.data.toList.drop a := by rw [← hy]; exact drop_text d a
    have HY := Lib.hid hyd
    rw [hy] at D2
    clear hk ho hs ha hxa hyd
    obtain ⟨sa, sc, hse, _, _⟩ := own_slice HO.out
    subst hse
    cases hnx : nextS (d.data.toList.drop a) with
    | none =>
      have HV : Hid (nextV y = (⟨#[]⟩, 0)) := by unfold nextV; rw [HY.out, hnx]; exact Lib.hid rfl
      have HSC : Hid (scanL d.data.toList = (xs, a)) := by rw [HS.out, scanL_none hnx]; exact Lib.hid (by simp)
      clear hnx hdd
      go_wp2_with (fail)
      refine (jnext_any y wr D2.out).mono ?_
      rintro e w1 ⟨rfl, hk⟩
      rw [HV.out]
      have O1 := Lib.hid (own_keptF HO.out hk (fun g _ h => h))
      obtain ⟨A, c, hA, hcap, hro⟩ := row_own O1.out
      obtain ⟨rfl, _, rfl⟩ := Value.slice.inj hA
      have RO := Lib.hid hro
      have CAP := Lib.hid hcap
      have K1 := Lib.hid (HK.out.nil_trans hk)
      have END : Hid (ScanRes d w (.returned (.tuple #[.slice sa xs.length sc, .int .i64 (a : Int)])) w1) := by
        refine Lib.hid ⟨K1.out, sa, sc, ?_, ?_, ?_⟩
        · rw [HSC.out]
        · rw [HSC.out]; exact RO.out
        · rw [HSC.out]; exact ⟨CAP.out, fun b hb => O1.out.lt b (by rw [ownB sa xs.length 0 sc 0]; exact hb)⟩
      clear hk hA hro hcap
      go_wp2
      go_ret2
      exact END.out
    | some r =>
      obtain ⟨t, k⟩ := r
      obtain ⟨hk2, hkl⟩ := nextS_le hnx
      rw [List.length_drop, len_data] at hkl
      have HV : Hid (nextV y = (mkB t, k)) := by unfold nextV; rw [HY.out, hnx]; exact Lib.hid rfl
      have HN := Lib.hid hnx
      have HK2 := Lib.hid hk2
      have HKL := Lib.hid hkl
      have z1 : ((k : Int) == 0) = false := beq_eq_false_iff_ne.2 (by omega)
      have z2 : decide ((k : Int) = 0) = false := by simp only [decide_eq_false_iff_not]; omega
      have z3 : (a : Int) + (k : Int) ≤ 10000000000000 := by have := HA.out; omega
      have z4 : (0 : Int) ≤ k := by omega
      obtain ⟨x, hx⟩ : ∃ x, mkB t = x := ⟨_, rfl⟩
      have HX := Lib.hid hx
      clear hnx hdd hk2 hkl hx
      go_wp2_with (fail)
      refine (jnext_any y wr D2.out).mono ?_
      rintro e w1 ⟨rfl, hk⟩
      rw [HV.out, HX.out]
      have K1 := Lib.hid (HK.out.nil_trans hk)
      have O1 := Lib.hid (own_keptF HO.out hk (fun g _ h => h))
      clear hk
      go_wp2_with (at_builtin; apply hold)
      unfold Hold
      have SRC : Src Try.prog 1 23 (.slice (some ⟨w1.heap.size, 0, none⟩) 1 1) 1 [Value.string x] (w1.alloc (.cells #[Value.string x] 9)) := by
        refine Src.ofSlice _ (e' := 9) (by kernel_rfl) _ 1 1 _ rfl (fun j u hj => ?_) (by intro z hz; rw [List.mem_singleton.1 hz]; rfl)
        match j, hj with
        | 0, hj =>
          simp at hj
          subst hj
          simp [Addr.add]
      have hby : ((xs.length + 1) + (xs.length + 1) / 4 + 192) * 16 ≤ 281474976710656 := by have h1 := HXA.out; have h2 := HA.out; have h3 := HD.out; omega
      refine wpList_append_ownS _ rfl (.tmp 19) (.tmp 21) 23 23 rfl w.heap.size 9 (.string ⟨#[]⟩) 1 16 elem_str (.slice sa xs.length sc) xs.length (xs.map strV) rfl (O1.out.alloc _) (.slice (some ⟨w1.heap.size, 0, none⟩) 1 1) 1 [Value.string x] rfl SRC hby ?ba (fun v' w3 o1 g1 b1 => ?go)
      case ba =>
        have h2 := K1.out.size
        simp
        omega
      case go =>
        have KK := Lib.hid (Kept.grown (Kept.alloc K1.out (.cells #[Value.string x] 9)) g1 (fun k hk => .inr (O1.out.lt k hk).1))
        have O3 : Hid (w3.ownsRow w.heap.size 9 1 v' (xs ++ [t]).length ((xs ++ [t]).map strV)) := by
          rw [List.map_append, List.length_append]
          unfold strV at *
          rw [List.map_cons, List.map_nil, HX.out]
          exact Lib.hid o1
        have HSC : Hid (scanL d.data.toList = ((xs ++ [t]) ++ (scanL (d.data.toList.drop (a + k))).1, a + k + (scanL (d.data.toList.drop (a + k))).2)) := by
          rw [HS.out, scanL_some HN.out, List.drop_drop]
          exact Lib.hid (by simp [Nat.add_assoc])
        clear o1 g1 b1 SRC hby
        go_wp2
        go_roundw
        case rel => exact ⟨xs ++ [t], a + k, by have h1 := HKL.out; have h2 := HA.out; omega, by go_num, by have h1 := HXA.out; have h2 := HK2.out; simp; omega, KK.out, O3.out, HSC.out⟩
        case measure => simp only [intOf]; have h1 := HK2.out; have h2 := HKL.out; have h3 := HA.out; omega

/-- What the reference's text says of the next record. -/
theorem ref_some {d : ByteArray} {a k : Nat} {t : List UInt8} (ha : a ≤ d.size) (h : nextS (d.data.toList.drop a) = some (t, k)) : ∃ b, refT (bnd 1048576) d a = (mkB t, b, 0) ∧ b + 1 = a + k ∧ b < d.size ∧ nb d.data.toList b = 46 := by
  obtain ⟨h1, h2, h3⟩ := nextS_is h
  have g := textC_good (m := bnd 1048576) (by decide)
  have e0 : (mkB t).size = t.length := size_mk t
  have e1 : bsT (mkB t) = encN t.length ++ t := by unfold bsT; rw [e0]; simp [mkB]
  have h4 : d.data.toList.drop a = bsT (mkB t) ++ (46 :: (d.data.toList.drop a).drop k) := by
    rw [e1]
    conv => lhs; rw [h1]
    simp [frameS]
  have h5 := g.get_ok (mkB t) (46 :: (d.data.toList.drop a).drop k) (show (mkB t).size ≤ _ by rw [e0]; exact h3)
  rw [← h4] at h5
  have h6 := nextS_le h
  have hl : (d.data.toList.drop a).length = d.size - a := by rw [List.length_drop, len_data]
  have h7 : ((46 : UInt8) :: (d.data.toList.drop a).drop k).length = d.size - a - k + 1 := by rw [List.length_cons, List.length_drop, hl]
  refine ⟨a + k - 1, ?_, by omega, by omega, ?_⟩
  · unfold refT
    rw [h5]
    simp only [if_true, h7]
    congr 2
    omega
  · have h8 : (d.data.toList.drop a)[k - 1]? = some 46 := by
      rw [h4, List.getElem?_append_right (by rw [e1, h2, frameS_length]; simp), e1, h2, frameS_length]
      simp
    rw [List.getElem?_drop] at h8
    unfold nb
    rw [List.getD_eq_getElem?_getD, show a + k - 1 = a + (k - 1) by omega, h8]
    rfl
theorem ref_none {d : ByteArray} {a : Nat} (ha : a ≤ d.size) (h : nextS (d.data.toList.drop a) = none) : ∃ x b e, refT (bnd 1048576) d a = (x, b, e) ∧ (e ≠ 0 ∨ (e = 0 ∧ b = d.size) ∨ (e = 0 ∧ b < d.size ∧ nb d.data.toList b ≠ 46)) := by
  obtain ⟨x, s, hx⟩ : ∃ x s, (textC (bnd 1048576)).get ⟨d.data.toList.drop a, 0⟩ = (x, s) := ⟨_, _, rfl⟩
  have g := textC_good (m := bnd 1048576) (by decide)
  by_cases he : s.err = 0
  · obtain ⟨b, hab, hbd, hsz, hs⟩ := good_suffix g ha hx he
    refine ⟨x, b, 0, by unfold refT; simp only [hx, he, if_true, hsz], ?_⟩
    by_cases hb : b = d.size
    · exact .inr (.inl ⟨rfl, hb⟩)
    · refine .inr (.inr ⟨rfl, by omega, fun h46 => ?_⟩)
      obtain ⟨h1, h2⟩ := g.get_is _ _ _ hx he
      have hlt : b < d.data.toList.length := by rw [len_data]; omega
      have h3 : s.rest = 46 :: d.data.toList.drop (b + 1) := by
        rw [hs]
        simp only
        rw [List.drop_eq_getElem_cons hlt]
        congr 1
        rw [← ofNat_nb _ _ hlt, h46]
        rfl
      have h4 := nextS_frame x.data.toList (d.data.toList.drop (b + 1)) (by rw [len_data]; exact h1)
      have h5 : frameS x.data.toList ++ d.data.toList.drop (b + 1) = d.data.toList.drop a := by
        rw [h2, h3]
        simp [frameS, bsT, len_data]
      rw [h5, h] at h4
      cases h4
  · exact ⟨x, a, s.err, by unfold refT; simp only [hx, if_neg he], .inl he⟩

set_option maxHeartbeats 3200000 in
set_option maxRecDepth 100000 in
theorem rscan_any (d : ByteArray) (w : World) (hd : DSize d) (hd2 : d.size ≤ 10000000000000) : Calls Try.prog 9 #[.string d] w (ScanRes d w) := by
  have HD := Lib.hid hd2
  have HDS := Lib.hid hd
  clear hd hd2
  go_enter Try.func9, Try.ntmps9
  go_wp2
  go_loopw [4, 5] (fun ov av wr => ScanRel d w ov av wr) (fun _ av _ => (d.size + 1 - intOf av).toNat)
  case atStart => exact ⟨[], 0, Nat.zero_le _, rfl, Nat.le_refl _, Kept.refl _ _, World.ownsRow_nil _ _ _ _, by simp⟩
  case round =>
    obtain ⟨xs, a, ha, rfl, hxa, hk, ho, hs⟩ := hrel
    have HK := Lib.hid hk
    have HO := Lib.hid ho
    have HS := Lib.hid hs
    have HA := Lib.hid ha
    have HXA := Lib.hid hxa
    have P := rtext_any d a 1048576 wr HDS.out ha
    unfold TextRes at P
    clear hk ho hs ha hxa
    obtain ⟨sa, sc, hse, _, _⟩ := own_slice HO.out
    subst hse
    cases hnx : nextS (d.data.toList.drop a) with
    | none =>
      have hsc : scanL d.data.toList = (xs, a) := by rw [HS.out, scanL_none hnx]; simp
      obtain ⟨x, b, e, hr, hc⟩ := ref_none HA.out hnx
      rw [hr] at P
      have PP := Lib.hid P
      have HSC := Lib.hid hsc
      have O1 := HO
      obtain ⟨A, c, hA, hcap, hro⟩ := row_own O1.out
      obtain ⟨rfl, _, rfl⟩ := Value.slice.inj hA
      have RO := Lib.hid hro
      have CAP := Lib.hid hcap
      have END : Hid (ScanRes d w (.returned (.tuple #[.slice sa xs.length sc, .int .i64 (a : Int)])) wr) := by
        refine Lib.hid ⟨HK.out, sa, sc, ?_, ?_, ?_⟩
        · rw [HSC.out]
        · rw [HSC.out]; exact RO.out
        · rw [HSC.out]; exact ⟨CAP.out, fun b hb => O1.out.lt b (by rw [ownB sa xs.length 0 sc 0]; exact hb)⟩
      clear P hr hnx hsc hA hro hcap
      rcases hc with he | ⟨he, hb⟩ | ⟨he, hb, hne⟩
      · have z1 : (e == 0) = false := by simpa using he
        have z2 : decide (e = 0) = false := by simpa using he
        have z3 : (e != 0) = true := by simpa using he
        clear he
        go_wp2_with (go_at_call 19; refine PP.out.mono ?_; rintro e w' ⟨rfl, hw⟩; obtain rfl := hw.symm)
        go_ret2
        exact END.out
      · subst he hb
        have z1 : (d.size : Int) ≤ d.size := Int.le_refl _
        have z3 : decide (d.size ≤ d.size) = true := by simp
        go_wp2_with (go_at_call 19; refine PP.out.mono ?_; rintro e w' ⟨rfl, hw⟩; obtain rfl := hw.symm)
        go_ret2
        exact END.out
      · subst he
        have z1 : ¬ (d.size : Int) ≤ b := by omega
        have z2 : (0 : Int) ≤ b := by omega
        have z3 : (b : Int) < d.size := by omega
        have z4 := get_nb d
        have z5 : (((nb d.data.toList b : Nat) : Int) == 46) = false := beq_eq_false_iff_ne.2 (by omega)
        have z6 : decide (((nb d.data.toList b : Nat) : Int) = 46) = false := by simp only [decide_eq_false_iff_not]; omega
        have z7 : (((nb d.data.toList b : Nat) : Int) != 46) = true := by simp only [bne_iff_ne, ne_eq]; omega
        have z8 : decide (d.size ≤ b) = false := by simp only [decide_eq_false_iff_not]; omega
        clear hne
        go_wp2_with (go_at_call 19; refine PP.out.mono ?_; rintro e w' ⟨rfl, hw⟩; obtain rfl := hw.symm)
        go_ret2
        exact END.out
    | some r =>
      obtain ⟨t, k⟩ := r
      obtain ⟨hk2, hkl⟩ := nextS_le hnx
      rw [List.length_drop, len_data] at hkl
      obtain ⟨b, hr, hbk, hbs, h46⟩ := ref_some HA.out hnx
      rw [hr] at P
      have HSC : Hid (scanL d.data.toList = ((xs ++ [t]) ++ (scanL (d.data.toList.drop (a + k))).1, a + k + (scanL (d.data.toList.drop (a + k))).2)) := by
        rw [HS.out, scanL_some hnx, List.drop_drop]
        exact Lib.hid (by simp [Nat.add_assoc])
      have HK2 := Lib.hid hk2
      have HKL := Lib.hid hkl
      have HBK := Lib.hid hbk
      obtain ⟨x, hx⟩ : ∃ x, mkB t = x := ⟨_, rfl⟩
      rw [hx] at P
      have HX := Lib.hid hx
      have PP := Lib.hid P
      have z1 : ¬ (d.size : Int) ≤ b := by omega
      have z2 : (0 : Int) ≤ b := by omega
      have z3 : (b : Int) < d.size := by omega
      have z4 := get_nb d
      have z5 : (((nb d.data.toList b : Nat) : Int) != 46) = false := by rw [h46]; rfl
      have z7 : (((nb d.data.toList b : Nat) : Int) == 46) = true := by rw [h46]; rfl
      have z8 : decide (d.size ≤ b) = false := by simp only [decide_eq_false_iff_not]; omega
      have z6 : (b : Int) ≤ 10000000000000 := by have := HD.out; omega
      clear P hr hnx hk2 hkl hbk hbs h46 hx
      go_wp2_with (first | (go_at_call 19; refine PP.out.mono ?_; rintro e w' ⟨rfl, hw⟩; obtain rfl := hw.symm) | (at_builtin; apply hold))
      unfold Hold
      clear z4 z5 z7 z8
      have SRC : Src Try.prog 1 23 (.slice (some ⟨wr.heap.size, 0, none⟩) 1 1) 1 [Value.string x] (wr.alloc (.cells #[Value.string x] 9)) := by
        refine Src.ofSlice _ (e' := 9) (by kernel_rfl) _ 1 1 _ rfl (fun j u hj => ?_) (by intro z hz; rw [List.mem_singleton.1 hz]; rfl)
        match j, hj with
        | 0, hj =>
          simp at hj
          subst hj
          simp [Addr.add]
      have hby : ((xs.length + 1) + (xs.length + 1) / 4 + 192) * 16 ≤ 281474976710656 := by have h1 := HXA.out; have h2 := HA.out; have h3 := HD.out; omega
      refine wpList_append_ownS _ rfl (.tmp 32) (.tmp 34) 23 23 rfl w.heap.size 9 (.string ⟨#[]⟩) 1 16 elem_str (.slice sa xs.length sc) xs.length (xs.map strV) rfl (HO.out.alloc _) (.slice (some ⟨wr.heap.size, 0, none⟩) 1 1) 1 [Value.string x] rfl SRC hby ?ba (fun v' w3 o1 g1 b1 => ?go)
      case ba =>
        have h2 := HK.out.size
        simp
        omega
      case go =>
        have KK := Lib.hid (Kept.grown (Kept.alloc HK.out (.cells #[Value.string x] 9)) g1 (fun k hk => .inr (HO.out.lt k hk).1))
        have O3 : Hid (w3.ownsRow w.heap.size 9 1 v' (xs ++ [t]).length ((xs ++ [t]).map strV)) := by
          rw [List.map_append, List.length_append]
          unfold strV at *
          rw [List.map_cons, List.map_nil, HX.out]
          exact Lib.hid o1
        have HB2 := Lib.hid (show ((a + k : Nat) : Int) = (b : Int) + 1 by have := HBK.out; omega)
        clear o1 g1 b1 SRC hby
        go_wp2
        go_roundw
        case rel => exact ⟨xs ++ [t], a + k, by have h1 := HKL.out; have h2 := HA.out; omega, by rw [HB2.out], by have h1 := HXA.out; have h2 := HK2.out; simp; omega, KK.out, O3.out, HSC.out⟩
        case measure => simp only [intOf]; have h1 := HK2.out; have h2 := HBK.out; have h3 := HKL.out; have h4 := HA.out; omega
end Go.Proofs.Ytegonafacbokeaa.Codec
