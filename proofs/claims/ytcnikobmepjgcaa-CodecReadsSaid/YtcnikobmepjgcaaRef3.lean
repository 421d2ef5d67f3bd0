/-
  The reference's lists, walked.
-/
import Derived.Test.YtcnikobmepjgcaaRef2
import Derived.Test.YtcnikobmepjgcaaCodB
namespace Go.Proofs.Ytcnikobmepjgcaa.Codec
open Go.RowKit Go.Proofs.YtcnikobmepjgcaaBase Go.Proofs.YtcnikobmepjgcaaLex2 Go.Proofs.YtcnikobmepjgcaaNum
set_option linter.unusedVariables false
set_option linter.unusedSimpArgs false

theorem good_suffix {α : Type} {c : Cod α} {ok : α → Prop} {bs : α → List UInt8} (g : Good c ok bs) {d : ByteArray} {a : Nat} {x : α} {s : RS} (ha : a ≤ d.size) (h : c.get ⟨d.data.toList.drop a, 0⟩ = (x, s)) (he : s.err = 0) :
    ∃ b, a ≤ b ∧ b ≤ d.size ∧ d.size - s.rest.length = b ∧ s = ⟨d.data.toList.drop b, 0⟩ := by
  obtain ⟨h1, h2⟩ := g.get_is _ _ _ h he
  have hl := congrArg List.length h2
  rw [List.length_drop, len_data, List.length_append] at hl
  refine ⟨a + (bs x).length, by omega, by omega, by omega, ?_⟩
  have h3 := congrArg (List.drop (bs x).length) h2
  rw [List.drop_drop, List.drop_left] at h3
  cases s
  simp only at h3 he
  rw [he, ← h3]
theorem stepN_ok {d : ByteArray} {a : Nat} {x : Int} {s : RS} (ha : a ≤ d.size) (h : numC.get ⟨d.data.toList.drop a, 0⟩ = (x, s)) (he : s.err = 0) : ∃ b, a ≤ b ∧ b ≤ d.size ∧ GetRes d a = .tuple #[.int .i64 x, .int .i64 b, .int .i64 0] ∧ s = ⟨d.data.toList.drop b, 0⟩ := by
  obtain ⟨b, h1, h2, h3, h4⟩ := good_suffix numC_good ha h he
  refine ⟨b, h1, h2, ?_, h4⟩
  simp only [numC, Prod.mk.injEq] at h
  obtain ⟨h5, h6⟩ := h
  unfold GetRes refGet
  simp only [h6, if_pos he, h3, h5]
theorem stepN_err {d : ByteArray} {a : Nat} {x : Int} {s : RS} (h : numC.get ⟨d.data.toList.drop a, 0⟩ = (x, s)) (he : s.err ≠ 0) : ∃ y, GetRes d a = .tuple #[.int .i64 y, .int .i64 a, .int .i64 s.err] := by
  simp only [numC, Prod.mk.injEq] at h
  obtain ⟨h5, h6⟩ := h
  unfold GetRes refGet
  simp only [h6, if_neg he]
  exact ⟨_, rfl⟩
theorem stepT_ok {m : Int} {d : ByteArray} {a : Nat} {x : ByteArray} {s : RS} (ha : a ≤ d.size) (h : (textC (bnd m)).get ⟨d.data.toList.drop a, 0⟩ = (x, s)) (he : s.err = 0) : ∃ b, a ≤ b ∧ b ≤ d.size ∧ TextRes (bnd m) d a = .tuple #[.string x, .int .i64 b, .int .i64 0] ∧ s = ⟨d.data.toList.drop b, 0⟩ := by
  obtain ⟨b, h1, h2, h3, h4⟩ := good_suffix (textC_good (bnd_le m)) ha h he
  refine ⟨b, h1, h2, ?_, h4⟩
  unfold TextRes refT
  simp only [h, he, if_true, h3]
theorem stepT_err {m : Int} {d : ByteArray} {a : Nat} {x : ByteArray} {s : RS} (h : (textC (bnd m)).get ⟨d.data.toList.drop a, 0⟩ = (x, s)) (he : s.err ≠ 0) : ∃ y, TextRes (bnd m) d a = .tuple #[.string y, .int .i64 a, .int .i64 s.err] := by
  unfold TextRes refT
  simp only [h, if_neg he]
  exact ⟨_, rfl⟩

/-- What the reference's list is: the list and 0; or nothing, and the error. -/
def ListRes {α : Type} (L : Cod (List α)) (f : α → Value) (d : ByteArray) (w : World) (e : Ending) (w' : World) : Prop :=
  Kept w w' (fun _ => False) ∧ ((decE L d ≠ 0 ∧ e = .returned (.tuple #[.slice none 0 0, .int .i64 (decE L d)])) ∨
    (decE L d = 0 ∧ ∃ A c, e = .returned (.tuple #[.slice A (L.get ⟨d.data.toList, 0⟩).1.length c, .int .i64 0]) ∧ RowIn w' A (L.get ⟨d.data.toList, 0⟩).1.length ((L.get ⟨d.data.toList, 0⟩).1.map f)))
theorem listRes_err {α : Type} {L : Cod (List α)} {f : α → Value} {d : ByteArray} {w w' : World} {e : Int} (hk : Kept w w' (fun _ => False)) (h : decE L d = e) (he : e ≠ 0) : ListRes L f d w (.returned (.tuple #[.slice none 0 0, .int .i64 e])) w' := by
  subst h
  exact ⟨hk, .inl ⟨he, rfl⟩⟩

/-- What holds at the loop's head. -/
def LoopRel {α : Type} (c : Cod α) (f : α → Value) (T : TypeId) (d : ByteArray) (n : Nat) (res : List α × RS) (w : World) (av ov iv : Value) (wr : World) : Prop :=
  ∃ (k b : Nat) (xs : List α), k + xs.length = n ∧ b ≤ d.size ∧ av = .int .i64 (b : Int) ∧ iv = .int .i64 (xs.length : Int) ∧ Kept w wr (fun _ => False) ∧ wr.ownsRow w.heap.size T 1 ov xs.length (xs.map f) ∧ res = (xs ++ (getL c.get k ⟨d.data.toList.drop b, 0⟩).1, (getL c.get k ⟨d.data.toList.drop b, 0⟩).2)

set_option maxHeartbeats 3200000 in
set_option maxRecDepth 100000 in
theorem rNumbers_any (d : ByteArray) (m t : Int) (w : World) (hd : DSize d) :
    Calls Try.prog 32 #[.string d, .int .i64 m] w (ListRes (listC numC (bnd m)) (Value.int .i64) d w) := by
  have hb := bnd_le m
  obtain ⟨n, s, hn⟩ : ∃ n s, getN ⟨d.data.toList, 0⟩ = (n, s) := ⟨_, _, rfl⟩
  have hn0 : getN ⟨d.data.toList.drop 0, 0⟩ = (n, s) := hn
  have hL : (listC numC (bnd m)).get ⟨d.data.toList, 0⟩ = getL numC.get (if (if (bnd m : Int) < (n : Int) then s.fail 22 else s).err ≠ 0 then 0 else n) (if (bnd m : Int) < (n : Int) then s.fail 22 else s) := by
    show getL numC.get (countN (bnd m : Int) ⟨d.data.toList, 0⟩).1 (countN (bnd m : Int) ⟨d.data.toList, 0⟩).2 = _
    unfold countN
    rw [hn]
  have G := rget_any d 0 w hd (Nat.zero_le _)
  unfold GetRes at G
  by_cases he : s.err = 0
  · obtain ⟨b, hab, hbd, hg, hs⟩ := refGet_ok (Nat.zero_le _) hn0 he
    rw [hg] at G
    have GG := Lib.hid G
    by_cases h1 : bnd m < n
    · have er : decE (listC numC (bnd m)) d = 22 := by
        have e1 : (listC numC (bnd m)).get ⟨d.data.toList, 0⟩ = ([], ⟨d.data.toList.drop b, 22⟩) := by
          rw [hL, if_pos (by omega : (bnd m : Int) < (n : Int)), hs]
          rfl
        rw [decE_fail (by rw [e1]; simp), e1]
      have ER := Lib.hid er
      have q1 : (bnd m : Int) < (n : Int) := by omega
      clear er hL h1 hs hg G hn hn0 he
      go_enter Try.func32, Try.ntmps32
      go_wp2_with (first | (go_at_call 27; refine GG.out.mono ?_; rintro e w' ⟨rfl, hw⟩; obtain rfl := hw.symm) | (go_at_call 14; refine (rbound_any m _).mono ?_; rintro e w' ⟨rfl, hw⟩; obtain rfl := hw.symm))
      go_ret2
      exact listRes_err (Kept.refl _ _) ER.out (by decide)
    have h1' : ¬ (bnd m : Int) < (n : Int) := by omega
    rw [if_neg h1', if_neg (by simpa using he), hs] at hL
    have HBM := Lib.hid (show n ≤ 1048576 by omega)
    obtain ⟨res, hres⟩ : ∃ res, (listC numC (bnd m)).get ⟨d.data.toList, 0⟩ = res := ⟨_, rfl⟩
    rw [hres] at hL
    have HRES := Lib.hid hres
    have HD := Lib.hid hd
    have HL := Lib.hid hL
    have HBD := Lib.hid hbd
    clear hs hg G hn hn0 hL hres hab hbd hd he
    go_enter Try.func32, Try.ntmps32
    go_wp2_with (first | (go_at_call 27; refine GG.out.mono ?_; rintro e w' ⟨rfl, hw⟩; obtain rfl := hw.symm) | (go_at_call 14; refine (rbound_any m _).mono ?_; rintro e w' ⟨rfl, hw⟩; obtain rfl := hw.symm))
    go_loopw [7, 9, 10] (fun av ov iv wr => LoopRel numC (Value.int .i64) 3 d n res w av ov iv wr) (fun _ _ iv _ => (n - intOf iv).toNat)
    case atStart => exact ⟨n, b, [], by simp, HBD.out, rfl, rfl, Kept.refl _ _, World.ownsRow_nil _ _ _ _, by rw [HL.out]; rfl⟩
    case round =>
      obtain ⟨k, a, xs, hk, ha, rfl, rfl, hkp, ho, hr⟩ := hrel
      have HKP := Lib.hid hkp
      have HR := Lib.hid hr
      have HO := Lib.hid ho
      have HA := Lib.hid ha
      have HK := Lib.hid hk
      have hbm := HBM.out
      clear hkp hr ho ha hk
      cases k with
      | zero =>
        have hx := HK.out
        have q1 : ¬ (xs.length : Int) < n := by omega
        by_cases hlast : a = d.size
        · have q2 : ¬ (a : Int) < d.size := by omega
          have hres : (listC numC (bnd m)).get ⟨d.data.toList, 0⟩ = (xs, ⟨[], 0⟩) := by
            rw [HRES.out, HR.out]
            simp only [getL, List.append_nil]
            rw [hlast, List.drop_eq_nil_of_le (by rw [len_data]; exact Nat.le_refl _)]
          have he : decE (listC numC (bnd m)) d = 0 := by unfold decE; rw [hres]; rfl
          have HE := Lib.hid he
          have HRS := Lib.hid hres
          obtain ⟨A, c, hov, _, hro⟩ := row_own HO.out
          subst hov
          have RO := Lib.hid hro
          clear hlast hres he hx hro
          go_wp2
          go_ret2
          refine ⟨HKP.out, .inr ⟨HE.out, A, c, ?_, ?_⟩⟩
          · rw [HRS.out]; rfl
          · rw [HRS.out]; exact RO.out
        · have q2 : (a : Int) < d.size := by have := HA.out; omega
          have he : decE (listC numC (bnd m)) d = 21 := by
            have hne : d.data.toList.drop a ≠ [] := fun h => by
              have := congrArg List.length h
              rw [List.length_drop, len_data] at this
              simp at this
              omega
            have hres : (listC numC (bnd m)).get ⟨d.data.toList, 0⟩ = (xs, ⟨d.data.toList.drop a, 0⟩) := by
              rw [HRES.out, HR.out]
              simp only [getL, List.append_nil]
            unfold decE
            rw [hres]
            simp only
            rw [if_neg hne]
            rfl
          have HE := Lib.hid he
          clear hlast he hx
          go_wp2
          go_ret2
          exact listRes_err HKP.out HE.out (by decide)
      | succ k =>
        have hx := HK.out
        have q1 : (xs.length : Int) < n := by omega
        obtain ⟨x, s', hxs⟩ : ∃ x s', numC.get ⟨d.data.toList.drop a, 0⟩ = (x, s') := ⟨_, _, rfl⟩
        have P := rget_any d a wr HD.out HA.out
        by_cases he : s'.err = 0
        · obtain ⟨b', hab, hbd, hg, hs⟩ := stepN_ok HA.out hxs he
          rw [hg] at P
          have PP := Lib.hid P
          have HBD' := Lib.hid hbd
          have hres : res = ((xs ++ [x]) ++ (getL numC.get k ⟨d.data.toList.drop b', 0⟩).1, (getL numC.get k ⟨d.data.toList.drop b', 0⟩).2) := by
            rw [HR.out]
            simp only [getL]
            rw [if_neg (by simp), hxs, hs]
            simp
          have HRR := Lib.hid hres
          have hby : ((xs.length + 1) + (xs.length + 1) / 4 + 192) * 8 ≤ 281474976710656 := by omega
          have HBY := Lib.hid hby
          clear hres hg hs hxs he P hab hbd hby hbm hx
          obtain ⟨sa, sc, hse, _, _⟩ := own_slice HO.out
          subst hse
          go_wp2_with (first | (go_at_call 27; refine PP.out.mono ?_; rintro e w1 ⟨rfl, hw⟩; obtain rfl := hw.symm) | (at_builtin; apply hold))
          unfold Hold
          have SRC : Src Try.prog 1 22 (.slice (some ⟨wr.heap.size, 0, none⟩) 1 1) 1 [(Value.int .i64) x] (wr.alloc (.cells #[(Value.int .i64) x] 3)) := by
            refine Src.ofSlice _ (e' := 3) (by kernel_rfl) _ 1 1 _ rfl (fun j u hj => ?_) (by intro z hz; rw [List.mem_singleton.1 hz]; rfl)
            match j, hj with
            | 0, hj =>
              simp at hj
              subst hj
              simp [Addr.add]
          refine wpList_append_ownS _ rfl (.tmp 43) (.tmp 45) 22 22 rfl w.heap.size 3 (.int .i64 0) 1 8 elem_int (.slice sa xs.length sc) xs.length (xs.map ((Value.int .i64))) rfl (own_grownA HO.out _) (.slice (some ⟨wr.heap.size, 0, none⟩) 1 1) 1 [(Value.int .i64) x] rfl SRC HBY.out ?ba (fun v' w3 o1 g1 b1 => ?go)
          case ba =>
            have h2 := HKP.out.size
            simp
            omega
          case go =>
            have KK := Lib.hid (Kept.grown (Kept.alloc HKP.out (.cells #[(Value.int .i64) x] 3)) g1 (fun k hk => .inr (HO.out.lt k hk).1))
            have O1 : Hid (w3.ownsRow w.heap.size 3 1 v' (xs ++ [x]).length ((xs ++ [x]).map (Value.int .i64))) := Lib.hid (by simpa using o1)
            have HL1 := Lib.hid (show k + (xs ++ [x]).length = n by have := HK.out; simp; omega)
            have HL2 := Lib.hid (show ((xs ++ [x]).length : Int) = (xs.length : Int) + 1 by simp)
            clear o1 g1 b1 SRC
            go_wp2
            go_roundw
            case rel => exact ⟨k, b', xs ++ [x], HL1.out, HBD'.out, rfl, by rw [HL2.out], KK.out, O1.out, HRR.out⟩
            case measure => simp only [intOf]; have := HK.out; omega
        · obtain ⟨y, hg⟩ := stepN_err hxs he
          rw [hg] at P
          obtain ⟨er, hee⟩ : ∃ er, s'.err = er := ⟨_, rfl⟩
          have hres : decE (listC numC (bnd m)) d = er := by
            have e1 : ((listC numC (bnd m)).get ⟨d.data.toList, 0⟩).2 = s' := by
              rw [HRES.out, HR.out]
              simp only [getL]
              rw [if_neg (by simp), hxs, getL_err he]
            rw [decE_fail (by rw [e1]; exact he), e1, hee]
          rw [hee] at P he
          have PP := Lib.hid P
          have HE := Lib.hid hres
          have HNE := Lib.hid he
          have q2 : (er == 0) = false := by simpa using he
          have q3 : decide (er = 0) = false := by simpa using he
          clear hres hg hxs he P hee hbm hx
          go_wp2_with (go_at_call 27; refine PP.out.mono ?_; rintro e w1 ⟨rfl, hw⟩; have HW := Lib.hid hw; clear hw)
          go_ret2
          rename_i w1
          have e1 := HW.out
          rw [e1]
          exact listRes_err HKP.out HE.out HNE.out
  · have hg := refGet_err hn0 he
    rw [hg] at G
    obtain ⟨er, hee⟩ : ∃ er, s.err = er := ⟨_, rfl⟩
    have er' : decE (listC numC (bnd m)) d = er := by
      have e1 : ((listC numC (bnd m)).get ⟨d.data.toList, 0⟩).2 = s := by
        rw [hL]
        have : (if (bnd m : Int) < (n : Int) then s.fail 22 else s) = s := by split; exact rfail_err he _; rfl
        rw [this, if_pos he]
        rfl
      rw [decE_fail (by rw [e1]; exact he), e1, hee]
    rw [hee] at G he
    have GG := Lib.hid G
    have HE := Lib.hid er'
    have HNE := Lib.hid he
    have q2 : (er == 0) = false := by simpa using he
    have q3 : decide (er = 0) = false := by simpa using he
    clear er' hee G hg hn hn0 hL he
    go_enter Try.func32, Try.ntmps32
    go_wp2_with (first | (go_at_call 27; refine GG.out.mono ?_; rintro e w' ⟨rfl, hw⟩; obtain rfl := hw.symm) | (go_at_call 14; refine (rbound_any m _).mono ?_; rintro e w' ⟨rfl, hw⟩; obtain rfl := hw.symm))
    go_ret2
    exact listRes_err (Kept.refl _ _) HE.out HNE.out

set_option maxHeartbeats 3200000 in
set_option maxRecDepth 100000 in
theorem rTexts_any (d : ByteArray) (m t : Int) (w : World) (hd : DSize d) :
    Calls Try.prog 34 #[.string d, .int .i64 m, .int .i64 t] w (ListRes (listC (textC (bnd t)) (bnd m)) Value.string d w) := by
  have hb := bnd_le m
  obtain ⟨n, s, hn⟩ : ∃ n s, getN ⟨d.data.toList, 0⟩ = (n, s) := ⟨_, _, rfl⟩
  have hn0 : getN ⟨d.data.toList.drop 0, 0⟩ = (n, s) := hn
  have hL : (listC (textC (bnd t)) (bnd m)).get ⟨d.data.toList, 0⟩ = getL (textC (bnd t)).get (if (if (bnd m : Int) < (n : Int) then s.fail 22 else s).err ≠ 0 then 0 else n) (if (bnd m : Int) < (n : Int) then s.fail 22 else s) := by
    show getL (textC (bnd t)).get (countN (bnd m : Int) ⟨d.data.toList, 0⟩).1 (countN (bnd m : Int) ⟨d.data.toList, 0⟩).2 = _
    unfold countN
    rw [hn]
  have G := rget_any d 0 w hd (Nat.zero_le _)
  unfold GetRes at G
  by_cases he : s.err = 0
  · obtain ⟨b, hab, hbd, hg, hs⟩ := refGet_ok (Nat.zero_le _) hn0 he
    rw [hg] at G
    have GG := Lib.hid G
    by_cases h1 : bnd m < n
    · have er : decE (listC (textC (bnd t)) (bnd m)) d = 22 := by
        have e1 : (listC (textC (bnd t)) (bnd m)).get ⟨d.data.toList, 0⟩ = ([], ⟨d.data.toList.drop b, 22⟩) := by
          rw [hL, if_pos (by omega : (bnd m : Int) < (n : Int)), hs]
          rfl
        rw [decE_fail (by rw [e1]; simp), e1]
      have ER := Lib.hid er
      have q1 : (bnd m : Int) < (n : Int) := by omega
      clear er hL h1 hs hg G hn hn0 he
      go_enter Try.func34, Try.ntmps34
      go_wp2_with (first | (go_at_call 27; refine GG.out.mono ?_; rintro e w' ⟨rfl, hw⟩; obtain rfl := hw.symm) | (go_at_call 14; refine (rbound_any m _).mono ?_; rintro e w' ⟨rfl, hw⟩; obtain rfl := hw.symm))
      go_ret2
      exact listRes_err (Kept.refl _ _) ER.out (by decide)
    have h1' : ¬ (bnd m : Int) < (n : Int) := by omega
    rw [if_neg h1', if_neg (by simpa using he), hs] at hL
    have HBM := Lib.hid (show n ≤ 1048576 by omega)
    obtain ⟨res, hres⟩ : ∃ res, (listC (textC (bnd t)) (bnd m)).get ⟨d.data.toList, 0⟩ = res := ⟨_, rfl⟩
    rw [hres] at hL
    have HRES := Lib.hid hres
    have HD := Lib.hid hd
    have HL := Lib.hid hL
    have HBD := Lib.hid hbd
    clear hs hg G hn hn0 hL hres hab hbd hd he
    go_enter Try.func34, Try.ntmps34
    go_wp2_with (first | (go_at_call 27; refine GG.out.mono ?_; rintro e w' ⟨rfl, hw⟩; obtain rfl := hw.symm) | (go_at_call 14; refine (rbound_any m _).mono ?_; rintro e w' ⟨rfl, hw⟩; obtain rfl := hw.symm))
    go_loopw [9, 11, 12] (fun av ov iv wr => LoopRel (textC (bnd t)) Value.string 9 d n res w av ov iv wr) (fun _ _ iv _ => (n - intOf iv).toNat)
    case atStart => exact ⟨n, b, [], by simp, HBD.out, rfl, rfl, Kept.refl _ _, World.ownsRow_nil _ _ _ _, by rw [HL.out]; rfl⟩
    case round =>
      obtain ⟨k, a, xs, hk, ha, rfl, rfl, hkp, ho, hr⟩ := hrel
      have HKP := Lib.hid hkp
      have HR := Lib.hid hr
      have HO := Lib.hid ho
      have HA := Lib.hid ha
      have HK := Lib.hid hk
      have hbm := HBM.out
      clear hkp hr ho ha hk
      cases k with
      | zero =>
        have hx := HK.out
        have q1 : ¬ (xs.length : Int) < n := by omega
        by_cases hlast : a = d.size
        · have q2 : ¬ (a : Int) < d.size := by omega
          have hres : (listC (textC (bnd t)) (bnd m)).get ⟨d.data.toList, 0⟩ = (xs, ⟨[], 0⟩) := by
            rw [HRES.out, HR.out]
            simp only [getL, List.append_nil]
            rw [hlast, List.drop_eq_nil_of_le (by rw [len_data]; exact Nat.le_refl _)]
          have he : decE (listC (textC (bnd t)) (bnd m)) d = 0 := by unfold decE; rw [hres]; rfl
          have HE := Lib.hid he
          have HRS := Lib.hid hres
          obtain ⟨A, c, hov, _, hro⟩ := row_own HO.out
          subst hov
          have RO := Lib.hid hro
          clear hlast hres he hx hro
          go_wp2
          go_ret2
          refine ⟨HKP.out, .inr ⟨HE.out, A, c, ?_, ?_⟩⟩
          · rw [HRS.out]; rfl
          · rw [HRS.out]; exact RO.out
        · have q2 : (a : Int) < d.size := by have := HA.out; omega
          have he : decE (listC (textC (bnd t)) (bnd m)) d = 21 := by
            have hne : d.data.toList.drop a ≠ [] := fun h => by
              have := congrArg List.length h
              rw [List.length_drop, len_data] at this
              simp at this
              omega
            have hres : (listC (textC (bnd t)) (bnd m)).get ⟨d.data.toList, 0⟩ = (xs, ⟨d.data.toList.drop a, 0⟩) := by
              rw [HRES.out, HR.out]
              simp only [getL, List.append_nil]
            unfold decE
            rw [hres]
            simp only
            rw [if_neg hne]
            rfl
          have HE := Lib.hid he
          clear hlast he hx
          go_wp2
          go_ret2
          exact listRes_err HKP.out HE.out (by decide)
      | succ k =>
        have hx := HK.out
        have q1 : (xs.length : Int) < n := by omega
        obtain ⟨x, s', hxs⟩ : ∃ x s', (textC (bnd t)).get ⟨d.data.toList.drop a, 0⟩ = (x, s') := ⟨_, _, rfl⟩
        have P := rtext_any d a t wr HD.out HA.out
        by_cases he : s'.err = 0
        · obtain ⟨b', hab, hbd, hg, hs⟩ := stepT_ok HA.out hxs he
          rw [hg] at P
          have PP := Lib.hid P
          have HBD' := Lib.hid hbd
          have hres : res = ((xs ++ [x]) ++ (getL (textC (bnd t)).get k ⟨d.data.toList.drop b', 0⟩).1, (getL (textC (bnd t)).get k ⟨d.data.toList.drop b', 0⟩).2) := by
            rw [HR.out]
            simp only [getL]
            rw [if_neg (by simp), hxs, hs]
            simp
          have HRR := Lib.hid hres
          have hby : ((xs.length + 1) + (xs.length + 1) / 4 + 192) * 16 ≤ 281474976710656 := by omega
          have HBY := Lib.hid hby
          clear hres hg hs hxs he P hab hbd hby hbm hx
          obtain ⟨sa, sc, hse, _, _⟩ := own_slice HO.out
          subst hse
          go_wp2_with (first | (go_at_call 31; refine PP.out.mono ?_; rintro e w1 ⟨rfl, hw⟩; obtain rfl := hw.symm) | (at_builtin; apply hold))
          unfold Hold
          have SRC : Src Try.prog 1 55 (.slice (some ⟨wr.heap.size, 0, none⟩) 1 1) 1 [Value.string x] (wr.alloc (.cells #[Value.string x] 9)) := by
            refine Src.ofSlice _ (e' := 9) (by kernel_rfl) _ 1 1 _ rfl (fun j u hj => ?_) (by intro z hz; rw [List.mem_singleton.1 hz]; rfl)
            match j, hj with
            | 0, hj =>
              simp at hj
              subst hj
              simp [Addr.add]
          refine wpList_append_ownS _ rfl (.tmp 46) (.tmp 48) 55 55 rfl w.heap.size 9 (.string ⟨#[]⟩) 1 16 elem_str (.slice sa xs.length sc) xs.length (xs.map (Value.string)) rfl (own_grownA HO.out _) (.slice (some ⟨wr.heap.size, 0, none⟩) 1 1) 1 [Value.string x] rfl SRC HBY.out ?ba (fun v' w3 o1 g1 b1 => ?go)
          case ba =>
            have h2 := HKP.out.size
            simp
            omega
          case go =>
            have KK := Lib.hid (Kept.grown (Kept.alloc HKP.out (.cells #[Value.string x] 9)) g1 (fun k hk => .inr (HO.out.lt k hk).1))
            have O1 : Hid (w3.ownsRow w.heap.size 9 1 v' (xs ++ [x]).length ((xs ++ [x]).map Value.string)) := Lib.hid (by simpa using o1)
            have HL1 := Lib.hid (show k + (xs ++ [x]).length = n by have := HK.out; simp; omega)
            have HL2 := Lib.hid (show ((xs ++ [x]).length : Int) = (xs.length : Int) + 1 by simp)
            clear o1 g1 b1 SRC
            go_wp2
            go_roundw
            case rel => exact ⟨k, b', xs ++ [x], HL1.out, HBD'.out, rfl, by rw [HL2.out], KK.out, O1.out, HRR.out⟩
            case measure => simp only [intOf]; have := HK.out; omega
        · obtain ⟨y, hg⟩ := stepT_err hxs he
          rw [hg] at P
          obtain ⟨er, hee⟩ : ∃ er, s'.err = er := ⟨_, rfl⟩
          have hres : decE (listC (textC (bnd t)) (bnd m)) d = er := by
            have e1 : ((listC (textC (bnd t)) (bnd m)).get ⟨d.data.toList, 0⟩).2 = s' := by
              rw [HRES.out, HR.out]
              simp only [getL]
              rw [if_neg (by simp), hxs, getL_err he]
            rw [decE_fail (by rw [e1]; exact he), e1, hee]
          rw [hee] at P he
          have PP := Lib.hid P
          have HE := Lib.hid hres
          have HNE := Lib.hid he
          have q2 : (er == 0) = false := by simpa using he
          have q3 : decide (er = 0) = false := by simpa using he
          clear hres hg hxs he P hee hbm hx
          go_wp2_with (go_at_call 31; refine PP.out.mono ?_; rintro e w1 ⟨rfl, hw⟩; have HW := Lib.hid hw; clear hw)
          go_ret2
          rename_i w1
          have e1 := HW.out
          rw [e1]
          exact listRes_err HKP.out HE.out HNE.out
  · have hg := refGet_err hn0 he
    rw [hg] at G
    obtain ⟨er, hee⟩ : ∃ er, s.err = er := ⟨_, rfl⟩
    have er' : decE (listC (textC (bnd t)) (bnd m)) d = er := by
      have e1 : ((listC (textC (bnd t)) (bnd m)).get ⟨d.data.toList, 0⟩).2 = s := by
        rw [hL]
        have : (if (bnd m : Int) < (n : Int) then s.fail 22 else s) = s := by split; exact rfail_err he _; rfl
        rw [this, if_pos he]
        rfl
      rw [decE_fail (by rw [e1]; exact he), e1, hee]
    rw [hee] at G he
    have GG := Lib.hid G
    have HE := Lib.hid er'
    have HNE := Lib.hid he
    have q2 : (er == 0) = false := by simpa using he
    have q3 : decide (er = 0) = false := by simpa using he
    clear er' hee G hg hn hn0 hL he
    go_enter Try.func34, Try.ntmps34
    go_wp2_with (first | (go_at_call 27; refine GG.out.mono ?_; rintro e w' ⟨rfl, hw⟩; obtain rfl := hw.symm) | (go_at_call 14; refine (rbound_any m _).mono ?_; rintro e w' ⟨rfl, hw⟩; obtain rfl := hw.symm))
    go_ret2
    exact listRes_err (Kept.refl _ _) HE.out HNE.out

end Go.Proofs.Ytcnikobmepjgcaa.Codec
