/-
  CodecReads walked.
-/
import Derived.Test.YtcnikobmepjgcaaCodReads
namespace Go.Proofs.Ytcnikobmepjgcaa.Codec
open Go.RowKit Go.Proofs.YtcnikobmepjgcaaBase Go.Proofs.YtcnikobmepjgcaaLex2 Go.Proofs.YtcnikobmepjgcaaNum
set_option linter.unusedVariables false
set_option linter.unusedSimpArgs false

set_option maxRecDepth 100000 in
theorem reads_out (d : ByteArray) (l m : Int) (w : World) (h : 5000 < d.size) (hs : d.size ≤ 140737488351232) : Calls Try.prog 8 #[.string d, .int .i64 l, .int .i64 m] w fun e w' => e = .returned (.bool true) ∧ Below w.heap.size w w' := by
  have q1 : (5000 : Int) < d.size := by omega
  clear h
  go_enter Try.func8, Try.ntmps8
  go_wp2_with (fail)
  refine (anchor_any _).mono ?_
  rintro e w1 ⟨rfl, hk⟩
  have K1 := Lib.hid hk
  clear hk
  go_wp2
  go_ret
  exact ⟨rfl, K1.out.nil_below⟩

set_option maxHeartbeats 6400000 in
set_option maxRecDepth 100000 in
theorem reads_err (d : ByteArray) (l m : Int) (w : World) (h : d.size ≤ 5000) (m0 b0 : Nat) (f0 : Int) (vf : Bool) (hg : refGet d 0 = (m0, b0, f0)) (hvn : (if decE numC d = 0 then (numC.get ⟨d.data.toList, 0⟩).1 else 0) = 0) (hen : decE numC d = f0) (hvf : (if decE flagC d = 0 then (flagC.get ⟨d.data.toList, 0⟩).1 else false) = false) (hef : decE flagC d = f0) (hm0 : m0 = 0) (hb0 : b0 = 0) (hne : f0 ≠ 0) :
    Calls Try.prog 8 #[.string d, .int .i64 l, .int .i64 m] w fun e w' => e = .returned (.bool true) ∧ Below w.heap.size w w' := by
  have q1 : ¬ (5000 : Int) < d.size := by omega
  have hd : DSize d := by unfold DSize; omega
  have HD := Lib.hid hd
  obtain ⟨t0, c0, k0, hgT, hT⟩ := text_says m d
  have G : Hid (∀ w, Calls Try.prog 27 #[.string d, .int .i64 0] w fun e w' => e = .returned (.tuple #[.int .i64 m0, .int .i64 b0, .int .i64 (f0)]) ∧ w' = w) := Lib.hid fun w => by
    have := rget_any d 0 w hd (Nat.zero_le _)
    unfold GetRes at this
    rw [hg] at this
    exact this
  have GT : Hid (∀ w, Calls Try.prog 31 #[.string d, .int .i64 0, .int .i64 m] w fun e w' => e = .returned (.tuple #[.string t0, .int .i64 c0, .int .i64 k0]) ∧ w' = w) := Lib.hid fun w => by
    have := rtext_any d 0 m w hd (Nat.zero_le _)
    unfold TextRes at this
    rw [hgT] at this
    exact this
  obtain ⟨vt, hvt⟩ : ∃ v, (if decE (textC (bnd m)) d = 0 then ((textC (bnd m)).get ⟨d.data.toList, 0⟩).1 else ⟨#[]⟩) = v := ⟨_, rfl⟩
  obtain ⟨et, het⟩ : ∃ v, decE (textC (bnd m)) d = v := ⟨_, rfl⟩
  rw [hvt, het] at hT
  have HT := Lib.hid hT
  have HVN := Lib.hid hvn
  have HVF := Lib.hid hvf
  have HVT := Lib.hid hvt
  have HEN := Lib.hid hen
  have HEF := Lib.hid hef
  have HET := Lib.hid het
  obtain ⟨L4, E4, hD4, hR4⟩ : ∃ (L : List Int) (E : Int), (∀ (W w : World) (cv : Value), IsCodec W cv (listC numC (bnd l)) → Same W w → Calls Try.prog 20 #[cv, .string d] w fun r w' => Kept w w' (fun _ => False) ∧ ∃ A k, r = .returned (.tuple #[.slice A L.length k, .int .i64 E]) ∧ RowIn w' A L.length (L.map (Value.int .i64))) ∧
      ∀ w : World, Calls Try.prog 32 #[.string d, .int .i64 l] w fun r w' => Kept w w' (fun _ => False) ∧ ∃ A k, r = .returned (.tuple #[.slice A L.length k, .int .i64 E]) ∧ RowIn w' A L.length (L.map (Value.int .i64)) :=
    ⟨_, _, fun W w cv hc hs => (decode_ints W cv _ d w hc (listC_fair numC_fair _) hs hd).mono fun r w' ⟨hk, h⟩ => ⟨hk, dec_oneL (f := Value.int .i64) (fun G w x u h => h) h⟩, fun w => (rNumbers_any d l 0 w hd).mono fun r w' h => ref_oneL h⟩
  obtain ⟨L5, E5, hD5, hR5⟩ : ∃ (L : List ByteArray) (E : Int), (∀ (W w : World) (cv : Value), IsCodec W cv (listC (textC (bnd m)) (bnd l)) → Same W w → Calls Try.prog 33 #[cv, .string d] w fun r w' => Kept w w' (fun _ => False) ∧ ∃ A k, r = .returned (.tuple #[.slice A L.length k, .int .i64 E]) ∧ RowIn w' A L.length (L.map Value.string)) ∧
      ∀ w : World, Calls Try.prog 34 #[.string d, .int .i64 l, .int .i64 m] w fun r w' => Kept w w' (fun _ => False) ∧ ∃ A k, r = .returned (.tuple #[.slice A L.length k, .int .i64 E]) ∧ RowIn w' A L.length (L.map Value.string) :=
    ⟨_, _, fun W w cv hc hs => (decode_strs W cv _ d w hc (listC_fair (textC_fair _) _) hs hd).mono fun r w' ⟨hk, h⟩ => ⟨hk, dec_oneL (f := Value.string) (fun G w x u h => h) h⟩, fun w => (rTexts_any d l m w hd).mono fun r w' h => ref_oneL h⟩
  have D4 := Lib.hid hD4
  have R4 := Lib.hid hR4
  have D5 := Lib.hid hD5
  have R5 := Lib.hid hR5
  have q2 : (f0 == 0) = false := by simpa using hne
  have q3 : decide (f0 = 0) = false := by simpa using hne
  subst hm0 hb0
  clear hne
  clear h hd hg hgT hT hvn hvf hvt hen hef het hD4 hR4 hD5 hR5
  go_enter Try.func8, Try.ntmps8
  go_wp2_with (fail)
  refine (anchor_any _).mono ?_
  rintro e w1 ⟨rfl, hk⟩
  have K1 := Lib.hid hk
  clear hk
  go_wp2_with (fail)
  refine (number_any _).mono ?_
  rintro e w2 ⟨cv2, rfl, hc, hk⟩
  have HC := Lib.hid hc
  have K2 := Lib.hid (K1.out.nil_trans hk)
  clear hc hk
  go_wp2_with (fail)
  refine (decode_int w2 cv2 numC d w2 HC.out numC_fair (Same.refl _) HD.out).mono ?_
  rintro e w3 ⟨hk, h⟩
  have K3 := Lib.hid (K2.out.nil_trans hk)
  have h := dec_one h
  rw [HEN.out] at h
  have hv := HVN.out
  rw [HEN.out] at hv
  rw [hv] at h
  subst h
  clear hk hv HC
  go_wp2_with (fail)
  refine (G.out _).mono ?_
  rintro e w' ⟨rfl, hw⟩
  obtain rfl := hw.symm
  go_wp2_with (fail)
  refine (flag_any _).mono ?_
  rintro e w4 ⟨cv4, rfl, hc, hk⟩
  have HC := Lib.hid hc
  have K4 := Lib.hid (K3.out.nil_trans hk)
  clear hc hk
  go_wp2_with (fail)
  refine (decode_bool w4 cv4 flagC d w4 HC.out flagC_fair (Same.refl _) HD.out).mono ?_
  rintro e w5 ⟨hk, h⟩
  have K5 := Lib.hid (K4.out.nil_trans hk)
  have h := dec_oneF h
  rw [HEF.out] at h
  have hv := HVF.out
  rw [HEF.out] at hv
  rw [hv] at h
  subst h
  clear hk hv HC
  go_wp2_with (fail)
  refine (G.out _).mono ?_
  rintro e w' ⟨rfl, hw⟩
  obtain rfl := hw.symm
  go_wp2_with (fail)
  refine (text_any m _).mono ?_
  rintro e w6 ⟨cv6, rfl, hc, hk⟩
  have HC := Lib.hid hc
  have K6 := Lib.hid (K5.out.nil_trans hk)
  clear hc hk
  go_wp2_with (fail)
  refine (decode_str w6 cv6 (textC (bnd m)) d w6 HC.out (textC_fair _) (Same.refl _) HD.out).mono ?_
  rintro e w7 ⟨hk, h⟩
  have K7 := Lib.hid (K6.out.nil_trans hk)
  have h := dec_oneT h
  rw [HET.out] at h
  have hv := HVT.out
  rw [HET.out] at hv
  rw [hv] at h
  subst h
  clear hk hv HC
  go_wp2_with (fail)
  refine (GT.out _).mono ?_
  rintro e w' ⟨rfl, hw⟩
  obtain rfl := hw.symm
  go_upto_region 21 with (fail)
  obtain ⟨p4, hp4⟩ : ∃ p : Bool, p = (k0 == 0 && decide (c0 < d.size)) := ⟨_, rfl⟩
  go_cut [123] (fun s wx => s = .bool p4 ∧ wx = w7)
  case first =>
    have hT := HT.out
    cases hT with
    | err hne =>
      have q2 : (k0 == 0) = false := by simpa using hne
      have q3 : decide (k0 = 0) = false := by simpa using hne
      have HP : Hid (p4 = false) := by rw [hp4, q2]; exact Lib.hid rfl
      clear hp4
      go_wp2_with (fail)
      go_meet
      exact ⟨by rw [HP.out], rfl⟩
    | more hb =>
      have q2 : (c0 : Int) < d.size := by omega
      have HP : Hid (p4 = true) := by rw [hp4]; exact Lib.hid (by simpa using hb)
      clear hp4
      go_wp2_with (fail)
      go_meet
      exact ⟨by rw [HP.out], rfl⟩
    | all =>
      have HP : Hid (p4 = false) := by rw [hp4]; exact Lib.hid (by simp)
      clear hp4
      go_wp2_with (fail)
      go_meet
      exact ⟨by rw [HP.out], rfl⟩
  case rest =>
    obtain ⟨rfl, hw⟩ := hcut
    obtain rfl := hw.symm
    go_upto_if 123 with (fail)
    go_cut [19, 21] (fun a b wx => a = .string vt ∧ b = .int .i64 et ∧ wx = w7)
    case first =>
      have hT := HT.out
      cases hT with
      | err hne =>
        have HP : Hid (p4 = false) := by rw [hp4]; exact Lib.hid (by simp [hne])
        rw [HP.out]
        clear hp4
        go_wp2_with (fail)
        go_meet
        exact ⟨rfl, rfl, rfl⟩
      | more hb =>
        have HP : Hid (p4 = true) := by rw [hp4]; exact Lib.hid (by simpa using hb)
        rw [HP.out]
        clear hp4
        go_wp2_with (fail)
        go_meet
        exact ⟨rfl, rfl, rfl⟩
      | all =>
        have HP : Hid (p4 = false) := by rw [hp4]; exact Lib.hid (by simp)
        rw [HP.out]
        clear hp4
        go_wp2_with (fail)
        go_meet
        exact ⟨rfl, rfl, rfl⟩
    case rest =>
      obtain ⟨rfl, rfl, hw⟩ := hcut
      obtain rfl := hw.symm
      clear hp4
      go_wp2_with (fail)
      refine (number_any _).mono ?_
      rintro e w8 ⟨cv8, rfl, hc, hk⟩
      have HC := Lib.hid hc
      have K8 := Lib.hid (K7.out.nil_trans hk)
      clear hc hk
      go_wp2_with (fail)
      refine (listof_int numC numC_fair numC_one cv8 l w8 HC.out).mono ?_
      rintro e w9 ⟨cv9, rfl, hc, hk⟩
      clear HC
      have HC := Lib.hid hc
      have K9 := Lib.hid (K8.out.nil_trans hk)
      clear hc hk
      go_wp2_with (fail)
      refine (D4.out w9 w9 _ HC.out (Same.refl _)).mono ?_
      rintro e w10 ⟨hk, A1, k1, rfl, hr⟩
      have K10 := Lib.hid (K9.out.nil_trans hk)
      have Q1 := Lib.hid hr
      clear hk hr HC
      go_wp2_with (fail)
      refine (R4.out w10).mono ?_
      rintro e w11 ⟨hk, A2, k2, rfl, hr⟩
      have K11 := Lib.hid (K10.out.nil_trans hk)
      have Q2 := Lib.hid hr
      have Q1' := Lib.hid (Q1.out.kept hk)
      clear hk hr
      go_wp2_with (fail)
      refine (ints_eq L4 A1 A2 k1 k2 _ Q1'.out Q2.out).mono ?_
      rintro e w12 ⟨rfl, hk⟩
      have K12 := Lib.hid (K11.out.nil_trans hk)
      clear hk Q1 Q1' Q2
      go_wp2_with (fail)
      refine (text_any m _).mono ?_
      rintro e w13 ⟨cv13, rfl, hc, hk⟩
      have HC := Lib.hid hc
      have K13 := Lib.hid (K12.out.nil_trans hk)
      clear hc hk
      go_wp2_with (fail)
      refine (listof_str (textC (bnd m)) (textC_fair _) (textC_one _) cv13 l w13 HC.out).mono ?_
      rintro e w14 ⟨cv14, rfl, hc, hk⟩
      clear HC
      have HC := Lib.hid hc
      have K14 := Lib.hid (K13.out.nil_trans hk)
      clear hc hk
      go_wp2_with (fail)
      refine (D5.out w14 w14 _ HC.out (Same.refl _)).mono ?_
      rintro e w15 ⟨hk, A3, k3, rfl, hr⟩
      have K15 := Lib.hid (K14.out.nil_trans hk)
      have Q3 := Lib.hid hr
      clear hk hr HC
      go_wp2_with (fail)
      refine (R5.out w15).mono ?_
      rintro e w16 ⟨hk, A4, k4, rfl, hr⟩
      have K16 := Lib.hid (K15.out.nil_trans hk)
      have Q4 := Lib.hid hr
      have Q3' := Lib.hid (Q3.out.kept hk)
      clear hk hr
      go_wp2_with (fail)
      refine (texts_eq L5 A3 A4 k3 k4 _ Q3'.out Q4.out).mono ?_
      rintro e w' ⟨rfl, hw⟩
      obtain rfl := hw.symm
      clear hw
      go_wp2
      go_ret
      exact ⟨rfl, K16.out.nil_below⟩

set_option maxHeartbeats 6400000 in
set_option maxRecDepth 100000 in
theorem reads_morebig (d : ByteArray) (l m : Int) (w : World) (h : d.size ≤ 5000) (m0 b0 : Nat) (f0 : Int) (vf : Bool) (hg : refGet d 0 = (m0, b0, 0)) (hvn : (if decE numC d = 0 then (numC.get ⟨d.data.toList, 0⟩).1 else 0) = 0) (hen : decE numC d = 21) (hvf : (if decE flagC d = 0 then (flagC.get ⟨d.data.toList, 0⟩).1 else false) = false) (hef : decE flagC d = 21) (hb : b0 < d.size) (h1 : 1 < m0) :
    Calls Try.prog 8 #[.string d, .int .i64 l, .int .i64 m] w fun e w' => e = .returned (.bool true) ∧ Below w.heap.size w w' := by
  have q1 : ¬ (5000 : Int) < d.size := by omega
  have hd : DSize d := by unfold DSize; omega
  have HD := Lib.hid hd
  obtain ⟨t0, c0, k0, hgT, hT⟩ := text_says m d
  have G : Hid (∀ w, Calls Try.prog 27 #[.string d, .int .i64 0] w fun e w' => e = .returned (.tuple #[.int .i64 m0, .int .i64 b0, .int .i64 (0)]) ∧ w' = w) := Lib.hid fun w => by
    have := rget_any d 0 w hd (Nat.zero_le _)
    unfold GetRes at this
    rw [hg] at this
    exact this
  have GT : Hid (∀ w, Calls Try.prog 31 #[.string d, .int .i64 0, .int .i64 m] w fun e w' => e = .returned (.tuple #[.string t0, .int .i64 c0, .int .i64 k0]) ∧ w' = w) := Lib.hid fun w => by
    have := rtext_any d 0 m w hd (Nat.zero_le _)
    unfold TextRes at this
    rw [hgT] at this
    exact this
  obtain ⟨vt, hvt⟩ : ∃ v, (if decE (textC (bnd m)) d = 0 then ((textC (bnd m)).get ⟨d.data.toList, 0⟩).1 else ⟨#[]⟩) = v := ⟨_, rfl⟩
  obtain ⟨et, het⟩ : ∃ v, decE (textC (bnd m)) d = v := ⟨_, rfl⟩
  rw [hvt, het] at hT
  have HT := Lib.hid hT
  have HVN := Lib.hid hvn
  have HVF := Lib.hid hvf
  have HVT := Lib.hid hvt
  have HEN := Lib.hid hen
  have HEF := Lib.hid hef
  have HET := Lib.hid het
  obtain ⟨L4, E4, hD4, hR4⟩ : ∃ (L : List Int) (E : Int), (∀ (W w : World) (cv : Value), IsCodec W cv (listC numC (bnd l)) → Same W w → Calls Try.prog 20 #[cv, .string d] w fun r w' => Kept w w' (fun _ => False) ∧ ∃ A k, r = .returned (.tuple #[.slice A L.length k, .int .i64 E]) ∧ RowIn w' A L.length (L.map (Value.int .i64))) ∧
      ∀ w : World, Calls Try.prog 32 #[.string d, .int .i64 l] w fun r w' => Kept w w' (fun _ => False) ∧ ∃ A k, r = .returned (.tuple #[.slice A L.length k, .int .i64 E]) ∧ RowIn w' A L.length (L.map (Value.int .i64)) :=
    ⟨_, _, fun W w cv hc hs => (decode_ints W cv _ d w hc (listC_fair numC_fair _) hs hd).mono fun r w' ⟨hk, h⟩ => ⟨hk, dec_oneL (f := Value.int .i64) (fun G w x u h => h) h⟩, fun w => (rNumbers_any d l 0 w hd).mono fun r w' h => ref_oneL h⟩
  obtain ⟨L5, E5, hD5, hR5⟩ : ∃ (L : List ByteArray) (E : Int), (∀ (W w : World) (cv : Value), IsCodec W cv (listC (textC (bnd m)) (bnd l)) → Same W w → Calls Try.prog 33 #[cv, .string d] w fun r w' => Kept w w' (fun _ => False) ∧ ∃ A k, r = .returned (.tuple #[.slice A L.length k, .int .i64 E]) ∧ RowIn w' A L.length (L.map Value.string)) ∧
      ∀ w : World, Calls Try.prog 34 #[.string d, .int .i64 l, .int .i64 m] w fun r w' => Kept w w' (fun _ => False) ∧ ∃ A k, r = .returned (.tuple #[.slice A L.length k, .int .i64 E]) ∧ RowIn w' A L.length (L.map Value.string) :=
    ⟨_, _, fun W w cv hc hs => (decode_strs W cv _ d w hc (listC_fair (textC_fair _) _) hs hd).mono fun r w' ⟨hk, h⟩ => ⟨hk, dec_oneL (f := Value.string) (fun G w x u h => h) h⟩, fun w => (rTexts_any d l m w hd).mono fun r w' h => ref_oneL h⟩
  have D4 := Lib.hid hD4
  have R4 := Lib.hid hR4
  have D5 := Lib.hid hD5
  have R5 := Lib.hid hR5
  have q2 : (b0 : Int) < d.size := by omega
  have q3 : (1 : Int) < m0 := by omega
  clear hb h1
  clear h hd hg hgT hT hvn hvf hvt hen hef het hD4 hR4 hD5 hR5
  go_enter Try.func8, Try.ntmps8
  go_wp2_with (fail)
  refine (anchor_any _).mono ?_
  rintro e w1 ⟨rfl, hk⟩
  have K1 := Lib.hid hk
  clear hk
  go_wp2_with (fail)
  refine (number_any _).mono ?_
  rintro e w2 ⟨cv2, rfl, hc, hk⟩
  have HC := Lib.hid hc
  have K2 := Lib.hid (K1.out.nil_trans hk)
  clear hc hk
  go_wp2_with (fail)
  refine (decode_int w2 cv2 numC d w2 HC.out numC_fair (Same.refl _) HD.out).mono ?_
  rintro e w3 ⟨hk, h⟩
  have K3 := Lib.hid (K2.out.nil_trans hk)
  have h := dec_one h
  rw [HEN.out] at h
  have hv := HVN.out
  rw [HEN.out] at hv
  rw [hv] at h
  subst h
  clear hk hv HC
  go_wp2_with (fail)
  refine (G.out _).mono ?_
  rintro e w' ⟨rfl, hw⟩
  obtain rfl := hw.symm
  go_wp2_with (fail)
  refine (flag_any _).mono ?_
  rintro e w4 ⟨cv4, rfl, hc, hk⟩
  have HC := Lib.hid hc
  have K4 := Lib.hid (K3.out.nil_trans hk)
  clear hc hk
  go_wp2_with (fail)
  refine (decode_bool w4 cv4 flagC d w4 HC.out flagC_fair (Same.refl _) HD.out).mono ?_
  rintro e w5 ⟨hk, h⟩
  have K5 := Lib.hid (K4.out.nil_trans hk)
  have h := dec_oneF h
  rw [HEF.out] at h
  have hv := HVF.out
  rw [HEF.out] at hv
  rw [hv] at h
  subst h
  clear hk hv HC
  go_wp2_with (fail)
  refine (G.out _).mono ?_
  rintro e w' ⟨rfl, hw⟩
  obtain rfl := hw.symm
  go_wp2_with (fail)
  refine (text_any m _).mono ?_
  rintro e w6 ⟨cv6, rfl, hc, hk⟩
  have HC := Lib.hid hc
  have K6 := Lib.hid (K5.out.nil_trans hk)
  clear hc hk
  go_wp2_with (fail)
  refine (decode_str w6 cv6 (textC (bnd m)) d w6 HC.out (textC_fair _) (Same.refl _) HD.out).mono ?_
  rintro e w7 ⟨hk, h⟩
  have K7 := Lib.hid (K6.out.nil_trans hk)
  have h := dec_oneT h
  rw [HET.out] at h
  have hv := HVT.out
  rw [HET.out] at hv
  rw [hv] at h
  subst h
  clear hk hv HC
  go_wp2_with (fail)
  refine (GT.out _).mono ?_
  rintro e w' ⟨rfl, hw⟩
  obtain rfl := hw.symm
  go_upto_region 21 with (fail)
  obtain ⟨p4, hp4⟩ : ∃ p : Bool, p = (k0 == 0 && decide (c0 < d.size)) := ⟨_, rfl⟩
  go_cut [123] (fun s wx => s = .bool p4 ∧ wx = w7)
  case first =>
    have hT := HT.out
    cases hT with
    | err hne =>
      have q2 : (k0 == 0) = false := by simpa using hne
      have q3 : decide (k0 = 0) = false := by simpa using hne
      have HP : Hid (p4 = false) := by rw [hp4, q2]; exact Lib.hid rfl
      clear hp4
      go_wp2_with (fail)
      go_meet
      exact ⟨by rw [HP.out], rfl⟩
    | more hb =>
      have q2 : (c0 : Int) < d.size := by omega
      have HP : Hid (p4 = true) := by rw [hp4]; exact Lib.hid (by simpa using hb)
      clear hp4
      go_wp2_with (fail)
      go_meet
      exact ⟨by rw [HP.out], rfl⟩
    | all =>
      have HP : Hid (p4 = false) := by rw [hp4]; exact Lib.hid (by simp)
      clear hp4
      go_wp2_with (fail)
      go_meet
      exact ⟨by rw [HP.out], rfl⟩
  case rest =>
    obtain ⟨rfl, hw⟩ := hcut
    obtain rfl := hw.symm
    go_upto_if 123 with (fail)
    go_cut [19, 21] (fun a b wx => a = .string vt ∧ b = .int .i64 et ∧ wx = w7)
    case first =>
      have hT := HT.out
      cases hT with
      | err hne =>
        have HP : Hid (p4 = false) := by rw [hp4]; exact Lib.hid (by simp [hne])
        rw [HP.out]
        clear hp4
        go_wp2_with (fail)
        go_meet
        exact ⟨rfl, rfl, rfl⟩
      | more hb =>
        have HP : Hid (p4 = true) := by rw [hp4]; exact Lib.hid (by simpa using hb)
        rw [HP.out]
        clear hp4
        go_wp2_with (fail)
        go_meet
        exact ⟨rfl, rfl, rfl⟩
      | all =>
        have HP : Hid (p4 = false) := by rw [hp4]; exact Lib.hid (by simp)
        rw [HP.out]
        clear hp4
        go_wp2_with (fail)
        go_meet
        exact ⟨rfl, rfl, rfl⟩
    case rest =>
      obtain ⟨rfl, rfl, hw⟩ := hcut
      obtain rfl := hw.symm
      clear hp4
      go_wp2_with (fail)
      refine (number_any _).mono ?_
      rintro e w8 ⟨cv8, rfl, hc, hk⟩
      have HC := Lib.hid hc
      have K8 := Lib.hid (K7.out.nil_trans hk)
      clear hc hk
      go_wp2_with (fail)
      refine (listof_int numC numC_fair numC_one cv8 l w8 HC.out).mono ?_
      rintro e w9 ⟨cv9, rfl, hc, hk⟩
      clear HC
      have HC := Lib.hid hc
      have K9 := Lib.hid (K8.out.nil_trans hk)
      clear hc hk
      go_wp2_with (fail)
      refine (D4.out w9 w9 _ HC.out (Same.refl _)).mono ?_
      rintro e w10 ⟨hk, A1, k1, rfl, hr⟩
      have K10 := Lib.hid (K9.out.nil_trans hk)
      have Q1 := Lib.hid hr
      clear hk hr HC
      go_wp2_with (fail)
      refine (R4.out w10).mono ?_
      rintro e w11 ⟨hk, A2, k2, rfl, hr⟩
      have K11 := Lib.hid (K10.out.nil_trans hk)
      have Q2 := Lib.hid hr
      have Q1' := Lib.hid (Q1.out.kept hk)
      clear hk hr
      go_wp2_with (fail)
      refine (ints_eq L4 A1 A2 k1 k2 _ Q1'.out Q2.out).mono ?_
      rintro e w12 ⟨rfl, hk⟩
      have K12 := Lib.hid (K11.out.nil_trans hk)
      clear hk Q1 Q1' Q2
      go_wp2_with (fail)
      refine (text_any m _).mono ?_
      rintro e w13 ⟨cv13, rfl, hc, hk⟩
      have HC := Lib.hid hc
      have K13 := Lib.hid (K12.out.nil_trans hk)
      clear hc hk
      go_wp2_with (fail)
      refine (listof_str (textC (bnd m)) (textC_fair _) (textC_one _) cv13 l w13 HC.out).mono ?_
      rintro e w14 ⟨cv14, rfl, hc, hk⟩
      clear HC
      have HC := Lib.hid hc
      have K14 := Lib.hid (K13.out.nil_trans hk)
      clear hc hk
      go_wp2_with (fail)
      refine (D5.out w14 w14 _ HC.out (Same.refl _)).mono ?_
      rintro e w15 ⟨hk, A3, k3, rfl, hr⟩
      have K15 := Lib.hid (K14.out.nil_trans hk)
      have Q3 := Lib.hid hr
      clear hk hr HC
      go_wp2_with (fail)
      refine (R5.out w15).mono ?_
      rintro e w16 ⟨hk, A4, k4, rfl, hr⟩
      have K16 := Lib.hid (K15.out.nil_trans hk)
      have Q4 := Lib.hid hr
      have Q3' := Lib.hid (Q3.out.kept hk)
      clear hk hr
      go_wp2_with (fail)
      refine (texts_eq L5 A3 A4 k3 k4 _ Q3'.out Q4.out).mono ?_
      rintro e w' ⟨rfl, hw⟩
      obtain rfl := hw.symm
      clear hw
      go_wp2
      go_ret
      exact ⟨rfl, K16.out.nil_below⟩

set_option maxHeartbeats 6400000 in
set_option maxRecDepth 100000 in
theorem reads_moremore (d : ByteArray) (l m : Int) (w : World) (h : d.size ≤ 5000) (m0 b0 : Nat) (f0 : Int) (vf : Bool) (hg : refGet d 0 = (m0, b0, 0)) (hvn : (if decE numC d = 0 then (numC.get ⟨d.data.toList, 0⟩).1 else 0) = 0) (hen : decE numC d = 21) (hvf : (if decE flagC d = 0 then (flagC.get ⟨d.data.toList, 0⟩).1 else false) = false) (hef : decE flagC d = 21) (hb : b0 < d.size) (h1 : ¬ 1 < m0) :
    Calls Try.prog 8 #[.string d, .int .i64 l, .int .i64 m] w fun e w' => e = .returned (.bool true) ∧ Below w.heap.size w w' := by
  have q1 : ¬ (5000 : Int) < d.size := by omega
  have hd : DSize d := by unfold DSize; omega
  have HD := Lib.hid hd
  obtain ⟨t0, c0, k0, hgT, hT⟩ := text_says m d
  have G : Hid (∀ w, Calls Try.prog 27 #[.string d, .int .i64 0] w fun e w' => e = .returned (.tuple #[.int .i64 m0, .int .i64 b0, .int .i64 (0)]) ∧ w' = w) := Lib.hid fun w => by
    have := rget_any d 0 w hd (Nat.zero_le _)
    unfold GetRes at this
    rw [hg] at this
    exact this
  have GT : Hid (∀ w, Calls Try.prog 31 #[.string d, .int .i64 0, .int .i64 m] w fun e w' => e = .returned (.tuple #[.string t0, .int .i64 c0, .int .i64 k0]) ∧ w' = w) := Lib.hid fun w => by
    have := rtext_any d 0 m w hd (Nat.zero_le _)
    unfold TextRes at this
    rw [hgT] at this
    exact this
  obtain ⟨vt, hvt⟩ : ∃ v, (if decE (textC (bnd m)) d = 0 then ((textC (bnd m)).get ⟨d.data.toList, 0⟩).1 else ⟨#[]⟩) = v := ⟨_, rfl⟩
  obtain ⟨et, het⟩ : ∃ v, decE (textC (bnd m)) d = v := ⟨_, rfl⟩
  rw [hvt, het] at hT
  have HT := Lib.hid hT
  have HVN := Lib.hid hvn
  have HVF := Lib.hid hvf
  have HVT := Lib.hid hvt
  have HEN := Lib.hid hen
  have HEF := Lib.hid hef
  have HET := Lib.hid het
  obtain ⟨L4, E4, hD4, hR4⟩ : ∃ (L : List Int) (E : Int), (∀ (W w : World) (cv : Value), IsCodec W cv (listC numC (bnd l)) → Same W w → Calls Try.prog 20 #[cv, .string d] w fun r w' => Kept w w' (fun _ => False) ∧ ∃ A k, r = .returned (.tuple #[.slice A L.length k, .int .i64 E]) ∧ RowIn w' A L.length (L.map (Value.int .i64))) ∧
      ∀ w : World, Calls Try.prog 32 #[.string d, .int .i64 l] w fun r w' => Kept w w' (fun _ => False) ∧ ∃ A k, r = .returned (.tuple #[.slice A L.length k, .int .i64 E]) ∧ RowIn w' A L.length (L.map (Value.int .i64)) :=
    ⟨_, _, fun W w cv hc hs => (decode_ints W cv _ d w hc (listC_fair numC_fair _) hs hd).mono fun r w' ⟨hk, h⟩ => ⟨hk, dec_oneL (f := Value.int .i64) (fun G w x u h => h) h⟩, fun w => (rNumbers_any d l 0 w hd).mono fun r w' h => ref_oneL h⟩
  obtain ⟨L5, E5, hD5, hR5⟩ : ∃ (L : List ByteArray) (E : Int), (∀ (W w : World) (cv : Value), IsCodec W cv (listC (textC (bnd m)) (bnd l)) → Same W w → Calls Try.prog 33 #[cv, .string d] w fun r w' => Kept w w' (fun _ => False) ∧ ∃ A k, r = .returned (.tuple #[.slice A L.length k, .int .i64 E]) ∧ RowIn w' A L.length (L.map Value.string)) ∧
      ∀ w : World, Calls Try.prog 34 #[.string d, .int .i64 l, .int .i64 m] w fun r w' => Kept w w' (fun _ => False) ∧ ∃ A k, r = .returned (.tuple #[.slice A L.length k, .int .i64 E]) ∧ RowIn w' A L.length (L.map Value.string) :=
    ⟨_, _, fun W w cv hc hs => (decode_strs W cv _ d w hc (listC_fair (textC_fair _) _) hs hd).mono fun r w' ⟨hk, h⟩ => ⟨hk, dec_oneL (f := Value.string) (fun G w x u h => h) h⟩, fun w => (rTexts_any d l m w hd).mono fun r w' h => ref_oneL h⟩
  have D4 := Lib.hid hD4
  have R4 := Lib.hid hR4
  have D5 := Lib.hid hD5
  have R5 := Lib.hid hR5
  have q2 : (b0 : Int) < d.size := by omega
  have q3 : ¬ (1 : Int) < m0 := by omega
  clear hb h1
  clear h hd hg hgT hT hvn hvf hvt hen hef het hD4 hR4 hD5 hR5
  go_enter Try.func8, Try.ntmps8
  go_wp2_with (fail)
  refine (anchor_any _).mono ?_
  rintro e w1 ⟨rfl, hk⟩
  have K1 := Lib.hid hk
  clear hk
  go_wp2_with (fail)
  refine (number_any _).mono ?_
  rintro e w2 ⟨cv2, rfl, hc, hk⟩
  have HC := Lib.hid hc
  have K2 := Lib.hid (K1.out.nil_trans hk)
  clear hc hk
  go_wp2_with (fail)
  refine (decode_int w2 cv2 numC d w2 HC.out numC_fair (Same.refl _) HD.out).mono ?_
  rintro e w3 ⟨hk, h⟩
  have K3 := Lib.hid (K2.out.nil_trans hk)
  have h := dec_one h
  rw [HEN.out] at h
  have hv := HVN.out
  rw [HEN.out] at hv
  rw [hv] at h
  subst h
  clear hk hv HC
  go_wp2_with (fail)
  refine (G.out _).mono ?_
  rintro e w' ⟨rfl, hw⟩
  obtain rfl := hw.symm
  go_wp2_with (fail)
  refine (flag_any _).mono ?_
  rintro e w4 ⟨cv4, rfl, hc, hk⟩
  have HC := Lib.hid hc
  have K4 := Lib.hid (K3.out.nil_trans hk)
  clear hc hk
  go_wp2_with (fail)
  refine (decode_bool w4 cv4 flagC d w4 HC.out flagC_fair (Same.refl _) HD.out).mono ?_
  rintro e w5 ⟨hk, h⟩
  have K5 := Lib.hid (K4.out.nil_trans hk)
  have h := dec_oneF h
  rw [HEF.out] at h
  have hv := HVF.out
  rw [HEF.out] at hv
  rw [hv] at h
  subst h
  clear hk hv HC
  go_wp2_with (fail)
  refine (G.out _).mono ?_
  rintro e w' ⟨rfl, hw⟩
  obtain rfl := hw.symm
  go_wp2_with (fail)
  refine (text_any m _).mono ?_
  rintro e w6 ⟨cv6, rfl, hc, hk⟩
  have HC := Lib.hid hc
  have K6 := Lib.hid (K5.out.nil_trans hk)
  clear hc hk
  go_wp2_with (fail)
  refine (decode_str w6 cv6 (textC (bnd m)) d w6 HC.out (textC_fair _) (Same.refl _) HD.out).mono ?_
  rintro e w7 ⟨hk, h⟩
  have K7 := Lib.hid (K6.out.nil_trans hk)
  have h := dec_oneT h
  rw [HET.out] at h
  have hv := HVT.out
  rw [HET.out] at hv
  rw [hv] at h
  subst h
  clear hk hv HC
  go_wp2_with (fail)
  refine (GT.out _).mono ?_
  rintro e w' ⟨rfl, hw⟩
  obtain rfl := hw.symm
  go_upto_region 21 with (fail)
  obtain ⟨p4, hp4⟩ : ∃ p : Bool, p = (k0 == 0 && decide (c0 < d.size)) := ⟨_, rfl⟩
  go_cut [123] (fun s wx => s = .bool p4 ∧ wx = w7)
  case first =>
    have hT := HT.out
    cases hT with
    | err hne =>
      have q2 : (k0 == 0) = false := by simpa using hne
      have q3 : decide (k0 = 0) = false := by simpa using hne
      have HP : Hid (p4 = false) := by rw [hp4, q2]; exact Lib.hid rfl
      clear hp4
      go_wp2_with (fail)
      go_meet
      exact ⟨by rw [HP.out], rfl⟩
    | more hb =>
      have q2 : (c0 : Int) < d.size := by omega
      have HP : Hid (p4 = true) := by rw [hp4]; exact Lib.hid (by simpa using hb)
      clear hp4
      go_wp2_with (fail)
      go_meet
      exact ⟨by rw [HP.out], rfl⟩
    | all =>
      have HP : Hid (p4 = false) := by rw [hp4]; exact Lib.hid (by simp)
      clear hp4
      go_wp2_with (fail)
      go_meet
      exact ⟨by rw [HP.out], rfl⟩
  case rest =>
    obtain ⟨rfl, hw⟩ := hcut
    obtain rfl := hw.symm
    go_upto_if 123 with (fail)
    go_cut [19, 21] (fun a b wx => a = .string vt ∧ b = .int .i64 et ∧ wx = w7)
    case first =>
      have hT := HT.out
      cases hT with
      | err hne =>
        have HP : Hid (p4 = false) := by rw [hp4]; exact Lib.hid (by simp [hne])
        rw [HP.out]
        clear hp4
        go_wp2_with (fail)
        go_meet
        exact ⟨rfl, rfl, rfl⟩
      | more hb =>
        have HP : Hid (p4 = true) := by rw [hp4]; exact Lib.hid (by simpa using hb)
        rw [HP.out]
        clear hp4
        go_wp2_with (fail)
        go_meet
        exact ⟨rfl, rfl, rfl⟩
      | all =>
        have HP : Hid (p4 = false) := by rw [hp4]; exact Lib.hid (by simp)
        rw [HP.out]
        clear hp4
        go_wp2_with (fail)
        go_meet
        exact ⟨rfl, rfl, rfl⟩
    case rest =>
      obtain ⟨rfl, rfl, hw⟩ := hcut
      obtain rfl := hw.symm
      clear hp4
      go_wp2_with (fail)
      refine (number_any _).mono ?_
      rintro e w8 ⟨cv8, rfl, hc, hk⟩
      have HC := Lib.hid hc
      have K8 := Lib.hid (K7.out.nil_trans hk)
      clear hc hk
      go_wp2_with (fail)
      refine (listof_int numC numC_fair numC_one cv8 l w8 HC.out).mono ?_
      rintro e w9 ⟨cv9, rfl, hc, hk⟩
      clear HC
      have HC := Lib.hid hc
      have K9 := Lib.hid (K8.out.nil_trans hk)
      clear hc hk
      go_wp2_with (fail)
      refine (D4.out w9 w9 _ HC.out (Same.refl _)).mono ?_
      rintro e w10 ⟨hk, A1, k1, rfl, hr⟩
      have K10 := Lib.hid (K9.out.nil_trans hk)
      have Q1 := Lib.hid hr
      clear hk hr HC
      go_wp2_with (fail)
      refine (R4.out w10).mono ?_
      rintro e w11 ⟨hk, A2, k2, rfl, hr⟩
      have K11 := Lib.hid (K10.out.nil_trans hk)
      have Q2 := Lib.hid hr
      have Q1' := Lib.hid (Q1.out.kept hk)
      clear hk hr
      go_wp2_with (fail)
      refine (ints_eq L4 A1 A2 k1 k2 _ Q1'.out Q2.out).mono ?_
      rintro e w12 ⟨rfl, hk⟩
      have K12 := Lib.hid (K11.out.nil_trans hk)
      clear hk Q1 Q1' Q2
      go_wp2_with (fail)
      refine (text_any m _).mono ?_
      rintro e w13 ⟨cv13, rfl, hc, hk⟩
      have HC := Lib.hid hc
      have K13 := Lib.hid (K12.out.nil_trans hk)
      clear hc hk
      go_wp2_with (fail)
      refine (listof_str (textC (bnd m)) (textC_fair _) (textC_one _) cv13 l w13 HC.out).mono ?_
      rintro e w14 ⟨cv14, rfl, hc, hk⟩
      clear HC
      have HC := Lib.hid hc
      have K14 := Lib.hid (K13.out.nil_trans hk)
      clear hc hk
      go_wp2_with (fail)
      refine (D5.out w14 w14 _ HC.out (Same.refl _)).mono ?_
      rintro e w15 ⟨hk, A3, k3, rfl, hr⟩
      have K15 := Lib.hid (K14.out.nil_trans hk)
      have Q3 := Lib.hid hr
      clear hk hr HC
      go_wp2_with (fail)
      refine (R5.out w15).mono ?_
      rintro e w16 ⟨hk, A4, k4, rfl, hr⟩
      have K16 := Lib.hid (K15.out.nil_trans hk)
      have Q4 := Lib.hid hr
      have Q3' := Lib.hid (Q3.out.kept hk)
      clear hk hr
      go_wp2_with (fail)
      refine (texts_eq L5 A3 A4 k3 k4 _ Q3'.out Q4.out).mono ?_
      rintro e w' ⟨rfl, hw⟩
      obtain rfl := hw.symm
      clear hw
      go_wp2
      go_ret
      exact ⟨rfl, K16.out.nil_below⟩

set_option maxHeartbeats 6400000 in
set_option maxRecDepth 100000 in
theorem reads_allbig (d : ByteArray) (l m : Int) (w : World) (h : d.size ≤ 5000) (m0 b0 : Nat) (f0 : Int) (vf : Bool) (hg : refGet d 0 = (m0, b0, 0)) (hvn : (if decE numC d = 0 then (numC.get ⟨d.data.toList, 0⟩).1 else 0) = m0) (hen : decE numC d = 0) (hvf : (if decE flagC d = 0 then (flagC.get ⟨d.data.toList, 0⟩).1 else false) = false) (hef : decE flagC d = 21) (hb : b0 = d.size) (h1 : 1 < m0) :
    Calls Try.prog 8 #[.string d, .int .i64 l, .int .i64 m] w fun e w' => e = .returned (.bool true) ∧ Below w.heap.size w w' := by
  have q1 : ¬ (5000 : Int) < d.size := by omega
  have hd : DSize d := by unfold DSize; omega
  have HD := Lib.hid hd
  obtain ⟨t0, c0, k0, hgT, hT⟩ := text_says m d
  have G : Hid (∀ w, Calls Try.prog 27 #[.string d, .int .i64 0] w fun e w' => e = .returned (.tuple #[.int .i64 m0, .int .i64 b0, .int .i64 (0)]) ∧ w' = w) := Lib.hid fun w => by
    have := rget_any d 0 w hd (Nat.zero_le _)
    unfold GetRes at this
    rw [hg] at this
    exact this
  have GT : Hid (∀ w, Calls Try.prog 31 #[.string d, .int .i64 0, .int .i64 m] w fun e w' => e = .returned (.tuple #[.string t0, .int .i64 c0, .int .i64 k0]) ∧ w' = w) := Lib.hid fun w => by
    have := rtext_any d 0 m w hd (Nat.zero_le _)
    unfold TextRes at this
    rw [hgT] at this
    exact this
  obtain ⟨vt, hvt⟩ : ∃ v, (if decE (textC (bnd m)) d = 0 then ((textC (bnd m)).get ⟨d.data.toList, 0⟩).1 else ⟨#[]⟩) = v := ⟨_, rfl⟩
  obtain ⟨et, het⟩ : ∃ v, decE (textC (bnd m)) d = v := ⟨_, rfl⟩
  rw [hvt, het] at hT
  have HT := Lib.hid hT
  have HVN := Lib.hid hvn
  have HVF := Lib.hid hvf
  have HVT := Lib.hid hvt
  have HEN := Lib.hid hen
  have HEF := Lib.hid hef
  have HET := Lib.hid het
  obtain ⟨L4, E4, hD4, hR4⟩ : ∃ (L : List Int) (E : Int), (∀ (W w : World) (cv : Value), IsCodec W cv (listC numC (bnd l)) → Same W w → Calls Try.prog 20 #[cv, .string d] w fun r w' => Kept w w' (fun _ => False) ∧ ∃ A k, r = .returned (.tuple #[.slice A L.length k, .int .i64 E]) ∧ RowIn w' A L.length (L.map (Value.int .i64))) ∧
      ∀ w : World, Calls Try.prog 32 #[.string d, .int .i64 l] w fun r w' => Kept w w' (fun _ => False) ∧ ∃ A k, r = .returned (.tuple #[.slice A L.length k, .int .i64 E]) ∧ RowIn w' A L.length (L.map (Value.int .i64)) :=
    ⟨_, _, fun W w cv hc hs => (decode_ints W cv _ d w hc (listC_fair numC_fair _) hs hd).mono fun r w' ⟨hk, h⟩ => ⟨hk, dec_oneL (f := Value.int .i64) (fun G w x u h => h) h⟩, fun w => (rNumbers_any d l 0 w hd).mono fun r w' h => ref_oneL h⟩
  obtain ⟨L5, E5, hD5, hR5⟩ : ∃ (L : List ByteArray) (E : Int), (∀ (W w : World) (cv : Value), IsCodec W cv (listC (textC (bnd m)) (bnd l)) → Same W w → Calls Try.prog 33 #[cv, .string d] w fun r w' => Kept w w' (fun _ => False) ∧ ∃ A k, r = .returned (.tuple #[.slice A L.length k, .int .i64 E]) ∧ RowIn w' A L.length (L.map Value.string)) ∧
      ∀ w : World, Calls Try.prog 34 #[.string d, .int .i64 l, .int .i64 m] w fun r w' => Kept w w' (fun _ => False) ∧ ∃ A k, r = .returned (.tuple #[.slice A L.length k, .int .i64 E]) ∧ RowIn w' A L.length (L.map Value.string) :=
    ⟨_, _, fun W w cv hc hs => (decode_strs W cv _ d w hc (listC_fair (textC_fair _) _) hs hd).mono fun r w' ⟨hk, h⟩ => ⟨hk, dec_oneL (f := Value.string) (fun G w x u h => h) h⟩, fun w => (rTexts_any d l m w hd).mono fun r w' h => ref_oneL h⟩
  have D4 := Lib.hid hD4
  have R4 := Lib.hid hR4
  have D5 := Lib.hid hD5
  have R5 := Lib.hid hR5
  have q3 : (1 : Int) < m0 := by omega
  subst hb
  clear h1
  clear h hd hg hgT hT hvn hvf hvt hen hef het hD4 hR4 hD5 hR5
  go_enter Try.func8, Try.ntmps8
  go_wp2_with (fail)
  refine (anchor_any _).mono ?_
  rintro e w1 ⟨rfl, hk⟩
  have K1 := Lib.hid hk
  clear hk
  go_wp2_with (fail)
  refine (number_any _).mono ?_
  rintro e w2 ⟨cv2, rfl, hc, hk⟩
  have HC := Lib.hid hc
  have K2 := Lib.hid (K1.out.nil_trans hk)
  clear hc hk
  go_wp2_with (fail)
  refine (decode_int w2 cv2 numC d w2 HC.out numC_fair (Same.refl _) HD.out).mono ?_
  rintro e w3 ⟨hk, h⟩
  have K3 := Lib.hid (K2.out.nil_trans hk)
  have h := dec_one h
  rw [HEN.out] at h
  have hv := HVN.out
  rw [HEN.out] at hv
  rw [hv] at h
  subst h
  clear hk hv HC
  go_wp2_with (fail)
  refine (G.out _).mono ?_
  rintro e w' ⟨rfl, hw⟩
  obtain rfl := hw.symm
  go_wp2_with (fail)
  refine (flag_any _).mono ?_
  rintro e w4 ⟨cv4, rfl, hc, hk⟩
  have HC := Lib.hid hc
  have K4 := Lib.hid (K3.out.nil_trans hk)
  clear hc hk
  go_wp2_with (fail)
  refine (decode_bool w4 cv4 flagC d w4 HC.out flagC_fair (Same.refl _) HD.out).mono ?_
  rintro e w5 ⟨hk, h⟩
  have K5 := Lib.hid (K4.out.nil_trans hk)
  have h := dec_oneF h
  rw [HEF.out] at h
  have hv := HVF.out
  rw [HEF.out] at hv
  rw [hv] at h
  subst h
  clear hk hv HC
  go_wp2_with (fail)
  refine (G.out _).mono ?_
  rintro e w' ⟨rfl, hw⟩
  obtain rfl := hw.symm
  go_wp2_with (fail)
  refine (text_any m _).mono ?_
  rintro e w6 ⟨cv6, rfl, hc, hk⟩
  have HC := Lib.hid hc
  have K6 := Lib.hid (K5.out.nil_trans hk)
  clear hc hk
  go_wp2_with (fail)
  refine (decode_str w6 cv6 (textC (bnd m)) d w6 HC.out (textC_fair _) (Same.refl _) HD.out).mono ?_
  rintro e w7 ⟨hk, h⟩
  have K7 := Lib.hid (K6.out.nil_trans hk)
  have h := dec_oneT h
  rw [HET.out] at h
  have hv := HVT.out
  rw [HET.out] at hv
  rw [hv] at h
  subst h
  clear hk hv HC
  go_wp2_with (fail)
  refine (GT.out _).mono ?_
  rintro e w' ⟨rfl, hw⟩
  obtain rfl := hw.symm
  go_upto_region 21 with (fail)
  obtain ⟨p4, hp4⟩ : ∃ p : Bool, p = (k0 == 0 && decide (c0 < d.size)) := ⟨_, rfl⟩
  go_cut [123] (fun s wx => s = .bool p4 ∧ wx = w7)
  case first =>
    have hT := HT.out
    cases hT with
    | err hne =>
      have q2 : (k0 == 0) = false := by simpa using hne
      have q3 : decide (k0 = 0) = false := by simpa using hne
      have HP : Hid (p4 = false) := by rw [hp4, q2]; exact Lib.hid rfl
      clear hp4
      go_wp2_with (fail)
      go_meet
      exact ⟨by rw [HP.out], rfl⟩
    | more hb =>
      have q2 : (c0 : Int) < d.size := by omega
      have HP : Hid (p4 = true) := by rw [hp4]; exact Lib.hid (by simpa using hb)
      clear hp4
      go_wp2_with (fail)
      go_meet
      exact ⟨by rw [HP.out], rfl⟩
    | all =>
      have HP : Hid (p4 = false) := by rw [hp4]; exact Lib.hid (by simp)
      clear hp4
      go_wp2_with (fail)
      go_meet
      exact ⟨by rw [HP.out], rfl⟩
  case rest =>
    obtain ⟨rfl, hw⟩ := hcut
    obtain rfl := hw.symm
    go_upto_if 123 with (fail)
    go_cut [19, 21] (fun a b wx => a = .string vt ∧ b = .int .i64 et ∧ wx = w7)
    case first =>
      have hT := HT.out
      cases hT with
      | err hne =>
        have HP : Hid (p4 = false) := by rw [hp4]; exact Lib.hid (by simp [hne])
        rw [HP.out]
        clear hp4
        go_wp2_with (fail)
        go_meet
        exact ⟨rfl, rfl, rfl⟩
      | more hb =>
        have HP : Hid (p4 = true) := by rw [hp4]; exact Lib.hid (by simpa using hb)
        rw [HP.out]
        clear hp4
        go_wp2_with (fail)
        go_meet
        exact ⟨rfl, rfl, rfl⟩
      | all =>
        have HP : Hid (p4 = false) := by rw [hp4]; exact Lib.hid (by simp)
        rw [HP.out]
        clear hp4
        go_wp2_with (fail)
        go_meet
        exact ⟨rfl, rfl, rfl⟩
    case rest =>
      obtain ⟨rfl, rfl, hw⟩ := hcut
      obtain rfl := hw.symm
      clear hp4
      go_wp2_with (fail)
      refine (number_any _).mono ?_
      rintro e w8 ⟨cv8, rfl, hc, hk⟩
      have HC := Lib.hid hc
      have K8 := Lib.hid (K7.out.nil_trans hk)
      clear hc hk
      go_wp2_with (fail)
      refine (listof_int numC numC_fair numC_one cv8 l w8 HC.out).mono ?_
      rintro e w9 ⟨cv9, rfl, hc, hk⟩
      clear HC
      have HC := Lib.hid hc
      have K9 := Lib.hid (K8.out.nil_trans hk)
      clear hc hk
      go_wp2_with (fail)
      refine (D4.out w9 w9 _ HC.out (Same.refl _)).mono ?_
      rintro e w10 ⟨hk, A1, k1, rfl, hr⟩
      have K10 := Lib.hid (K9.out.nil_trans hk)
      have Q1 := Lib.hid hr
      clear hk hr HC
      go_wp2_with (fail)
      refine (R4.out w10).mono ?_
      rintro e w11 ⟨hk, A2, k2, rfl, hr⟩
      have K11 := Lib.hid (K10.out.nil_trans hk)
      have Q2 := Lib.hid hr
      have Q1' := Lib.hid (Q1.out.kept hk)
      clear hk hr
      go_wp2_with (fail)
      refine (ints_eq L4 A1 A2 k1 k2 _ Q1'.out Q2.out).mono ?_
      rintro e w12 ⟨rfl, hk⟩
      have K12 := Lib.hid (K11.out.nil_trans hk)
      clear hk Q1 Q1' Q2
      go_wp2_with (fail)
      refine (text_any m _).mono ?_
      rintro e w13 ⟨cv13, rfl, hc, hk⟩
      have HC := Lib.hid hc
      have K13 := Lib.hid (K12.out.nil_trans hk)
      clear hc hk
      go_wp2_with (fail)
      refine (listof_str (textC (bnd m)) (textC_fair _) (textC_one _) cv13 l w13 HC.out).mono ?_
      rintro e w14 ⟨cv14, rfl, hc, hk⟩
      clear HC
      have HC := Lib.hid hc
      have K14 := Lib.hid (K13.out.nil_trans hk)
      clear hc hk
      go_wp2_with (fail)
      refine (D5.out w14 w14 _ HC.out (Same.refl _)).mono ?_
      rintro e w15 ⟨hk, A3, k3, rfl, hr⟩
      have K15 := Lib.hid (K14.out.nil_trans hk)
      have Q3 := Lib.hid hr
      clear hk hr HC
      go_wp2_with (fail)
      refine (R5.out w15).mono ?_
      rintro e w16 ⟨hk, A4, k4, rfl, hr⟩
      have K16 := Lib.hid (K15.out.nil_trans hk)
      have Q4 := Lib.hid hr
      have Q3' := Lib.hid (Q3.out.kept hk)
      clear hk hr
      go_wp2_with (fail)
      refine (texts_eq L5 A3 A4 k3 k4 _ Q3'.out Q4.out).mono ?_
      rintro e w' ⟨rfl, hw⟩
      obtain rfl := hw.symm
      clear hw
      go_wp2
      go_ret
      exact ⟨rfl, K16.out.nil_below⟩

set_option maxHeartbeats 6400000 in
set_option maxRecDepth 100000 in
theorem reads_allz (d : ByteArray) (l m : Int) (w : World) (h : d.size ≤ 5000) (m0 b0 : Nat) (f0 : Int) (vf : Bool) (hg : refGet d 0 = (m0, b0, 0)) (hvn : (if decE numC d = 0 then (numC.get ⟨d.data.toList, 0⟩).1 else 0) = m0) (hen : decE numC d = 0) (hvf : (if decE flagC d = 0 then (flagC.get ⟨d.data.toList, 0⟩).1 else false) = false) (hef : decE flagC d = 0) (hb : b0 = d.size) (h1 : m0 = 0) :
    Calls Try.prog 8 #[.string d, .int .i64 l, .int .i64 m] w fun e w' => e = .returned (.bool true) ∧ Below w.heap.size w w' := by
  have q1 : ¬ (5000 : Int) < d.size := by omega
  have hd : DSize d := by unfold DSize; omega
  have HD := Lib.hid hd
  obtain ⟨t0, c0, k0, hgT, hT⟩ := text_says m d
  have G : Hid (∀ w, Calls Try.prog 27 #[.string d, .int .i64 0] w fun e w' => e = .returned (.tuple #[.int .i64 m0, .int .i64 b0, .int .i64 (0)]) ∧ w' = w) := Lib.hid fun w => by
    have := rget_any d 0 w hd (Nat.zero_le _)
    unfold GetRes at this
    rw [hg] at this
    exact this
  have GT : Hid (∀ w, Calls Try.prog 31 #[.string d, .int .i64 0, .int .i64 m] w fun e w' => e = .returned (.tuple #[.string t0, .int .i64 c0, .int .i64 k0]) ∧ w' = w) := Lib.hid fun w => by
    have := rtext_any d 0 m w hd (Nat.zero_le _)
    unfold TextRes at this
    rw [hgT] at this
    exact this
  obtain ⟨vt, hvt⟩ : ∃ v, (if decE (textC (bnd m)) d = 0 then ((textC (bnd m)).get ⟨d.data.toList, 0⟩).1 else ⟨#[]⟩) = v := ⟨_, rfl⟩
  obtain ⟨et, het⟩ : ∃ v, decE (textC (bnd m)) d = v := ⟨_, rfl⟩
  rw [hvt, het] at hT
  have HT := Lib.hid hT
  have HVN := Lib.hid hvn
  have HVF := Lib.hid hvf
  have HVT := Lib.hid hvt
  have HEN := Lib.hid hen
  have HEF := Lib.hid hef
  have HET := Lib.hid het
  obtain ⟨L4, E4, hD4, hR4⟩ : ∃ (L : List Int) (E : Int), (∀ (W w : World) (cv : Value), IsCodec W cv (listC numC (bnd l)) → Same W w → Calls Try.prog 20 #[cv, .string d] w fun r w' => Kept w w' (fun _ => False) ∧ ∃ A k, r = .returned (.tuple #[.slice A L.length k, .int .i64 E]) ∧ RowIn w' A L.length (L.map (Value.int .i64))) ∧
      ∀ w : World, Calls Try.prog 32 #[.string d, .int .i64 l] w fun r w' => Kept w w' (fun _ => False) ∧ ∃ A k, r = .returned (.tuple #[.slice A L.length k, .int .i64 E]) ∧ RowIn w' A L.length (L.map (Value.int .i64)) :=
    ⟨_, _, fun W w cv hc hs => (decode_ints W cv _ d w hc (listC_fair numC_fair _) hs hd).mono fun r w' ⟨hk, h⟩ => ⟨hk, dec_oneL (f := Value.int .i64) (fun G w x u h => h) h⟩, fun w => (rNumbers_any d l 0 w hd).mono fun r w' h => ref_oneL h⟩
  obtain ⟨L5, E5, hD5, hR5⟩ : ∃ (L : List ByteArray) (E : Int), (∀ (W w : World) (cv : Value), IsCodec W cv (listC (textC (bnd m)) (bnd l)) → Same W w → Calls Try.prog 33 #[cv, .string d] w fun r w' => Kept w w' (fun _ => False) ∧ ∃ A k, r = .returned (.tuple #[.slice A L.length k, .int .i64 E]) ∧ RowIn w' A L.length (L.map Value.string)) ∧
      ∀ w : World, Calls Try.prog 34 #[.string d, .int .i64 l, .int .i64 m] w fun r w' => Kept w w' (fun _ => False) ∧ ∃ A k, r = .returned (.tuple #[.slice A L.length k, .int .i64 E]) ∧ RowIn w' A L.length (L.map Value.string) :=
    ⟨_, _, fun W w cv hc hs => (decode_strs W cv _ d w hc (listC_fair (textC_fair _) _) hs hd).mono fun r w' ⟨hk, h⟩ => ⟨hk, dec_oneL (f := Value.string) (fun G w x u h => h) h⟩, fun w => (rTexts_any d l m w hd).mono fun r w' h => ref_oneL h⟩
  have D4 := Lib.hid hD4
  have R4 := Lib.hid hR4
  have D5 := Lib.hid hD5
  have R5 := Lib.hid hR5
  skip
  subst hb h1
  clear h hd hg hgT hT hvn hvf hvt hen hef het hD4 hR4 hD5 hR5
  go_enter Try.func8, Try.ntmps8
  go_wp2_with (fail)
  refine (anchor_any _).mono ?_
  rintro e w1 ⟨rfl, hk⟩
  have K1 := Lib.hid hk
  clear hk
  go_wp2_with (fail)
  refine (number_any _).mono ?_
  rintro e w2 ⟨cv2, rfl, hc, hk⟩
  have HC := Lib.hid hc
  have K2 := Lib.hid (K1.out.nil_trans hk)
  clear hc hk
  go_wp2_with (fail)
  refine (decode_int w2 cv2 numC d w2 HC.out numC_fair (Same.refl _) HD.out).mono ?_
  rintro e w3 ⟨hk, h⟩
  have K3 := Lib.hid (K2.out.nil_trans hk)
  have h := dec_one h
  rw [HEN.out] at h
  have hv := HVN.out
  rw [HEN.out] at hv
  rw [hv] at h
  subst h
  clear hk hv HC
  go_wp2_with (fail)
  refine (G.out _).mono ?_
  rintro e w' ⟨rfl, hw⟩
  obtain rfl := hw.symm
  go_wp2_with (fail)
  refine (flag_any _).mono ?_
  rintro e w4 ⟨cv4, rfl, hc, hk⟩
  have HC := Lib.hid hc
  have K4 := Lib.hid (K3.out.nil_trans hk)
  clear hc hk
  go_wp2_with (fail)
  refine (decode_bool w4 cv4 flagC d w4 HC.out flagC_fair (Same.refl _) HD.out).mono ?_
  rintro e w5 ⟨hk, h⟩
  have K5 := Lib.hid (K4.out.nil_trans hk)
  have h := dec_oneF h
  rw [HEF.out] at h
  have hv := HVF.out
  rw [HEF.out] at hv
  rw [hv] at h
  subst h
  clear hk hv HC
  go_wp2_with (fail)
  refine (G.out _).mono ?_
  rintro e w' ⟨rfl, hw⟩
  obtain rfl := hw.symm
  go_wp2_with (fail)
  refine (text_any m _).mono ?_
  rintro e w6 ⟨cv6, rfl, hc, hk⟩
  have HC := Lib.hid hc
  have K6 := Lib.hid (K5.out.nil_trans hk)
  clear hc hk
  go_wp2_with (fail)
  refine (decode_str w6 cv6 (textC (bnd m)) d w6 HC.out (textC_fair _) (Same.refl _) HD.out).mono ?_
  rintro e w7 ⟨hk, h⟩
  have K7 := Lib.hid (K6.out.nil_trans hk)
  have h := dec_oneT h
  rw [HET.out] at h
  have hv := HVT.out
  rw [HET.out] at hv
  rw [hv] at h
  subst h
  clear hk hv HC
  go_wp2_with (fail)
  refine (GT.out _).mono ?_
  rintro e w' ⟨rfl, hw⟩
  obtain rfl := hw.symm
  go_upto_region 21 with (fail)
  obtain ⟨p4, hp4⟩ : ∃ p : Bool, p = (k0 == 0 && decide (c0 < d.size)) := ⟨_, rfl⟩
  go_cut [123] (fun s wx => s = .bool p4 ∧ wx = w7)
  case first =>
    have hT := HT.out
    cases hT with
    | err hne =>
      have q2 : (k0 == 0) = false := by simpa using hne
      have q3 : decide (k0 = 0) = false := by simpa using hne
      have HP : Hid (p4 = false) := by rw [hp4, q2]; exact Lib.hid rfl
      clear hp4
      go_wp2_with (fail)
      go_meet
      exact ⟨by rw [HP.out], rfl⟩
    | more hb =>
      have q2 : (c0 : Int) < d.size := by omega
      have HP : Hid (p4 = true) := by rw [hp4]; exact Lib.hid (by simpa using hb)
      clear hp4
      go_wp2_with (fail)
      go_meet
      exact ⟨by rw [HP.out], rfl⟩
    | all =>
      have HP : Hid (p4 = false) := by rw [hp4]; exact Lib.hid (by simp)
      clear hp4
      go_wp2_with (fail)
      go_meet
      exact ⟨by rw [HP.out], rfl⟩
  case rest =>
    obtain ⟨rfl, hw⟩ := hcut
    obtain rfl := hw.symm
    go_upto_if 123 with (fail)
    go_cut [19, 21] (fun a b wx => a = .string vt ∧ b = .int .i64 et ∧ wx = w7)
    case first =>
      have hT := HT.out
      cases hT with
      | err hne =>
        have HP : Hid (p4 = false) := by rw [hp4]; exact Lib.hid (by simp [hne])
        rw [HP.out]
        clear hp4
        go_wp2_with (fail)
        go_meet
        exact ⟨rfl, rfl, rfl⟩
      | more hb =>
        have HP : Hid (p4 = true) := by rw [hp4]; exact Lib.hid (by simpa using hb)
        rw [HP.out]
        clear hp4
        go_wp2_with (fail)
        go_meet
        exact ⟨rfl, rfl, rfl⟩
      | all =>
        have HP : Hid (p4 = false) := by rw [hp4]; exact Lib.hid (by simp)
        rw [HP.out]
        clear hp4
        go_wp2_with (fail)
        go_meet
        exact ⟨rfl, rfl, rfl⟩
    case rest =>
      obtain ⟨rfl, rfl, hw⟩ := hcut
      obtain rfl := hw.symm
      clear hp4
      go_wp2_with (fail)
      refine (number_any _).mono ?_
      rintro e w8 ⟨cv8, rfl, hc, hk⟩
      have HC := Lib.hid hc
      have K8 := Lib.hid (K7.out.nil_trans hk)
      clear hc hk
      go_wp2_with (fail)
      refine (listof_int numC numC_fair numC_one cv8 l w8 HC.out).mono ?_
      rintro e w9 ⟨cv9, rfl, hc, hk⟩
      clear HC
      have HC := Lib.hid hc
      have K9 := Lib.hid (K8.out.nil_trans hk)
      clear hc hk
      go_wp2_with (fail)
      refine (D4.out w9 w9 _ HC.out (Same.refl _)).mono ?_
      rintro e w10 ⟨hk, A1, k1, rfl, hr⟩
      have K10 := Lib.hid (K9.out.nil_trans hk)
      have Q1 := Lib.hid hr
      clear hk hr HC
      go_wp2_with (fail)
      refine (R4.out w10).mono ?_
      rintro e w11 ⟨hk, A2, k2, rfl, hr⟩
      have K11 := Lib.hid (K10.out.nil_trans hk)
      have Q2 := Lib.hid hr
      have Q1' := Lib.hid (Q1.out.kept hk)
      clear hk hr
      go_wp2_with (fail)
      refine (ints_eq L4 A1 A2 k1 k2 _ Q1'.out Q2.out).mono ?_
      rintro e w12 ⟨rfl, hk⟩
      have K12 := Lib.hid (K11.out.nil_trans hk)
      clear hk Q1 Q1' Q2
      go_wp2_with (fail)
      refine (text_any m _).mono ?_
      rintro e w13 ⟨cv13, rfl, hc, hk⟩
      have HC := Lib.hid hc
      have K13 := Lib.hid (K12.out.nil_trans hk)
      clear hc hk
      go_wp2_with (fail)
      refine (listof_str (textC (bnd m)) (textC_fair _) (textC_one _) cv13 l w13 HC.out).mono ?_
      rintro e w14 ⟨cv14, rfl, hc, hk⟩
      clear HC
      have HC := Lib.hid hc
      have K14 := Lib.hid (K13.out.nil_trans hk)
      clear hc hk
      go_wp2_with (fail)
      refine (D5.out w14 w14 _ HC.out (Same.refl _)).mono ?_
      rintro e w15 ⟨hk, A3, k3, rfl, hr⟩
      have K15 := Lib.hid (K14.out.nil_trans hk)
      have Q3 := Lib.hid hr
      clear hk hr HC
      go_wp2_with (fail)
      refine (R5.out w15).mono ?_
      rintro e w16 ⟨hk, A4, k4, rfl, hr⟩
      have K16 := Lib.hid (K15.out.nil_trans hk)
      have Q4 := Lib.hid hr
      have Q3' := Lib.hid (Q3.out.kept hk)
      clear hk hr
      go_wp2_with (fail)
      refine (texts_eq L5 A3 A4 k3 k4 _ Q3'.out Q4.out).mono ?_
      rintro e w' ⟨rfl, hw⟩
      obtain rfl := hw.symm
      clear hw
      go_wp2
      go_ret
      exact ⟨rfl, K16.out.nil_below⟩

set_option maxHeartbeats 6400000 in
set_option maxRecDepth 100000 in
theorem reads_allo (d : ByteArray) (l m : Int) (w : World) (h : d.size ≤ 5000) (m0 b0 : Nat) (f0 : Int) (vf : Bool) (hg : refGet d 0 = (m0, b0, 0)) (hvn : (if decE numC d = 0 then (numC.get ⟨d.data.toList, 0⟩).1 else 0) = m0) (hen : decE numC d = 0) (hvf : (if decE flagC d = 0 then (flagC.get ⟨d.data.toList, 0⟩).1 else false) = true) (hef : decE flagC d = 0) (hb : b0 = d.size) (h1 : m0 = 1) :
    Calls Try.prog 8 #[.string d, .int .i64 l, .int .i64 m] w fun e w' => e = .returned (.bool true) ∧ Below w.heap.size w w' := by
  have q1 : ¬ (5000 : Int) < d.size := by omega
  have hd : DSize d := by unfold DSize; omega
  have HD := Lib.hid hd
  obtain ⟨t0, c0, k0, hgT, hT⟩ := text_says m d
  have G : Hid (∀ w, Calls Try.prog 27 #[.string d, .int .i64 0] w fun e w' => e = .returned (.tuple #[.int .i64 m0, .int .i64 b0, .int .i64 (0)]) ∧ w' = w) := Lib.hid fun w => by
    have := rget_any d 0 w hd (Nat.zero_le _)
    unfold GetRes at this
    rw [hg] at this
    exact this
  have GT : Hid (∀ w, Calls Try.prog 31 #[.string d, .int .i64 0, .int .i64 m] w fun e w' => e = .returned (.tuple #[.string t0, .int .i64 c0, .int .i64 k0]) ∧ w' = w) := Lib.hid fun w => by
    have := rtext_any d 0 m w hd (Nat.zero_le _)
    unfold TextRes at this
    rw [hgT] at this
    exact this
  obtain ⟨vt, hvt⟩ : ∃ v, (if decE (textC (bnd m)) d = 0 then ((textC (bnd m)).get ⟨d.data.toList, 0⟩).1 else ⟨#[]⟩) = v := ⟨_, rfl⟩
  obtain ⟨et, het⟩ : ∃ v, decE (textC (bnd m)) d = v := ⟨_, rfl⟩
  rw [hvt, het] at hT
  have HT := Lib.hid hT
  have HVN := Lib.hid hvn
  have HVF := Lib.hid hvf
  have HVT := Lib.hid hvt
  have HEN := Lib.hid hen
  have HEF := Lib.hid hef
  have HET := Lib.hid het
  obtain ⟨L4, E4, hD4, hR4⟩ : ∃ (L : List Int) (E : Int), (∀ (W w : World) (cv : Value), IsCodec W cv (listC numC (bnd l)) → Same W w → Calls Try.prog 20 #[cv, .string d] w fun r w' => Kept w w' (fun _ => False) ∧ ∃ A k, r = .returned (.tuple #[.slice A L.length k, .int .i64 E]) ∧ RowIn w' A L.length (L.map (Value.int .i64))) ∧
      ∀ w : World, Calls Try.prog 32 #[.string d, .int .i64 l] w fun r w' => Kept w w' (fun _ => False) ∧ ∃ A k, r = .returned (.tuple #[.slice A L.length k, .int .i64 E]) ∧ RowIn w' A L.length (L.map (Value.int .i64)) :=
    ⟨_, _, fun W w cv hc hs => (decode_ints W cv _ d w hc (listC_fair numC_fair _) hs hd).mono fun r w' ⟨hk, h⟩ => ⟨hk, dec_oneL (f := Value.int .i64) (fun G w x u h => h) h⟩, fun w => (rNumbers_any d l 0 w hd).mono fun r w' h => ref_oneL h⟩
  obtain ⟨L5, E5, hD5, hR5⟩ : ∃ (L : List ByteArray) (E : Int), (∀ (W w : World) (cv : Value), IsCodec W cv (listC (textC (bnd m)) (bnd l)) → Same W w → Calls Try.prog 33 #[cv, .string d] w fun r w' => Kept w w' (fun _ => False) ∧ ∃ A k, r = .returned (.tuple #[.slice A L.length k, .int .i64 E]) ∧ RowIn w' A L.length (L.map Value.string)) ∧
      ∀ w : World, Calls Try.prog 34 #[.string d, .int .i64 l, .int .i64 m] w fun r w' => Kept w w' (fun _ => False) ∧ ∃ A k, r = .returned (.tuple #[.slice A L.length k, .int .i64 E]) ∧ RowIn w' A L.length (L.map Value.string) :=
    ⟨_, _, fun W w cv hc hs => (decode_strs W cv _ d w hc (listC_fair (textC_fair _) _) hs hd).mono fun r w' ⟨hk, h⟩ => ⟨hk, dec_oneL (f := Value.string) (fun G w x u h => h) h⟩, fun w => (rTexts_any d l m w hd).mono fun r w' h => ref_oneL h⟩
  have D4 := Lib.hid hD4
  have R4 := Lib.hid hR4
  have D5 := Lib.hid hD5
  have R5 := Lib.hid hR5
  skip
  subst hb h1
  clear h hd hg hgT hT hvn hvf hvt hen hef het hD4 hR4 hD5 hR5
  go_enter Try.func8, Try.ntmps8
  go_wp2_with (fail)
  refine (anchor_any _).mono ?_
  rintro e w1 ⟨rfl, hk⟩
  have K1 := Lib.hid hk
  clear hk
  go_wp2_with (fail)
  refine (number_any _).mono ?_
  rintro e w2 ⟨cv2, rfl, hc, hk⟩
  have HC := Lib.hid hc
  have K2 := Lib.hid (K1.out.nil_trans hk)
  clear hc hk
  go_wp2_with (fail)
  refine (decode_int w2 cv2 numC d w2 HC.out numC_fair (Same.refl _) HD.out).mono ?_
  rintro e w3 ⟨hk, h⟩
  have K3 := Lib.hid (K2.out.nil_trans hk)
  have h := dec_one h
  rw [HEN.out] at h
  have hv := HVN.out
  rw [HEN.out] at hv
  rw [hv] at h
  subst h
  clear hk hv HC
  go_wp2_with (fail)
  refine (G.out _).mono ?_
  rintro e w' ⟨rfl, hw⟩
  obtain rfl := hw.symm
  go_wp2_with (fail)
  refine (flag_any _).mono ?_
  rintro e w4 ⟨cv4, rfl, hc, hk⟩
  have HC := Lib.hid hc
  have K4 := Lib.hid (K3.out.nil_trans hk)
  clear hc hk
  go_wp2_with (fail)
  refine (decode_bool w4 cv4 flagC d w4 HC.out flagC_fair (Same.refl _) HD.out).mono ?_
  rintro e w5 ⟨hk, h⟩
  have K5 := Lib.hid (K4.out.nil_trans hk)
  have h := dec_oneF h
  rw [HEF.out] at h
  have hv := HVF.out
  rw [HEF.out] at hv
  rw [hv] at h
  subst h
  clear hk hv HC
  go_wp2_with (fail)
  refine (G.out _).mono ?_
  rintro e w' ⟨rfl, hw⟩
  obtain rfl := hw.symm
  go_wp2_with (fail)
  refine (text_any m _).mono ?_
  rintro e w6 ⟨cv6, rfl, hc, hk⟩
  have HC := Lib.hid hc
  have K6 := Lib.hid (K5.out.nil_trans hk)
  clear hc hk
  go_wp2_with (fail)
  refine (decode_str w6 cv6 (textC (bnd m)) d w6 HC.out (textC_fair _) (Same.refl _) HD.out).mono ?_
  rintro e w7 ⟨hk, h⟩
  have K7 := Lib.hid (K6.out.nil_trans hk)
  have h := dec_oneT h
  rw [HET.out] at h
  have hv := HVT.out
  rw [HET.out] at hv
  rw [hv] at h
  subst h
  clear hk hv HC
  go_wp2_with (fail)
  refine (GT.out _).mono ?_
  rintro e w' ⟨rfl, hw⟩
  obtain rfl := hw.symm
  go_upto_region 21 with (fail)
  obtain ⟨p4, hp4⟩ : ∃ p : Bool, p = (k0 == 0 && decide (c0 < d.size)) := ⟨_, rfl⟩
  go_cut [123] (fun s wx => s = .bool p4 ∧ wx = w7)
  case first =>
    have hT := HT.out
    cases hT with
    | err hne =>
      have q2 : (k0 == 0) = false := by simpa using hne
      have q3 : decide (k0 = 0) = false := by simpa using hne
      have HP : Hid (p4 = false) := by rw [hp4, q2]; exact Lib.hid rfl
      clear hp4
      go_wp2_with (fail)
      go_meet
      exact ⟨by rw [HP.out], rfl⟩
    | more hb =>
      have q2 : (c0 : Int) < d.size := by omega
      have HP : Hid (p4 = true) := by rw [hp4]; exact Lib.hid (by simpa using hb)
      clear hp4
      go_wp2_with (fail)
      go_meet
      exact ⟨by rw [HP.out], rfl⟩
    | all =>
      have HP : Hid (p4 = false) := by rw [hp4]; exact Lib.hid (by simp)
      clear hp4
      go_wp2_with (fail)
      go_meet
      exact ⟨by rw [HP.out], rfl⟩
  case rest =>
    obtain ⟨rfl, hw⟩ := hcut
    obtain rfl := hw.symm
    go_upto_if 123 with (fail)
    go_cut [19, 21] (fun a b wx => a = .string vt ∧ b = .int .i64 et ∧ wx = w7)
    case first =>
      have hT := HT.out
      cases hT with
      | err hne =>
        have HP : Hid (p4 = false) := by rw [hp4]; exact Lib.hid (by simp [hne])
        rw [HP.out]
        clear hp4
        go_wp2_with (fail)
        go_meet
        exact ⟨rfl, rfl, rfl⟩
      | more hb =>
        have HP : Hid (p4 = true) := by rw [hp4]; exact Lib.hid (by simpa using hb)
        rw [HP.out]
        clear hp4
        go_wp2_with (fail)
        go_meet
        exact ⟨rfl, rfl, rfl⟩
      | all =>
        have HP : Hid (p4 = false) := by rw [hp4]; exact Lib.hid (by simp)
        rw [HP.out]
        clear hp4
        go_wp2_with (fail)
        go_meet
        exact ⟨rfl, rfl, rfl⟩
    case rest =>
      obtain ⟨rfl, rfl, hw⟩ := hcut
      obtain rfl := hw.symm
      clear hp4
      go_wp2_with (fail)
      refine (number_any _).mono ?_
      rintro e w8 ⟨cv8, rfl, hc, hk⟩
      have HC := Lib.hid hc
      have K8 := Lib.hid (K7.out.nil_trans hk)
      clear hc hk
      go_wp2_with (fail)
      refine (listof_int numC numC_fair numC_one cv8 l w8 HC.out).mono ?_
      rintro e w9 ⟨cv9, rfl, hc, hk⟩
      clear HC
      have HC := Lib.hid hc
      have K9 := Lib.hid (K8.out.nil_trans hk)
      clear hc hk
      go_wp2_with (fail)
      refine (D4.out w9 w9 _ HC.out (Same.refl _)).mono ?_
      rintro e w10 ⟨hk, A1, k1, rfl, hr⟩
      have K10 := Lib.hid (K9.out.nil_trans hk)
      have Q1 := Lib.hid hr
      clear hk hr HC
      go_wp2_with (fail)
      refine (R4.out w10).mono ?_
      rintro e w11 ⟨hk, A2, k2, rfl, hr⟩
      have K11 := Lib.hid (K10.out.nil_trans hk)
      have Q2 := Lib.hid hr
      have Q1' := Lib.hid (Q1.out.kept hk)
      clear hk hr
      go_wp2_with (fail)
      refine (ints_eq L4 A1 A2 k1 k2 _ Q1'.out Q2.out).mono ?_
      rintro e w12 ⟨rfl, hk⟩
      have K12 := Lib.hid (K11.out.nil_trans hk)
      clear hk Q1 Q1' Q2
      go_wp2_with (fail)
      refine (text_any m _).mono ?_
      rintro e w13 ⟨cv13, rfl, hc, hk⟩
      have HC := Lib.hid hc
      have K13 := Lib.hid (K12.out.nil_trans hk)
      clear hc hk
      go_wp2_with (fail)
      refine (listof_str (textC (bnd m)) (textC_fair _) (textC_one _) cv13 l w13 HC.out).mono ?_
      rintro e w14 ⟨cv14, rfl, hc, hk⟩
      clear HC
      have HC := Lib.hid hc
      have K14 := Lib.hid (K13.out.nil_trans hk)
      clear hc hk
      go_wp2_with (fail)
      refine (D5.out w14 w14 _ HC.out (Same.refl _)).mono ?_
      rintro e w15 ⟨hk, A3, k3, rfl, hr⟩
      have K15 := Lib.hid (K14.out.nil_trans hk)
      have Q3 := Lib.hid hr
      clear hk hr HC
      go_wp2_with (fail)
      refine (R5.out w15).mono ?_
      rintro e w16 ⟨hk, A4, k4, rfl, hr⟩
      have K16 := Lib.hid (K15.out.nil_trans hk)
      have Q4 := Lib.hid hr
      have Q3' := Lib.hid (Q3.out.kept hk)
      clear hk hr
      go_wp2_with (fail)
      refine (texts_eq L5 A3 A4 k3 k4 _ Q3'.out Q4.out).mono ?_
      rintro e w' ⟨rfl, hw⟩
      obtain rfl := hw.symm
      clear hw
      go_wp2
      go_ret
      exact ⟨rfl, K16.out.nil_below⟩

theorem NumSays.or {d : ByteArray} {v e : Int} {m b : Nat} {f : Int} (h : NumSays d v e m b f) : (f ≠ 0 ∧ v = 0 ∧ e = f ∧ m = 0 ∧ b = 0) ∨ (f = 0 ∧ b < d.size ∧ v = 0 ∧ e = 21) ∨ (f = 0 ∧ b = d.size ∧ v = m ∧ e = 0) := by
  cases h with
  | err h => exact .inl ⟨h, rfl, rfl, rfl, rfl⟩
  | more h => exact .inr (.inl ⟨rfl, h, rfl, rfl⟩)
  | all => exact .inr (.inr ⟨rfl, rfl, rfl, rfl⟩)
theorem FlagSays.or {d : ByteArray} {v : Bool} {e : Int} {m b : Nat} {f : Int} (h : FlagSays d v e m b f) : (f ≠ 0 ∧ v = false ∧ e = f) ∨ (f = 0 ∧ 1 < m ∧ v = false ∧ e = 21) ∨ (f = 0 ∧ ¬ 1 < m ∧ b < d.size ∧ v = false ∧ e = 21) ∨ (f = 0 ∧ ¬ 1 < m ∧ b = d.size ∧ v = (m == 1) ∧ e = 0) := by
  cases h with
  | err h => exact .inl ⟨h, rfl, rfl⟩
  | big h => exact .inr (.inl ⟨rfl, h, rfl, rfl⟩)
  | more h h1 => exact .inr (.inr (.inl ⟨rfl, h1, h, rfl, rfl⟩))
  | all h1 => exact .inr (.inr (.inr ⟨rfl, h1, rfl, rfl, rfl⟩))
theorem reads_in (d : ByteArray) (l m : Int) (w : World) (h : d.size ≤ 5000) : Calls Try.prog 8 #[.string d, .int .i64 l, .int .i64 m] w fun e w' => e = .returned (.bool true) ∧ Below w.heap.size w w' := by
  obtain ⟨m0, b0, f0, hg, hN, hF⟩ := num_says d
  rcases hN.or with ⟨hf, hvn, hen, hm0, hb0⟩ | ⟨hf, hb, hvn, hen⟩ | ⟨hf, hb, hvn, hen⟩
  · rcases hF.or with ⟨_, hvf, hef⟩ | ⟨h0, _⟩ | ⟨h0, _⟩ | ⟨h0, _⟩
    · exact reads_err d l m w h m0 b0 f0 false hg hvn hen hvf hef hm0 hb0 hf
    · exact (hf h0).elim
    · exact (hf h0).elim
    · exact (hf h0).elim
  · subst hf
    rcases hF.or with ⟨h0, _⟩ | ⟨_, h1, hvf, hef⟩ | ⟨_, h1, _, hvf, hef⟩ | ⟨_, _, h1, _⟩
    · exact (h0 rfl).elim
    · exact reads_morebig d l m w h m0 b0 0 false hg hvn hen hvf hef hb h1
    · exact reads_moremore d l m w h m0 b0 0 false hg hvn hen hvf hef hb h1
    · omega
  · subst hf
    rcases hF.or with ⟨h0, _⟩ | ⟨_, h1, hvf, hef⟩ | ⟨_, _, h1, _⟩ | ⟨_, h1, _, hvf, hef⟩
    · exact (h0 rfl).elim
    · exact reads_allbig d l m w h m0 b0 0 false hg hvn hen hvf hef hb h1
    · omega
    · have hm : m0 = 0 ∨ m0 = 1 := by omega
      rcases hm with hm | hm
      · exact reads_allz d l m w h m0 b0 0 false hg hvn hen (by rw [hvf, hm]; rfl) hef hb hm
      · exact reads_allo d l m w h m0 b0 0 true hg hvn hen (by rw [hvf, hm]; rfl) hef hb hm

theorem reads_any (d : ByteArray) (l m : Int) (w : World) (hs : d.size ≤ 140737488351232) (hl : -9223372036854775808 ≤ l ∧ l ≤ 9223372036854775807) (hm : -9223372036854775808 ≤ m ∧ m ≤ 9223372036854775807) : Calls Try.prog 8 #[.string d, .int .i64 l, .int .i64 m] w fun e w' => e = .returned (.bool true) ∧ Below w.heap.size w w' := by
  by_cases h : 5000 < d.size
  · exact reads_out d l m w h hs
  · exact reads_in d l m w (by omega)
end Go.Proofs.Ytcnikobmepjgcaa.Codec
