/-
  Records framed; the anchor of the journal's laws; JournalScans.
-/
import Derived.Test.YtegonafacbokeaaJr2
import Derived.Test.YtegonafacbokeaaTexts
namespace Go.Proofs.Ytegonafacbokeaa.Codec
open Go.RowKit Go.Proofs.YtegonafacbokeaaBase Go.Proofs.YtegonafacbokeaaLex2 Go.Proofs.YtegonafacbokeaaNum
set_option linter.unusedVariables false
set_option linter.unusedSimpArgs false

theorem run_add {P : Program} (a b c : ByteArray) (h : a.size + b.size ≤ 9223372036854775807) (hc : c.data.toList = a.data.toList ++ b.data.toList) : ∀ w, (Op.stringOp .add a b).run P w = .ok (.string c) w := fun w => by
  rw [run_string_add_sum w a b h]
  have : a ++ b = c := by
    apply ByteArray.ext
    apply Array.ext'
    rw [hc, ByteArray.data_append]
    simp
  rw [this]
/-- A record's bytes, as a text. -/
def frameB (r : ByteArray) : ByteArray := mkB (frameS r.data.toList)
theorem frameB_data (r : ByteArray) : (frameB r).data.toList = encN r.size ++ r.data.toList ++ [46] := by unfold frameB mkB frameS; rw [len_data]
theorem frameB_size (r : ByteArray) : (frameB r).size ≤ r.size + 9 := by
  rw [← len_data, frameB_data]
  have := encN_le r.size
  simp only [List.length_append, len_data, List.length_cons, List.length_nil]
  omega

set_option maxHeartbeats 1600000 in
theorem jframe_any (r : ByteArray) (w : World) (hr : r.size ≤ 1048576) : Calls Try.prog 10 #[.string r] w fun e w' => e = .returned (.tuple #[.string (frameB r), .int .i64 0]) ∧ Kept w w' (fun _ => False) := by
  have hok : okT (bnd 1048576) r := hr
  obtain ⟨s, hs⟩ : ∃ s : ByteArray, ⟨(bsT r).toArray⟩ = s := ⟨_, rfl⟩
  have EN := Lib.hid (enc_ok (textC_good (m := bnd 1048576) (by decide)) hok)
  rw [hs] at EN
  have hsd : s.data.toList = encN r.size ++ r.data.toList := by rw [← hs]; rfl
  have hsz : s.size ≤ r.size + 8 := by
    rw [← len_data, hsd]
    have := encN_le r.size
    simp only [List.length_append, len_data]
    omega
  have h46 : (ByteArray.mk #[46]).size = 1 := rfl
  have QA := Lib.hid (run_add (P := Try.prog) s ⟨#[46]⟩ (frameB r) (by rw [h46]; omega) (by rw [frameB_data, hsd]))
  have HR := Lib.hid hr
  clear hok hs hsd hsz hr h46
  go_enter Try.func10, Try.ntmps10
  go_wp2_with (fail)
  refine (text_any 1048576 _).mono ?_
  rintro e w1 ⟨cv, rfl, hc, hk⟩
  have HC := Lib.hid hc
  have K1 := Lib.hid hk
  clear hc hk
  go_wp2_with (fail)
  refine (encode_str w1 cv (textC (bnd 1048576)) r _ w1 HC.out (textC_fair _) (Same.refl _) rfl (by have := HR.out; unfold WRoom; simp only [textC, List.length_nil]; omega)).mono ?_
  rw [EN.out]
  rintro e w2 ⟨rfl, hk⟩
  have K2 := Lib.hid (K1.out.nil_trans hk)
  have qa := QA.out
  clear hk
  go_wp2
  go_ret2
  exact ⟨rfl, K2.out⟩

set_option maxHeartbeats 1600000 in
theorem rframe_any (r : ByteArray) (w : World) (hr : r.size ≤ 1048576) : Calls Try.prog 12 #[.string r] w fun e w' => e = .returned (.string (frameB r)) ∧ Kept w w' (fun _ => False) := by
  obtain ⟨b, hb⟩ : ∃ s : ByteArray, ⟨(encN r.size).toArray⟩ = s := ⟨_, rfl⟩
  obtain ⟨s, hs⟩ : ∃ s : ByteArray, ⟨(bsT r).toArray⟩ = s := ⟨_, rfl⟩
  have hbd : b.data.toList = encN r.size := by rw [← hb]
  have hsd : s.data.toList = encN r.size ++ r.data.toList := by rw [← hs]; rfl
  have hbs : b.size ≤ 8 := by rw [← len_data, hbd]; exact encN_le _
  have hsz : s.size ≤ r.size + 8 := by
    rw [← len_data, hsd]
    have := encN_le r.size
    simp only [List.length_append, len_data]
    omega
  have h46 : (ByteArray.mk #[46]).size = 1 := rfl
  have QA := Lib.hid (run_add (P := Try.prog) s ⟨#[46]⟩ (frameB r) (by rw [h46]; omega) (by rw [frameB_data, hsd]))
  have QB := Lib.hid (run_add (P := Try.prog) b r s (by omega) (by rw [hbd, hsd]))
  have HB := Lib.hid hb
  have P := Lib.hid (rput_ok r.size w (by omega))
  have q1 : (r.size : Int) ≤ 1048576 := by omega
  clear hs hbd hsd hbs hsz hr h46 hb
  go_enter Try.func12, Try.ntmps12
  go_wp2_with (fail)
  refine P.out.mono ?_
  rintro e w1 ⟨⟨A, c, rfl, ho⟩, hk⟩
  have K1 := Lib.hid hk
  have qc := run_convert_own (P := Try.prog) w1 52 9 5 w.heap.size _ _ (encN r.size) elemByte.under underU8 underStr ho
  rw [HB.out] at qc
  have qa := QA.out
  have qb := QB.out
  clear hk ho
  go_wp2
  go_ret
  exact ⟨rfl, K1.out⟩

set_option maxHeartbeats 1600000 in
set_option maxRecDepth 100000 in
theorem janchor_any (w : World) : Calls Try.prog 7 #[] w fun e w' => e = .returned (.bool true) ∧ Kept w w' (fun _ => False) := by
  have E1 : Hid (frameB ⟨#[97, 98]⟩ = ⟨#[2, 97, 98, 46]⟩) := Lib.hid (by kernel_rfl)
  have E2 : Hid (scanL (ByteArray.mk #[2, 97, 98, 46, 2, 97, 98, 46, 2, 97]).data.toList = ([[97, 98], [97, 98]], 8)) := Lib.hid (by kernel_rfl)
  have Q1 := Lib.hid (run_add (P := Try.prog) ⟨#[2, 97, 98, 46]⟩ ⟨#[2, 97, 98, 46]⟩ ⟨#[2, 97, 98, 46, 2, 97, 98, 46]⟩ (by decide) rfl)
  have Q2 := Lib.hid (run_add (P := Try.prog) ⟨#[2, 97, 98, 46, 2, 97, 98, 46]⟩ ⟨#[2, 97]⟩ ⟨#[2, 97, 98, 46, 2, 97, 98, 46, 2, 97]⟩ (by decide) rfl)
  go_enter Try.func7, Try.ntmps7
  go_wp2_with (fail)
  refine (jframe_any ⟨#[97, 98]⟩ _ (by decide)).mono ?_
  rw [E1.out]
  rintro e w1 ⟨rfl, hk⟩
  have K1 := Lib.hid hk
  clear hk
  have q1 := Q1.out
  have q2 := Q2.out
  go_wp2_with (fail)
  clear q1 q2
  refine (jscan_any ⟨#[2, 97, 98, 46, 2, 97, 98, 46, 2, 97]⟩ w1 (by unfold DSize; decide) (by decide)).mono ?_
  intro e w2 h
  unfold ScanRes at h
  rw [E2.out] at h
  obtain ⟨hk, A, c, rfl, hr, _⟩ := h
  have K2 := Lib.hid (K1.out.nil_trans hk)
  obtain ⟨b, off, rfl, hbl, hx⟩ := hr.cell (by decide)
  have c1 := hx 1 (.string ⟨#[97, 98]⟩) rfl
  clear hk hr hx
  go_wp2
  go_ret
  exact ⟨rfl, K2.out⟩

theorem jscans_out (d r : ByteArray) (w : World) (hd : d.size ≤ 140737488351232) (hr : r.size ≤ 140737488351232) (h : 20000 < d.size ∨ 20000 < r.size) : Calls Try.prog 3 #[.string d, .string r] w fun e w' => e = .returned (.bool true) ∧ Below w.heap.size w w' := by
  have HH := Lib.hid h
  clear h
  go_enter Try.func3, Try.ntmps3
  go_wp2_with (fail)
  refine (janchor_any _).mono ?_
  rintro e w1 ⟨rfl, hk⟩
  have K1 := Lib.hid hk
  clear hk
  by_cases h1 : 20000 < d.size
  · have q : (20000 : Int) < d.size := by omega
    go_wp2
    go_ret
    exact ⟨rfl, K1.out.nil_below⟩
  · have q : ¬ (20000 : Int) < d.size := by omega
    have h2 : (20000 : Int) < r.size := by have := HH.out.resolve_left h1; omega
    go_wp2
    go_ret
    exact ⟨rfl, K1.out.nil_below⟩

set_option maxHeartbeats 1600000 in
set_option maxRecDepth 100000 in
theorem jscans_in (d r : ByteArray) (w : World) (hd : d.size ≤ 20000) (hr : r.size ≤ 20000) : Calls Try.prog 3 #[.string d, .string r] w fun e w' => e = .returned (.bool true) ∧ Below w.heap.size w w' := by
  have q1 : ¬ (20000 : Int) < d.size := by omega
  have q2 : ¬ (20000 : Int) < r.size := by omega
  have D1 := Lib.hid (show DSize d by unfold DSize; omega)
  have D2 := Lib.hid (show d.size ≤ 10000000000000 by omega)
  have R1 := Lib.hid (show r.size ≤ 1048576 by omega)
  obtain ⟨xs, n, hxs⟩ : ∃ xs n, scanL d.data.toList = (xs, n) := ⟨_, _, rfl⟩
  have HX := Lib.hid hxs
  obtain ⟨f, hf⟩ : ∃ f, frameB r = f := ⟨_, rfl⟩
  have HF := Lib.hid hf
  clear hd hr hxs hf
  go_enter Try.func3, Try.ntmps3
  go_wp2_with (fail)
  refine (janchor_any _).mono ?_
  rintro e w1 ⟨rfl, hk⟩
  have K1 := Lib.hid hk
  clear hk
  go_wp2_with (fail)
  refine (jscan_any d _ D1.out D2.out).mono ?_
  intro e w2 h
  unfold ScanRes at h
  rw [HX.out] at h
  obtain ⟨hk, A, c, rfl, hr, _⟩ := h
  have K2 := Lib.hid (K1.out.nil_trans hk)
  have RA := Lib.hid hr
  clear hk hr
  go_wp2_with (fail)
  refine (rscan_any d _ D1.out D2.out).mono ?_
  intro e w3 h
  unfold ScanRes at h
  rw [HX.out] at h
  obtain ⟨hk, B, c2, rfl, hr, _⟩ := h
  have K3 := Lib.hid (K2.out.nil_trans hk)
  have RB := Lib.hid hr
  have RA3 := Lib.hid (RA.out.kept hk)
  clear hk hr
  go_wp2_with (fail)
  refine (jframe_any r _ R1.out).mono ?_
  rw [HF.out]
  rintro e w4 ⟨rfl, hk⟩
  have K4 := Lib.hid (K3.out.nil_trans hk)
  have RA4 : Hid (RowIn w4 A (xs.map mkB).length ((xs.map mkB).map Value.string)) := by rw [List.map_map, List.length_map]; exact Lib.hid (RA3.out.kept hk)
  have RB4 : Hid (RowIn w4 B (xs.map mkB).length ((xs.map mkB).map Value.string)) := by rw [List.map_map, List.length_map]; exact Lib.hid (RB.out.kept hk)
  have T := Lib.hid (texts_eq (xs.map mkB) A B c c2 w4 RA4.out RB4.out)
  rw [List.length_map] at T
  clear hk
  go_wp2_with (fail)
  refine T.out.mono ?_
  rintro e w' ⟨rfl, hw⟩
  obtain rfl := hw.symm
  clear hw
  go_wp2_with (fail)
  refine (rframe_any r _ R1.out).mono ?_
  rw [HF.out]
  rintro e w5 ⟨rfl, hk⟩
  have K5 := Lib.hid (K4.out.nil_trans hk)
  clear hk
  go_wp2
  go_ret
  exact ⟨rfl, K5.out.nil_below⟩

theorem jscans_any (d r : ByteArray) (w : World) (hd : d.size ≤ 140737488351232) (hr : r.size ≤ 140737488351232) : Calls Try.prog 3 #[.string d, .string r] w fun e w' => e = .returned (.bool true) ∧ Below w.heap.size w w' := by
  by_cases h : 20000 < d.size ∨ 20000 < r.size
  · exact jscans_out d r w hd hr h
  · exact jscans_in d r w (by omega) (by omega)
end Go.Proofs.Ytegonafacbokeaa.Codec
