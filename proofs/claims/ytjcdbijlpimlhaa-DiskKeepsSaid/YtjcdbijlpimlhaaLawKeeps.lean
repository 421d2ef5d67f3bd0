/-
  DiskKeeps walked: for whatever texts and numbers it returns true and leaves what was there as it was.
-/
import Derived.Test.YtjcdbijlpimlhaaDiskSt
import Derived.Test.YtjcdbijlpimlhaaBase2
import Derived.Laws.DeepStrings4
namespace Go.Proofs.Ytjcdbijlpimlhaa.Disk
open Go.RowKit Go.Proofs.YtjcdbijlpimlhaaBase Go.Proofs.YtjcdbijlpimlhaaLex
set_option linter.unusedVariables false

/-- What holds at the head of round k: the file isn't down and its crash is so many operations away; or it is down, and its safe bytes are the text and a beginning of what was appended. -/
structure KeepRel (w0 : World) (p n o kp : Nat) (S : ByteArray) (av dv iv : Value) (wr : World) : Prop where
  it : ∃ (k : Nat) (Al : ByteArray) (lo : List UInt8) (F : Nat → Prop), k ≤ n ∧ iv = .int .i64 k ∧ av = .string Al ∧ Al.data.toList = S.data.toList ++ lo ∧ Al.size ≤ 150000000000000 ∧
    ((dv = .bool false ∧ k < o ∧ St w0 wr p F ⟨S.data.toList, lo, o - k, kp, false⟩) ∨ ∃ j, dv = .bool true ∧ o ≤ k ∧ St w0 wr p F ⟨S.data.toList ++ lo.take j, [], 0, kp, true⟩)

theorem keeps_out (S : ByteArray) (A : Option Addr) (n c : Nat) (o kp : Int) (w : World) (hs : S.size ≤ 140737488351232) (hn : n ≤ maxLen) (h : 5000 < S.size ∨ 200 < n) :
    Calls Try.prog 3 #[.string S, .slice A n c, .int .i64 o, .int .i64 kp] w fun e w' => e = .returned (.bool true) ∧ Below w.heap.size w w' := by
  unfold maxLen at hn
  have HH := Lib.hid h
  clear h
  go_enter Try.func3, Try.ntmps3
  by_cases h1 : 5000 < S.size
  · have q2 : (5000 : Int) < S.size := by omega
    go_wp2_with (go_at_call 7; refine (anchor_any _).mono ?_; rintro e w1 ⟨rfl, hb1⟩; have HB := Lib.hid hb1; clear hb1)
    go_ret
    exact ⟨rfl, HB.out⟩
  have q2 : ¬ (5000 : Int) < S.size := by omega
  have h3 : (200 : Int) < n := by have := HH.out.resolve_left h1; omega
  go_wp2_with (go_at_call 7; refine (anchor_any _).mono ?_; rintro e w1 ⟨rfl, hb1⟩; have HB := Lib.hid hb1; clear hb1)
  go_ret
  exact ⟨rfl, HB.out⟩

set_option maxHeartbeats 3200000 in
set_option maxRecDepth 100000 in
theorem keeps_bad (S : ByteArray) (A : Option Addr) (n c : Nat) (o kp : Int) (w : World) (hs : S.size ≤ 5000) (hn : n ≤ 200) (hbad : o < 1 ∨ 65536 < o ∨ kp < 0 ∨ 2 < kp) :
    Calls Try.prog 3 #[.string S, .slice A n c, .int .i64 o, .int .i64 kp] w fun e w' => e = .returned (.bool true) ∧ Below w.heap.size w w' := by
  have q1 : ¬ (5000 : Int) < S.size := by omega
  have q2 : ¬ (200 : Int) < n := by omega
  have HBAD := Lib.hid hbad
  have RA := Lib.hid (show Room ⟨[], S.data.toList, 0, 0, false⟩ by unfold Room; simp only [len_data, List.length_nil]; omega)
  clear hbad hs hn
  obtain ⟨w0, hw0⟩ : ∃ w0 : World, w0 = w := ⟨_, rfl⟩
  have B0 : Hid (Below w0.heap.size w0 w) := by rw [← hw0]; exact Lib.hid (Below.refl w0.heap.size w0)
  suffices h : Calls Try.prog 3 #[.string S, .slice A n c, .int .i64 o, .int .i64 kp] w fun e w' => e = .returned (.bool true) ∧ Below w0.heap.size w0 w' by
    rw [hw0] at h; exact h
  clear hw0
  go_enter Try.func3, Try.ntmps3
  go_wp2_with (go_at_call 7; refine (anchor_any _).mono ?_; rintro e w1 ⟨rfl, hb1⟩; have HB := Lib.hid hb1; clear hb1)
  refine (st_new (B0.out.trans (HB.out.mono B0.out.size))).mono ?_
  rintro e w2 ⟨rfl, h, _⟩
  have H1 := Lib.hid h
  obtain ⟨p, hp⟩ : ∃ p, w1.heap.size = p := ⟨_, rfl⟩
  rw [hp] at H1
  rw [hp]
  clear h hp
  go_wp2_with (fail)
  refine (st_add (c := 0) (x' := ⟨[], S.data.toList, 0, 0, false⟩) H1.out S RA.out rfl).mono ?_
  rintro e w3 ⟨rfl, F2, h2, _⟩
  have H2 := Lib.hid h2
  clear h2
  go_wp2_with (fail)
  refine (st_sync (c := 0) (x' := ⟨S.data.toList, [], 0, 0, false⟩) H2.out rfl).mono ?_
  rintro e w4 ⟨rfl, F3, h3, _⟩
  have H3 := Lib.hid h3
  clear h3
  go_wp2_with (fail)
  refine (st_arm (c := 141) (x' := ⟨S.data.toList, [], 0, 0, false⟩) H3.out o kp (by unfold FD.arm; rw [if_pos HBAD.out])).mono ?_
  rintro e w5 ⟨rfl, F4, h4, _⟩
  have H4 := Lib.hid h4
  clear h4
  by_cases h1 : o < 1
  · go_wp2
    go_ret
    exact ⟨rfl, H4.out.2.1⟩
  by_cases h2 : 65536 < o
  · go_wp2
    go_ret
    exact ⟨rfl, H4.out.2.1⟩
  by_cases h3 : kp < 0
  · go_wp2
    go_ret
    exact ⟨rfl, H4.out.2.1⟩
  have h4 : 2 < kp := ((HBAD.out.resolve_left h1).resolve_left h2).resolve_left h3
  go_wp2
  go_ret
  exact ⟨rfl, H4.out.2.1⟩

theorem arm_eq_ok {x : FD} {o k : Nat} (h : ¬ ((o : Int) < 1 ∨ (65536 : Int) < o ∨ (k : Int) < 0 ∨ (2 : Int) < k)) : x.arm o k = (0, { x with fuse := o, keep := k }) := by
  unfold FD.arm
  rw [if_neg h]
  simp
/-- A file's append that doesn't crash; that does. -/
theorem add_eq_wait {sf lo d : List UInt8} {f k : Nat} (h : 1 < f) : FD.add ⟨sf, lo, f, k, false⟩ d = (0, ⟨sf, lo ++ d, f - 1, k, false⟩) := by
  have h1 : f ≠ 1 := by omega
  simp [FD.add, FD.burns, FD.burn, h1]
theorem add_eq_crash {sf lo d : List UInt8} {k : Nat} : ∃ j, FD.add ⟨sf, lo, 1, k, false⟩ d = (140, ⟨sf ++ (lo ++ d).take j, [], 0, k, true⟩) := by
  exact ⟨_, rfl⟩

set_option maxHeartbeats 3200000 in
set_option maxRecDepth 100000 in
theorem keeps_in (S : ByteArray) (A : Option Addr) (n c : Nat) (o kp : Nat) (ss : List ByteArray) (w : World) (hr : RowIn w A n (ss.map Value.string)) (hz : ∀ s ∈ ss, s.size ≤ 140737488351232) (hs : S.size ≤ 5000) (hn : n ≤ 200) (ho : 1 ≤ o) (ho2 : o ≤ 65536) (hkp : kp ≤ 2) :
    Calls Try.prog 3 #[.string S, .slice A n c, .int .i64 o, .int .i64 kp] w fun e w' => e = .returned (.bool true) ∧ Below w.heap.size w w' := by
  have q1 : ¬ (5000 : Int) < S.size := by omega
  have q2 : ¬ (200 : Int) < n := by omega
  have HOK := Lib.hid (show ¬ ((o : Int) < 1 ∨ (65536 : Int) < o ∨ (kp : Int) < 0 ∨ (2 : Int) < kp) by omega)
  have RA := Lib.hid (show Room ⟨[], S.data.toList, 0, 0, false⟩ by unfold Room; simp only [len_data, List.length_nil]; omega)
  have HN := Lib.hid hn
  have HSZ := Lib.hid hs
  have HO := Lib.hid ho
  have HS := Lib.hid hz
  clear hs hn ho hkp hz
  obtain ⟨w0, hw0⟩ : ∃ w0 : World, w0 = w := ⟨_, rfl⟩
  have B0 : Hid (Below w0.heap.size w0 w) := by rw [← hw0]; exact Lib.hid (Below.refl w0.heap.size w0)
  have HR : Hid (RowIn w0 A n (ss.map Value.string)) := by rw [hw0]; exact Lib.hid hr
  suffices h : Calls Try.prog 3 #[.string S, .slice A n c, .int .i64 o, .int .i64 kp] w fun e w' => e = .returned (.bool true) ∧ Below w0.heap.size w0 w' by
    rw [hw0] at h; exact h
  clear hw0 hr
  go_enter Try.func3, Try.ntmps3
  go_wp2_with (go_at_call 7; refine (anchor_any _).mono ?_; rintro e w1 ⟨rfl, hb1⟩; have HB := Lib.hid hb1; clear hb1)
  refine (st_new (B0.out.trans (HB.out.mono B0.out.size))).mono ?_
  rintro e w2 ⟨rfl, h, _⟩
  have H1 := Lib.hid h
  obtain ⟨p, hp⟩ : ∃ p, w1.heap.size = p := ⟨_, rfl⟩
  rw [hp] at H1
  rw [hp]
  clear h hp
  go_wp2_with (fail)
  refine (st_add (c := 0) (x' := ⟨[], S.data.toList, 0, 0, false⟩) H1.out S RA.out rfl).mono ?_
  rintro e w3 ⟨rfl, F2, h2, _⟩
  have H2 := Lib.hid h2
  clear h2
  go_wp2_with (fail)
  refine (st_sync (c := 0) (x' := ⟨S.data.toList, [], 0, 0, false⟩) H2.out rfl).mono ?_
  rintro e w4 ⟨rfl, F3, h3, _⟩
  have H3 := Lib.hid h3
  clear h3
  go_wp2_with (fail)
  refine (st_arm (c := 0) (x' := ⟨S.data.toList, [], o, kp, false⟩) H3.out o kp (arm_eq_ok HOK.out)).mono ?_
  rintro e w5 ⟨rfl, F4, h4, _⟩
  have H4 := Lib.hid h4
  clear h4
  go_wp2
  go_loopw [10, 11, 58] (fun av dv iv wr => KeepRel w0 p n o kp S av dv iv wr) (fun _ _ iv _ => n - (intOf iv).toNat)
  case atStart => exact ⟨⟨0, S, [], F4, Nat.zero_le _, rfl, rfl, by simp, by have := HSZ.out; omega, .inl ⟨rfl, HO.out, H4.out⟩⟩⟩
  case round =>
    obtain ⟨⟨k, Al, lo, F, hk, rfl, rfl, hal, hlen, hst⟩⟩ := hrel
    have HL := Lib.hid hlen
    have HA := Lib.hid hal
    clear hlen hal
    have hbase : Below w0.heap.size w0 wr := by
      rcases hst with ⟨_, _, h⟩ | ⟨_, _, _, h⟩ <;> exact h.2.1
    have HBL := Lib.hid hbase
    clear hbase
    by_cases hlt : k < n
    · obtain ⟨b, off, rfl, hb, hc⟩ := HR.out.cell (by omega)
      have hlen' : k < ss.length := by have := HR.out.len; simp at this; omega
      obtain ⟨s, hs⟩ : ∃ s, s = ss[k] := ⟨_, rfl⟩
      have hcell := (HBL.out.cell (p := ⟨b, off + k, none⟩) hb).trans (hc k (.string s) (by simp [List.getElem?_eq_getElem hlen', hs]))
      have hsz := Lib.hid (show s.size ≤ 140737488351232 by rw [hs]; exact HS.out ss[k] (List.getElem_mem hlen'))
      clear hb hc hs
      by_cases hbig : 100000 < Al.size
      · have q4 : (100000 : Int) < Al.size := by omega
        clear hst
        go_wp2
        go_ret
        exact ⟨rfl, HBL.out⟩
      · have q4 : ¬ (100000 : Int) < Al.size := by omega
        rcases hst with ⟨rfl, hko, hst⟩ | ⟨j, rfl, hko, hst⟩
        · have HST := Lib.hid hst
          clear hst
          have qa : ∀ w', (Op.stringOp .add Al s).run Try.prog w' = .ok (.string (Al ++ s)) w' := fun w' => run_string_add_sum w' _ _ (by have := hsz.out; omega)
          have hwl : Al.size = S.data.toList.length + lo.length := by rw [← len_data Al, HA.out, List.length_append]
          have HRM := Lib.hid (show ∀ f, Room ⟨S.data.toList, lo ++ s.data.toList, f, kp, false⟩ by intro f; have := hsz.out; unfold Room; simp only [List.length_append, len_data] at *; omega)
          have HWS := Lib.hid (show (Al ++ s).data.toList = S.data.toList ++ (lo ++ s.data.toList) by simp [ByteArray.data_append, HA.out])
          have HWZ := Lib.hid (show (Al ++ s).size ≤ 150000000000000 by have := hsz.out; rw [ByteArray.size_append]; omega)
          clear hwl
          by_cases hcr : k + 1 = o
          · have q5 : ((k : Int) + 1 == (o : Int)) = true := by simp; omega
            obtain ⟨j, hj⟩ := add_eq_crash (sf := S.data.toList) (lo := lo) (d := s.data.toList) (k := kp)
            have HF := Lib.hid (show o - k = 1 by omega)
            have HJ := Lib.hid hj
            have HCR := Lib.hid hcr
            clear hj hcr
            have hst2 := HST.out
            rw [HF.out] at hst2
            have HST2 := Lib.hid hst2
            clear hst2
            go_wp2_with (go_at_call 9; refine (st_add HST2.out s (HRM.out _) HJ.out).mono ?_; rintro e w6 ⟨rfl, F5, h5, _⟩; have H5 := Lib.hid h5; clear h5)
            go_roundw
            case rel => exact ⟨⟨k + 1, Al ++ s, lo ++ s.data.toList, F5, by omega, by go_num, rfl, HWS.out, HWZ.out, .inr ⟨j, rfl, by have := HCR.out; omega, H5.out⟩⟩⟩
            case measure => simp [intOf]; omega
          · have q5 : ((k : Int) + 1 == (o : Int)) = false := by simp; omega
            have HCR := Lib.hid hcr
            clear hcr
            have HE := Lib.hid (show o - k - 1 = o - (k + 1) by omega)
            go_wp2_with (go_at_call 9; refine (st_add HST.out s (HRM.out _) (add_eq_wait (by have := HCR.out; omega))).mono ?_; rintro e w6 ⟨rfl, F5, h5, _⟩; have H5 := Lib.hid h5; clear h5)
            go_roundw
            case rel => exact ⟨⟨k + 1, Al ++ s, lo ++ s.data.toList, F5, by omega, by go_num, rfl, HWS.out, HWZ.out, .inl ⟨rfl, by have := HCR.out; omega, by have := H5.out; rw [HE.out] at this; exact this⟩⟩⟩
            case measure => simp [intOf]; omega
        · have HST := Lib.hid hst
          clear hst
          have hwl : Al.size = S.data.toList.length + lo.length := by rw [← len_data Al, HA.out, List.length_append]
          have HRM := Lib.hid (show Room ⟨S.data.toList ++ lo.take j, [] ++ s.data.toList, 0, kp, true⟩ by have := hsz.out; unfold Room; simp only [List.length_append, List.length_take, List.length_nil, len_data] at *; omega)
          clear hwl
          go_wp2_with (go_at_call 9; refine (st_add (c := 170) (x' := ⟨S.data.toList ++ lo.take j, [], 0, kp, true⟩) HST.out s HRM.out rfl).mono ?_; rintro e w6 ⟨rfl, F5, h5, _⟩; have H5 := Lib.hid h5; clear h5)
          go_roundw
          case rel => exact ⟨⟨k + 1, Al, lo, F5, by omega, by go_num, rfl, HA.out, HL.out, .inr ⟨j, rfl, by omega, H5.out⟩⟩⟩
          case measure => simp [intOf]; omega
    · have q4 : ¬ (k : Int) < n := by omega
      have fin : ∀ (R : ByteArray), (∃ j, R.data.toList = S.data.toList ++ lo.take j) → (S.size : Int) ≤ R.size ∧ (R.size : Int) ≤ Al.size ∧ Al.extract 0 R.size = R ∧ R.extract 0 S.size = S := by
        rintro R ⟨j, hR⟩
        have e1 : R.size = S.data.toList.length + (lo.take j).length := by rw [← len_data R, hR, List.length_append]
        have e2 : Al.size = S.data.toList.length + lo.length := by rw [← len_data Al, HA.out, List.length_append]
        have e3 := List.length_take_le j lo
        rw [len_data] at e1 e2
        refine ⟨by omega, by rw [List.length_take] at e1; omega, ?_, ?_⟩
        · rw [← mk_take, HA.out, e1]
          conv => rhs; rw [← mk_data R, hR]
          congr 1
          congr 1
          rw [List.take_append, len_data, List.take_of_length_le (by rw [len_data]; omega)]
          congr 1
          rw [show S.size + (lo.take j).length - S.size = (lo.take j).length by omega, List.length_take, List.take_eq_take_iff]
          omega
        · rw [← mk_take, hR]
          conv => rhs; rw [← mk_data S]
          congr 1
          congr 1
          rw [← len_data S, List.take_left]
      have FIN := Lib.hid fin
      clear fin
      rcases hst with ⟨rfl, hko, hst⟩ | ⟨j, rfl, hko, hst⟩
      · have HST := Lib.hid hst
        clear hst
        go_wp2_with (fail)
        refine (st_restart (x' := ⟨S.data.toList, [], 0, kp, false⟩) HST.out rfl).mono ?_
        rintro e w6 ⟨rfl, F5, h5, _⟩
        have H5 := Lib.hid h5
        clear h5
        go_wp2_with (fail)
        refine (st_read (c := 0) (s := S.data.toList) H5.out (by simp [FD.read])).mono ?_
        rw [mk_data]
        rintro e w7 ⟨rfl, F6, h6, _⟩
        have H6 := Lib.hid h6
        clear h6
        obtain ⟨f1, f2, f3, f4⟩ := FIN.out S ⟨0, by simp⟩
        have f5 : S.size ≤ Al.size := by omega
        go_wp2
        go_ret
        exact ⟨rfl, H6.out.2.1⟩
      · have HST := Lib.hid hst
        clear hst
        obtain ⟨R, hR⟩ : ∃ R : ByteArray, R.data.toList = S.data.toList ++ lo.take j := ⟨⟨(S.data.toList ++ lo.take j).toArray⟩, by simp⟩
        obtain ⟨f1, f2, f3, f4⟩ := FIN.out R ⟨j, hR⟩
        have f5 : R.size ≤ Al.size := by omega
        have f6 : S.size ≤ R.size := by omega
        have HRR := Lib.hid hR
        clear hR
        go_wp2_with (fail)
        refine (st_restart (x' := ⟨R.data.toList, [], 0, kp, false⟩) HST.out (by rw [HRR.out]; rfl)).mono ?_
        rintro e w6 ⟨rfl, F5, h5, _⟩
        have H5 := Lib.hid h5
        clear h5
        go_wp2_with (fail)
        refine (st_read (c := 0) (s := R.data.toList) H5.out (by simp [FD.read])).mono ?_
        rw [mk_data]
        rintro e w7 ⟨rfl, F6, h6, _⟩
        have H6 := Lib.hid h6
        clear h6
        go_wp2
        go_ret
        exact ⟨rfl, H6.out.2.1⟩

theorem keeps_any (S : ByteArray) (A : Option Addr) (n c : Nat) (o kp : Int) (ss : List ByteArray) (w : World) (hs : S.size ≤ 140737488351232) (hr : RowIn w A n (ss.map Value.string)) (hz : ∀ s ∈ ss, s.size ≤ 140737488351232) :
    Calls Try.prog 3 #[.string S, .slice A n c, .int .i64 o, .int .i64 kp] w fun e w' => e = .returned (.bool true) ∧ Below w.heap.size w w' := by
  by_cases h : 5000 < S.size ∨ 200 < n
  · exact keeps_out S A n c o kp w hs hr.max h
  by_cases hb : o < 1 ∨ 65536 < o ∨ kp < 0 ∨ 2 < kp
  · exact keeps_bad S A n c o kp w (by omega) (by omega) hb
  · obtain ⟨o', rfl⟩ : ∃ m : Nat, o = m := ⟨o.toNat, by omega⟩
    obtain ⟨k', rfl⟩ : ∃ m : Nat, kp = m := ⟨kp.toNat, by omega⟩
    exact keeps_in S A n c o' k' ss w hr hz (by omega) (by omega) (by omega) (by omega) (by omega)
end Go.Proofs.Ytjcdbijlpimlhaa.Disk
