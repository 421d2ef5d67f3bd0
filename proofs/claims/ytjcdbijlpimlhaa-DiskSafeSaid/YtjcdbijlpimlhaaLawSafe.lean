/-
  DiskSafe walked: for whatever texts and number it returns true and leaves what was there as it was.
-/
import Derived.Test.YtjcdbijlpimlhaaDiskSt
import Derived.Test.YtjcdbijlpimlhaaBase2
import Derived.IntWalk
import Derived.LoopTactic
import Derived.Laws.DeepStrings4
namespace Go.Proofs.Ytjcdbijlpimlhaa.Disk
open Go.RowKit Go.Proofs.YtjcdbijlpimlhaaBase Go.Proofs.YtjcdbijlpimlhaaLex
set_option linter.unusedVariables false

/-- What holds at the head of a round: the file's safe bytes are the text 'safe', its loose ones the rest of 'whole'. -/
structure SafeRel (w0 : World) (p n : Nat) (sv wv iv : Value) (wr : World) : Prop where
  it : ∃ (k : Nat) (Sf Wh : ByteArray) (lo : List UInt8) (F : Nat → Prop), k ≤ n ∧ iv = .int .i64 k ∧ sv = .string Sf ∧ wv = .string Wh ∧ Wh.data.toList = Sf.data.toList ++ lo ∧ Wh.size ≤ 150000000000000 ∧ St w0 wr p F ⟨Sf.data.toList, lo, 0, 0, false⟩

theorem safe_out (A : Option Addr) (n c : Nat) (m : Int) (w : World) (hn : n ≤ maxLen) (h : 200 < n ∨ m < 0 ∨ (n : Int) < m) :
    Calls Try.prog 4 #[.slice A n c, .int .i64 m] w fun e w' => e = .returned (.bool true) ∧ Below w.heap.size w w' := by
  unfold maxLen at hn
  have HH := Lib.hid h
  clear h
  go_enter Try.func4, Try.ntmps4
  by_cases h1 : 200 < n
  · have q2 : (200 : Int) < n := by omega
    go_wp2_with (go_at_call 7; refine (anchor_any _).mono ?_; rintro e w1 ⟨rfl, hb1⟩; have HB := Lib.hid hb1; clear hb1)
    go_ret
    exact ⟨rfl, HB.out⟩
  have q2 : ¬ (200 : Int) < n := by omega
  by_cases h2 : m < 0
  · go_wp2_with (go_at_call 7; refine (anchor_any _).mono ?_; rintro e w1 ⟨rfl, hb1⟩; have HB := Lib.hid hb1; clear hb1)
    go_ret
    exact ⟨rfl, HB.out⟩
  have h3 : (n : Int) < m := (HH.out.resolve_left h1).resolve_left h2
  go_wp2_with (go_at_call 7; refine (anchor_any _).mono ?_; rintro e w1 ⟨rfl, hb1⟩; have HB := Lib.hid hb1; clear hb1)
  go_ret
  exact ⟨rfl, HB.out⟩

set_option maxHeartbeats 3200000 in
set_option maxRecDepth 100000 in
theorem safe_in (A : Option Addr) (n c : Nat) (m : Int) (ss : List ByteArray) (w : World) (hr : RowIn w A n (ss.map Value.string)) (hs : ∀ s ∈ ss, s.size ≤ 140737488351232) (h : ¬ (200 < n ∨ m < 0 ∨ (n : Int) < m)) :
    Calls Try.prog 4 #[.slice A n c, .int .i64 m] w fun e w' => e = .returned (.bool true) ∧ Below w.heap.size w w' := by
  have q1 : ¬ (200 : Int) < n := by omega
  have q2 : ¬ m < 0 := by omega
  have q3 : ¬ (n : Int) < m := by omega
  have HN := Lib.hid (show n ≤ 200 by omega)
  have HS := Lib.hid hs
  clear h hs
  obtain ⟨w0, hw0⟩ : ∃ w0 : World, w0 = w := ⟨_, rfl⟩
  have B0 : Hid (Below w0.heap.size w0 w) := by rw [← hw0]; exact Lib.hid (Below.refl w0.heap.size w0)
  have HR : Hid (RowIn w0 A n (ss.map Value.string)) := by rw [hw0]; exact Lib.hid hr
  suffices h : Calls Try.prog 4 #[.slice A n c, .int .i64 m] w fun e w' => e = .returned (.bool true) ∧ Below w0.heap.size w0 w' by
    rw [hw0] at h; exact h
  clear hw0 hr
  go_enter Try.func4, Try.ntmps4
  go_wp2_with (go_at_call 7; refine (anchor_any _).mono ?_; rintro e w1 ⟨rfl, hb1⟩; have HB := Lib.hid hb1; clear hb1)
  refine (st_new (B0.out.trans (HB.out.mono B0.out.size))).mono ?_
  rintro e w2 ⟨rfl, h, _⟩
  have H1 := Lib.hid h
  obtain ⟨p, hp⟩ : ∃ p, w1.heap.size = p := ⟨_, rfl⟩
  rw [hp] at H1
  rw [hp]
  clear h hp
  go_wp2_with (fail)
  go_loopw [6, 7, 36] (fun sv wv iv wr => SafeRel w0 p n sv wv iv wr) (fun _ _ iv _ => n - (intOf iv).toNat)
  case atStart => exact ⟨⟨0, ⟨#[]⟩, ⟨#[]⟩, [], _, Nat.zero_le _, rfl, rfl, rfl, rfl, Nat.zero_le _, H1.out⟩⟩
  case round =>
    obtain ⟨⟨k, Sf, Wh, lo, F, hk, rfl, rfl, rfl, hwh, hlen, hst⟩⟩ := hrel
    have HST := Lib.hid hst
    have HL := Lib.hid hlen
    have HW := Lib.hid hwh
    clear hst hlen hwh
    by_cases hlt : k < n
    · obtain ⟨b, off, rfl, hb, hc⟩ := HR.out.cell (by omega)
      have hlen' : k < ss.length := by have := HR.out.len; simp at this; omega
      obtain ⟨s, hs⟩ : ∃ s, s = ss[k] := ⟨_, rfl⟩
      have hcell := (HST.out.2.1.cell (p := ⟨b, off + k, none⟩) hb).trans (hc k (.string s) (by simp [List.getElem?_eq_getElem hlen', hs]))
      have hsz := Lib.hid (show s.size ≤ 140737488351232 by rw [hs]; exact HS.out ss[k] (List.getElem_mem hlen'))
      clear hb hc hs
      by_cases hbig : 50000 < Wh.size
      · have q4 : (50000 : Int) < Wh.size := by omega
        go_wp2
        go_ret
        exact ⟨rfl, HST.out.2.1⟩
      · have q4 : ¬ (50000 : Int) < Wh.size := by omega
        have qa : ∀ w', (Op.stringOp .add Wh s).run Try.prog w' = .ok (.string (Wh ++ s)) w' := fun w' => run_string_add_sum w' _ _ (by have := hsz.out; omega)
        have hwl : Wh.size = Sf.data.toList.length + lo.length := by rw [← len_data Wh, HW.out, List.length_append]
        have HRM := Lib.hid (show Room ⟨Sf.data.toList, lo ++ s.data.toList, 0, 0, false⟩ by have := hsz.out; unfold Room; simp only [List.length_append, len_data] at *; omega)
        have HWS := Lib.hid (show (Wh ++ s).data.toList = Sf.data.toList ++ (lo ++ s.data.toList) by simp [ByteArray.data_append, HW.out])
        have HWZ := Lib.hid (show (Wh ++ s).size ≤ 150000000000000 by have := hsz.out; rw [ByteArray.size_append]; omega)
        clear hwl
        by_cases hsy : (k : Int) + 1 = m
        · have q5 : ((k : Int) + 1 == m) = true := by simpa using hsy
          have HSY := Lib.hid hsy
          clear hsy
          go_wp2_with (go_at_call 9; refine (st_add (c := 0) (x' := ⟨Sf.data.toList, lo ++ s.data.toList, 0, 0, false⟩) HST.out s HRM.out rfl).mono ?_; rintro e w3 ⟨rfl, F3, h3, _⟩; have H3 := Lib.hid h3; clear h3)
          refine (st_sync (c := 0) (x' := ⟨(Wh ++ s).data.toList, [], 0, 0, false⟩) H3.out (by rw [HWS.out]; rfl)).mono ?_
          rintro e w4 ⟨rfl, F4, h4, _⟩
          have H4 := Lib.hid h4
          clear h4
          go_wp2
          go_roundw
          case rel => exact ⟨⟨k + 1, Wh ++ s, Wh ++ s, [], F4, by omega, by go_num, rfl, rfl, by simp, HWZ.out, H4.out⟩⟩
          case measure => simp [intOf]; omega
        · have q5 : ((k : Int) + 1 == m) = false := by simpa using hsy
          have HSY := Lib.hid hsy
          clear hsy
          go_wp2_with (go_at_call 9; refine (st_add (c := 0) (x' := ⟨Sf.data.toList, lo ++ s.data.toList, 0, 0, false⟩) HST.out s HRM.out rfl).mono ?_; rintro e w3 ⟨rfl, F3, h3, _⟩; have H3 := Lib.hid h3; clear h3)
          go_roundw
          case rel => exact ⟨⟨k + 1, Sf, Wh ++ s, lo ++ s.data.toList, F3, by omega, by go_num, rfl, rfl, HWS.out, HWZ.out, H3.out⟩⟩
          case measure => simp [intOf]; omega
    · have q4 : ¬ (k : Int) < n := by omega
      go_wp2_with (fail)
      refine (st_read (c := 0) (s := Wh.data.toList) HST.out (by rw [HW.out]; rfl)).mono ?_
      rw [mk_data]
      rintro e w3 ⟨rfl, F3, h3, _⟩
      have H3 := Lib.hid h3
      clear h3
      go_wp2_with (fail)
      refine (st_restart (x' := ⟨Sf.data.toList, [], 0, 0, false⟩) H3.out rfl).mono ?_
      rintro e w4 ⟨rfl, F4, h4, _⟩
      have H4 := Lib.hid h4
      clear h4
      go_wp2_with (fail)
      refine (st_read (c := 0) (s := Sf.data.toList) H4.out (by simp [FD.read])).mono ?_
      rw [mk_data]
      rintro e w5 ⟨rfl, F5, h5, _⟩
      have H5 := Lib.hid h5
      clear h5
      go_wp2_with (fail)
      refine (st_restart (x' := ⟨Sf.data.toList, [], 0, 0, false⟩) H5.out rfl).mono ?_
      rintro e w6 ⟨rfl, F6, h6, _⟩
      have H6 := Lib.hid h6
      clear h6
      go_wp2_with (fail)
      refine (st_read (c := 0) (s := Sf.data.toList) H6.out (by simp [FD.read])).mono ?_
      rw [mk_data]
      rintro e w7 ⟨rfl, F7, h7, _⟩
      have H7 := Lib.hid h7
      clear h7
      go_wp2
      go_ret
      exact ⟨rfl, H7.out.2.1⟩

theorem safe_any (A : Option Addr) (n c : Nat) (m : Int) (ss : List ByteArray) (w : World) (hr : RowIn w A n (ss.map Value.string)) (hs : ∀ s ∈ ss, s.size ≤ 140737488351232) :
    Calls Try.prog 4 #[.slice A n c, .int .i64 m] w fun e w' => e = .returned (.bool true) ∧ Below w.heap.size w w' := by
  by_cases h : 200 < n ∨ m < 0 ∨ (n : Int) < m
  · exact safe_out A n c m w hr.max h
  · exact safe_in A n c m ss w hr hs h
end Go.Proofs.Ytjcdbijlpimlhaa.Disk
