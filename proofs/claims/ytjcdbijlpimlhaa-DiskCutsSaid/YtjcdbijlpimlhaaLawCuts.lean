/-
  DiskCuts walked: for whatever two texts and number it returns true and leaves what was there as it was.
-/
import Derived.Test.YtjcdbijlpimlhaaDiskSt
import Derived.IntWalk
import Derived.Laws.DeepStrings4
namespace Go.Proofs.Ytjcdbijlpimlhaa.Disk
open Go.RowKit Go.Proofs.YtjcdbijlpimlhaaBase Go.Proofs.YtjcdbijlpimlhaaLex
set_option linter.unusedVariables false

theorem cuts_big (a b : ByteArray) (n : Int) (w : World) (ha : a.size ≤ 140737488351232) (hb : b.size ≤ 140737488351232) (h : 5000 < a.size ∨ 5000 < b.size) :
    Calls Try.prog 6 #[.string a, .string b, .int .i64 n] w fun e w' => e = .returned (.bool true) ∧ Below w.heap.size w w' := by
  have HH := Lib.hid h
  clear h
  go_enter Try.func6, Try.ntmps6
  by_cases h1 : 5000 < a.size
  · have q1 : decide (5000 < a.size) = true := by simpa using h1
    have q2 : (5000 : Int) < a.size := by omega
    go_wp2_with (go_at_call 7; refine (anchor_any _).mono ?_; rintro e w1 ⟨rfl, hb1⟩; have HB := Lib.hid hb1; clear hb1)
    go_ret
    exact ⟨rfl, HB.out⟩
  · have h2 : 5000 < b.size := HH.out.resolve_left h1
    have q0 : ¬ (5000 : Int) < a.size := by omega
    have q2 : (5000 : Int) < b.size := by omega
    go_wp2_with (go_at_call 7; refine (anchor_any _).mono ?_; rintro e w1 ⟨rfl, hb1⟩; have HB := Lib.hid hb1; clear hb1)
    go_ret
    exact ⟨rfl, HB.out⟩

set_option maxHeartbeats 1600000 in
theorem cuts_small (a b : ByteArray) (n : Int) (w : World) (ha : a.size ≤ 5000) (hb : b.size ≤ 5000) (hw : -9223372036854775808 ≤ n ∧ n ≤ 9223372036854775807) :
    Calls Try.prog 6 #[.string a, .string b, .int .i64 n] w fun e w' => e = .returned (.bool true) ∧ Below w.heap.size w w' := by
  have q0 : ¬ (5000 : Int) < a.size := by omega
  have q2 : ¬ (5000 : Int) < b.size := by omega
  have qw : IntKind.i64.wrap ((a.size : Int) + b.size) = (a.size : Int) + b.size := IntWalk.i64_in _ (by omega)
  have qs : ∀ w', (Op.stringOp .add a b).run Try.prog w' = .ok (.string (a ++ b)) w' := fun w' => run_string_add_sum w' _ _ (by omega)
  have ra : Room ⟨[], a.data.toList, 0, 0, false⟩ := by unfold Room; simp only [len_data, List.length_nil]; omega
  have rb : Room ⟨a.data.toList, b.data.toList, 0, 0, false⟩ := by unfold Room; simp only [len_data]; omega
  have RA := Lib.hid ra
  have RB := Lib.hid rb
  have HA := Lib.hid ha
  have HBb := Lib.hid hb
  clear ra rb ha hb
  obtain ⟨w0, hw0⟩ : ∃ w0 : World, w0 = w := ⟨_, rfl⟩
  have B0 : Hid (Below w0.heap.size w0 w) := by rw [← hw0]; exact Lib.hid (Below.refl w0.heap.size w0)
  suffices h : Calls Try.prog 6 #[.string a, .string b, .int .i64 n] w fun e w' => e = .returned (.bool true) ∧ Below w0.heap.size w0 w' by
    rw [hw0] at h; exact h
  clear hw0
  go_enter Try.func6, Try.ntmps6
  go_wp2_with (go_at_call 7; refine (anchor_any _).mono ?_; rintro e w1 ⟨rfl, hb1⟩; have HB := Lib.hid hb1; clear hb1)
  refine (st_new (B0.out.trans (HB.out.mono B0.out.size))).mono ?_
  rintro e w2 ⟨rfl, h, _⟩
  have H1 := Lib.hid h
  obtain ⟨p, hp⟩ : ∃ p, w1.heap.size = p := ⟨_, rfl⟩
  rw [hp] at H1
  rw [hp]
  clear h hp
  go_wp2_with (fail)
  refine (st_add (c := 0) (x' := ⟨[], a.data.toList, 0, 0, false⟩) H1.out a RA.out rfl).mono ?_
  rintro e w3 ⟨rfl, F2, h2, _⟩
  have H2 := Lib.hid h2
  clear h2
  go_wp2_with (fail)
  refine (st_sync (c := 0) (x' := ⟨a.data.toList, [], 0, 0, false⟩) H2.out rfl).mono ?_
  rintro e w4 ⟨rfl, F3, h3, _⟩
  have H3 := Lib.hid h3
  clear h3
  go_wp2_with (fail)
  refine (st_add (c := 0) (x' := ⟨a.data.toList, b.data.toList, 0, 0, false⟩) H3.out b RB.out rfl).mono ?_
  rintro e w5 ⟨rfl, F4, h4, _⟩
  have H4 := Lib.hid h4
  clear h4
  go_wp2_with (fail)
  by_cases hbad : n < 0 ∨ (a.size : Int) + b.size < n
  · have hcut : FD.cut ⟨a.data.toList, b.data.toList, 0, 0, false⟩ n = (141, ⟨a.data.toList, b.data.toList, 0, 0, false⟩) := cut_eq_bad rfl (by simp only [len_data]; exact hbad)
    have HC := Lib.hid hcut
    have HBAD := Lib.hid hbad
    clear hcut hbad
    refine (st_cut H4.out n HC.out).mono ?_
    rintro e w6 ⟨rfl, F5, h5, _⟩
    have H5 := Lib.hid h5
    clear h5
    go_wp2_with (fail)
    refine (st_read (c := 0) (s := a.data.toList ++ b.data.toList) H5.out rfl).mono ?_
    rw [mk_add]
    rintro e w7 ⟨rfl, F6, h6, _⟩
    have H6 := Lib.hid h6
    clear h6
    go_wp2_with (fail)
    refine (st_restart (x' := ⟨a.data.toList, [], 0, 0, false⟩) H6.out rfl).mono ?_
    rintro e w8 ⟨rfl, F7, h7, _⟩
    have H7 := Lib.hid h7
    clear h7
    go_wp2_with (fail)
    refine (st_read (c := 0) (s := a.data.toList) H7.out (by simp [FD.read])).mono ?_
    rw [mk_data]
    rintro e w9 ⟨rfl, F8, h8, _⟩
    have H8 := Lib.hid h8
    clear h8
    by_cases hn : n < 0
    · have q3 : decide (n < 0) = true := by simpa using hn
      go_wp2
      go_ret
      exact ⟨rfl, H8.out.2.1⟩
    · have q3 : decide (n < 0) = false := by simpa using hn
      have q4 : (a.size : Int) + b.size < n := HBAD.out.resolve_left hn
      go_wp2
      go_ret
      exact ⟨rfl, H8.out.2.1⟩
  · obtain ⟨m, rfl⟩ : ∃ m : Nat, n = m := ⟨n.toNat, by omega⟩
    have hcut : FD.cut ⟨a.data.toList, b.data.toList, 0, 0, false⟩ m = (0, ⟨(a.data.toList ++ b.data.toList).take m, [], 0, 0, false⟩) := (cut_eq_ok rfl (by simp only [len_data]; exact hbad) rfl).trans (by simp)
    have HC := Lib.hid hcut
    have q3 : decide ((m : Int) < 0) = false := by simp
    have q4 : ¬ (a.size : Int) + b.size < m := by omega
    have q5 : m ≤ a.size + b.size := by omega
    clear hcut hbad
    refine (st_cut H4.out m HC.out).mono ?_
    rintro e w6 ⟨rfl, F5, h5, _⟩
    have H5 := Lib.hid h5
    clear h5
    have hs : (a ++ b).data.toList = a.data.toList ++ b.data.toList := by simp [ByteArray.data_append]
    have HS := Lib.hid hs
    clear hs
    go_wp2_with (fail)
    refine (st_read (c := 0) (s := (a.data.toList ++ b.data.toList).take m) H5.out (by simp [FD.read])).mono ?_
    rw [← HS.out, mk_take]
    rintro e w7 ⟨rfl, F6, h6, _⟩
    have H6 := Lib.hid h6
    clear h6
    go_wp2_with (fail)
    refine (st_restart (x' := ⟨(a.data.toList ++ b.data.toList).take m, [], 0, 0, false⟩) H6.out rfl).mono ?_
    rintro e w8 ⟨rfl, F7, h7, _⟩
    have H7 := Lib.hid h7
    clear h7
    go_wp2_with (fail)
    refine (st_read (c := 0) (s := (a.data.toList ++ b.data.toList).take m) H7.out (by simp [FD.read])).mono ?_
    rw [← HS.out, mk_take]
    rintro e w9 ⟨rfl, F8, h8, _⟩
    have H8 := Lib.hid h8
    clear h8
    have q6 : (m : Int) ≤ (a ++ b).size := by rw [ByteArray.size_append]; omega
    go_wp2
    go_ret
    exact ⟨rfl, H8.out.2.1⟩
theorem cuts_any (a b : ByteArray) (n : Int) (w : World) (ha : a.size ≤ 140737488351232) (hb : b.size ≤ 140737488351232) (hw : -9223372036854775808 ≤ n ∧ n ≤ 9223372036854775807) :
    Calls Try.prog 6 #[.string a, .string b, .int .i64 n] w fun e w' => e = .returned (.bool true) ∧ Below w.heap.size w w' := by
  by_cases h : 5000 < a.size ∨ 5000 < b.size
  · exact cuts_big a b n w ha hb h
  · exact cuts_small a b n w (by omega) (by omega) hw

end Go.Proofs.Ytjcdbijlpimlhaa.Disk
