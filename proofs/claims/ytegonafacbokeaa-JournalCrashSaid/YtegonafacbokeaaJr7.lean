/-
  JournalCrash walked.
-/
import Derived.Test.YtegonafacbokeaaJr6
namespace Go.Proofs.Ytegonafacbokeaa.Codec
open Go.RowKit Go.Proofs.YtegonafacbokeaaBase Go.Proofs.YtegonafacbokeaaLex2 Go.Proofs.YtegonafacbokeaaNum
set_option linter.unusedVariables false
set_option linter.unusedSimpArgs false

set_option maxHeartbeats 3200000 in
set_option maxRecDepth 100000 in
theorem jcrash_out (A : Option Addr) (n c : Nat) (last : ByteArray) (op kp : Int) (w : World) (hn : n ≤ maxLen) (hs : last.size ≤ 140737488351232) (h : 60 < n ∨ 500 < last.size ∨ op < 1 ∨ 3 < op ∨ kp < 0 ∨ 2 < kp) : Calls Try.prog 6 #[.slice A n c, .string last, .int .i64 op, .int .i64 kp] w fun e w' => e = .returned (.bool true) ∧ Below w.heap.size w w' := by
  unfold maxLen at hn
  have HH := Lib.hid h
  clear h
  go_enter Try.func6, Try.ntmps6
  go_wp2_with (fail)
  refine (janchor_any _).mono ?_
  rintro e w1 ⟨rfl, hk⟩
  have K1 := Lib.hid hk
  clear hk
  by_cases h1 : 60 < n
  · have q : (60 : Int) < n := by omega
    go_wp2
    go_ret
    exact ⟨rfl, K1.out.nil_below⟩
  have q1 : ¬ (60 : Int) < n := by omega
  by_cases h2 : 500 < last.size
  · have q : (500 : Int) < last.size := by omega
    go_wp2
    go_ret
    exact ⟨rfl, K1.out.nil_below⟩
  have q2 : ¬ (500 : Int) < last.size := by omega
  by_cases h3 : op < 1
  · go_wp2
    go_ret
    exact ⟨rfl, K1.out.nil_below⟩
  by_cases h4 : 3 < op
  · go_wp2
    go_ret
    exact ⟨rfl, K1.out.nil_below⟩
  by_cases h5 : kp < 0
  · go_wp2
    go_ret
    exact ⟨rfl, K1.out.nil_below⟩
  have h6 : 2 < kp := ((((HH.out.resolve_left h1).resolve_left h2).resolve_left h3).resolve_left h4).resolve_left h5
  go_wp2
  go_ret
  exact ⟨rfl, K1.out.nil_below⟩

theorem arm_ok {ts : List (List UInt8)} {op kp : Nat} (h1 : 1 ≤ op) (h2 : op ≤ 3) (hk : kp ≤ 2) : (fileOf ts).arm op kp = (0, ⟨ts.flatMap frameS, [], op, kp, false⟩) := by
  unfold Disk.FD.arm fileOf
  rw [if_neg (by omega)]
  simp
theorem restart_part (s f : List UInt8) (kp : Nat) : Disk.FD.restart ⟨s ++ f, [], 0, kp, true⟩ = ⟨s ++ f, [], 0, kp, false⟩ := by simp [Disk.FD.restart]
theorem restart_whole (s f : List UInt8) (kp : Nat) : Disk.FD.restart ⟨s ++ f, [], 1, kp, false⟩ = ⟨s ++ f, [], 0, kp, false⟩ := by simp [Disk.FD.restart]
theorem opened_whole (ts : List (List UInt8)) (t : List UInt8) (kp : Nat) (h : ∀ u ∈ ts, u.length ≤ 1048576) (ht : t.length ≤ 1048576) : Opened ⟨ts.flatMap frameS ++ frameS t, [], 0, kp, false⟩ = (ts ++ [t], fileK (ts ++ [t]) kp) := by
  have := opened_fileK (ts ++ [t]) kp (fun u hu => by
    rcases List.mem_append.1 hu with hu | hu
    · exact h u hu
    · rw [List.mem_singleton.1 hu]; exact ht)
  unfold fileK at *
  simpa using this
theorem part_torn (f : List UInt8) (kp : Nat) (h : kp ≤ 1) (hf : 2 ≤ f.length) : part kp f <+: f ∧ (part kp f).length < f.length := by
  unfold part
  refine ⟨List.take_prefix _ _, ?_⟩
  rw [List.length_take]
  split
  · omega
  · rw [if_neg (by omega)]; omega
theorem part_whole (f : List UInt8) : part 2 f = f := by unfold part; simp
end Go.Proofs.Ytegonafacbokeaa.Codec
