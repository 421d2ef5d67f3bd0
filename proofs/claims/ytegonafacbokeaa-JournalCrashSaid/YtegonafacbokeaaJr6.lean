/-
  JournalCrash: what a crash leaves, plainly; a journal that is down.
-/
import Derived.Test.YtegonafacbokeaaJr5
namespace Go.Proofs.Ytegonafacbokeaa.Codec
open Go.RowKit Go.Proofs.YtegonafacbokeaaBase Go.Proofs.YtegonafacbokeaaLex2 Go.Proofs.YtegonafacbokeaaNum
set_option linter.unusedVariables false
set_option linter.unusedSimpArgs false

/-- The file behind so many records, with what survives a crash. -/
def fileK (ts : List (List UInt8)) (kp : Nat) : Disk.FD := ⟨ts.flatMap frameS, [], 0, kp, false⟩
theorem addJ_fileK (ts : List (List UInt8)) (t : List UInt8) (kp : Nat) : addJ (fileK ts kp) (frameS t) = (0, fileK (ts ++ [t]) kp) := by
  unfold addJ fileK
  simp [Disk.FD.add, Disk.FD.sync, Disk.FD.burns, Disk.FD.burn]
theorem opened_fileK (ts : List (List UInt8)) (kp : Nat) (h : ∀ t ∈ ts, t.length ≤ 1048576) : Opened (fileK ts kp) = (ts, fileK ts kp) := by
  have h1 := scanL_frames ts [] h nextS_nil
  rw [List.append_nil] at h1
  unfold Opened fileK
  simp only [List.append_nil, h1]
  rw [if_neg (Nat.lt_irrefl _)]
theorem restart_fileK (ts : List (List UInt8)) (kp : Nat) : (fileK ts kp).restart = fileK ts kp := by unfold fileK; simp [Disk.FD.restart]
/-- What a torn record leaves is cut away. -/
theorem opened_torn (ts : List (List UInt8)) (t part : List UInt8) (kp : Nat) (h : ∀ u ∈ ts, u.length ≤ 1048576) (ht : t.length ≤ 1048576) (hp : part <+: frameS t) (hl : part.length < (frameS t).length) :
    Opened ⟨ts.flatMap frameS ++ part, [], 0, kp, false⟩ = (ts, fileK ts kp) := by
  have h1 := scanL_frames ts part h (nextS_cut ht hp hl)
  unfold Opened fileK
  simp only [List.append_nil, h1]
  by_cases h0 : part = []
  · subst h0
    rw [List.append_nil, if_neg (Nat.lt_irrefl _)]
  · have := List.length_pos_iff.2 h0
    rw [if_pos (by rw [List.length_append]; omega)]
    simp

set_option maxRecDepth 100000 in
theorem jopen_down (w0 w : World) (p : Nat) (F : Nat → Prop) (x : Disk.FD) (h : Disk.St w0 w p F x) (hd : x.down = true) : Calls Try.prog 14 #[.pointer (some ⟨p, 0, none⟩)] w fun e w' => e = .returned (.tuple #[.pointer none, .slice none 0 0, .int .i64 170]) ∧ Disk.Next w0 w w' p F x := by
  have hrd : x.read = ([], 170) := by unfold Disk.FD.read; rw [hd]; rfl
  have HH := Lib.hid h
  have HRD := Lib.hid hrd
  clear h hd hrd
  go_enter Try.func14, Try.ntmps14
  go_wp2_with (fail)
  refine (Disk.st_read HH.out HRD.out).mono ?_
  rintro e w1 ⟨rfl, hn⟩
  have N := Lib.hid hn
  clear hn
  go_wp2
  go_ret3
  exact ⟨rfl, N.out⟩

/-- What of a record survives. -/
def part (kp : Nat) (f : List UInt8) : List UInt8 := f.take (if kp = 1 then f.length / 2 else if kp = 2 then f.length else 0)
theorem addJ_crash1 (fr f : List UInt8) (kp : Nat) (hk : kp ≤ 2) : addJ ⟨fr, [], 1, kp, false⟩ f = (140, ⟨fr ++ part kp f, [], 0, kp, true⟩) := by
  have : kp = 0 ∨ kp = 1 ∨ kp = 2 := by omega
  rcases this with rfl | rfl | rfl <;> simp [addJ, part, Disk.FD.add, Disk.FD.burns, Disk.FD.burn, Disk.FD.kept]
theorem addJ_crash2 (fr f : List UInt8) (kp : Nat) (hk : kp ≤ 2) : addJ ⟨fr, [], 2, kp, false⟩ f = (140, ⟨fr ++ part kp f, [], 0, kp, true⟩) := by
  have : kp = 0 ∨ kp = 1 ∨ kp = 2 := by omega
  rcases this with rfl | rfl | rfl <;> simp [addJ, part, Disk.FD.add, Disk.FD.sync, Disk.FD.burns, Disk.FD.burn, Disk.FD.kept]
theorem addJ_crash3 (fr f : List UInt8) (kp : Nat) : addJ ⟨fr, [], 3, kp, false⟩ f = (0, ⟨fr ++ f, [], 1, kp, false⟩) := by
  simp [addJ, Disk.FD.add, Disk.FD.sync, Disk.FD.burns, Disk.FD.burn]
end Go.Proofs.Ytegonafacbokeaa.Codec
