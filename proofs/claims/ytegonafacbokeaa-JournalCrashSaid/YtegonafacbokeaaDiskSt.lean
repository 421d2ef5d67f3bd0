/-
  The calls of the package disk, told as steps of one file of a law's own: what each answers and what it makes of the file.
-/
import Derived.Test.YtegonafacbokeaaDisk3
namespace Go.Proofs.Ytegonafacbokeaa.Disk
open Go.RowKit Go.Proofs.YtegonafacbokeaaBase Go.Proofs.YtegonafacbokeaaLex
set_option linter.unusedVariables false
set_option linter.unusedSimpArgs false

def FD.add (x : FD) (d : List UInt8) : Int × FD := if x.down then (170, x) else (if x.burns then 140 else 0, FD.burn { x with loose := x.loose ++ d })
def FD.sync (x : FD) : Int × FD := if x.down then (170, x) else if x.burns then (140, x.burn) else (0, ⟨x.safe ++ x.loose, [], x.fuse - 1, x.keep, x.down⟩)
def FD.cut (x : FD) (n : Int) : Int × FD :=
  if x.down then (170, x) else if n < 0 ∨ (x.safe.length : Int) + x.loose.length < n then (141, x) else if x.burns then (140, x.burn) else (0, ⟨(x.safe ++ x.loose).take n.toNat, [], x.fuse - 1, x.keep, x.down⟩)
def FD.arm (x : FD) (o k : Int) : Int × FD := if o < 1 ∨ 65536 < o ∨ k < 0 ∨ 2 < k then (141, x) else (0, { x with fuse := o.toNat, keep := k.toNat })
def FD.restart (x : FD) : FD := ⟨x.safe, if x.down then x.loose else [], 0, x.keep, false⟩
def FD.read (x : FD) : List UInt8 × Int := if x.down then ([], 170) else (x.safe ++ x.loose, 0)
def FD.new : FD := ⟨[], [], 0, 0, false⟩

/-- The law's file: at block p, of the law's own memory; what was there before is as it was. -/
def St (w0 w : World) (p : Nat) (F : Nat → Prop) (x : FD) : Prop := FileAt w0.heap.size w p F x ∧ Below w0.heap.size w0 w ∧ Good x ∧ Room x
/-- .. behind a step: what isn't the file's is kept. -/
def Next (w0 w w' : World) (p : Nat) (F : Nat → Prop) (x : FD) : Prop := ∃ F', St w0 w' p F' x ∧ (∀ k, F' k → F k ∨ w.heap.size ≤ k) ∧ Kept w w' F

theorem Good.burn {x : FD} (h : Good x) : Good x.burn := by
  unfold Good at *; unfold FD.burn
  split
  · exact ⟨Nat.zero_le _, h.2⟩
  · exact ⟨by have := h.1; simp only; omega, h.2⟩
theorem Room.burn {x : FD} (h : Room x) : Room x.burn := by
  unfold Room at *; unfold FD.burn
  split
  · simp; have := List.length_take_le x.kept x.loose; omega
  · exact h

theorem St.next {w0 w w' : World} {p : Nat} {F : Nat → Prop} {x x' : FD} (h : St w0 w p F x) (hm : Moved w0.heap.size w w' p F x') (hg : Good x') (hr : Room x') : Next w0 w w' p F x' := by
  obtain ⟨F', hf, hF, hk⟩ := hm
  exact ⟨F', ⟨hf, h.2.1.trans (hk.below (fun k hk => h.1.base_le k hk) h.2.1.size), hg, hr⟩, hF, hk⟩
theorem Next.refl {w0 w : World} {p : Nat} {F : Nat → Prop} {x : FD} (h : St w0 w p F x) : Next w0 w w p F x := ⟨F, h, fun k hk => .inl hk, Kept.refl _ _⟩
theorem St.drewN {w0 w : World} {p : Nat} {F : Nat → Prop} {x : FD} (h : St w0 w p F x) (n : Nat) : St w0 (w.drewN n) p F x := ⟨h.1, ⟨h.2.1.os, h.2.1.tape, h.2.1.output, h.2.1.size, h.2.1.block⟩, h.2.2⟩
theorem Next.drewN {w0 w : World} {p : Nat} {F : Nat → Prop} {x : FD} (h : St w0 w p F x) (n : Nat) : Next w0 w (w.drewN n) p F x := ⟨F, h.drewN n, fun k hk => .inl hk, (Kept.refl _ _).drewN n⟩

section
variable {w0 w : World} {p : Nat} {F : Nat → Prop} {x x' : FD} {c : Int}
theorem st_add (h : St w0 w p F x) (d : ByteArray) (hr : Room { x with loose := x.loose ++ d.data.toList }) (hc : x.add d.data.toList = (c, x')) :
    Calls Try.prog 25 #[.pointer (some ⟨p, 0, none⟩), .string d] w fun e w' => e = .returned (.int .i64 c) ∧ Next w0 w w' p F x' := by
  unfold FD.add at hc
  cases hd : x.down
  · rw [hd] at hc
    simp only [Bool.false_eq_true, if_false, Prod.mk.injEq] at hc
    obtain ⟨rfl, rfl⟩ := hc
    refine (add_up w0.heap.size p F x d w h.1 hd hr h.2.2.1).mono ?_
    rintro e w' ⟨rfl, hm⟩
    rw [hd] at hm
    have hg : Good (⟨x.safe, x.loose ++ d.data.toList, x.fuse, x.keep, false⟩ : FD) := h.2.2.1
    have hr' : Room (⟨x.safe, x.loose ++ d.data.toList, x.fuse, x.keep, false⟩ : FD) := hr
    exact ⟨rfl, h.next hm hg.burn hr'.burn⟩
  · rw [hd] at hc
    simp only [if_true, Prod.mk.injEq] at hc
    obtain ⟨rfl, rfl⟩ := hc
    refine (add_down w0.heap.size p F x d w h.1 hd).mono ?_
    rintro e w' ⟨rfl, rfl⟩
    exact ⟨rfl, Next.refl h⟩

theorem st_sync (h : St w0 w p F x) (hc : x.sync = (c, x')) :
    Calls Try.prog 26 #[.pointer (some ⟨p, 0, none⟩)] w fun e w' => e = .returned (.int .i64 c) ∧ Next w0 w w' p F x' := by
  unfold FD.sync at hc
  cases hd : x.down
  · rw [hd] at hc
    simp only [Bool.false_eq_true, if_false] at hc
    cases hb : x.burns
    · rw [hb] at hc
      simp only [Bool.false_eq_true, if_false, Prod.mk.injEq] at hc
      obtain ⟨rfl, rfl⟩ := hc
      refine (sync_up w0.heap.size p F x w h.1 hd h.2.2.2 h.2.2.1 hb).mono ?_
      rintro e w' ⟨rfl, hm⟩
      have hr := h.2.2.2
      rw [hd] at hm
      exact ⟨rfl, h.next hm ⟨by have := h.2.2.1.1; simp only; omega, h.2.2.1.2⟩ (by unfold Room at *; simp; omega)⟩
    · rw [hb] at hc
      simp only [if_true, Prod.mk.injEq] at hc
      obtain ⟨rfl, rfl⟩ := hc
      refine (sync_crash w0.heap.size p F x w h.1 hd h.2.2.2 h.2.2.1 hb).mono ?_
      rintro e w' ⟨rfl, hm⟩
      exact ⟨rfl, h.next hm h.2.2.1.burn h.2.2.2.burn⟩
  · rw [hd] at hc
    simp only [if_true, Prod.mk.injEq] at hc
    obtain ⟨rfl, rfl⟩ := hc
    refine (sync_down w0.heap.size p F x w h.1 hd).mono ?_
    rintro e w' ⟨rfl, rfl⟩
    exact ⟨rfl, Next.refl h⟩

theorem st_cut (h : St w0 w p F x) (n : Int) (hc : x.cut n = (c, x')) :
    Calls Try.prog 24 #[.pointer (some ⟨p, 0, none⟩), .int .i64 n] w fun e w' => e = .returned (.int .i64 c) ∧ Next w0 w w' p F x' := by
  unfold FD.cut at hc
  cases hd : x.down
  · rw [hd] at hc
    simp only [Bool.false_eq_true, if_false] at hc
    by_cases hn : n < 0
    · rw [if_pos (.inl hn)] at hc
      simp only [Prod.mk.injEq] at hc
      obtain ⟨rfl, rfl⟩ := hc
      refine (cut_neg w0.heap.size p F x n w h.1 hd hn).mono ?_
      rintro e w' ⟨rfl, rfl⟩
      exact ⟨rfl, Next.drewN h 1⟩
    by_cases hf : (x.safe.length : Int) + x.loose.length < n
    · rw [if_pos (.inr hf)] at hc
      simp only [Prod.mk.injEq] at hc
      obtain ⟨rfl, rfl⟩ := hc
      refine (cut_far w0.heap.size p F x n w h.1 hd h.2.2.2 hn hf).mono ?_
      rintro e w' ⟨rfl, rfl⟩
      exact ⟨rfl, Next.drewN h 1⟩
    rw [if_neg (by omega)] at hc
    obtain ⟨m, rfl⟩ : ∃ m : Nat, n = m := ⟨n.toNat, by omega⟩
    cases hb : x.burns
    · rw [hb] at hc
      simp only [Bool.false_eq_true, if_false, Prod.mk.injEq] at hc
      obtain ⟨rfl, rfl⟩ := hc
      refine (cut_up w0.heap.size p F x m w h.1 hd h.2.2.2 h.2.2.1 (by omega) hb).mono ?_
      rintro e w' ⟨rfl, hm⟩
      have hr := h.2.2.2
      rw [hd] at hm
      exact ⟨rfl, h.next hm ⟨by have := h.2.2.1.1; simp only; omega, h.2.2.1.2⟩ (by unfold Room at *; simp; omega)⟩
    · rw [hb] at hc
      simp only [if_true, Prod.mk.injEq] at hc
      obtain ⟨rfl, rfl⟩ := hc
      refine (cut_crash w0.heap.size p F x m w h.1 hd h.2.2.2 h.2.2.1 (by omega) hb).mono ?_
      rintro e w' ⟨rfl, hm⟩
      exact ⟨rfl, h.next hm h.2.2.1.burn h.2.2.2.burn⟩
  · rw [hd] at hc
    simp only [if_true, Prod.mk.injEq] at hc
    obtain ⟨rfl, rfl⟩ := hc
    refine (cut_down w0.heap.size p F x n w h.1 hd).mono ?_
    rintro e w' ⟨rfl, rfl⟩
    exact ⟨rfl, Next.refl h⟩

theorem st_arm (h : St w0 w p F x) (o k : Int) (hc : x.arm o k = (c, x')) :
    Calls Try.prog 17 #[.pointer (some ⟨p, 0, none⟩), .int .i64 o, .int .i64 k] w fun e w' => e = .returned (.int .i64 c) ∧ Next w0 w w' p F x' := by
  unfold FD.arm at hc
  by_cases hb : o < 1 ∨ 65536 < o ∨ k < 0 ∨ 2 < k
  · rw [if_pos hb] at hc
    simp only [Prod.mk.injEq] at hc
    obtain ⟨rfl, rfl⟩ := hc
    refine (arm_bad w0.heap.size p F x o k w hb).mono ?_
    rintro e w' ⟨rfl, rfl⟩
    exact ⟨rfl, Next.refl h⟩
  · rw [if_neg hb] at hc
    obtain ⟨o', rfl⟩ : ∃ m : Nat, o = m := ⟨o.toNat, by omega⟩
    obtain ⟨k', rfl⟩ : ∃ m : Nat, k = m := ⟨k.toNat, by omega⟩
    simp only [Prod.mk.injEq, Int.toNat_natCast] at hc
    obtain ⟨rfl, rfl⟩ := hc
    refine (arm_ok w0.heap.size p F x o' k' w h.1 (by omega) (by omega) (by omega)).mono ?_
    rintro e w' ⟨rfl, hm⟩
    exact ⟨rfl, h.next hm ⟨by simp only; omega, by simp only; omega⟩ h.2.2.2⟩

theorem st_restart (h : St w0 w p F x) (hc : x.restart = x') :
    Calls Try.prog 16 #[.pointer (some ⟨p, 0, none⟩)] w fun e w' => e = .returned (.tuple #[]) ∧ Next w0 w w' p F x' := by
  subst hc
  refine (restart_any w0.heap.size p F x w h.1).mono ?_
  rintro e w' ⟨rfl, hm⟩
  refine ⟨rfl, h.next hm ⟨Nat.zero_le _, h.2.2.1.2⟩ ?_⟩
  have := h.2.2.2
  unfold Room FD.restart at *
  cases x.down <;> simp <;> omega

theorem st_read (h : St w0 w p F x) {s : List UInt8} (hc : x.read = (s, c)) :
    Calls Try.prog 23 #[.pointer (some ⟨p, 0, none⟩)] w fun e w' => e = .returned (.tuple #[.string ⟨s.toArray⟩, .int .i64 c]) ∧ Next w0 w w' p F x := by
  unfold FD.read at hc
  cases hd : x.down
  · rw [hd] at hc
    simp only [Bool.false_eq_true, if_false, Prod.mk.injEq] at hc
    obtain ⟨rfl, rfl⟩ := hc
    refine (read_up w0.heap.size p F x w h.1 hd h.2.2.2).mono ?_
    rintro e w' ⟨rfl, n, rfl⟩
    exact ⟨rfl, Next.drewN h n⟩
  · rw [hd] at hc
    simp only [if_true, Prod.mk.injEq] at hc
    obtain ⟨rfl, rfl⟩ := hc
    refine (read_down w0.heap.size p F x w h.1 hd).mono ?_
    rintro e w' ⟨rfl, n, rfl⟩
    exact ⟨rfl, Next.drewN h n⟩

theorem st_new (hb : Below w0.heap.size w0 w) :
    Calls Try.prog 13 #[] w fun e w' => e = .returned (.pointer (some ⟨w.heap.size, 0, none⟩)) ∧ St w0 w' w.heap.size (fun k => k = w.heap.size) FD.new ∧ Kept w w' (fun _ => False) := by
  refine (new_any w0.heap.size w hb.size).mono ?_
  rintro e w' ⟨rfl, hf, hk⟩
  exact ⟨rfl, ⟨hf, hb.trans (hk.below (fun k h => h.elim) hb.size), by unfold Good FD.new; simp, by unfold Room FD.new; simp⟩, hk⟩
end

theorem cut_eq_bad {x : FD} {n : Int} (hd : x.down = false) (h : n < 0 ∨ (x.safe.length : Int) + x.loose.length < n) : x.cut n = (141, x) := by
  simp only [FD.cut, hd, Bool.false_eq_true, if_false]
  rw [if_pos h]
theorem cut_eq_ok {x : FD} {n : Int} (hd : x.down = false) (h : ¬ (n < 0 ∨ (x.safe.length : Int) + x.loose.length < n)) (hb : x.burns = false) : x.cut n = (0, ⟨(x.safe ++ x.loose).take n.toNat, [], x.fuse - 1, x.keep, x.down⟩) := by
  simp only [FD.cut, hd, hb, Bool.false_eq_true, if_false]
  rw [if_neg h]

end Go.Proofs.Ytegonafacbokeaa.Disk
