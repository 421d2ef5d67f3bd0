/-
  The package codec's reader and its numbers, walked.
-/
import Derived.Test.YtcnikobmepjgcaaCodec2
import Derived.Test.YtcnikobmepjgcaaRd
import Derived.BigQuiet
namespace Go.Proofs.Ytcnikobmepjgcaa.Codec
open Go.RowKit Go.Proofs.YtcnikobmepjgcaaBase Go.Proofs.YtcnikobmepjgcaaLex2 Go.Proofs.YtcnikobmepjgcaaNum
set_option linter.unusedVariables false
set_option linter.unusedSimpArgs false

def ReaderAt (w : World) (p : Nat) (d : ByteArray) (s : RS) : Prop :=
  ∃ at_ : Nat, w.heap[p]? = some (.cells #[.string d, .int .i64 at_, .int .i64 s.err] 133 (0, 0)) ∧ at_ ≤ d.size ∧ s.rest = d.data.toList.drop at_
def RMoved (w w' : World) (p : Nat) (d : ByteArray) (s' : RS) : Prop := ReaderAt w' p d s' ∧ Kept w w' (fun k => k = p)
def DSize (d : ByteArray) : Prop := d.size ≤ 200000000000000

theorem _root_.Go.Proofs.YtcnikobmepjgcaaBase.Kept.pre_drewN {w w' : World} {F : Nat → Prop} {n : Nat} (h : Kept (w.drewN n) w' F) : Kept w w' F := ⟨h.os, h.tape, h.output, h.size, h.block⟩
theorem ReaderAt.drewN {w : World} {p : Nat} {d : ByteArray} {s : RS} (h : ReaderAt w p d s) (n : Nat) : ReaderAt (w.drewN n) p d s := h
theorem RMoved.trans {w w1 w2 : World} {p : Nat} {d : ByteArray} {s1 s2 : RS} (h1 : RMoved w w1 p d s1) (h2 : RMoved w1 w2 p d s2) : RMoved w w2 p d s2 := ⟨h2.1, h1.2.trans h2.2 fun k hk => .inl hk⟩
theorem RMoved.refl {w : World} {p : Nat} {d : ByteArray} {s : RS} (h : ReaderAt w p d s) : RMoved w w p d s := ⟨h, Kept.refl _ _⟩

theorem rfail_any (p : Nat) (d : ByteArray) (s : RS) (e : Int) (w : World) (h : ReaderAt w p d s) :
    Calls Try.prog 60 #[.pointer (some ⟨p, 0, none⟩), .int .i64 e] w fun r w' => r = .returned (.tuple #[]) ∧ RMoved w w' p d (s.fail e) := by
  have HW := Lib.hid h
  obtain ⟨a, hb, ha, hr⟩ := h
  have c1 := cellOf (j := 2) hb
  simp at c1
  have f1 := freeOf (j := 2) hb
  have HB := Lib.hid hb
  have HA := Lib.hid ha
  have HR := Lib.hid hr
  clear hb ha hr
  by_cases h0 : s.err = 0
  · rw [h0] at c1
    have H0 := Lib.hid h0
    clear h0
    go_enter Try.func60, Try.ntmps60
    go_wp2
    go_end0
    refine ⟨rfl, ⟨a, ?_, HA.out, ?_⟩, (Kept.refl w (fun k => k = p)).setCell (p := ⟨p, _, none⟩) (.inl rfl) _⟩
    · have := blk_set HB.out 2 (.int .i64 e)
      simpa [RS.fail, H0.out] using this
    · rw [← HR.out]; unfold RS.fail; split <;> rfl
  · have h0' : (s.err == 0) = false := by simpa using h0
    have H0 := Lib.hid h0
    clear h0
    go_enter Try.func60, Try.ntmps60
    go_wp2
    go_end0
    have : s.fail e = s := by unfold RS.fail; rw [if_neg H0.out]
    rw [this]
    exact ⟨rfl, RMoved.refl HW.out⟩

theorem drop_take_mk (d : ByteArray) (a n : Nat) : d.extract a (a + n) = ⟨((d.data.toList.drop a).take n).toArray⟩ := by
  apply ByteArray.ext
  rw [ByteArray.data_extract]
  apply Array.ext'
  simp [List.drop_take]

theorem take_any (p : Nat) (d : ByteArray) (s : RS) (n : Nat) (w : World) (h : ReaderAt w p d s) (hd : DSize d) (hn : n < 4611686018427387904) :
    Calls Try.prog 67 #[.pointer (some ⟨p, 0, none⟩), .int .i64 n] w fun r w' => r = .returned (.string ⟨(takeN n s).1.toArray⟩) ∧ RMoved w w' p d (takeN n s).2 := by
  have HW := Lib.hid h
  unfold DSize at hd
  obtain ⟨a, hb, ha, hr⟩ := h
  have c0 := cellOf (j := 0) hb
  have c1 := cellOf (j := 1) hb
  have c2 := cellOf (j := 2) hb
  simp at c0 c1 c2
  have f1 := freeOf (j := 1) hb
  have hl : s.rest.length = d.size - a := by rw [hr, List.length_drop, len_data]
  have HB := Lib.hid hb
  have HA := Lib.hid ha
  have HR := Lib.hid hr
  clear hb hr
  by_cases h0 : s.err = 0
  · rw [h0] at c2
    have qs : IntKind.i64.wrap ((d.size : Int) - a) = (d.size : Int) - a := IntWalk.i64_in _ (by omega)
    by_cases h1 : s.rest.length < n
    · have q : (d.size : Int) - a < n := by omega
      have e1 : takeN n s = ([], s.fail 20) := by unfold takeN; rw [if_neg (by simp [h0]), if_pos h1]
      rw [e1]
      have H0 := Lib.hid h0
      clear h0 hl h1 e1
      go_enter Try.func67, Try.ntmps67
      go_wp2
      go_quiet (fail)
      go_wp2_with (go_at_call 60; refine (rfail_any p d s 20 _ (HW.out.drewN _)).mono ?_; rintro e w' ⟨rfl, hm⟩; have HM := Lib.hid hm; clear hm)
      go_ret
      exact ⟨rfl, HM.out.1, HM.out.2.pre_drewN⟩
    · have q : ¬ (d.size : Int) - a < n := by omega
      have e1 : takeN n s = (s.rest.take n, ⟨s.rest.drop n, s.err⟩) := by unfold takeN; rw [if_neg (by simp [h0]), if_neg h1]
      rw [e1]
      have qa : IntKind.i64.wrap ((a : Int) + n) = (a : Int) + n := IntWalk.i64_in _ (by omega)
      have q1 : (0 : Int) ≤ (a : Int) := by omega
      have q2 : (a : Int) ≤ (a : Int) + n := by omega
      have q3 : (a : Int) + n ≤ d.size := by omega
      have q4 : ((a : Int) + n).toNat = a + n := by omega
      have HL := Lib.hid hl
      have H0 := Lib.hid h0
      clear h0 hl h1 e1
      go_enter Try.func67, Try.ntmps67
      go_wp2
      go_quiet (fail)
      go_wp2
      go_quiet (fail)
      go_wp2
      go_ret
      refine ⟨?_, ⟨a + n, ?_, by omega, ?_⟩, ((Kept.refl w (fun k => k = p)).drewN _).setCell (p := ⟨p, _, none⟩) (.inl rfl) _⟩
      · rw [drop_take_mk, HR.out]; rfl
      · have hb' : ∀ k, (w.drewN k).heap[p]? = _ := fun _ => HB.out
        refine (blk_set (hb' _) 1 _).trans ?_
        simp
      · simp [HR.out]
  · have h0' : (s.err == 0) = false := by simpa using h0
    have e1 : takeN n s = ([], s) := by unfold takeN; rw [if_pos h0]
    rw [e1]
    have H0 := Lib.hid h0
    clear h0 hl e1
    go_enter Try.func67, Try.ntmps67
    go_wp2
    go_ret
    exact ⟨rfl, RMoved.refl HW.out⟩
end Go.Proofs.Ytcnikobmepjgcaa.Codec
