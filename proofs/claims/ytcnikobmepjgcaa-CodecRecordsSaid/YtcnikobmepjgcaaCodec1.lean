/-
  The package codec's writer and its numbers, walked.
-/
import Derived.Test.YtcnikobmepjgcaaBase2
import Derived.Test.YtcnikobmepjgcaaLex2
import Derived.Test.YtcnikobmepjgcaaNum
import Derived.Test.YtcnikobmepjgcaaShelf
namespace Go.Proofs.Ytcnikobmepjgcaa.Codec
open Go.RowKit Go.Proofs.YtcnikobmepjgcaaBase Go.Proofs.YtcnikobmepjgcaaLex2 Go.Proofs.YtcnikobmepjgcaaNum
set_option linter.unusedVariables false
set_option linter.unusedSimpArgs false

theorem infoByte : (Try.prog.info? 5).map (fun i => (i.zero, i.size, i.bytes)) = some (some (.int .u8 0), 1, 1) := by kernel_rfl
theorem elemByte : Elem Try.prog 24 5 (.int .u8 0) 1 1 := ⟨by kernel_rfl, by obtain ⟨i, h1, h2, h3, h4⟩ := info_parts infoByte; exact ⟨i, h1, h2, h3, h4⟩, rfl, by decide, by decide⟩
theorem underStr : Try.prog.underlying 9 = some .string := by kernel_rfl
theorem underU8 : Try.prog.underlying 5 = some (.int .u8) := by kernel_rfl

/-- A writer: what is written, and the first error. -/
structure WS where
  out : List UInt8
  err : Int
def WS.fail (s : WS) (e : Int) : WS := if s.err = 0 then { s with err := e } else s

def WriterAt (base : Nat) (w : World) (p : Nat) (F : Nat → Prop) (s : WS) : Prop :=
  ∃ sv, w.heap[p]? = some (.cells #[sv, .int .i64 s.err] 128 (0, 0)) ∧ base ≤ p ∧ base ≤ w.heap.size ∧ w.ownsRow base 5 1 sv s.out.length (bc s.out) ∧ (∀ k, F k ↔ k = p ∨ sv.ownBlock = some k)
def WMoved (base : Nat) (w w' : World) (p : Nat) (F : Nat → Prop) (s' : WS) : Prop :=
  ∃ F', WriterAt base w' p F' s' ∧ (∀ k, F' k → F k ∨ w.heap.size ≤ k) ∧ Kept w w' F

section
variable {base p : Nat} {w w' w1 w2 : World} {F F1 : Nat → Prop} {s s2 : WS}
theorem WriterAt.base_le (h : WriterAt base w p F s) : ∀ k, F k → base ≤ k := by
  obtain ⟨sv, hb, hp, hbs, hs, hF⟩ := h
  intro k hk
  rcases (hF k).1 hk with rfl | h
  · exact hp
  · exact (hs.lt k h).1
theorem WriterAt.drewN (h : WriterAt base w p F s) (n : Nat) : WriterAt base (w.drewN n) p F s := h
theorem WMoved.trans (hF : ∀ k, F1 k → F k ∨ w.heap.size ≤ k) (hk : Kept w w1 F) (h2 : WMoved base w1 w2 p F1 s2) : WMoved base w w2 p F s2 := by
  obtain ⟨F2, f2, b2, k2⟩ := h2
  exact ⟨F2, f2, fun k hk2 => (b2 k hk2).elim (hF k) (fun h => .inr (Nat.le_trans hk.size h)), hk.trans k2 hF⟩
theorem WMoved.refl (h : WriterAt base w p F s) : WMoved base w w p F s := ⟨F, h, fun k hk => .inl hk, Kept.refl _ _⟩
end

theorem wfail_any (base p : Nat) (F : Nat → Prop) (s : WS) (e : Int) (w : World) (h : WriterAt base w p F s) :
    Calls Try.prog 57 #[.pointer (some ⟨p, 0, none⟩), .int .i64 e] w fun r w' => r = .returned (.tuple #[]) ∧ WMoved base w w' p F (s.fail e) := by
  have HW := Lib.hid h
  obtain ⟨sv, hb, hp, hbs, hs, hF⟩ := h
  have c1 := cellOf (j := 1) hb
  simp at c1
  have f1 := freeOf (j := 1) hb
  have hsp := own_ne hs hb (by decide)
  have HB := Lib.hid hb
  have HF := Lib.hid hF
  clear hb hF
  by_cases h0 : s.err = 0
  · rw [h0] at c1
    have H0 := Lib.hid h0
    clear h0
    go_enter Try.func57, Try.ntmps57
    go_wp2
    go_end0
    refine ⟨rfl, F, ⟨sv, ?_, hp, by simpa [World.setCell] using hbs, ?_, HF.out⟩, fun k hk => .inl hk, (Kept.refl _ _).setCell (.inl ((HF.out p).2 (.inl rfl))) _⟩
    · have := blk_set HB.out 1 (.int .i64 e)
      simpa [WS.fail, H0.out] using this
    · have : (s.fail e).out = s.out := by unfold WS.fail; split <;> rfl
      rw [this]
      exact own_far hs hsp _
  · have h0' : (s.err == 0) = false := by simpa using h0
    have H0 := Lib.hid h0
    clear h0
    go_enter Try.func57, Try.ntmps57
    go_wp2
    go_end0
    have : s.fail e = s := by unfold WS.fail; rw [if_neg H0.out]
    rw [this]
    exact ⟨rfl, WMoved.refl HW.out⟩

theorem size_any (n : Nat) (hn : n < 9223372036854775808) (w : World) :
    Calls Try.prog 82 #[.int .i64 n] w fun r w' => r = .returned (.int .i64 (cls n)) ∧ w' = w := by
  have hb := bitLen_cls n (by omega)
  have h2 : (n : Int) ≤ 18446744073709551615 := by omega
  have hw : IntKind.u64.wrap (n : Int) = (n : Int) := by rw [IntKind.wrap_u64]; omega
  obtain ⟨b, hbb⟩ : ∃ b, Lib.bitLen n = b := ⟨_, rfl⟩
  rw [hbb] at hb
  have HBB := Lib.hid hbb
  have HB := Lib.hid hb
  clear hb hbb hn
  by_cases h6 : b ≤ 6
  · have e : cls n = 0 := by have := HB.out; rw [if_pos h6] at this; exact this.symm
    rw [e]
    have HE := Lib.hid e
    clear e
    have q : (b : Int) ≤ 6 := by omega
    go_enter Try.func82, Try.ntmps82
    go_wp2_with (go_at_call 83; refine (Try.bits_Len _ _ (by omega) (by omega)).mono ?_; simp only [Int.toNat_natCast]; rw [HBB.out]; rintro e w' ⟨rfl, rfl⟩)
    go_ret
    exact ⟨rfl, rfl⟩
  have q6 : ¬ (b : Int) ≤ 6 := by omega
  by_cases h14 : b ≤ 14
  · have e : cls n = 1 := by have := HB.out; rw [if_neg h6, if_pos h14] at this; exact this.symm
    rw [e]
    clear e
    have q : (b : Int) ≤ 14 := by omega
    go_enter Try.func82, Try.ntmps82
    go_wp2_with (go_at_call 83; refine (Try.bits_Len _ _ (by omega) (by omega)).mono ?_; simp only [Int.toNat_natCast]; rw [HBB.out]; rintro e w' ⟨rfl, rfl⟩)
    go_ret
    exact ⟨rfl, rfl⟩
  have q14 : ¬ (b : Int) ≤ 14 := by omega
  by_cases h30 : b ≤ 30
  · have e : cls n = 2 := by have := HB.out; rw [if_neg h6, if_neg h14, if_pos h30] at this; exact this.symm
    rw [e]
    clear e
    have q : (b : Int) ≤ 30 := by omega
    go_enter Try.func82, Try.ntmps82
    go_wp2_with (go_at_call 83; refine (Try.bits_Len _ _ (by omega) (by omega)).mono ?_; simp only [Int.toNat_natCast]; rw [HBB.out]; rintro e w' ⟨rfl, rfl⟩)
    go_ret
    exact ⟨rfl, rfl⟩
  have q30 : ¬ (b : Int) ≤ 30 := by omega
  have e : cls n = 3 := by have := HB.out; rw [if_neg h6, if_neg h14, if_neg h30] at this; exact this.symm
  rw [e]
  clear e
  go_enter Try.func82, Try.ntmps82
  go_wp2_with (go_at_call 83; refine (Try.bits_Len _ _ (by omega) (by omega)).mono ?_; simp only [Int.toNat_natCast]; rw [HBB.out]; rintro e w' ⟨rfl, rfl⟩)
  go_ret
  exact ⟨rfl, rfl⟩
end Go.Proofs.Ytcnikobmepjgcaa.Codec
