/-
  The codecs of flags and texts, walked.
-/
import Derived.Test.YtcnikobmepjgcaaCodec6
namespace Go.Proofs.Ytcnikobmepjgcaa.Codec
open Go.RowKit Go.Proofs.YtcnikobmepjgcaaBase Go.Proofs.YtcnikobmepjgcaaLex2 Go.Proofs.YtcnikobmepjgcaaNum
set_option linter.unusedVariables false
set_option linter.unusedSimpArgs false

def flagC : Cod Bool where
  rep := fun _ _ x v => v = .bool x
  put := fun x s => putN (if x then 1 else 0) s
  cost := fun _ => 8
  get := fun s => let r := getN s; (r.1 == 1, if 1 < r.1 then r.2.fail 21 else r.2)
theorem flagC_fair : Fair flagC := by
  refine ⟨fun _ h => h, fun h _ => h, fun x s => ?_⟩
  simp only [flagC]
  exact putN_len _ _

theorem flag_put (B p : Nat) (F : Nat → Prop) (s : WS) (w : World) (x : Bool) (h : WriterAt B w p F s) (hr : WRoom s 8) :
    Calls Try.prog 68 #[.pointer (some ⟨p, 0, none⟩), .bool x] w fun r w' => r = .returned (.tuple #[]) ∧ WMoved B w w' p F (flagC.put x s) := by
  have P0 := Lib.hid (put_any B p F s 0 w h (by omega) hr)
  have P1 := Lib.hid (put_any B p F s 1 w h (by omega) hr)
  clear h hr
  cases x
  · go_enter Try.func68, Try.ntmps68
    go_wp2_with (fail)
    refine P0.out.mono ?_
    rintro e w1 ⟨rfl, hm⟩
    have HM := Lib.hid hm
    clear hm
    go_wp2
    go_end0
    exact ⟨rfl, HM.out⟩
  · go_enter Try.func68, Try.ntmps68
    go_wp2_with (fail)
    refine P1.out.mono ?_
    rintro e w1 ⟨rfl, hm⟩
    have HM := Lib.hid hm
    clear hm
    go_wp2
    go_end0
    exact ⟨rfl, HM.out⟩

theorem beq_one (n : Nat) : ((n : Int) == 1) = (n == 1) := by
  by_cases h : n = 1
  · subst h; rfl
  · have h2 : (n : Int) ≠ 1 := by omega
    rw [beq_eq_false_iff_ne.2 h, beq_eq_false_iff_ne.2 h2]
theorem flag_get (p : Nat) (d : ByteArray) (s : RS) (w : World) (h : ReaderAt w p d s) (hd : DSize d) :
    Calls Try.prog 69 #[.pointer (some ⟨p, 0, none⟩)] w fun r w' => ∃ v, r = .returned v ∧ RMoved w w' p d (flagC.get s).2 ∧ v = .bool (flagC.get s).1 := by
  have G := getN_any p d s w h hd
  obtain ⟨n, s1, hg⟩ : ∃ n s1, getN s = (n, s1) := ⟨_, _, rfl⟩
  have E : Hid (flagC.get s = (n == 1, if 1 < n then s1.fail 21 else s1)) := by
    have h0 : flagC.get s = ((getN s).1 == 1, if 1 < (getN s).1 then (getN s).2.fail 21 else (getN s).2) := rfl
    rw [h0, hg]; exact Lib.hid rfl
  rw [hg] at G
  have GG := Lib.hid G
  clear G hg h hd
  by_cases h1 : 1 < n
  · have q1 : (1 : Int) < n := by omega
    have H1 := Lib.hid h1
    clear h1
    go_enter Try.func69, Try.ntmps69
    go_wp2_with (fail)
    refine GG.out.mono ?_
    rintro e w1 ⟨rfl, hm⟩
    have HM := Lib.hid hm
    clear hm
    go_wp2_with (fail)
    refine (rfail_any p d _ 21 _ HM.out.1).mono ?_
    rintro e w2 ⟨rfl, hm⟩
    have HM2 := Lib.hid hm
    clear hm
    go_wp2
    go_ret
    rw [E.out, if_pos H1.out]
    refine ⟨_, rfl, HM.out.trans HM2.out, ?_⟩
    show Value.bool ((n : Int) == 1) = Value.bool (n == 1)
    rw [beq_one]
  · have q1 : ¬ (1 : Int) < n := by omega
    have H1 := Lib.hid h1
    clear h1
    go_enter Try.func69, Try.ntmps69
    go_wp2_with (fail)
    refine GG.out.mono ?_
    rintro e w1 ⟨rfl, hm⟩
    have HM := Lib.hid hm
    clear hm
    go_wp2
    go_ret
    rw [E.out, if_neg H1.out]
    refine ⟨_, rfl, HM.out, ?_⟩
    show Value.bool ((n : Int) == 1) = Value.bool (n == 1)
    rw [beq_one]
theorem flag_any (w : World) : Calls Try.prog 29 #[] w fun r w' => ∃ cv, r = .returned cv ∧ IsCodec w' cv flagC ∧ Kept w w' (fun _ => False) := by
  go_enter Try.func29, Try.ntmps29
  go_wp2
  refine bodyPost_ret (results_cell_row rfl _ _ _ _ _ _ _ rfl (heap_alloc_new _ _) Try.underlying78 rfl (by kernel_rfl)) rfl ?_
  refine ⟨_, rfl, ⟨_, _, rfl, ⟨_, _, rfl, Proofs.enters_of Try.func68 (by kernel_rfl) rfl, ?_⟩, ⟨_, _, rfl, Proofs.enters_of Try.func69 (by kernel_rfl) rfl, ?_⟩⟩, (Kept.refl _ _).alloc _⟩
  · intro B p F s w x v hB hw hv h hr
    have hv' : v = .bool x := hv
    subst hv'
    rw [Array.append_empty]
    exact flag_put B p F s w x h hr
  · intro p d s w hp hw h hd
    rw [Array.append_empty]
    exact flag_get p d s w h hd
end Go.Proofs.Ytcnikobmepjgcaa.Codec
