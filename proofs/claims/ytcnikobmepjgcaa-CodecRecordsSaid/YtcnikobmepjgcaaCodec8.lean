/-
  The codec of texts, walked.
-/
import Derived.Test.YtcnikobmepjgcaaCodec6
namespace Go.Proofs.Ytcnikobmepjgcaa.Codec
open Go.RowKit Go.Proofs.YtcnikobmepjgcaaBase Go.Proofs.YtcnikobmepjgcaaLex2 Go.Proofs.YtcnikobmepjgcaaNum
set_option linter.unusedVariables false
set_option linter.unusedSimpArgs false

def textC (m : Nat) : Cod ByteArray where
  rep := fun _ _ x v => v = .string x
  put := fun x s => if m < x.size then s.fail 22 else { putN x.size s with out := (putN x.size s).out ++ x.data.toList }
  cost := fun x => 8 + x.size
  get := fun s => let r := countN m s; (⟨(takeN r.1 r.2).1.toArray⟩, (takeN r.1 r.2).2)
theorem textC_fair (m : Nat) : Fair (textC m) := by
  refine ⟨fun _ h => h, fun h _ => h, fun x s => ?_⟩
  simp only [textC]
  split
  · rw [wfail_len]; omega
  · have := putN_len x.size s
    simp only [List.length_append, len_data]
    omega

theorem text_put_over (B p b m : Nat) (F : Nat → Prop) (s : WS) (w : World) (x : ByteArray) (h : WriterAt B w p F s) (hb : w.cell? ⟨b, 0, none⟩ = some (.int .i64 m)) (ho : m < x.size) :
    Calls Try.prog 65 #[.pointer (some ⟨p, 0, none⟩), .string x, .pointer (some ⟨b, 0, none⟩)] w fun r w' => r = .returned (.tuple #[]) ∧ WMoved B w w' p F (s.fail 22) := by
  have q : (m : Int) < x.size := by omega
  have HW := Lib.hid h
  clear h ho
  go_enter Try.func65, Try.ntmps65
  go_wp2_with (fail)
  refine (wfail_any B p F s 22 _ HW.out).mono ?_
  rintro e w1 ⟨rfl, hm⟩
  have HM := Lib.hid hm
  clear hm
  go_wp2
  go_returns
  exact ⟨rfl, HM.out⟩

set_option maxHeartbeats 1600000 in
theorem text_put_fits (B p b m : Nat) (F : Nat → Prop) (s : WS) (w : World) (x : ByteArray) (h : WriterAt B w p F s) (hb : w.cell? ⟨b, 0, none⟩ = some (.int .i64 m)) (ho : ¬ m < x.size) (hm : m ≤ 1048576) (hr : WRoom s (8 + x.size)) :
    Calls Try.prog 65 #[.pointer (some ⟨p, 0, none⟩), .string x, .pointer (some ⟨b, 0, none⟩)] w fun r w' => r = .returned (.tuple #[]) ∧ WMoved B w w' p F { putN x.size s with out := (putN x.size s).out ++ x.data.toList } := by
  have q : ¬ (m : Int) < x.size := by omega
  unfold WRoom at hr
  have P := Lib.hid (put_any B p F s x.size w h (by omega) (by unfold WRoom; omega))
  have hl := putN_len x.size s
  obtain ⟨o, hoo⟩ : ∃ o, (putN x.size s).out = o := ⟨_, rfl⟩
  have hby : ((o.length + x.size) + (o.length + x.size) / 4 + 192) * 1 ≤ 281474976710656 := by rw [hoo] at hl; omega
  rw [hoo]
  have HO := Lib.hid hoo
  have HBy := Lib.hid hby
  clear h ho hr hl hoo hby hm
  go_enter Try.func65, Try.ntmps65
  go_wp2_with (fail)
  refine P.out.mono ?_
  rintro e w1 ⟨rfl, hm⟩
  obtain ⟨F1, ⟨sv, hb1, hp, hbs, hs, hF⟩, hF1, hk1⟩ := hm
  have hso : s.out ++ encN x.size = o := HO.out
  simp only at hb1 hs
  rw [hso] at hs
  obtain ⟨sa, sc, rfl, hsc, hsm⟩ := own_slice hs
  have c0 := cellOf (j := 0) hb1
  simp at c0
  have hlp := own_ne hs hb1 (by decide)
  have H1 := Lib.hid hb1
  have H4 := Lib.hid hF
  have H5 := Lib.hid hF1
  have H6 := Lib.hid hk1
  clear hb1 hF hF1 hk1
  go_wp2_with (at_builtin; refine wpList_append_ownS _ rfl (.tmp 19) (.tmp 20) 24 9 rfl B 5 (.int .u8 0) 1 1 elemByte (.slice sa o.length sc) o.length (bc o) rfl hs (.string x) x.size (bc x.data.toList) rfl (Src.ofString _ underStr x) HBy.out hbs ?go)
  case go =>
    intro v' w2 o1 g1 b1
    obtain ⟨A', c', rfl, hc1, hc2⟩ := own_slice o1
    have hb2 := Lib.hid (blk_grown H1.out g1 (fun e => hlp e.symm))
    have hp2 := own_ne o1 hb2.out (by decide)
    have k0 := cellOf (j := 0) hb2.out
    simp at k0
    have e0 := freeOf (j := 0) hb2.out
    have G1 := Lib.hid g1
    have B1 := Lib.hid b1
    clear g1 b1
    go_wp2
    go_end0
    refine ⟨rfl, WMoved.trans H5.out H6.out ⟨fun k => k = p ∨ (Value.slice A' (o.length + x.size) c').ownBlock = some k, ⟨.slice A' (o.length + x.size) c', ?_, hp, ?_, ?_, fun k => Iff.rfl⟩, ?_, ?_⟩⟩
    · have := blk_set hb2.out 0 (.slice A' (o.length + x.size) c')
      simpa [putN] using this
    · have := G1.out.size
      simp [World.setCell] at this ⊢
      omega
    · simp only [List.length_append, len_data, bc_append]
      exact own_far o1 hp2 _
    · rintro k (rfl | hk)
      · exact .inl ((H4.out k).2 (.inl rfl))
      · rcases B1.out k hk with h | h
        · exact .inl ((H4.out k).2 (.inr h))
        · exact .inr h
    · have hFp : F1 p := (H4.out p).2 (.inl rfl)
      refine Kept.setCell (Kept.grown (Kept.refl w1 F1) G1.out ?_) (.inl hFp) _
      intro k hk
      exact .inl ((H4.out k).2 (.inr hk))

theorem text_get (p b m : Nat) (d : ByteArray) (s : RS) (w : World) (h : ReaderAt w p d s) (hd : DSize d) (hb : w.cell? ⟨b, 0, none⟩ = some (.int .i64 m)) (hbp : b ≠ p) :
    Calls Try.prog 66 #[.pointer (some ⟨p, 0, none⟩), .pointer (some ⟨b, 0, none⟩)] w fun r w' => r = .returned (.string ((textC m).get s).1) ∧ RMoved w w' p d ((textC m).get s).2 := by
  have C := Lib.hid (count_any p d s m w h hd)
  have hn : (countN m s).1 < 4611686018427387904 := by
    unfold countN
    have := getN_le s
    simp only
    (repeat' split) <;> omega
  have HD := Lib.hid hd
  have HN := Lib.hid hn
  clear h hd hn
  go_enter Try.func66, Try.ntmps66
  go_wp2_with (fail)
  refine C.out.mono ?_
  rintro e w1 ⟨rfl, hm⟩
  have HM := Lib.hid hm
  clear hm
  go_wp2_with (fail)
  refine (take_any p d _ _ _ HM.out.1 HD.out HN.out).mono ?_
  rintro e w2 ⟨rfl, hm⟩
  have HM2 := Lib.hid hm
  clear hm
  go_wp2
  go_ret
  exact ⟨rfl, HM.out.trans HM2.out⟩
theorem text_codec (W : World) (b m : Nat) (hm : m ≤ 1048576) (hb : W.cell? ⟨b, 0, none⟩ = some (.int .i64 m)) (hl : b < W.heap.size) :
    IsCodec W (.agg #[.func (.func 65) #[] #[.pointer (some ⟨b, 0, none⟩)], .func (.func 66) #[] #[.pointer (some ⟨b, 0, none⟩)]]) (textC m) := by
  have hc : ∀ w, Same W w → w.cell? ⟨b, 0, none⟩ = some (.int .i64 m) := fun w hs => by
    rw [← hb]
    simp only [World.cell?, hs.2 b hl]
  refine ⟨_, _, rfl, ⟨_, _, rfl, Proofs.enters_of Try.func65 (by kernel_rfl) rfl, ?_⟩, ⟨_, _, rfl, Proofs.enters_of Try.func66 (by kernel_rfl) rfl, ?_⟩⟩
  · intro B p F s w x v hB hw hv h hr
    have hv' : v = .string x := hv
    subst hv'
    show Calls Try.prog _ #[_, _, _] w _
    by_cases ho : m < x.size
    · have e : (textC m).put x s = s.fail 22 := if_pos ho
      rw [e]
      exact text_put_over B p b m F s w x h (hc w hw) ho
    · have e : (textC m).put x s = { putN x.size s with out := (putN x.size s).out ++ x.data.toList } := if_neg ho
      rw [e]
      exact text_put_fits B p b m F s w x h (hc w hw) ho hm hr
  · intro p d s w hp hw h hd
    show Calls Try.prog _ #[_, _] w _
    refine (text_get p b m d s w h hd (hc w hw) (by omega)).mono ?_
    rintro r w' ⟨rfl, hm⟩
    exact ⟨_, rfl, hm, rfl⟩
theorem text_any (m : Int) (w : World) : Calls Try.prog 24 #[.int .i64 m] w fun r w' => ∃ cv, r = .returned cv ∧ IsCodec w' cv (textC (bnd m)) ∧ Kept w w' (fun _ => False) := by
  go_enter Try.func24, Try.ntmps24
  go_wp2_with (go_at_call 55; refine (bound_any m _).mono ?_; rintro e w1 ⟨rfl, rfl⟩)
  refine bodyPost_ret (results_cell_row rfl _ _ _ _ _ _ _ rfl (heap_alloc2_new _ _ _) Try.underlying64 rfl (by kernel_rfl)) rfl ?_
  refine ⟨_, rfl, text_codec _ _ _ (bnd_le m) ?_ ?_, ((Kept.refl _ _).alloc _).alloc _⟩
  · exact cellOf (j := 0) (Below.heap_alloc _ _ _ (by simp) |>.trans (heap_alloc_new w _))
  · simp; omega
end Go.Proofs.Ytcnikobmepjgcaa.Codec
