/-
  What the calls of the package disk do to a file in memory: Cut, Arm, Restart, Read and New.
-/
import Derived.Test.YtegonafacbokeaaDisk2
import Derived.IntWalk
namespace Go.Proofs.Ytegonafacbokeaa.Disk
open Go.RowKit Go.Proofs.YtegonafacbokeaaBase Go.Proofs.YtegonafacbokeaaLex
set_option linter.unusedVariables false
set_option linter.unusedSimpArgs false

theorem cut_down (base p : Nat) (F : Nat → Prop) (x : FD) (n : Int) (w : World) (h : FileAt base w p F x) (hd : x.down = true) :
    Calls Try.prog 24 #[.pointer (some ⟨p, 0, none⟩), .int .i64 n] w fun e w' => e = .returned (.int .i64 170) ∧ w' = w := by
  obtain ⟨sv, lv, hb, _⟩ := h
  have h4 := cellOf (j := 4) hb
  simp [hd] at h4
  clear hb hd
  go_enter Try.func24, Try.ntmps24
  go_wp2
  go_ret
  exact ⟨rfl, rfl⟩

set_option maxHeartbeats 800000 in
theorem cut_neg (base p : Nat) (F : Nat → Prop) (x : FD) (n : Int) (w : World) (h : FileAt base w p F x) (hd : x.down = false) (hn : n < 0) :
    Calls Try.prog 24 #[.pointer (some ⟨p, 0, none⟩), .int .i64 n] w fun e w' => e = .returned (.int .i64 141) ∧ w' = w.drew := by
  obtain ⟨sv, lv, hb, _⟩ := h
  have h4 := cellOf (j := 4) hb
  simp [hd] at h4
  clear hb hd
  have q : decide (n < 0) = true := by simpa using hn
  go_enter Try.func24, Try.ntmps24
  go_wp2
  refine wp_region_lex (fun _ => True) [0, 0, 0, 0, 0, 0, 0, 1, 0, 0, 0, 0, 1, 0, 0, 0, 0, 0] (by kernel_rfl) (by kernel_rfl) (by kernel_rfl) (trivial) (fun Q' hQ' => ?_)
  simp only [List.zip_cons_cons, List.zip_nil_right]
  repeat (first
    | (refine wpX_light rfl (fun K hK => ?_)
       apply Exists.intro
       refine ⟨fun w' hw' => ?_, ?_⟩
       · try dsimp only at hw'
         go_simp
         exact ⟨rfl, rfl⟩
       go_simp
       refine hK _ _ ?_
       clear hK K)
    | (refine wpX_read rfl (fun K hK => ?_)
       apply Exists.intro
       refine ⟨?_, ?_⟩
       · go_simp
         exact ⟨rfl, rfl⟩
       go_simp
       refine hK _ _ ?_
       clear hK K)
    | (refine wpX_not rfl (fun K hK => ?_)
       go_simp
       refine hK _ _ ?_
       clear hK K)
    | (refine wpX_light_g rfl (fun K hK => ?_)
       apply Exists.intro
       refine ⟨fun w' hw' => ?_, ?_⟩
       · try dsimp only at hw'
         go_simp
         exact ⟨rfl, rfl⟩
       go_simp
       refine hK _ _ ?_
       clear hK K)
    | (refine wpX_read_g rfl (fun K hK => ?_)
       apply Exists.intro
       refine ⟨?_, ?_⟩
       · go_simp
         exact ⟨rfl, rfl⟩
       go_simp
       refine hK _ _ ?_
       clear hK K))
  refine wpX_nil (hQ' _ _ ?_)
  go_wp2
  go_ret
  exact ⟨rfl, rfl⟩

set_option maxHeartbeats 800000 in
theorem cut_far (base p : Nat) (F : Nat → Prop) (x : FD) (n : Int) (w : World) (h : FileAt base w p F x) (hd : x.down = false) (hr : Room x) (hn : ¬ n < 0) (hn2 : (x.safe.length : Int) + x.loose.length < n) :
    Calls Try.prog 24 #[.pointer (some ⟨p, 0, none⟩), .int .i64 n] w fun e w' => e = .returned (.int .i64 141) ∧ w' = w.drew := by
  obtain ⟨sv, lv, hb, hp, hbs, hs, hl, _⟩ := h
  obtain ⟨sa, sc, rfl, hsc, hsm⟩ := own_slice hs
  obtain ⟨la, lc, rfl, hlc, hlm⟩ := own_slice hl
  have h4 := cellOf (j := 4) hb
  have h0 := cellOf (j := 0) hb
  have h1 := cellOf (j := 1) hb
  simp [hd] at h4 h0 h1
  clear hb hd
  unfold Room at hr
  have q : decide (n < 0) = false := by simpa using hn
  have q1 : decide ((x.safe.length : Int) + x.loose.length < n) = true := by simpa using hn2
  have qw : IntKind.i64.wrap ((x.safe.length : Int) + x.loose.length) = (x.safe.length : Int) + x.loose.length := IntWalk.i64_in _ (by omega)
  clear hn hn2 hs hl
  go_enter Try.func24, Try.ntmps24
  go_wp2
  refine wp_region_lex (fun _ => True) [0, 0, 0, 0, 0, 0, 0, 1, 0, 0, 0, 0, 1, 0, 0, 0, 0, 0] (by kernel_rfl) (by kernel_rfl) (by kernel_rfl) (trivial) (fun Q' hQ' => ?_)
  simp only [List.zip_cons_cons, List.zip_nil_right]
  repeat (first
    | (refine wpX_light rfl (fun K hK => ?_)
       apply Exists.intro
       refine ⟨fun w' hw' => ?_, ?_⟩
       · try dsimp only at hw'
         go_simp
         exact ⟨rfl, rfl⟩
       go_simp
       refine hK _ _ ?_
       clear hK K)
    | (refine wpX_read rfl (fun K hK => ?_)
       apply Exists.intro
       refine ⟨?_, ?_⟩
       · go_simp
         exact ⟨rfl, rfl⟩
       go_simp
       refine hK _ _ ?_
       clear hK K)
    | (refine wpX_not rfl (fun K hK => ?_)
       go_simp
       refine hK _ _ ?_
       clear hK K)
    | (refine wpX_light_g rfl (fun K hK => ?_)
       apply Exists.intro
       refine ⟨fun w' hw' => ?_, ?_⟩
       · try dsimp only at hw'
         go_simp
         exact ⟨rfl, rfl⟩
       go_simp
       refine hK _ _ ?_
       clear hK K)
    | (refine wpX_read_g rfl (fun K hK => ?_)
       apply Exists.intro
       refine ⟨?_, ?_⟩
       · go_simp
         exact ⟨rfl, rfl⟩
       go_simp
       refine hK _ _ ?_
       clear hK K))
  refine wpX_nil (hQ' _ _ ?_)
  go_wp2
  go_ret
  exact ⟨rfl, rfl⟩

theorem Moved.of_drew {base p : Nat} {w w' : World} {F : Nat → Prop} {x' : FD} (h : Moved base w.drew w' p F x') : Moved base w w' p F x' := by
  obtain ⟨F', h1, h2, h3⟩ := h
  exact ⟨F', h1, h2, ⟨h3.os, h3.tape, h3.output, h3.size, h3.block⟩⟩

set_option maxHeartbeats 1600000 in
theorem cut_crash (base p : Nat) (F : Nat → Prop) (x : FD) (n : Nat) (w : World) (h : FileAt base w p F x) (hd : x.down = false) (hr : Room x) (hg : Good x) (hn : n ≤ x.safe.length + x.loose.length) (hb : x.burns = true) :
    Calls Try.prog 24 #[.pointer (some ⟨p, 0, none⟩), .int .i64 n] w fun e w' => e = .returned (.int .i64 140) ∧ Moved base w w' p F x.burn := by
  have FL := Lib.hid h
  obtain ⟨sv, lv, hbk, hp, hbs, hs, hl, _⟩ := h
  obtain ⟨sa, sc, rfl, hsc, hsm⟩ := own_slice hs
  obtain ⟨la, lc, rfl, hlc, hlm⟩ := own_slice hl
  have h4 := cellOf (j := 4) hbk
  have h0 := cellOf (j := 0) hbk
  have h1 := cellOf (j := 1) hbk
  simp [hd] at h4 h0 h1
  have HR := Lib.hid hr
  have HN := Lib.hid hn
  have HDN := Lib.hid hd
  have HBN := Lib.hid hb
  unfold Room at hr
  have q : decide ((n : Int) < 0) = false := by simp
  have q1 : decide ((x.safe.length : Int) + x.loose.length < (n : Int)) = false := by simp; omega
  have qw : IntKind.i64.wrap ((x.safe.length : Int) + x.loose.length) = (x.safe.length : Int) + x.loose.length := IntWalk.i64_in _ (by omega)
  clear hbk hd hn hs hl hr hsc hsm hlc hlm
  go_enter Try.func24, Try.ntmps24
  go_wp2
  refine wp_region_lex (fun _ => True) [0, 0, 0, 0, 0, 0, 0, 1, 0, 0, 0, 0, 1, 0, 0, 0, 0, 0] (by kernel_rfl) (by kernel_rfl) (by kernel_rfl) (trivial) (fun Q' hQ' => ?_)
  simp only [List.zip_cons_cons, List.zip_nil_right]
  repeat (first
    | (refine wpX_light rfl (fun K hK => ?_)
       apply Exists.intro
       refine ⟨fun w' hw' => ?_, ?_⟩
       · try dsimp only at hw'
         go_simp
         exact ⟨rfl, rfl⟩
       go_simp
       refine hK _ _ ?_
       clear hK K)
    | (refine wpX_read rfl (fun K hK => ?_)
       apply Exists.intro
       refine ⟨?_, ?_⟩
       · go_simp
         exact ⟨rfl, rfl⟩
       go_simp
       refine hK _ _ ?_
       clear hK K)
    | (refine wpX_not rfl (fun K hK => ?_)
       go_simp
       refine hK _ _ ?_
       clear hK K)
    | (refine wpX_light_g rfl (fun K hK => ?_)
       apply Exists.intro
       refine ⟨fun w' hw' => ?_, ?_⟩
       · try dsimp only at hw'
         go_simp
         exact ⟨rfl, rfl⟩
       go_simp
       refine hK _ _ ?_
       clear hK K)
    | (refine wpX_read_g rfl (fun K hK => ?_)
       apply Exists.intro
       refine ⟨?_, ?_⟩
       · go_simp
         exact ⟨rfl, rfl⟩
       go_simp
       refine hK _ _ ?_
       clear hK K))
  refine wpX_nil (hQ' _ _ ?_)
  go_wp2_with (go_at_call 38; refine (burnt_any base p _ _ _ FL.out.drew HR.out hg).mono ?_; rintro e w1 ⟨rfl, hm⟩; have HM := Lib.hid hm; clear hm)
  go_ret
  exact ⟨rfl, Moved.of_drew HM.out⟩

set_option maxHeartbeats 1600000 in
theorem cut_up (base p : Nat) (F : Nat → Prop) (x : FD) (n : Nat) (w : World) (h : FileAt base w p F x) (hd : x.down = false) (hr : Room x) (hg : Good x) (hn : n ≤ x.safe.length + x.loose.length) (hb : x.burns = false) :
    Calls Try.prog 24 #[.pointer (some ⟨p, 0, none⟩), .int .i64 n] w fun e w' => e = .returned (.int .i64 0) ∧ Moved base w w' p F ⟨(x.safe ++ x.loose).take n, [], x.fuse - 1, x.keep, x.down⟩ := by
  have FL := Lib.hid h
  obtain ⟨sv, lv, hbk, hp, hbs, hs, hl, _⟩ := h
  obtain ⟨sa, sc, rfl, hsc, hsm⟩ := own_slice hs
  obtain ⟨la, lc, rfl, hlc, hlm⟩ := own_slice hl
  have h4 := cellOf (j := 4) hbk
  have h0 := cellOf (j := 0) hbk
  have h1 := cellOf (j := 1) hbk
  simp [hd] at h4 h0 h1
  have HR := Lib.hid hr
  have HN := Lib.hid hn
  have HDN := Lib.hid hd
  have HBN := Lib.hid hb
  unfold Room at hr
  have q : decide ((n : Int) < 0) = false := by simp
  have q1 : decide ((x.safe.length : Int) + x.loose.length < (n : Int)) = false := by simp; omega
  have qw : IntKind.i64.wrap ((x.safe.length : Int) + x.loose.length) = (x.safe.length : Int) + x.loose.length := IntWalk.i64_in _ (by omega)
  clear hbk hd hn hs hl hr hsc hsm hlc hlm
  go_enter Try.func24, Try.ntmps24
  go_wp2
  refine wp_region_lex (fun _ => True) [0, 0, 0, 0, 0, 0, 0, 1, 0, 0, 0, 0, 1, 0, 0, 0, 0, 0] (by kernel_rfl) (by kernel_rfl) (by kernel_rfl) (trivial) (fun Q' hQ' => ?_)
  simp only [List.zip_cons_cons, List.zip_nil_right]
  repeat (first
    | (refine wpX_light rfl (fun K hK => ?_)
       apply Exists.intro
       refine ⟨fun w' hw' => ?_, ?_⟩
       · try dsimp only at hw'
         go_simp
         exact ⟨rfl, rfl⟩
       go_simp
       refine hK _ _ ?_
       clear hK K)
    | (refine wpX_read rfl (fun K hK => ?_)
       apply Exists.intro
       refine ⟨?_, ?_⟩
       · go_simp
         exact ⟨rfl, rfl⟩
       go_simp
       refine hK _ _ ?_
       clear hK K)
    | (refine wpX_not rfl (fun K hK => ?_)
       go_simp
       refine hK _ _ ?_
       clear hK K)
    | (refine wpX_light_g rfl (fun K hK => ?_)
       apply Exists.intro
       refine ⟨fun w' hw' => ?_, ?_⟩
       · try dsimp only at hw'
         go_simp
         exact ⟨rfl, rfl⟩
       go_simp
       refine hK _ _ ?_
       clear hK K)
    | (refine wpX_read_g rfl (fun K hK => ?_)
       apply Exists.intro
       refine ⟨?_, ?_⟩
       · go_simp
         exact ⟨rfl, rfl⟩
       go_simp
       refine hK _ _ ?_
       clear hK K))
  refine wpX_nil (hQ' _ _ ?_)
  go_wp2_with (go_at_call 38; refine (burnt_any base p _ _ _ FL.out.drew HR.out hg).mono ?_; rintro e w1 ⟨rfl, hm⟩; have HM := Lib.hid hm; clear hm)
  obtain ⟨F1, hf1, hF1, hk1⟩ := (Moved.of_drew HM.out)
  rw [burn_no HBN.out] at hf1
  clear h0 h1 q q1 qw
  clear hbs hp
  obtain ⟨sv, lv, hbk, hp, hbs, hs, hl, hdis, hF⟩ := hf1
  simp only at hs hl
  obtain ⟨sa, sc, rfl, hsc, hsm⟩ := own_slice hs
  obtain ⟨la, lc, rfl, hlc, hlm⟩ := own_slice hl
  have k0 := cellOf (j := 0) hbk
  have k1 := cellOf (j := 1) hbk
  simp at k0 k1
  have f0 := freeOf (j := 0) hbk
  have f1 := freeOf (j := 1) hbk
  have hsp := own_ne hs hbk (by decide)
  have hlp := own_ne hl hbk (by decide)
  have H1 := Lib.hid hdis
  have H2 := Lib.hid hF
  have H3 := Lib.hid hbk
  have H5 := Lib.hid hF1
  have H6 := Lib.hid hk1
  clear hdis hF hbk hF1 hk1
  refine wp_region_lex (fun _ => True) [0, 0, 0, 0, 1, 0, 0, 0, 1, 2, 0, 0, 0, 0, 2] (by kernel_rfl) (by kernel_rfl) (by kernel_rfl) (trivial) (fun Q' hQ' => ?_)
  simp only [List.zip_cons_cons, List.zip_nil_right]
  repeat (first
    | (refine wpX_light rfl (fun K hK => ?_)
       apply Exists.intro
       refine ⟨fun w' hw' => ?_, ?_⟩
       · try dsimp only at hw'
         go_simp
         exact ⟨rfl, rfl⟩
       go_simp
       refine hK _ _ ?_
       clear hK K)
    | (refine wpX_read rfl (fun K hK => ?_)
       apply Exists.intro
       refine ⟨?_, ?_⟩
       · go_simp
         exact ⟨rfl, rfl⟩
       go_simp
       refine hK _ _ ?_
       clear hK K)
    | (refine wpX_not rfl (fun K hK => ?_)
       go_simp
       refine hK _ _ ?_
       clear hK K)
    | (refine wpX_light_g rfl (fun K hK => ?_)
       apply Exists.intro
       refine ⟨fun w' hw' => ?_, ?_⟩
       · try dsimp only at hw'
         go_simp
         exact ⟨rfl, rfl⟩
       go_simp
       refine hK _ _ ?_
       clear hK K)
    | (refine wpX_read_g rfl (fun K hK => ?_)
       apply Exists.intro
       refine ⟨?_, ?_⟩
       · go_simp
         exact ⟨rfl, rfl⟩
       go_simp
       refine hK _ _ ?_
       clear hK K))
  refine wpX_heavy rfl (fun K hK => ?_)
  refine wp_append_ownS _ (.tmp 34) (.tmp 38) 52 52 rfl base 5 (.int .u8 0) 1 1 elemByte (.slice sa x.safe.length sc) x.safe.length (bc x.safe) rfl (own_drew hs) (.slice la x.loose.length lc) x.loose.length (bc x.loose) rfl ?src ?by1 ?ba (fun v' w2 o1 g1 b1 => ?_)
  case src => exact src_own (base := base) (e := 5) (e' := 5) elemByte.under (own_drew hl) (bc_one _)
  case by1 => have := HR.out; unfold Room at this; omega
  case ba => exact hbs
  obtain ⟨A', c', rfl, hc1, hc2⟩ := own_slice o1
  have hb2 := Lib.hid (blk_grown (w := w1.drew) H3.out g1 (fun e => hsp e.symm))
  have hp2 := own_ne o1 hb2.out (by decide)
  have k0 := cellOf (j := 0) hb2.out
  have k1 := cellOf (j := 1) hb2.out
  simp at k0 k1
  have e0 := freeOf (j := 0) hb2.out
  have e1 := freeOf (j := 1) hb2.out
  have G1 := Lib.hid g1
  have B1 := Lib.hid b1
  have r1 : n ≤ c' := Nat.le_trans HN.out hc1
  have r2 : (n : Int) ≤ c' := by omega
  clear g1 b1
  go_simp
  refine hK _ _ ⟨rfl, trivial, ?_⟩
  clear hK K
  repeat (first
    | (refine wpX_light rfl (fun K hK => ?_)
       apply Exists.intro
       refine ⟨fun w' hw' => ?_, ?_⟩
       · try dsimp only at hw'
         go_simp
         exact ⟨rfl, rfl⟩
       go_simp
       refine hK _ _ ?_
       clear hK K)
    | (refine wpX_read rfl (fun K hK => ?_)
       apply Exists.intro
       refine ⟨?_, ?_⟩
       · go_simp
         exact ⟨rfl, rfl⟩
       go_simp
       refine hK _ _ ?_
       clear hK K)
    | (refine wpX_not rfl (fun K hK => ?_)
       go_simp
       refine hK _ _ ?_
       clear hK K)
    | (refine wpX_light_g rfl (fun K hK => ?_)
       apply Exists.intro
       refine ⟨fun w' hw' => ?_, ?_⟩
       · try dsimp only at hw'
         go_simp
         exact ⟨rfl, rfl⟩
       go_simp
       refine hK _ _ ?_
       clear hK K)
    | (refine wpX_read_g rfl (fun K hK => ?_)
       apply Exists.intro
       refine ⟨?_, ?_⟩
       · go_simp
         exact ⟨rfl, rfl⟩
       go_simp
       refine hK _ _ ?_
       clear hK K))
  refine wpX_heavy rfl (fun K hK => ?_)
  go_wp2
  refine hQ' _ _ ?_
  go_wp2
  go_ret
  have o2 := own_take o1 (m := n) HN.out
  rw [← bc_append, bc_take] at o2
  have hln : ((x.safe ++ x.loose).take n).length = n := by have := HN.out; simp; omega
  refine ⟨rfl, Moved.trans H5.out H6.out ⟨fun k => k = p ∨ (Value.slice A' n c').ownBlock = some k, ⟨.slice A' n c', .slice none 0 0, ?_, hp, ?_, ?_, World.ownsRow_nil _ _ _ _, ?_, ?_⟩, ?_, ?_⟩⟩
  · have := blk_set (blk_set hb2.out 0 (.slice A' n c')) 1 (.slice none 0 0)
    simpa using this
  · have := G1.out.size
    simp [World.setCell] at this ⊢
    omega
  · simp only [hln]
    exact own_far (own_far o2 (by rw [ownB A' n (x.safe.length + x.loose.length) c' c']; exact hp2) _) (by rw [ownB A' n (x.safe.length + x.loose.length) c' c']; exact hp2) _
  · simp [Value.ownBlock]
  · intro k; simp [Value.ownBlock]
  · rintro k (rfl | hk)
    · exact .inl ((H2.out k).2 (.inl rfl))
    · rcases B1.out k (by rw [ownB A' (x.safe.length + x.loose.length) n c' c']; exact hk) with h | h
      · exact .inl ((H2.out k).2 (.inr (.inl h)))
      · exact .inr (by simpa [World.setCell] using h)
  · have hFp : F1 p := (H2.out p).2 (.inl rfl)
    refine Kept.setCell (Kept.setCell (Kept.grown (Kept.drew (Kept.refl w1 F1)) G1.out ?_) (.inl hFp) _) (.inl hFp) _
    intro k hk
    exact .inl ((H2.out k).2 (.inr (.inl hk)))


theorem restart_any (base p : Nat) (F : Nat → Prop) (x : FD) (w : World) (h : FileAt base w p F x) :
    Calls Try.prog 16 #[.pointer (some ⟨p, 0, none⟩)] w fun e w' => e = .returned (.tuple #[]) ∧ Moved base w w' p F ⟨x.safe, if x.down then x.loose else [], 0, x.keep, false⟩ := by
  obtain ⟨sv, lv, hb, hp, hbs, hs, hl, hdis, hF⟩ := h
  have hsp := own_ne hs hb (by decide)
  have hlp := own_ne hl hb (by decide)
  have H2 := Lib.hid hF
  have H3 := Lib.hid hb
  have H1 := Lib.hid hdis
  have h4 := cellOf (j := 4) hb
  have h1 := cellOf (j := 1) hb
  have h2 := cellOf (j := 2) hb
  simp at h4 h1 h2
  have f1 := freeOf (j := 1) hb
  have f2 := freeOf (j := 2) hb
  have f4 := freeOf (j := 4) hb
  have hFp := Lib.hid ((hF p).2 (.inl rfl))
  clear hb hF hdis
  cases hd : x.down
  · rw [hd] at h4
    have HD := Lib.hid hd
    clear hd
    go_enter Try.func16, Try.ntmps16
    go_wp2
    go_end0
    refine ⟨rfl, fun k => k = p ∨ sv.ownBlock = some k, ⟨sv, .slice none 0 0, ?_, hp, by simpa [World.setCell] using hbs, own_far (own_far (own_far hs hsp _) hsp _) hsp _, ?_, by simp [Value.ownBlock], fun k => by simp [Value.ownBlock]⟩, ?_, ?_⟩
    · have := blk_set (blk_set (blk_set H3.out 1 (.slice none 0 0)) 4 (.bool false)) 2 (.int .i64 0)
      simpa using this
    · exact World.ownsRow_nil _ _ _ _
    · rintro k (rfl | hk)
      · exact .inl hFp.out
      · exact .inl ((H2.out k).2 (.inr (.inl hk)))
    · exact Kept.setCell (Kept.setCell (Kept.setCell (Kept.refl w F) (.inl hFp.out) _) (.inl hFp.out) _) (.inl hFp.out) _
  · rw [hd] at h4
    have HD := Lib.hid hd
    clear hd
    go_enter Try.func16, Try.ntmps16
    go_wp2
    go_end0
    refine ⟨rfl, F, ⟨sv, lv, ?_, hp, by simpa [World.setCell] using hbs, own_far (own_far hs hsp _) hsp _, own_far (own_far hl hlp _) hlp _, H1.out, H2.out⟩, fun k hk => .inl hk, Kept.setCell (Kept.setCell (Kept.refl w F) (.inl hFp.out) _) (.inl hFp.out) _⟩
    have := blk_set (blk_set H3.out 4 (.bool false)) 2 (.int .i64 0)
    simpa using this

theorem arm_bad (base p : Nat) (F : Nat → Prop) (x : FD) (o k : Int) (w : World) (h : o < 1 ∨ 65536 < o ∨ k < 0 ∨ 2 < k) :
    Calls Try.prog 17 #[.pointer (some ⟨p, 0, none⟩), .int .i64 o, .int .i64 k] w fun e w' => e = .returned (.int .i64 141) ∧ w' = w := by
  have H := Lib.hid h
  clear h
  go_enter Try.func17, Try.ntmps17
  go_wp2
  all_goals first
    | (go_ret; exact ⟨rfl, rfl⟩)
    | (exfalso; have := H.out; omega)

theorem arm_ok (base p : Nat) (F : Nat → Prop) (x : FD) (o k : Nat) (w : World) (h : FileAt base w p F x) (h1 : 1 ≤ o) (h2 : o ≤ 65536) (h3 : k ≤ 2) :
    Calls Try.prog 17 #[.pointer (some ⟨p, 0, none⟩), .int .i64 o, .int .i64 k] w fun e w' => e = .returned (.int .i64 0) ∧ Moved base w w' p F { x with fuse := o, keep := k } := by
  obtain ⟨sv, lv, hb, hp, hbs, hs, hl, hdis, hF⟩ := h
  have hsp := own_ne hs hb (by decide)
  have hlp := own_ne hl hb (by decide)
  have H2 := Lib.hid hF
  have H3 := Lib.hid hb
  have H1 := Lib.hid hdis
  have c2 := cellOf (j := 2) hb
  have c3 := cellOf (j := 3) hb
  simp at c2 c3
  have f2 := freeOf (j := 2) hb
  have f3 := freeOf (j := 3) hb
  have hFp := Lib.hid ((hF p).2 (.inl rfl))
  clear hb hF hdis
  go_enter Try.func17, Try.ntmps17
  go_wp2
  all_goals first
    | (exfalso; omega)
    | skip
  go_ret
  refine ⟨rfl, F, ⟨sv, lv, ?_, hp, by simpa [World.setCell] using hbs, own_far (own_far hs hsp _) hsp _, own_far (own_far hl hlp _) hlp _, H1.out, H2.out⟩, fun k hk => .inl hk, Kept.setCell (Kept.setCell (Kept.refl w F) (.inl hFp.out) _) (.inl hFp.out) _⟩
  have := blk_set (blk_set H3.out 2 (.int .i64 o)) 3 (.int .i64 k)
  simpa using this

theorem read_down (base p : Nat) (F : Nat → Prop) (x : FD) (w : World) (h : FileAt base w p F x) (hd : x.down = true) :
    Calls Try.prog 23 #[.pointer (some ⟨p, 0, none⟩)] w fun e w' => e = .returned (.tuple #[.string ⟨#[]⟩, .int .i64 170]) ∧ ∃ n, w' = w.drewN n := by
  obtain ⟨sv, lv, hb, _⟩ := h
  have h4 := cellOf (j := 4) hb
  simp [hd] at h4
  clear hb hd
  go_enter Try.func23, Try.ntmps23
  go_wp2
  go_ret2
  exact ⟨rfl, 0, rfl⟩

set_option maxHeartbeats 800000 in
theorem read_up (base p : Nat) (F : Nat → Prop) (x : FD) (w : World) (h : FileAt base w p F x) (hd : x.down = false) (hr : Room x) :
    Calls Try.prog 23 #[.pointer (some ⟨p, 0, none⟩)] w fun e w' => e = .returned (.tuple #[.string ⟨(x.safe ++ x.loose).toArray⟩, .int .i64 0]) ∧ ∃ n, w' = w.drewN n := by
  obtain ⟨sv, lv, hb, hp, hbs, hs, hl, hdis, hF⟩ := h
  have h4 := cellOf (j := 4) hb
  have h0 := cellOf (j := 0) hb
  have h1 := cellOf (j := 1) hb
  simp [hd] at h4 h0 h1
  have r1 := run_convert_own (P := Try.prog) w.drew 52 9 5 base _ sv x.safe elemByte.under underU8 underStr (own_drew hs)
  have r2 := run_convert_own (P := Try.prog) w.drew 52 9 5 base _ lv x.loose elemByte.under underU8 underStr (own_drew hl)
  have r3 : ∀ w', (Op.stringOp .add ⟨x.safe.toArray⟩ ⟨x.loose.toArray⟩).run Try.prog w' = .ok (.string ⟨(x.safe ++ x.loose).toArray⟩) w' := fun w' => by
    rw [run_string_add_sum w' _ _ (by unfold Room at hr; simp only [size_mk]; omega), ByteArray.mk_append_mk]
  clear hb hF hdis hs hl hd hr
  go_enter Try.func23, Try.ntmps23
  go_wp2
  refine wp_region_lex (fun _ => True) [0, 0, 0, 1, 1, 0, 0, 0, 1, 1, 0, 0, 0] (by kernel_rfl) (by kernel_rfl) (by kernel_rfl) (trivial) (fun Q' hQ' => ?_)
  simp only [List.zip_cons_cons, List.zip_nil_right]
  repeat (first
    | (refine wpX_light rfl (fun K hK => ?_)
       apply Exists.intro
       refine ⟨fun w' hw' => ?_, ?_⟩
       · try dsimp only at hw'
         go_simp
         exact ⟨rfl, rfl⟩
       go_simp
       refine hK _ _ ?_
       clear hK K)
    | (refine wpX_read rfl (fun K hK => ?_)
       apply Exists.intro
       refine ⟨?_, ?_⟩
       · go_simp
         exact ⟨rfl, rfl⟩
       go_simp
       refine hK _ _ ?_
       clear hK K)
    | (refine wpX_not rfl (fun K hK => ?_)
       go_simp
       refine hK _ _ ?_
       clear hK K)
    | (refine wpX_light_g rfl (fun K hK => ?_)
       apply Exists.intro
       refine ⟨fun w' hw' => ?_, ?_⟩
       · try dsimp only at hw'
         go_simp
         exact ⟨rfl, rfl⟩
       go_simp
       refine hK _ _ ?_
       clear hK K)
    | (refine wpX_read_g rfl (fun K hK => ?_)
       apply Exists.intro
       refine ⟨?_, ?_⟩
       · go_simp
         exact ⟨rfl, rfl⟩
       go_simp
       refine hK _ _ ?_
       clear hK K))
  refine wpX_nil (hQ' _ _ ?_)
  go_wp2
  go_ret2
  exact ⟨rfl, 1, rfl⟩

theorem new_any (base : Nat) (w : World) (hb : base ≤ w.heap.size) :
    Calls Try.prog 13 #[] w fun e w' => e = .returned (.pointer (some ⟨w.heap.size, 0, none⟩)) ∧
      FileAt base w' w.heap.size (fun k => k = w.heap.size) ⟨[], [], 0, 0, false⟩ ∧ Kept w w' (fun _ => False) := by
  go_enter Try.func13, Try.ntmps13
  go_wp2
  go_ret
  refine ⟨rfl, ⟨.slice none 0 0, .slice none 0 0, ?_, hb, by simp; omega, World.ownsRow_nil _ _ _ _, World.ownsRow_nil _ _ _ _, by simp [Value.ownBlock], by simp [Value.ownBlock]⟩, Kept.alloc (Kept.refl _ _) _⟩
  exact heap_alloc_new w _
end Go.Proofs.Ytegonafacbokeaa.Disk
