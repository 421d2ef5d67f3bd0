/-
  What the calls of the package disk do to a file in memory, Append, Sync, Cut, Arm, Restart, Read and New.
-/
import Derived.Test.YtegonafacbokeaaDisk
namespace Go.Proofs.Ytegonafacbokeaa.Disk
open Go.RowKit Go.Proofs.YtegonafacbokeaaBase Go.Proofs.YtegonafacbokeaaLex
set_option linter.unusedVariables false
set_option linter.unusedSimpArgs false

theorem add_down (base p : Nat) (F : Nat → Prop) (x : FD) (d : ByteArray) (w : World) (h : FileAt base w p F x) (hd : x.down = true) :
    Calls Try.prog 25 #[.pointer (some ⟨p, 0, none⟩), .string d] w fun e w' => e = .returned (.int .i64 170) ∧ w' = w := by
  obtain ⟨sv, lv, hb, _⟩ := h
  have h4 := cellOf (j := 4) hb
  simp [hd] at h4
  clear hb hd
  go_enter Try.func25, Try.ntmps25
  go_wp2
  go_ret
  exact ⟨rfl, rfl⟩

set_option maxHeartbeats 800000 in
theorem add_up (base p : Nat) (F : Nat → Prop) (x : FD) (d : ByteArray) (w : World) (h : FileAt base w p F x) (hd : x.down = false)
    (hr : Room { x with loose := x.loose ++ d.data.toList }) (hg : Good x) :
    Calls Try.prog 25 #[.pointer (some ⟨p, 0, none⟩), .string d] w fun e w' => e = .returned (.int .i64 (if x.burns then 140 else 0)) ∧ Moved base w w' p F (FD.burn { x with loose := x.loose ++ d.data.toList }) := by
  obtain ⟨sv, lv, hb, hp, hbs, hs, hl, hdis, hF⟩ := h
  obtain ⟨la, lc, rfl, hlc, hlm⟩ := own_slice hl
  have h1 := cellOf (j := 1) hb
  have h4 := cellOf (j := 4) hb
  simp [hd] at h1 h4
  have f1 := freeOf (j := 1) hb
  have hsp := own_ne hs hb (by decide)
  have hlp := own_ne hl hb (by decide)
  have H1 := Lib.hid hdis
  have H2 := Lib.hid hF
  have H3 := Lib.hid hb
  have H4 := Lib.hid hd
  clear hdis hF hb hd
  have hdl : d.data.toList.length = d.size := by rw [Array.length_toList]; rfl
  have HR := Lib.hid hr
  have HD := Lib.hid hdl
  have hby : ((x.loose.length + d.size) + (x.loose.length + d.size) / 4 + 192) * 1 ≤ 281474976710656 := by
    unfold Room at hr; simp only [List.length_append, hdl] at hr; omega
  have HB := Lib.hid hby
  clear hr hdl hby
  go_enter Try.func25, Try.ntmps25
  go_wp2_with (at_builtin; refine wpList_append_ownS _ rfl (.tmp 13) (.tmp 14) 52 9 rfl base 5 (.int .u8 0) 1 1 elemByte (.slice la x.loose.length lc) x.loose.length (bc x.loose) rfl hl (.string d) d.size (bc d.data.toList) rfl (Src.ofString _ underStr d) HB.out hbs ?go)
  case go =>
    intro v' w1 o1 g1 b1
    obtain ⟨A', c', rfl, hc1, hc2⟩ := own_slice o1
    have hb2 := Lib.hid (blk_grown H3.out g1 (fun e => hlp e.symm))
    have hp2 := own_ne o1 hb2.out (by decide)
    have k1 := cellOf (j := 1) hb2.out
    simp at k1
    have e1 := freeOf (j := 1) hb2.out
    -- the file as it stands behind the store
    have hl2 : (x.loose ++ d.data.toList).length = x.loose.length + d.size := by rw [List.length_append, HD.out]
    have hs1 : w1.ownsRow base 5 1 sv x.safe.length (bc x.safe) := hs.kept g1 (by
      cases hsv : sv.ownBlock with
      | none => exact .inl rfl
      | some g => exact .inr (fun e => H1.out g hsv e.symm))
    have file : FileAt base (w1.setCell ⟨p, 1, none⟩ (.slice A' (x.loose.length + d.size) c')) p (fun k => k = p ∨ sv.ownBlock = some k ∨ (Value.slice A' (x.loose.length + d.size) c').ownBlock = some k) { x with loose := x.loose ++ d.data.toList } := by
      refine ⟨sv, .slice A' (x.loose.length + d.size) c', ?_, hp, ?_, own_far hs1 hsp _, ?_, ?_, fun k => Iff.rfl⟩
      · have := blk_set hb2.out 1 (.slice A' (x.loose.length + d.size) c')
        simpa using this
      · have := g1.size
        simp [World.setCell] at this ⊢
        omega
      · simp only [hl2, bc_append]
        exact own_far o1 hp2 _
      · intro g hg he
        rcases b1 g he with h | h
        · exact H1.out g hg h
        · have := (hs.lt g hg).2
          omega
    have keptF : Kept w (w1.setCell ⟨p, 1, none⟩ (.slice A' (x.loose.length + d.size) c')) F :=
      Kept.setCell (Kept.grown (Kept.refl w F) g1 (fun k hk => .inl ((H2.out k).2 (.inr (.inr hk))))) (.inl ((H2.out p).2 (.inl rfl))) _
    have footF : ∀ k, (k = p ∨ sv.ownBlock = some k ∨ (Value.slice A' (x.loose.length + d.size) c').ownBlock = some k) → F k ∨ w.heap.size ≤ k := by
      rintro k (rfl | hk | hk)
      · exact .inl ((H2.out k).2 (.inl rfl))
      · exact .inl ((H2.out k).2 (.inr (.inl hk)))
      · rcases b1 k hk with h | h
        · exact .inl ((H2.out k).2 (.inr (.inr h)))
        · exact .inr h
    have FL := Lib.hid file
    have KF := Lib.hid keptF
    have FF := Lib.hid footF
    clear g1 b1 hs1 file keptF footF hl2
    go_wp2_with (go_at_call 38; refine (burnt_any base p _ _ _ FL.out HR.out hg).mono ?_; rintro e w' ⟨rfl, hm⟩; have HM := Lib.hid hm; clear hm)
    all_goals go_ret
    all_goals refine ⟨?_, Moved.trans FF.out KF.out HM.out⟩
    all_goals simp_all [FD.burns]

theorem sync_down (base p : Nat) (F : Nat → Prop) (x : FD) (w : World) (h : FileAt base w p F x) (hd : x.down = true) :
    Calls Try.prog 26 #[.pointer (some ⟨p, 0, none⟩)] w fun e w' => e = .returned (.int .i64 170) ∧ w' = w := by
  obtain ⟨sv, lv, hb, _⟩ := h
  have h4 := cellOf (j := 4) hb
  simp [hd] at h4
  clear hb hd
  go_enter Try.func26, Try.ntmps26
  go_wp2
  go_ret
  exact ⟨rfl, rfl⟩
theorem burn_no {x : FD} (h : x.burns = false) : x.burn = { x with fuse := x.fuse - 1 } := by
  unfold FD.burns at h; unfold FD.burn
  rw [if_neg (by simpa using h)]

theorem sync_crash (base p : Nat) (F : Nat → Prop) (x : FD) (w : World) (h : FileAt base w p F x) (hd : x.down = false) (hr : Room x) (hg : Good x) (hb : x.burns = true) :
    Calls Try.prog 26 #[.pointer (some ⟨p, 0, none⟩)] w fun e w' => e = .returned (.int .i64 140) ∧ Moved base w w' p F x.burn := by
  have FL := Lib.hid h
  obtain ⟨sv, lv, hbk, _⟩ := h
  have h4 := cellOf (j := 4) hbk
  simp [hd] at h4
  have HR := Lib.hid hr
  clear hbk hd hr
  go_enter Try.func26, Try.ntmps26
  go_wp2_with (go_at_call 38; refine (burnt_any base p _ _ _ FL.out HR.out hg).mono ?_; rintro e w' ⟨rfl, hm⟩; have HM := Lib.hid hm; clear hm)
  go_ret
  exact ⟨rfl, HM.out⟩

set_option maxHeartbeats 1600000 in
theorem sync_up (base p : Nat) (F : Nat → Prop) (x : FD) (w : World) (h : FileAt base w p F x) (hd : x.down = false) (hr : Room x) (hg : Good x) (hb : x.burns = false) :
    Calls Try.prog 26 #[.pointer (some ⟨p, 0, none⟩)] w fun e w' => e = .returned (.int .i64 0) ∧ Moved base w w' p F ⟨x.safe ++ x.loose, [], x.fuse - 1, x.keep, x.down⟩ := by
  have FL := Lib.hid h
  obtain ⟨sv0, lv0, hbk, _⟩ := h
  have h4 := cellOf (j := 4) hbk
  simp [hd] at h4
  have HR := Lib.hid hr
  have HDN := Lib.hid hd
  have HBN := Lib.hid hb
  clear hbk hd hr
  go_enter Try.func26, Try.ntmps26
  go_wp2_with (go_at_call 38; refine (burnt_any base p _ _ _ FL.out HR.out hg).mono ?_; rintro e w1 ⟨rfl, hm⟩; have HM := Lib.hid hm; clear hm)
  obtain ⟨F1, hf1, hF1, hk1⟩ := HM.out
  rw [burn_no HBN.out] at hf1
  obtain ⟨sv, lv, hbk, hp, hbs, hs, hl, hdis, hF⟩ := hf1
  simp only at hs hl
  obtain ⟨sa, sc, rfl, hsc, hsm⟩ := own_slice hs
  obtain ⟨la, lc, rfl, hlc, hlm⟩ := own_slice hl
  have k0 := cellOf (j := 0) hbk
  have k1 := cellOf (j := 1) hbk
  simp at k0 k1
  have f0 := freeOf (j := 0) hbk
  have f1 := freeOf (j := 1) hbk
  have hsp := own_ne hs hbk (by decide)
  have hlp := own_ne hl hbk (by decide)
  have H1 := Lib.hid hdis
  have H2 := Lib.hid hF
  have H3 := Lib.hid hbk
  have H5 := Lib.hid hF1
  have H6 := Lib.hid hk1
  clear hdis hF hbk hF1 hk1
  refine wp_region_lex (fun _ => True) [0, 0, 0, 0, 0, 1, 0, 0, 0, 1, 2, 0, 0, 2, 0, 0, 2] (by kernel_rfl) (by kernel_rfl) (by kernel_rfl) (trivial) (fun Q' hQ' => ?_)
  simp only [List.zip_cons_cons, List.zip_nil_right]
  repeat (first
    | (refine wpX_light rfl (fun K hK => ?_)
       apply Exists.intro
       refine ⟨fun w' hw' => ?_, ?_⟩
       · try dsimp only at hw'
         go_simp
         exact ⟨rfl, rfl⟩
       go_simp
       refine hK _ _ ?_
       clear hK K)
    | (refine wpX_read rfl (fun K hK => ?_)
       apply Exists.intro
       refine ⟨?_, ?_⟩
       · go_simp
         exact ⟨rfl, rfl⟩
       go_simp
       refine hK _ _ ?_
       clear hK K)
    | (refine wpX_not rfl (fun K hK => ?_)
       go_simp
       refine hK _ _ ?_
       clear hK K)
    | (refine wpX_light_g rfl (fun K hK => ?_)
       apply Exists.intro
       refine ⟨fun w' hw' => ?_, ?_⟩
       · try dsimp only at hw'
         go_simp
         exact ⟨rfl, rfl⟩
       go_simp
       refine hK _ _ ?_
       clear hK K)
    | (refine wpX_read_g rfl (fun K hK => ?_)
       apply Exists.intro
       refine ⟨?_, ?_⟩
       · go_simp
         exact ⟨rfl, rfl⟩
       go_simp
       refine hK _ _ ?_
       clear hK K))
  refine wpX_heavy rfl (fun K hK => ?_)
  refine wp_append_ownS _ (.tmp 14) (.tmp 18) 52 52 rfl base 5 (.int .u8 0) 1 1 elemByte (.slice sa x.safe.length sc) x.safe.length (bc x.safe) rfl (own_drew hs) (.slice la x.loose.length lc) x.loose.length (bc x.loose) rfl ?src ?by1 ?ba (fun v' w2 o1 g1 b1 => ?_)
  case src => exact src_own (base := base) (e := 5) (e' := 5) elemByte.under (own_drew hl) (bc_one _)
  case by1 => have := HR.out; unfold Room at this; omega
  case ba => exact hbs
  obtain ⟨A', c', rfl, hc1, hc2⟩ := own_slice o1
  have hb2 := Lib.hid (blk_grown (w := w1.drew) H3.out g1 (fun e => hsp e.symm))
  have hp2 := own_ne o1 hb2.out (by decide)
  have k0 := cellOf (j := 0) hb2.out
  have k1 := cellOf (j := 1) hb2.out
  simp at k0 k1
  have e0 := freeOf (j := 0) hb2.out
  have e1 := freeOf (j := 1) hb2.out
  have G1 := Lib.hid g1
  have B1 := Lib.hid b1
  clear g1 b1
  go_simp
  refine hK _ _ ⟨rfl, trivial, ?_⟩
  clear hK K
  repeat (first
    | (refine wpX_light rfl (fun K hK => ?_)
       apply Exists.intro
       refine ⟨fun w' hw' => ?_, ?_⟩
       · try dsimp only at hw'
         go_simp
         exact ⟨rfl, rfl⟩
       go_simp
       refine hK _ _ ?_
       clear hK K)
    | (refine wpX_read rfl (fun K hK => ?_)
       apply Exists.intro
       refine ⟨?_, ?_⟩
       · go_simp
         exact ⟨rfl, rfl⟩
       go_simp
       refine hK _ _ ?_
       clear hK K)
    | (refine wpX_not rfl (fun K hK => ?_)
       go_simp
       refine hK _ _ ?_
       clear hK K)
    | (refine wpX_light_g rfl (fun K hK => ?_)
       apply Exists.intro
       refine ⟨fun w' hw' => ?_, ?_⟩
       · try dsimp only at hw'
         go_simp
         exact ⟨rfl, rfl⟩
       go_simp
       refine hK _ _ ?_
       clear hK K)
    | (refine wpX_read_g rfl (fun K hK => ?_)
       apply Exists.intro
       refine ⟨?_, ?_⟩
       · go_simp
         exact ⟨rfl, rfl⟩
       go_simp
       refine hK _ _ ?_
       clear hK K))
  refine wpX_heavy rfl (fun K hK => ?_)
  go_wp2
  repeat (first
    | (refine wpX_light rfl (fun K hK => ?_)
       apply Exists.intro
       refine ⟨fun w' hw' => ?_, ?_⟩
       · try dsimp only at hw'
         go_simp
         exact ⟨rfl, rfl⟩
       go_simp
       refine hK _ _ ?_
       clear hK K)
    | (refine wpX_read rfl (fun K hK => ?_)
       apply Exists.intro
       refine ⟨?_, ?_⟩
       · go_simp
         exact ⟨rfl, rfl⟩
       go_simp
       refine hK _ _ ?_
       clear hK K)
    | (refine wpX_not rfl (fun K hK => ?_)
       go_simp
       refine hK _ _ ?_
       clear hK K)
    | (refine wpX_light_g rfl (fun K hK => ?_)
       apply Exists.intro
       refine ⟨fun w' hw' => ?_, ?_⟩
       · try dsimp only at hw'
         go_simp
         exact ⟨rfl, rfl⟩
       go_simp
       refine hK _ _ ?_
       clear hK K)
    | (refine wpX_read_g rfl (fun K hK => ?_)
       apply Exists.intro
       refine ⟨?_, ?_⟩
       · go_simp
         exact ⟨rfl, rfl⟩
       go_simp
       refine hK _ _ ?_
       clear hK K))
  refine wpX_heavy rfl (fun K hK => ?_)
  go_wp2
  refine hQ' _ _ ?_
  go_wp2
  go_ret
  refine ⟨rfl, Moved.trans H5.out H6.out ⟨fun k => k = p ∨ (Value.slice A' (x.safe.length + x.loose.length) c').ownBlock = some k, ⟨.slice A' (x.safe.length + x.loose.length) c', .slice none 0 0, ?_, hp, ?_, ?_, World.ownsRow_nil _ _ _ _, ?_, ?_⟩, ?_, ?_⟩⟩
  · have := blk_set (blk_set hb2.out 0 (.slice A' (x.safe.length + x.loose.length) c')) 1 (.slice none 0 0)
    simpa using this
  · have := G1.out.size
    simp [World.setCell] at this ⊢
    omega
  · simp only [List.length_append, bc_append]
    exact own_far (own_far o1 hp2 _) hp2 _
  · simp [Value.ownBlock]
  · intro k; simp [Value.ownBlock]
  · rintro k (rfl | hk)
    · exact .inl ((H2.out k).2 (.inl rfl))
    · rcases B1.out k hk with h | h
      · exact .inl ((H2.out k).2 (.inr (.inl h)))
      · exact .inr (by simpa [World.setCell] using h)
  · have hFp : F1 p := (H2.out p).2 (.inl rfl)
    refine Kept.setCell (Kept.setCell (Kept.grown (Kept.drew (Kept.refl w1 F1)) G1.out ?_) (.inl hFp) _) (.inl hFp) _
    intro k hk
    exact .inl ((H2.out k).2 (.inr (.inl hk)))

end Go.Proofs.Ytegonafacbokeaa.Disk
