/-
  What the calls of the package disk do to a file in memory: a contract for each, over a file of which the bytes that are safe, the loose ones, the plan of a crash and its being down are known.
-/
import Derived.Test.YtegonafacbokeaaBase
import Derived.Test.YtegonafacbokeaaLex
namespace Go.Proofs.Ytegonafacbokeaa.Disk
open Go.RowKit Go.Proofs.YtegonafacbokeaaBase Go.Proofs.YtegonafacbokeaaLex
set_option linter.unusedVariables false
set_option linter.unusedSimpArgs false

structure FD where
  safe : List UInt8
  loose : List UInt8
  fuse : Nat
  keep : Nat
  down : Bool

theorem infoByte : Try.prog.info? 5 = some (Try.prog.types[5]!) := by kernel_rfl
theorem elemByte : Elem Try.prog 52 5 (.int .u8 0) 1 1 := ⟨by kernel_rfl, ⟨_, infoByte, rfl, rfl, rfl⟩, rfl, by decide, by decide⟩
theorem underStr : Try.prog.underlying 9 = some .string := by kernel_rfl
theorem underU8 : Try.prog.underlying 5 = some (.int .u8) := by kernel_rfl

/-- How many loose bytes survive a crash. -/
def FD.kept (x : FD) : Nat := if x.keep = 1 then x.loose.length / 2 else if x.keep = 2 then x.loose.length else 0
def FD.burns (x : FD) : Bool := x.fuse == 1
def FD.burn (x : FD) : FD := if x.fuse = 1 then ⟨x.safe ++ x.loose.take x.kept, [], 0, x.keep, true⟩ else { x with fuse := x.fuse - 1 }

/-- The file at block p; the blocks that are its own: F. -/
def FileAt (base : Nat) (w : World) (p : Nat) (F : Nat → Prop) (x : FD) : Prop :=
  ∃ sv lv, w.heap[p]? = some (.cells #[sv, lv, .int .i64 x.fuse, .int .i64 x.keep, .bool x.down] 56 (0, 0)) ∧ base ≤ p ∧ base ≤ w.heap.size ∧
    w.ownsRow base 5 1 sv x.safe.length (bc x.safe) ∧ w.ownsRow base 5 1 lv x.loose.length (bc x.loose) ∧
    (∀ g, sv.ownBlock = some g → lv.ownBlock ≠ some g) ∧ (∀ k, F k ↔ k = p ∨ sv.ownBlock = some k ∨ lv.ownBlock = some k)

def Room (x : FD) : Prop := x.safe.length + x.loose.length ≤ 200000000000000
def Good (x : FD) : Prop := x.fuse ≤ 65536 ∧ x.keep ≤ 2

/-- A step of the file: all else is as it was. -/
def Moved (base : Nat) (w w' : World) (p : Nat) (F : Nat → Prop) (x' : FD) : Prop :=
  ∃ F', FileAt base w' p F' x' ∧ (∀ k, F' k → F k ∨ w.heap.size ≤ k) ∧ Kept w w' F

theorem FileAt.base_le {base p : Nat} {w : World} {F : Nat → Prop} {x : FD} (h : FileAt base w p F x) : ∀ k, F k → base ≤ k := by
  obtain ⟨sv, lv, hb, hp, hbs, hs, hl, hd, hF⟩ := h
  intro k hk
  rcases (hF k).1 hk with rfl | h | h
  · exact hp
  · exact (hs.lt k h).1
  · exact (hl.lt k h).1
theorem FileAt.lt {base p : Nat} {w : World} {F : Nat → Prop} {x : FD} (h : FileAt base w p F x) : ∀ k, F k → k < w.heap.size := by
  obtain ⟨sv, lv, hb, hp, hbs, hs, hl, hd, hF⟩ := h
  intro k hk
  rcases (hF k).1 hk with rfl | h | h
  · exact blk_lt hb
  · exact (hs.lt k h).2
  · exact (hl.lt k h).2
theorem FileAt.kept {base p : Nat} {w w' : World} {F G : Nat → Prop} {x : FD} (h : FileAt base w p F x) (hk : Kept w w' G) (hd : ∀ k, F k → ¬ G k) : FileAt base w' p F x := by
  obtain ⟨sv, lv, hb, hp, hbs, hs, hl, hd', hF⟩ := h
  exact ⟨sv, lv, hk.blk hb (hd p ((hF p).2 (.inl rfl))), hp, Nat.le_trans hbs hk.size, own_keptF hs hk (fun g hg => hd g ((hF g).2 (.inr (.inl hg)))), own_keptF hl hk (fun g hg => hd g ((hF g).2 (.inr (.inr hg)))), hd', hF⟩
theorem FileAt.drew {base p : Nat} {w : World} {F : Nat → Prop} {x : FD} (h : FileAt base w p F x) : FileAt base w.drew p F x := h
theorem FileAt.own {base p : Nat} {w : World} {F : Nat → Prop} {x : FD} (h : FileAt base w p F x) : F p := by
  obtain ⟨sv, lv, hb, hp, hbs, hs, hl, hd, hF⟩ := h
  exact (hF p).2 (.inl rfl)
theorem Moved.trans {base p : Nat} {w w1 w2 : World} {F F1 : Nat → Prop} {x2 : FD} (hF : ∀ k, F1 k → F k ∨ w.heap.size ≤ k) (hk : Kept w w1 F) (h2 : Moved base w1 w2 p F1 x2) : Moved base w w2 p F x2 := by
  obtain ⟨F2, f2, b2, k2⟩ := h2
  exact ⟨F2, f2, fun k hk2 => (b2 k hk2).elim (hF k) (fun h => .inr (Nat.le_trans hk.size h)), hk.trans k2 hF⟩

theorem burnt_no (base p : Nat) (F : Nat → Prop) (x : FD) (w : World) (h : FileAt base w p F x) (hf : x.fuse = 0) :
    Calls Try.prog 38 #[.pointer (some ⟨p, 0, none⟩)] w fun e w' => e = .returned (.bool false) ∧ Moved base w w' p F { x with fuse := x.fuse - 1 } := by
  have h' := Lib.hid h
  obtain ⟨sv, lv, hb, hp, hbs, hs, hl, hd, hF⟩ := h
  have h2 := cellOf (j := 2) hb
  simp [hf] at h2
  have H1 := Lib.hid hd
  have H2 := Lib.hid hF
  have H3 := Lib.hid hb
  have H4 := Lib.hid hf
  clear hd hF hb hf
  go_enter Try.func38, Try.ntmps38
  go_wp2
  go_ret
  refine ⟨rfl, F, ?_, fun k hk => .inl hk, Kept.refl _ _⟩
  have e : ({ x with fuse := x.fuse - 1 } : FD) = x := by cases x; have := H4.out; simp_all
  rw [e]
  exact h'.out

theorem burnt_wait (base p : Nat) (F : Nat → Prop) (x : FD) (w : World) (h : FileAt base w p F x) (hf : 1 < x.fuse) (hf2 : x.fuse ≤ 65536) :
    Calls Try.prog 38 #[.pointer (some ⟨p, 0, none⟩)] w fun e w' => e = .returned (.bool false) ∧ Moved base w w' p F { x with fuse := x.fuse - 1 } := by
  obtain ⟨sv, lv, hb, hp, hbs, hs, hl, hd, hF⟩ := h
  have hb' := Lib.hid hb
  obtain ⟨f, hfe⟩ : ∃ f : Int, (x.fuse : Int) = f := ⟨_, rfl⟩
  have fb1 : 1 < f := by omega
  have fb2 : f ≤ 65536 := by omega
  rw [hfe] at hb
  have h2 := cellOf (j := 2) hb
  simp at h2
  have f2 := freeOf (j := 2) hb
  have h0 : (f == 0) = false := by simp; omega
  have hsp := own_ne hs hb (by decide)
  have hlp := own_ne hl hb (by decide)
  have hfe1 := Lib.hid hfe
  have H1 := Lib.hid hd
  have H2 := Lib.hid hF
  clear hb hfe hd hF
  go_enter Try.func38, Try.ntmps38
  go_wp2
  go_ret
  refine ⟨rfl, F, ⟨sv, lv, ?_, hp, by simpa [World.setCell] using hbs, own_far hs (by simpa using hsp) _, own_far hl (by simpa using hlp) _, H1.out, H2.out⟩, fun k hk => .inl hk, (Kept.refl _ _).setCell (.inl ((H2.out p).2 (.inl rfl))) _⟩
  have := blk_set hb'.out 2 (.int .i64 (f - 1))
  have e : ((x.fuse - 1 : Nat) : Int) = f - 1 := by rw [← hfe1.out]; omega
  simpa [e] using this

set_option maxHeartbeats 800000 in
theorem burnt_crash0 (base p : Nat) (F : Nat → Prop) (x : FD) (w : World) (h : FileAt base w p F x) (hr : Room x) (hf : x.fuse = 1) (hk : x.keep = 0) :
    Calls Try.prog 38 #[.pointer (some ⟨p, 0, none⟩)] w fun e w' => e = .returned (.bool true) ∧ Moved base w w' p F ⟨x.safe ++ x.loose.take (0 : Nat), [], 0, 0, true⟩ := by
  obtain ⟨sv, lv, hb, hp, hbs, hs, hl, hd, hF⟩ := h
  obtain ⟨sa, sc, rfl, hsc, hsm⟩ := own_slice hs
  obtain ⟨la, lc, rfl, hlc, hlm⟩ := own_slice hl
  have h0 := cellOf (j := 0) hb
  have h1 := cellOf (j := 1) hb
  have h2 := cellOf (j := 2) hb
  have h3 := cellOf (j := 3) hb
  have h4 := cellOf (j := 4) hb
  simp [hf] at h0 h1 h2 h3 h4
  simp [hk] at h3
  have f0 := freeOf (j := 0) hb
  have f1 := freeOf (j := 1) hb
  have f2 := freeOf (j := 2) hb
  have f4 := freeOf (j := 4) hb
  unfold maxLen at *
  have hsp := own_ne hs hb (by decide)
  have hlp := own_ne hl hb (by decide)
  have H1 := Lib.hid hd
  have H2 := Lib.hid hF
  have H3 := Lib.hid hb
  have H4 := Lib.hid hf
  have H5 := Lib.hid hk
  clear hd hF hb hf hk
  have q1 : True := trivial
  go_enter Try.func38, Try.ntmps38
  go_wp2
  refine wp_region_lex (fun _ => True) [0, 0, 0, 0, 1, 0, 0, 0, 1, 0, 0, 2, 0, 0, 2] (by kernel_rfl) (by kernel_rfl) (by kernel_rfl) (trivial) (fun Q' hQ' => ?_)
  simp only [List.zip_cons_cons, List.zip_nil_right]
  repeat (first
    | (refine wpX_light rfl (fun K hK => ?_)
       apply Exists.intro
       refine ⟨fun w' hw' => ?_, ?_⟩
       · try dsimp only at hw'
         go_simp
         exact ⟨rfl, rfl⟩
       go_simp
       refine hK _ _ ?_
       clear hK K)
    | (refine wpX_read rfl (fun K hK => ?_)
       apply Exists.intro
       refine ⟨?_, ?_⟩
       · go_simp
         exact ⟨rfl, rfl⟩
       go_simp
       refine hK _ _ ?_
       clear hK K)
    | (refine wpX_not rfl (fun K hK => ?_)
       go_simp
       refine hK _ _ ?_
       clear hK K)
    | (refine wpX_light_g rfl (fun K hK => ?_)
       apply Exists.intro
       refine ⟨fun w' hw' => ?_, ?_⟩
       · try dsimp only at hw'
         go_simp
         exact ⟨rfl, rfl⟩
       go_simp
       refine hK _ _ ?_
       clear hK K)
    | (refine wpX_read_g rfl (fun K hK => ?_)
       apply Exists.intro
       refine ⟨?_, ?_⟩
       · go_simp
         exact ⟨rfl, rfl⟩
       go_simp
       refine hK _ _ ?_
       clear hK K))
  refine wpX_heavy rfl (fun K hK => ?_)
  refine wp_append_ownS _ (.tmp 44) (.tmp 50) 52 52 rfl base 5 (.int .u8 0) 1 1 elemByte (.slice sa x.safe.length sc) x.safe.length (bc x.safe) rfl (own_far hs hsp _) (.slice la (0 : Nat) lc) (0 : Nat) (bc (x.loose.take (0 : Nat))) rfl ?src ?by1 ?ba (fun v' w1 o1 g1 b1 => ?_)
  case src =>
    refine src_own (base := base) (e := 5) (e' := 5) elemByte.under ?_ (bc_one _)
    have := own_take (own_far hl (p := ⟨p, 2, none⟩) hlp (.int .i64 0)) (m := (0 : Nat)) (by first | omega | exact Nat.zero_le _)
    rw [bc_take] at this
    exact own_drew this
  case by1 => have := hr; unfold Room at this; omega
  case ba => simpa [World.setCell] using hbs
  obtain ⟨A', c', rfl, hc1, hc2⟩ := own_slice o1
  have hb2 := Lib.hid (blk_grown (w := (w.setCell ⟨p, 2, none⟩ (Value.int .i64 0)).drew) (blk_set H3.out 2 (.int .i64 0)) g1 (fun e => hsp e.symm))
  have hp2 := own_ne o1 hb2.out (by decide)
  have k0 := cellOf (j := 0) hb2.out
  have k1 := cellOf (j := 1) hb2.out
  have k4 := cellOf (j := 4) hb2.out
  simp at k0 k1 k4
  have e0 := freeOf (j := 0) hb2.out
  have e1 := freeOf (j := 1) hb2.out
  have e4 := freeOf (j := 4) hb2.out
  have G1 := Lib.hid g1
  have B1 := Lib.hid b1
  clear g1 b1
  go_simp
  refine hK _ _ ⟨rfl, trivial, ?_⟩
  clear hK K
  repeat (first
    | (refine wpX_light rfl (fun K hK => ?_)
       apply Exists.intro
       refine ⟨fun w' hw' => ?_, ?_⟩
       · try dsimp only at hw'
         go_simp
         exact ⟨rfl, rfl⟩
       go_simp
       refine hK _ _ ?_
       clear hK K)
    | (refine wpX_read rfl (fun K hK => ?_)
       apply Exists.intro
       refine ⟨?_, ?_⟩
       · go_simp
         exact ⟨rfl, rfl⟩
       go_simp
       refine hK _ _ ?_
       clear hK K)
    | (refine wpX_not rfl (fun K hK => ?_)
       go_simp
       refine hK _ _ ?_
       clear hK K)
    | (refine wpX_light_g rfl (fun K hK => ?_)
       apply Exists.intro
       refine ⟨fun w' hw' => ?_, ?_⟩
       · try dsimp only at hw'
         go_simp
         exact ⟨rfl, rfl⟩
       go_simp
       refine hK _ _ ?_
       clear hK K)
    | (refine wpX_read_g rfl (fun K hK => ?_)
       apply Exists.intro
       refine ⟨?_, ?_⟩
       · go_simp
         exact ⟨rfl, rfl⟩
       go_simp
       refine hK _ _ ?_
       clear hK K))
  refine wpX_heavy rfl (fun K hK => ?_)
  go_wp2
  refine hQ' _ _ ?_
  go_wp2
  go_ret
  refine ⟨rfl, fun k => k = p ∨ (Value.slice A' (x.safe.length + (0 : Nat)) c').ownBlock = some k, ⟨.slice A' (x.safe.length + (0 : Nat)) c', .slice none 0 0, ?_, hp, ?_, ?_, World.ownsRow_nil _ _ _ _, ?_, ?_⟩, ?_, ?_⟩
  · have := blk_set (blk_set (blk_set hb2.out 0 (.slice A' (x.safe.length + (0 : Nat)) c')) 1 (.slice none 0 0)) 4 (.bool true)
    have hh := H5.out
    simpa [hh] using this
  · have := G1.out.size
    simp [World.setCell] at this ⊢
    omega
  · have hl2 : (x.safe ++ x.loose.take (0 : Nat)).length = x.safe.length + (0 : Nat)   := by simp <;> omega
    rw [hl2, bc_append]
    exact own_far (own_far (own_far o1 hp2 _) hp2 _) hp2 _
  · simp [Value.ownBlock]
  · intro k; simp [Value.ownBlock]
  · rintro k (rfl | hk)
    · exact .inl ((H2.out k).2 (.inl rfl))
    · rcases B1.out k hk with h | h
      · exact .inl ((H2.out k).2 (.inr (.inl h)))
      · exact .inr (by simpa [World.setCell] using h)
  · have hFp : F p := (H2.out p).2 (.inl rfl)
    refine Kept.setCell (Kept.setCell (Kept.setCell (Kept.grown (Kept.drew (Kept.setCell (Kept.refl w F) (.inl hFp) _)) G1.out ?_) (.inl hFp) _) (.inl hFp) _) (.inl hFp) _
    intro k hk
    exact .inl ((H2.out k).2 (.inr (.inl hk)))

set_option maxHeartbeats 800000 in
theorem burnt_crash1 (base p : Nat) (F : Nat → Prop) (x : FD) (w : World) (h : FileAt base w p F x) (hr : Room x) (hf : x.fuse = 1) (hk : x.keep = 1) :
    Calls Try.prog 38 #[.pointer (some ⟨p, 0, none⟩)] w fun e w' => e = .returned (.bool true) ∧ Moved base w w' p F ⟨x.safe ++ x.loose.take (x.loose.length / 2), [], 0, 1, true⟩ := by
  obtain ⟨sv, lv, hb, hp, hbs, hs, hl, hd, hF⟩ := h
  obtain ⟨sa, sc, rfl, hsc, hsm⟩ := own_slice hs
  obtain ⟨la, lc, rfl, hlc, hlm⟩ := own_slice hl
  have h0 := cellOf (j := 0) hb
  have h1 := cellOf (j := 1) hb
  have h2 := cellOf (j := 2) hb
  have h3 := cellOf (j := 3) hb
  have h4 := cellOf (j := 4) hb
  simp [hf] at h0 h1 h2 h3 h4
  simp [hk] at h3
  have f0 := freeOf (j := 0) hb
  have f1 := freeOf (j := 1) hb
  have f2 := freeOf (j := 2) hb
  have f4 := freeOf (j := 4) hb
  unfold maxLen at *
  have hsp := own_ne hs hb (by decide)
  have hlp := own_ne hl hb (by decide)
  have H1 := Lib.hid hd
  have H2 := Lib.hid hF
  have H3 := Lib.hid hb
  have H4 := Lib.hid hf
  have H5 := Lib.hid hk
  clear hd hF hb hf hk
  have q1 : (0 : Int) ≤ ↑x.loose.length / 2 := by omega
  have q2 : (↑x.loose.length / 2 : Int) ≤ ↑lc := by omega
  have q3 : (↑x.loose.length / 2 : Int).toNat = x.loose.length / 2 := by omega
  go_enter Try.func38, Try.ntmps38
  go_wp2
  refine wp_region_lex (fun _ => True) [0, 0, 0, 0, 1, 0, 0, 0, 1, 0, 0, 2, 0, 0, 2] (by kernel_rfl) (by kernel_rfl) (by kernel_rfl) (trivial) (fun Q' hQ' => ?_)
  simp only [List.zip_cons_cons, List.zip_nil_right]
  repeat (first
    | (refine wpX_light rfl (fun K hK => ?_)
       apply Exists.intro
       refine ⟨fun w' hw' => ?_, ?_⟩
       · try dsimp only at hw'
         go_simp
         exact ⟨rfl, rfl⟩
       go_simp
       refine hK _ _ ?_
       clear hK K)
    | (refine wpX_read rfl (fun K hK => ?_)
       apply Exists.intro
       refine ⟨?_, ?_⟩
       · go_simp
         exact ⟨rfl, rfl⟩
       go_simp
       refine hK _ _ ?_
       clear hK K)
    | (refine wpX_not rfl (fun K hK => ?_)
       go_simp
       refine hK _ _ ?_
       clear hK K)
    | (refine wpX_light_g rfl (fun K hK => ?_)
       apply Exists.intro
       refine ⟨fun w' hw' => ?_, ?_⟩
       · try dsimp only at hw'
         go_simp
         exact ⟨rfl, rfl⟩
       go_simp
       refine hK _ _ ?_
       clear hK K)
    | (refine wpX_read_g rfl (fun K hK => ?_)
       apply Exists.intro
       refine ⟨?_, ?_⟩
       · go_simp
         exact ⟨rfl, rfl⟩
       go_simp
       refine hK _ _ ?_
       clear hK K))
  refine wpX_heavy rfl (fun K hK => ?_)
  refine wp_append_ownS _ (.tmp 44) (.tmp 50) 52 52 rfl base 5 (.int .u8 0) 1 1 elemByte (.slice sa x.safe.length sc) x.safe.length (bc x.safe) rfl (own_far hs hsp _) (.slice la (x.loose.length / 2) lc) (x.loose.length / 2) (bc (x.loose.take (x.loose.length / 2))) rfl ?src ?by1 ?ba (fun v' w1 o1 g1 b1 => ?_)
  case src =>
    refine src_own (base := base) (e := 5) (e' := 5) elemByte.under ?_ (bc_one _)
    have := own_take (own_far hl (p := ⟨p, 2, none⟩) hlp (.int .i64 0)) (m := (x.loose.length / 2)) (by first | omega | exact Nat.zero_le _)
    rw [bc_take] at this
    exact own_drew this
  case by1 => have := hr; unfold Room at this; omega
  case ba => simpa [World.setCell] using hbs
  obtain ⟨A', c', rfl, hc1, hc2⟩ := own_slice o1
  have hb2 := Lib.hid (blk_grown (w := (w.setCell ⟨p, 2, none⟩ (Value.int .i64 0)).drew) (blk_set H3.out 2 (.int .i64 0)) g1 (fun e => hsp e.symm))
  have hp2 := own_ne o1 hb2.out (by decide)
  have k0 := cellOf (j := 0) hb2.out
  have k1 := cellOf (j := 1) hb2.out
  have k4 := cellOf (j := 4) hb2.out
  simp at k0 k1 k4
  have e0 := freeOf (j := 0) hb2.out
  have e1 := freeOf (j := 1) hb2.out
  have e4 := freeOf (j := 4) hb2.out
  have G1 := Lib.hid g1
  have B1 := Lib.hid b1
  clear g1 b1
  go_simp
  refine hK _ _ ⟨rfl, trivial, ?_⟩
  clear hK K
  repeat (first
    | (refine wpX_light rfl (fun K hK => ?_)
       apply Exists.intro
       refine ⟨fun w' hw' => ?_, ?_⟩
       · try dsimp only at hw'
         go_simp
         exact ⟨rfl, rfl⟩
       go_simp
       refine hK _ _ ?_
       clear hK K)
    | (refine wpX_read rfl (fun K hK => ?_)
       apply Exists.intro
       refine ⟨?_, ?_⟩
       · go_simp
         exact ⟨rfl, rfl⟩
       go_simp
       refine hK _ _ ?_
       clear hK K)
    | (refine wpX_not rfl (fun K hK => ?_)
       go_simp
       refine hK _ _ ?_
       clear hK K)
    | (refine wpX_light_g rfl (fun K hK => ?_)
       apply Exists.intro
       refine ⟨fun w' hw' => ?_, ?_⟩
       · try dsimp only at hw'
         go_simp
         exact ⟨rfl, rfl⟩
       go_simp
       refine hK _ _ ?_
       clear hK K)
    | (refine wpX_read_g rfl (fun K hK => ?_)
       apply Exists.intro
       refine ⟨?_, ?_⟩
       · go_simp
         exact ⟨rfl, rfl⟩
       go_simp
       refine hK _ _ ?_
       clear hK K))
  refine wpX_heavy rfl (fun K hK => ?_)
  go_wp2
  refine hQ' _ _ ?_
  go_wp2
  go_ret
  refine ⟨rfl, fun k => k = p ∨ (Value.slice A' (x.safe.length + (x.loose.length / 2)) c').ownBlock = some k, ⟨.slice A' (x.safe.length + (x.loose.length / 2)) c', .slice none 0 0, ?_, hp, ?_, ?_, World.ownsRow_nil _ _ _ _, ?_, ?_⟩, ?_, ?_⟩
  · have := blk_set (blk_set (blk_set hb2.out 0 (.slice A' (x.safe.length + (x.loose.length / 2)) c')) 1 (.slice none 0 0)) 4 (.bool true)
    have hh := H5.out
    simpa [hh] using this
  · have := G1.out.size
    simp [World.setCell] at this ⊢
    omega
  · have hl2 : (x.safe ++ x.loose.take (x.loose.length / 2)).length = x.safe.length + (x.loose.length / 2)   := by simp <;> omega
    rw [hl2, bc_append]
    exact own_far (own_far (own_far o1 hp2 _) hp2 _) hp2 _
  · simp [Value.ownBlock]
  · intro k; simp [Value.ownBlock]
  · rintro k (rfl | hk)
    · exact .inl ((H2.out k).2 (.inl rfl))
    · rcases B1.out k hk with h | h
      · exact .inl ((H2.out k).2 (.inr (.inl h)))
      · exact .inr (by simpa [World.setCell] using h)
  · have hFp : F p := (H2.out p).2 (.inl rfl)
    refine Kept.setCell (Kept.setCell (Kept.setCell (Kept.grown (Kept.drew (Kept.setCell (Kept.refl w F) (.inl hFp) _)) G1.out ?_) (.inl hFp) _) (.inl hFp) _) (.inl hFp) _
    intro k hk
    exact .inl ((H2.out k).2 (.inr (.inl hk)))

set_option maxHeartbeats 800000 in
theorem burnt_crash2 (base p : Nat) (F : Nat → Prop) (x : FD) (w : World) (h : FileAt base w p F x) (hr : Room x) (hf : x.fuse = 1) (hk : x.keep = 2) :
    Calls Try.prog 38 #[.pointer (some ⟨p, 0, none⟩)] w fun e w' => e = .returned (.bool true) ∧ Moved base w w' p F ⟨x.safe ++ x.loose.take x.loose.length, [], 0, 2, true⟩ := by
  obtain ⟨sv, lv, hb, hp, hbs, hs, hl, hd, hF⟩ := h
  obtain ⟨sa, sc, rfl, hsc, hsm⟩ := own_slice hs
  obtain ⟨la, lc, rfl, hlc, hlm⟩ := own_slice hl
  have h0 := cellOf (j := 0) hb
  have h1 := cellOf (j := 1) hb
  have h2 := cellOf (j := 2) hb
  have h3 := cellOf (j := 3) hb
  have h4 := cellOf (j := 4) hb
  simp [hf] at h0 h1 h2 h3 h4
  simp [hk] at h3
  have f0 := freeOf (j := 0) hb
  have f1 := freeOf (j := 1) hb
  have f2 := freeOf (j := 2) hb
  have f4 := freeOf (j := 4) hb
  unfold maxLen at *
  have hsp := own_ne hs hb (by decide)
  have hlp := own_ne hl hb (by decide)
  have H1 := Lib.hid hd
  have H2 := Lib.hid hF
  have H3 := Lib.hid hb
  have H4 := Lib.hid hf
  have H5 := Lib.hid hk
  clear hd hF hb hf hk
  have q1 : (↑x.loose.length : Int) ≤ ↑lc := by omega
  go_enter Try.func38, Try.ntmps38
  go_wp2
  refine wp_region_lex (fun _ => True) [0, 0, 0, 0, 1, 0, 0, 0, 1, 0, 0, 2, 0, 0, 2] (by kernel_rfl) (by kernel_rfl) (by kernel_rfl) (trivial) (fun Q' hQ' => ?_)
  simp only [List.zip_cons_cons, List.zip_nil_right]
  repeat (first
    | (refine wpX_light rfl (fun K hK => ?_)
       apply Exists.intro
       refine ⟨fun w' hw' => ?_, ?_⟩
       · try dsimp only at hw'
         go_simp
         exact ⟨rfl, rfl⟩
       go_simp
       refine hK _ _ ?_
       clear hK K)
    | (refine wpX_read rfl (fun K hK => ?_)
       apply Exists.intro
       refine ⟨?_, ?_⟩
       · go_simp
         exact ⟨rfl, rfl⟩
       go_simp
       refine hK _ _ ?_
       clear hK K)
    | (refine wpX_not rfl (fun K hK => ?_)
       go_simp
       refine hK _ _ ?_
       clear hK K)
    | (refine wpX_light_g rfl (fun K hK => ?_)
       apply Exists.intro
       refine ⟨fun w' hw' => ?_, ?_⟩
       · try dsimp only at hw'
         go_simp
         exact ⟨rfl, rfl⟩
       go_simp
       refine hK _ _ ?_
       clear hK K)
    | (refine wpX_read_g rfl (fun K hK => ?_)
       apply Exists.intro
       refine ⟨?_, ?_⟩
       · go_simp
         exact ⟨rfl, rfl⟩
       go_simp
       refine hK _ _ ?_
       clear hK K))
  refine wpX_heavy rfl (fun K hK => ?_)
  refine wp_append_ownS _ (.tmp 44) (.tmp 50) 52 52 rfl base 5 (.int .u8 0) 1 1 elemByte (.slice sa x.safe.length sc) x.safe.length (bc x.safe) rfl (own_far hs hsp _) (.slice la x.loose.length lc) x.loose.length (bc (x.loose.take x.loose.length)) rfl ?src ?by1 ?ba (fun v' w1 o1 g1 b1 => ?_)
  case src =>
    refine src_own (base := base) (e := 5) (e' := 5) elemByte.under ?_ (bc_one _)
    have := own_take (own_far hl (p := ⟨p, 2, none⟩) hlp (.int .i64 0)) (m := x.loose.length) (by first | omega | exact Nat.zero_le _)
    rw [bc_take] at this
    exact own_drew this
  case by1 => have := hr; unfold Room at this; omega
  case ba => simpa [World.setCell] using hbs
  obtain ⟨A', c', rfl, hc1, hc2⟩ := own_slice o1
  have hb2 := Lib.hid (blk_grown (w := (w.setCell ⟨p, 2, none⟩ (Value.int .i64 0)).drew) (blk_set H3.out 2 (.int .i64 0)) g1 (fun e => hsp e.symm))
  have hp2 := own_ne o1 hb2.out (by decide)
  have k0 := cellOf (j := 0) hb2.out
  have k1 := cellOf (j := 1) hb2.out
  have k4 := cellOf (j := 4) hb2.out
  simp at k0 k1 k4
  have e0 := freeOf (j := 0) hb2.out
  have e1 := freeOf (j := 1) hb2.out
  have e4 := freeOf (j := 4) hb2.out
  have G1 := Lib.hid g1
  have B1 := Lib.hid b1
  clear g1 b1
  go_simp
  refine hK _ _ ⟨rfl, trivial, ?_⟩
  clear hK K
  repeat (first
    | (refine wpX_light rfl (fun K hK => ?_)
       apply Exists.intro
       refine ⟨fun w' hw' => ?_, ?_⟩
       · try dsimp only at hw'
         go_simp
         exact ⟨rfl, rfl⟩
       go_simp
       refine hK _ _ ?_
       clear hK K)
    | (refine wpX_read rfl (fun K hK => ?_)
       apply Exists.intro
       refine ⟨?_, ?_⟩
       · go_simp
         exact ⟨rfl, rfl⟩
       go_simp
       refine hK _ _ ?_
       clear hK K)
    | (refine wpX_not rfl (fun K hK => ?_)
       go_simp
       refine hK _ _ ?_
       clear hK K)
    | (refine wpX_light_g rfl (fun K hK => ?_)
       apply Exists.intro
       refine ⟨fun w' hw' => ?_, ?_⟩
       · try dsimp only at hw'
         go_simp
         exact ⟨rfl, rfl⟩
       go_simp
       refine hK _ _ ?_
       clear hK K)
    | (refine wpX_read_g rfl (fun K hK => ?_)
       apply Exists.intro
       refine ⟨?_, ?_⟩
       · go_simp
         exact ⟨rfl, rfl⟩
       go_simp
       refine hK _ _ ?_
       clear hK K))
  refine wpX_heavy rfl (fun K hK => ?_)
  go_wp2
  refine hQ' _ _ ?_
  go_wp2
  go_ret
  refine ⟨rfl, fun k => k = p ∨ (Value.slice A' (x.safe.length + x.loose.length) c').ownBlock = some k, ⟨.slice A' (x.safe.length + x.loose.length) c', .slice none 0 0, ?_, hp, ?_, ?_, World.ownsRow_nil _ _ _ _, ?_, ?_⟩, ?_, ?_⟩
  · have := blk_set (blk_set (blk_set hb2.out 0 (.slice A' (x.safe.length + x.loose.length) c')) 1 (.slice none 0 0)) 4 (.bool true)
    have hh := H5.out
    simpa [hh] using this
  · have := G1.out.size
    simp [World.setCell] at this ⊢
    omega
  · have hl2 : (x.safe ++ x.loose.take x.loose.length).length = x.safe.length + x.loose.length   := by simp <;> omega
    rw [hl2, bc_append]
    exact own_far (own_far (own_far o1 hp2 _) hp2 _) hp2 _
  · simp [Value.ownBlock]
  · intro k; simp [Value.ownBlock]
  · rintro k (rfl | hk)
    · exact .inl ((H2.out k).2 (.inl rfl))
    · rcases B1.out k hk with h | h
      · exact .inl ((H2.out k).2 (.inr (.inl h)))
      · exact .inr (by simpa [World.setCell] using h)
  · have hFp : F p := (H2.out p).2 (.inl rfl)
    refine Kept.setCell (Kept.setCell (Kept.setCell (Kept.grown (Kept.drew (Kept.setCell (Kept.refl w F) (.inl hFp) _)) G1.out ?_) (.inl hFp) _) (.inl hFp) _) (.inl hFp) _
    intro k hk
    exact .inl ((H2.out k).2 (.inr (.inl hk)))

theorem burnt_any (base p : Nat) (F : Nat → Prop) (x : FD) (w : World) (h : FileAt base w p F x) (hr : Room x) (hg : Good x) :
    Calls Try.prog 38 #[.pointer (some ⟨p, 0, none⟩)] w fun e w' => e = .returned (.bool x.burns) ∧ Moved base w w' p F x.burn := by
  obtain ⟨hg1, hg2⟩ := hg
  by_cases h0 : x.fuse = 0
  · have e1 : x.burns = false := by simp [FD.burns, h0]
    have e2 : x.burn = { x with fuse := x.fuse - 1 } := by simp [FD.burn, h0]
    rw [e1, e2]; exact burnt_no base p F x w h h0
  by_cases h1 : x.fuse = 1
  · have e1 : x.burns = true := by simp [FD.burns, h1]
    rw [e1]
    obtain hk | hk | hk : x.keep = 0 ∨ x.keep = 1 ∨ x.keep = 2 := by omega
    · have := burnt_crash0 base p F x w h hr h1 hk
      simpa [FD.burn, h1, FD.kept, hk] using this
    · have := burnt_crash1 base p F x w h hr h1 hk
      simpa [FD.burn, h1, FD.kept, hk] using this
    · have := burnt_crash2 base p F x w h hr h1 hk
      simpa [FD.burn, h1, FD.kept, hk] using this
  · have e1 : x.burns = false := by simp [FD.burns, h1]
    have e2 : x.burn = { x with fuse := x.fuse - 1 } := by simp [FD.burn, h1]
    rw [e1, e2]; exact burnt_wait base p F x w h (by omega) hg1
end Go.Proofs.Ytegonafacbokeaa.Disk
