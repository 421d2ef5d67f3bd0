/-
  What the calls of the package disk do to a file in memory: a contract for each, over a file of which the bytes that are safe, the loose ones, the plan of a crash and its being down are known. What the calls of the package disk do to a file in memory, Append, Sync, Cut, Arm, Restart, Read and New.
-/
import Derived.Test.YtogkkfdkeefjnaaGreatDoorA01
namespace Go.Proofs.YtogkkfdkeefjnaaGreatDoor.Disk
open Go.RowKit Go.Proofs.YtogkkfdkeefjnaaGreatDoorBase Go.Proofs.YtogkkfdkeefjnaaGreatDoorLex
set_option linter.unusedVariables false
set_option maxRecDepth 100000
set_option linter.unusedSimpArgs false
structure FD where
 safe:List UInt8
 loose:List UInt8
 fuse:Nat
 keep:Nat
 down:Bool
theorem infoByte:Tryz.prog.info? 5=some (Tryz.prog.types[5]!):=by kernel_rfl
theorem elemByte:Elem Tryz.prog 130 5 (.int .u8 0) 1 1:=⟨by kernel_rfl,⟨_,infoByte,rfl,rfl,rfl⟩,rfl,by decide,by decide⟩
theorem underStr:Tryz.prog.underlying 9=some .string:=by kernel_rfl
theorem underU8:Tryz.prog.underlying 5=some (.int .u8):=by kernel_rfl
/-- How many loose bytes survive a crash. -/
def FD.kept (x:FD):Nat:=if x.keep=1 then x.loose.length / 2 else if x.keep=2 then x.loose.length else 0
def FD.burns (x:FD):Bool:=x.fuse == 1
def FD.burn (x:FD):FD:=if x.fuse=1 then ⟨x.safe ++ x.loose.take x.kept,[],0,x.keep,true⟩ else { x with fuse:=x.fuse - 1 }
/-- The file at block p; the blocks that are its own: F. -/
def FileAt (base:Nat) (w:World) (p:Nat) (F:Nat→Prop) (x:FD):Prop :=
 ∃ sv lv,w.heap[p]?=some (.cells #[sv,lv,.int .i64 x.fuse,.int .i64 x.keep,.bool x.down] 132 (0,0))∧base≤p∧base≤w.heap.size ∧
  w.ownsRow base 5 1 sv x.safe.length (bc x.safe)∧w.ownsRow base 5 1 lv x.loose.length (bc x.loose) ∧
  (∀ g,sv.ownBlock=some g→lv.ownBlock≠some g)∧(∀ k,F k ↔ k=p∨sv.ownBlock=some k∨lv.ownBlock=some k)
def Room (x:FD):Prop:=x.safe.length+x.loose.length≤200000000000000
def Good (x:FD):Prop:=x.fuse≤65536∧x.keep≤2
/-- A step of the file: all else is as it was. -/
def Moved (base:Nat) (w w':World) (p:Nat) (F:Nat→Prop) (x':FD):Prop :=
 ∃ F',FileAt base w' p F' x'∧(∀ k,F' k→F k∨w.heap.size≤k)∧Kept w w' F
theorem FileAt.base_le {base p:Nat} {w:World} {F:Nat→Prop} {x:FD} (h:FileAt base w p F x):∀ k,F k→base≤k:=by
 obtain ⟨sv,lv,hb,hp,hbs,hs,hl,hd,hF⟩:=h
 intro k hk
 rcases (hF k).1 hk with rfl | h | h
 ·exact hp
 ·exact (hs.lt k h).1
 ·exact (hl.lt k h).1
theorem FileAt.kept {base p:Nat} {w w':World} {F G:Nat→Prop} {x:FD} (h:FileAt base w p F x) (hk:Kept w w' G) (hd:∀ k,F k→¬ G k):FileAt base w' p F x:=by
 obtain ⟨sv,lv,hb,hp,hbs,hs,hl,hd',hF⟩:=h
 exact ⟨sv,lv,hk.blk hb (hd p ((hF p).2 (.inl rfl))),hp,Nat.le_trans hbs hk.size,own_keptF hs hk (fun g hg=>hd g ((hF g).2 (.inr (.inl hg)))),own_keptF hl hk (fun g hg=>hd g ((hF g).2 (.inr (.inr hg)))),hd',hF⟩
theorem FileAt.drew {base p:Nat} {w:World} {F:Nat→Prop} {x:FD} (h:FileAt base w p F x):FileAt base w.drew p F x:=h
theorem Moved.trans {base p:Nat} {w w1 w2:World} {F F1:Nat→Prop} {x2:FD} (hF:∀ k,F1 k→F k∨w.heap.size≤k) (hk:Kept w w1 F) (h2:Moved base w1 w2 p F1 x2):Moved base w w2 p F x2:=by
 obtain ⟨F2,f2,b2,k2⟩:=h2
 exact ⟨F2,f2,fun k hk2=>(b2 k hk2).elim (hF k) (fun h=>.inr (Nat.le_trans hk.size h)),hk.trans k2 hF⟩
theorem burnt_no (base p:Nat) (F:Nat→Prop) (x:FD) (w:World) (h:FileAt base w p F x) (hf:x.fuse=0) :
  Calls Tryz.prog 83 #[.pointer (some ⟨p,0,none⟩)] w fun e w'=>e=.returned (.bool false)∧Moved base w w' p F { x with fuse:=x.fuse - 1 }:=by
 have h':=lh h
 obtain ⟨sv,lv,hb,hp,hbs,hs,hl,hd,hF⟩:=h
 have h2:=cellOf (j:=2) hb
 simp [hf] at h2
 have H1:=lh hd
 have H2:=lh hF
 have H3:=lh hb
 have H4:=lh hf
 clear hd hF hb hf
 go_enter Tryz.func83,Tryz.ntmps83
 go_wp2
 go_ret
 refine ⟨rfl,F,?_,fun k hk=>.inl hk,Kept.refl _ _⟩
 have e:({ x with fuse:=x.fuse - 1 }:FD)=x:=by cases x; have:=H4.out; simp_all
 rw [e]
 exact h'.out
theorem burnt_wait (base p:Nat) (F:Nat→Prop) (x:FD) (w:World) (h:FileAt base w p F x) (hf:1 < x.fuse) (hf2:x.fuse≤65536) :
  Calls Tryz.prog 83 #[.pointer (some ⟨p,0,none⟩)] w fun e w'=>e=.returned (.bool false)∧Moved base w w' p F { x with fuse:=x.fuse - 1 }:=by
 obtain ⟨sv,lv,hb,hp,hbs,hs,hl,hd,hF⟩:=h
 have hb':=lh hb
 obtain ⟨f,hfe⟩:∃ f:Int,(x.fuse:Int)=f:=⟨_,rfl⟩
 have fb1:1 < f:=by omega
 have fb2:f≤65536:=by omega
 rw [hfe] at hb
 have h2:=cellOf (j:=2) hb
 simp at h2
 have f2:=freeOf (j:=2) hb
 have h0:(f == 0)=false:=by simp; omega
 have hsp:=own_ne hs hb (by decide)
 have hlp:=own_ne hl hb (by decide)
 have hfe1:=lh hfe
 have H1:=lh hd
 have H2:=lh hF
 clear hb hfe hd hF
 go_enter Tryz.func83,Tryz.ntmps83
 go_wp2
 go_ret
 refine ⟨rfl,F,⟨sv,lv,?_,hp,by simpa [World.setCell] using hbs,own_far hs (by simpa using hsp) _,own_far hl (by simpa using hlp) _,H1.out,H2.out⟩,fun k hk=>.inl hk,(Kept.refl _ _).setCell (.inl ((H2.out p).2 (.inl rfl))) _⟩
 have:=blk_set hb'.out 2 (.int .i64 (f - 1))
 have e:((x.fuse - 1:Nat):Int)=f - 1:=by rw [← hfe1.out]; omega
 simpa [e] using this
set_option maxHeartbeats 800000 in
theorem burnt_crash0 (base p:Nat) (F:Nat→Prop) (x:FD) (w:World) (h:FileAt base w p F x) (hr:Room x) (hf:x.fuse=1) (hk:x.keep=0) :
  Calls Tryz.prog 83 #[.pointer (some ⟨p,0,none⟩)] w fun e w'=>e=.returned (.bool true)∧Moved base w w' p F ⟨x.safe ++ x.loose.take (0:Nat),[],0,0,true⟩:=by
 obtain ⟨sv,lv,hb,hp,hbs,hs,hl,hd,hF⟩:=h
 obtain ⟨sa,sc,rfl,hsc,hsm⟩:=own_slice hs
 obtain ⟨la,lc,rfl,hlc,hlm⟩:=own_slice hl
 have h0:=cellOf (j:=0) hb
 have h1:=cellOf (j:=1) hb
 have h2:=cellOf (j:=2) hb
 have h3:=cellOf (j:=3) hb
 have h4:=cellOf (j:=4) hb
 simp [hf] at h0 h1 h2 h3 h4
 simp [hk] at h3
 have f0:=freeOf (j:=0) hb
 have f1:=freeOf (j:=1) hb
 have f2:=freeOf (j:=2) hb
 have f4:=freeOf (j:=4) hb
 unfold maxLen at *
 have hsp:=own_ne hs hb (by decide)
 have hlp:=own_ne hl hb (by decide)
 have H1:=lh hd
 have H2:=lh hF
 have H3:=lh hb
 have H4:=lh hf
 have H5:=lh hk
 clear hd hF hb hf hk
 have q1:True:=trivial
 go_enter Tryz.func83,Tryz.ntmps83
 go_wp2
 refine wp_region_lex (fun _=>True) [0,0,0,0,1,0,0,0,1,0,0,2,0,0,2] (by kernel_rfl) (by kernel_rfl) (by kernel_rfl) (trivial) (fun Q' hQ'=>?_)
 simp only [List.zip_cons_cons,List.zip_nil_right]
 repeat((first|(refine wpX_light rfl fun K hK=>?_;apply Exists.intro;refine ⟨fun w' hw'=>?_,?_⟩;(try dsimp only at hw');go_simp;exact⟨rfl,rfl⟩)|(refine wpX_read rfl fun K hK=>?_;apply Exists.intro;refine ⟨?_,?_⟩;go_simp;exact⟨rfl,rfl⟩)|(refine wpX_not rfl fun K hK=>?_)|(refine wpX_light_g rfl fun K hK=>?_;apply Exists.intro;refine ⟨fun w' hw'=>?_,?_⟩;(try dsimp only at hw');go_simp;exact⟨rfl,rfl⟩)|(refine wpX_read_g rfl fun K hK=>?_;apply Exists.intro;refine ⟨?_,?_⟩;go_simp;exact⟨rfl,rfl⟩));go_simp;refine hK _ _ ?_;clear hK K)
 refine wpX_heavy rfl (fun K hK=>?_)
 refine wp_append_ownS _ (.tmp 44) (.tmp 50) 130 130 rfl base 5 (.int .u8 0) 1 1 elemByte (.slice sa x.safe.length sc) x.safe.length (bc x.safe) rfl (own_far hs hsp _) (.slice la (0:Nat) lc) (0:Nat) (bc (x.loose.take (0:Nat))) rfl ?src ?by1 ?ba (fun v' w1 o1 g1 b1=>?_)
 case src=>
  refine src_own (base:=base) (e:=5) (e':=5) elemByte.under ?_ (bc_one _)
  have:=own_take (own_far hl (p:=⟨p,2,none⟩) hlp (.int .i64 0)) (m:=(0:Nat)) (by first | omega | exact Nat.zero_le _)
  rw [bc_take] at this
  exact own_drew this
 case by1=>have:=hr; unfold Room at this; omega
 case ba=>simpa [World.setCell] using hbs
 obtain ⟨A',c',rfl,hc1,hc2⟩:=own_slice o1
 have hb2:=lh (blk_grown (w:=(w.setCell ⟨p,2,none⟩ (Value.int .i64 0)).drew) (blk_set H3.out 2 (.int .i64 0)) g1 (fun e=>hsp e.symm))
 have hp2:=own_ne o1 hb2.out (by decide)
 have k0:=cellOf (j:=0) hb2.out
 have k1:=cellOf (j:=1) hb2.out
 have k4:=cellOf (j:=4) hb2.out
 simp at k0 k1 k4
 have e0:=freeOf (j:=0) hb2.out
 have e1:=freeOf (j:=1) hb2.out
 have e4:=freeOf (j:=4) hb2.out
 have G1:=lh g1
 have B1:=lh b1
 clear g1 b1
 go_simp
 refine hK _ _ ⟨rfl,trivial,?_⟩
 clear hK K
 repeat((first|(refine wpX_light rfl fun K hK=>?_;apply Exists.intro;refine ⟨fun w' hw'=>?_,?_⟩;(try dsimp only at hw');go_simp;exact⟨rfl,rfl⟩)|(refine wpX_read rfl fun K hK=>?_;apply Exists.intro;refine ⟨?_,?_⟩;go_simp;exact⟨rfl,rfl⟩)|(refine wpX_not rfl fun K hK=>?_)|(refine wpX_light_g rfl fun K hK=>?_;apply Exists.intro;refine ⟨fun w' hw'=>?_,?_⟩;(try dsimp only at hw');go_simp;exact⟨rfl,rfl⟩)|(refine wpX_read_g rfl fun K hK=>?_;apply Exists.intro;refine ⟨?_,?_⟩;go_simp;exact⟨rfl,rfl⟩));go_simp;refine hK _ _ ?_;clear hK K)
 refine wpX_heavy rfl (fun K hK=>?_)
 go_wp2
 refine hQ' _ _ ?_
 go_wp2
 go_ret
 refine ⟨rfl,fun k=>k=p∨(Value.slice A' (x.safe.length+(0:Nat)) c').ownBlock=some k,⟨.slice A' (x.safe.length+(0:Nat)) c',.slice none 0 0,?_,hp,?_,?_,World.ownsRow_nil _ _ _ _,?_,?_⟩,?_,?_⟩
 ·have:=blk_set (blk_set (blk_set hb2.out 0 (.slice A' (x.safe.length+(0:Nat)) c')) 1 (.slice none 0 0)) 4 (.bool true)
  have hh:=H5.out
  simpa [hh] using this
 ·have:=G1.out.size
  simp [World.setCell] at this ⊢
  omega
 ·have hl2:(x.safe ++ x.loose.take (0:Nat)).length=x.safe.length+(0:Nat)   := by simp <;> omega
  rw [hl2,bc_append]
  exact own_far (own_far (own_far o1 hp2 _) hp2 _) hp2 _
 ·simp [Value.ownBlock]
 ·intro k; simp [Value.ownBlock]
 ·rintro k (rfl | hk)
  ·exact .inl ((H2.out k).2 (.inl rfl))
  ·rcases B1.out k hk with h | h
   ·exact .inl ((H2.out k).2 (.inr (.inl h)))
   ·exact .inr (by simpa [World.setCell] using h)
 ·have hFp:F p:=(H2.out p).2 (.inl rfl)
  refine Kept.setCell (Kept.setCell (Kept.setCell (Kept.grown (Kept.drew (Kept.setCell (Kept.refl w F) (.inl hFp) _)) G1.out ?_) (.inl hFp) _) (.inl hFp) _) (.inl hFp) _
  intro k hk
  exact .inl ((H2.out k).2 (.inr (.inl hk)))
set_option maxHeartbeats 800000 in
theorem burnt_crash1 (base p:Nat) (F:Nat→Prop) (x:FD) (w:World) (h:FileAt base w p F x) (hr:Room x) (hf:x.fuse=1) (hk:x.keep=1) :
  Calls Tryz.prog 83 #[.pointer (some ⟨p,0,none⟩)] w fun e w'=>e=.returned (.bool true)∧Moved base w w' p F ⟨x.safe ++ x.loose.take (x.loose.length / 2),[],0,1,true⟩:=by
 obtain ⟨sv,lv,hb,hp,hbs,hs,hl,hd,hF⟩:=h
 obtain ⟨sa,sc,rfl,hsc,hsm⟩:=own_slice hs
 obtain ⟨la,lc,rfl,hlc,hlm⟩:=own_slice hl
 have h0:=cellOf (j:=0) hb
 have h1:=cellOf (j:=1) hb
 have h2:=cellOf (j:=2) hb
 have h3:=cellOf (j:=3) hb
 have h4:=cellOf (j:=4) hb
 simp [hf] at h0 h1 h2 h3 h4
 simp [hk] at h3
 have f0:=freeOf (j:=0) hb
 have f1:=freeOf (j:=1) hb
 have f2:=freeOf (j:=2) hb
 have f4:=freeOf (j:=4) hb
 unfold maxLen at *
 have hsp:=own_ne hs hb (by decide)
 have hlp:=own_ne hl hb (by decide)
 have H1:=lh hd
 have H2:=lh hF
 have H3:=lh hb
 have H4:=lh hf
 have H5:=lh hk
 clear hd hF hb hf hk
 have q1:(0:Int)≤↑x.loose.length / 2:=by omega
 have q2:(↑x.loose.length / 2:Int)≤↑lc:=by omega
 have q3:(↑x.loose.length / 2:Int).toNat=x.loose.length / 2:=by omega
 go_enter Tryz.func83,Tryz.ntmps83
 go_wp2
 refine wp_region_lex (fun _=>True) [0,0,0,0,1,0,0,0,1,0,0,2,0,0,2] (by kernel_rfl) (by kernel_rfl) (by kernel_rfl) (trivial) (fun Q' hQ'=>?_)
 simp only [List.zip_cons_cons,List.zip_nil_right]
 repeat((first|(refine wpX_light rfl fun K hK=>?_;apply Exists.intro;refine ⟨fun w' hw'=>?_,?_⟩;(try dsimp only at hw');go_simp;exact⟨rfl,rfl⟩)|(refine wpX_read rfl fun K hK=>?_;apply Exists.intro;refine ⟨?_,?_⟩;go_simp;exact⟨rfl,rfl⟩)|(refine wpX_not rfl fun K hK=>?_)|(refine wpX_light_g rfl fun K hK=>?_;apply Exists.intro;refine ⟨fun w' hw'=>?_,?_⟩;(try dsimp only at hw');go_simp;exact⟨rfl,rfl⟩)|(refine wpX_read_g rfl fun K hK=>?_;apply Exists.intro;refine ⟨?_,?_⟩;go_simp;exact⟨rfl,rfl⟩));go_simp;refine hK _ _ ?_;clear hK K)
 refine wpX_heavy rfl (fun K hK=>?_)
 refine wp_append_ownS _ (.tmp 44) (.tmp 50) 130 130 rfl base 5 (.int .u8 0) 1 1 elemByte (.slice sa x.safe.length sc) x.safe.length (bc x.safe) rfl (own_far hs hsp _) (.slice la (x.loose.length / 2) lc) (x.loose.length / 2) (bc (x.loose.take (x.loose.length / 2))) rfl ?src ?by1 ?ba (fun v' w1 o1 g1 b1=>?_)
 case src=>
  refine src_own (base:=base) (e:=5) (e':=5) elemByte.under ?_ (bc_one _)
  have:=own_take (own_far hl (p:=⟨p,2,none⟩) hlp (.int .i64 0)) (m:=(x.loose.length / 2)) (by first | omega | exact Nat.zero_le _)
  rw [bc_take] at this
  exact own_drew this
 case by1=>have:=hr; unfold Room at this; omega
 case ba=>simpa [World.setCell] using hbs
 obtain ⟨A',c',rfl,hc1,hc2⟩:=own_slice o1
 have hb2:=lh (blk_grown (w:=(w.setCell ⟨p,2,none⟩ (Value.int .i64 0)).drew) (blk_set H3.out 2 (.int .i64 0)) g1 (fun e=>hsp e.symm))
 have hp2:=own_ne o1 hb2.out (by decide)
 have k0:=cellOf (j:=0) hb2.out
 have k1:=cellOf (j:=1) hb2.out
 have k4:=cellOf (j:=4) hb2.out
 simp at k0 k1 k4
 have e0:=freeOf (j:=0) hb2.out
 have e1:=freeOf (j:=1) hb2.out
 have e4:=freeOf (j:=4) hb2.out
 have G1:=lh g1
 have B1:=lh b1
 clear g1 b1
 go_simp
 refine hK _ _ ⟨rfl,trivial,?_⟩
 clear hK K
 repeat((first|(refine wpX_light rfl fun K hK=>?_;apply Exists.intro;refine ⟨fun w' hw'=>?_,?_⟩;(try dsimp only at hw');go_simp;exact⟨rfl,rfl⟩)|(refine wpX_read rfl fun K hK=>?_;apply Exists.intro;refine ⟨?_,?_⟩;go_simp;exact⟨rfl,rfl⟩)|(refine wpX_not rfl fun K hK=>?_)|(refine wpX_light_g rfl fun K hK=>?_;apply Exists.intro;refine ⟨fun w' hw'=>?_,?_⟩;(try dsimp only at hw');go_simp;exact⟨rfl,rfl⟩)|(refine wpX_read_g rfl fun K hK=>?_;apply Exists.intro;refine ⟨?_,?_⟩;go_simp;exact⟨rfl,rfl⟩));go_simp;refine hK _ _ ?_;clear hK K)
 refine wpX_heavy rfl (fun K hK=>?_)
 go_wp2
 refine hQ' _ _ ?_
 go_wp2
 go_ret
 refine ⟨rfl,fun k=>k=p∨(Value.slice A' (x.safe.length+(x.loose.length / 2)) c').ownBlock=some k,⟨.slice A' (x.safe.length+(x.loose.length / 2)) c',.slice none 0 0,?_,hp,?_,?_,World.ownsRow_nil _ _ _ _,?_,?_⟩,?_,?_⟩
 ·have:=blk_set (blk_set (blk_set hb2.out 0 (.slice A' (x.safe.length+(x.loose.length / 2)) c')) 1 (.slice none 0 0)) 4 (.bool true)
  have hh:=H5.out
  simpa [hh] using this
 ·have:=G1.out.size
  simp [World.setCell] at this ⊢
  omega
 ·have hl2:(x.safe ++ x.loose.take (x.loose.length / 2)).length=x.safe.length+(x.loose.length / 2)   := by simp <;> omega
  rw [hl2,bc_append]
  exact own_far (own_far (own_far o1 hp2 _) hp2 _) hp2 _
 ·simp [Value.ownBlock]
 ·intro k; simp [Value.ownBlock]
 ·rintro k (rfl | hk)
  ·exact .inl ((H2.out k).2 (.inl rfl))
  ·rcases B1.out k hk with h | h
   ·exact .inl ((H2.out k).2 (.inr (.inl h)))
   ·exact .inr (by simpa [World.setCell] using h)
 ·have hFp:F p:=(H2.out p).2 (.inl rfl)
  refine Kept.setCell (Kept.setCell (Kept.setCell (Kept.grown (Kept.drew (Kept.setCell (Kept.refl w F) (.inl hFp) _)) G1.out ?_) (.inl hFp) _) (.inl hFp) _) (.inl hFp) _
  intro k hk
  exact .inl ((H2.out k).2 (.inr (.inl hk)))
set_option maxHeartbeats 800000 in
theorem burnt_crash2 (base p:Nat) (F:Nat→Prop) (x:FD) (w:World) (h:FileAt base w p F x) (hr:Room x) (hf:x.fuse=1) (hk:x.keep=2) :
  Calls Tryz.prog 83 #[.pointer (some ⟨p,0,none⟩)] w fun e w'=>e=.returned (.bool true)∧Moved base w w' p F ⟨x.safe ++ x.loose.take x.loose.length,[],0,2,true⟩:=by
 obtain ⟨sv,lv,hb,hp,hbs,hs,hl,hd,hF⟩:=h
 obtain ⟨sa,sc,rfl,hsc,hsm⟩:=own_slice hs
 obtain ⟨la,lc,rfl,hlc,hlm⟩:=own_slice hl
 have h0:=cellOf (j:=0) hb
 have h1:=cellOf (j:=1) hb
 have h2:=cellOf (j:=2) hb
 have h3:=cellOf (j:=3) hb
 have h4:=cellOf (j:=4) hb
 simp [hf] at h0 h1 h2 h3 h4
 simp [hk] at h3
 have f0:=freeOf (j:=0) hb
 have f1:=freeOf (j:=1) hb
 have f2:=freeOf (j:=2) hb
 have f4:=freeOf (j:=4) hb
 unfold maxLen at *
 have hsp:=own_ne hs hb (by decide)
 have hlp:=own_ne hl hb (by decide)
 have H1:=lh hd
 have H2:=lh hF
 have H3:=lh hb
 have H4:=lh hf
 have H5:=lh hk
 clear hd hF hb hf hk
 have q1:(↑x.loose.length:Int)≤↑lc:=by omega
 go_enter Tryz.func83,Tryz.ntmps83
 go_wp2
 refine wp_region_lex (fun _=>True) [0,0,0,0,1,0,0,0,1,0,0,2,0,0,2] (by kernel_rfl) (by kernel_rfl) (by kernel_rfl) (trivial) (fun Q' hQ'=>?_)
 simp only [List.zip_cons_cons,List.zip_nil_right]
 repeat((first|(refine wpX_light rfl fun K hK=>?_;apply Exists.intro;refine ⟨fun w' hw'=>?_,?_⟩;(try dsimp only at hw');go_simp;exact⟨rfl,rfl⟩)|(refine wpX_read rfl fun K hK=>?_;apply Exists.intro;refine ⟨?_,?_⟩;go_simp;exact⟨rfl,rfl⟩)|(refine wpX_not rfl fun K hK=>?_)|(refine wpX_light_g rfl fun K hK=>?_;apply Exists.intro;refine ⟨fun w' hw'=>?_,?_⟩;(try dsimp only at hw');go_simp;exact⟨rfl,rfl⟩)|(refine wpX_read_g rfl fun K hK=>?_;apply Exists.intro;refine ⟨?_,?_⟩;go_simp;exact⟨rfl,rfl⟩));go_simp;refine hK _ _ ?_;clear hK K)
 refine wpX_heavy rfl (fun K hK=>?_)
 refine wp_append_ownS _ (.tmp 44) (.tmp 50) 130 130 rfl base 5 (.int .u8 0) 1 1 elemByte (.slice sa x.safe.length sc) x.safe.length (bc x.safe) rfl (own_far hs hsp _) (.slice la x.loose.length lc) x.loose.length (bc (x.loose.take x.loose.length)) rfl ?src ?by1 ?ba (fun v' w1 o1 g1 b1=>?_)
 case src=>
  refine src_own (base:=base) (e:=5) (e':=5) elemByte.under ?_ (bc_one _)
  have:=own_take (own_far hl (p:=⟨p,2,none⟩) hlp (.int .i64 0)) (m:=x.loose.length) (by first | omega | exact Nat.zero_le _)
  rw [bc_take] at this
  exact own_drew this
 case by1=>have:=hr; unfold Room at this; omega
 case ba=>simpa [World.setCell] using hbs
 obtain ⟨A',c',rfl,hc1,hc2⟩:=own_slice o1
 have hb2:=lh (blk_grown (w:=(w.setCell ⟨p,2,none⟩ (Value.int .i64 0)).drew) (blk_set H3.out 2 (.int .i64 0)) g1 (fun e=>hsp e.symm))
 have hp2:=own_ne o1 hb2.out (by decide)
 have k0:=cellOf (j:=0) hb2.out
 have k1:=cellOf (j:=1) hb2.out
 have k4:=cellOf (j:=4) hb2.out
 simp at k0 k1 k4
 have e0:=freeOf (j:=0) hb2.out
 have e1:=freeOf (j:=1) hb2.out
 have e4:=freeOf (j:=4) hb2.out
 have G1:=lh g1
 have B1:=lh b1
 clear g1 b1
 go_simp
 refine hK _ _ ⟨rfl,trivial,?_⟩
 clear hK K
 repeat((first|(refine wpX_light rfl fun K hK=>?_;apply Exists.intro;refine ⟨fun w' hw'=>?_,?_⟩;(try dsimp only at hw');go_simp;exact⟨rfl,rfl⟩)|(refine wpX_read rfl fun K hK=>?_;apply Exists.intro;refine ⟨?_,?_⟩;go_simp;exact⟨rfl,rfl⟩)|(refine wpX_not rfl fun K hK=>?_)|(refine wpX_light_g rfl fun K hK=>?_;apply Exists.intro;refine ⟨fun w' hw'=>?_,?_⟩;(try dsimp only at hw');go_simp;exact⟨rfl,rfl⟩)|(refine wpX_read_g rfl fun K hK=>?_;apply Exists.intro;refine ⟨?_,?_⟩;go_simp;exact⟨rfl,rfl⟩));go_simp;refine hK _ _ ?_;clear hK K)
 refine wpX_heavy rfl (fun K hK=>?_)
 go_wp2
 refine hQ' _ _ ?_
 go_wp2
 go_ret
 refine ⟨rfl,fun k=>k=p∨(Value.slice A' (x.safe.length+x.loose.length) c').ownBlock=some k,⟨.slice A' (x.safe.length+x.loose.length) c',.slice none 0 0,?_,hp,?_,?_,World.ownsRow_nil _ _ _ _,?_,?_⟩,?_,?_⟩
 ·have:=blk_set (blk_set (blk_set hb2.out 0 (.slice A' (x.safe.length+x.loose.length) c')) 1 (.slice none 0 0)) 4 (.bool true)
  have hh:=H5.out
  simpa [hh] using this
 ·have:=G1.out.size
  simp [World.setCell] at this ⊢
  omega
 ·have hl2:(x.safe ++ x.loose.take x.loose.length).length=x.safe.length+x.loose.length   := by simp <;> omega
  rw [hl2,bc_append]
  exact own_far (own_far (own_far o1 hp2 _) hp2 _) hp2 _
 ·simp [Value.ownBlock]
 ·intro k; simp [Value.ownBlock]
 ·rintro k (rfl | hk)
  ·exact .inl ((H2.out k).2 (.inl rfl))
  ·rcases B1.out k hk with h | h
   ·exact .inl ((H2.out k).2 (.inr (.inl h)))
   ·exact .inr (by simpa [World.setCell] using h)
 ·have hFp:F p:=(H2.out p).2 (.inl rfl)
  refine Kept.setCell (Kept.setCell (Kept.setCell (Kept.grown (Kept.drew (Kept.setCell (Kept.refl w F) (.inl hFp) _)) G1.out ?_) (.inl hFp) _) (.inl hFp) _) (.inl hFp) _
  intro k hk
  exact .inl ((H2.out k).2 (.inr (.inl hk)))
theorem burnt_any (base p:Nat) (F:Nat→Prop) (x:FD) (w:World) (h:FileAt base w p F x) (hr:Room x) (hg:Good x) :
  Calls Tryz.prog 83 #[.pointer (some ⟨p,0,none⟩)] w fun e w'=>e=.returned (.bool x.burns)∧Moved base w w' p F x.burn:=by
 obtain ⟨hg1,hg2⟩:=hg
 by_cases h0:x.fuse=0
 ·have e1:x.burns=false:=by simp [FD.burns,h0]
  have e2:x.burn={ x with fuse:=x.fuse - 1 }:=by simp [FD.burn,h0]
  rw [e1,e2]; exact burnt_no base p F x w h h0
 by_cases h1:x.fuse=1
 ·have e1:x.burns=true:=by simp [FD.burns,h1]
  rw [e1]
  obtain hk | hk | hk:x.keep=0∨x.keep=1∨x.keep=2:=by omega
  ·have:=burnt_crash0 base p F x w h hr h1 hk
   simpa [FD.burn,h1,FD.kept,hk] using this
  ·have:=burnt_crash1 base p F x w h hr h1 hk
   simpa [FD.burn,h1,FD.kept,hk] using this
  ·have:=burnt_crash2 base p F x w h hr h1 hk
   simpa [FD.burn,h1,FD.kept,hk] using this
 ·have e1:x.burns=false:=by simp [FD.burns,h1]
  have e2:x.burn={ x with fuse:=x.fuse - 1 }:=by simp [FD.burn,h1]
  rw [e1,e2]; exact burnt_wait base p F x w h (by omega) hg1
end Go.Proofs.YtogkkfdkeefjnaaGreatDoor.Disk
namespace Go.Proofs.YtogkkfdkeefjnaaGreatDoor.Disk
open Go.RowKit Go.Proofs.YtogkkfdkeefjnaaGreatDoorBase Go.Proofs.YtogkkfdkeefjnaaGreatDoorLex
set_option linter.unusedVariables false
set_option maxRecDepth 100000
set_option linter.unusedSimpArgs false
theorem add_down (base p:Nat) (F:Nat→Prop) (x:FD) (d:ByteArray) (w:World) (h:FileAt base w p F x) (hd:x.down=true) :
  Calls Tryz.prog 70 #[.pointer (some ⟨p,0,none⟩),.string d] w fun e w'=>e=.returned (.int .i64 170)∧w'=w:=by
 obtain ⟨sv,lv,hb,_⟩:=h
 have h4:=cellOf (j:=4) hb
 simp [hd] at h4
 clear hb hd
 go_enter Tryz.func70,Tryz.ntmps70
 go_wp2
 go_ret
 exact ⟨rfl,rfl⟩
set_option maxHeartbeats 800000 in
theorem add_up (base p:Nat) (F:Nat→Prop) (x:FD) (d:ByteArray) (w:World) (h:FileAt base w p F x) (hd:x.down=false)
  (hr:Room { x with loose:=x.loose ++ d.data.toList }) (hg:Good x) :
  Calls Tryz.prog 70 #[.pointer (some ⟨p,0,none⟩),.string d] w fun e w'=>e=.returned (.int .i64 (if x.burns then 140 else 0))∧Moved base w w' p F (FD.burn { x with loose:=x.loose ++ d.data.toList }):=by
 obtain ⟨sv,lv,hb,hp,hbs,hs,hl,hdis,hF⟩:=h
 obtain ⟨la,lc,rfl,hlc,hlm⟩:=own_slice hl
 have h1:=cellOf (j:=1) hb
 have h4:=cellOf (j:=4) hb
 simp [hd] at h1 h4
 have f1:=freeOf (j:=1) hb
 have hsp:=own_ne hs hb (by decide)
 have hlp:=own_ne hl hb (by decide)
 have H1:=lh hdis
 have H2:=lh hF
 have H3:=lh hb
 have H4:=lh hd
 clear hdis hF hb hd
 have hdl:d.data.toList.length=d.size:=by rw [Array.length_toList]; rfl
 have HR:=lh hr
 have HD:=lh hdl
 have hby:((x.loose.length+d.size)+(x.loose.length+d.size) / 4+192) * 1≤281474976710656:=by
  unfold Room at hr; simp only [List.length_append,hdl] at hr; omega
 have HB:=lh hby
 clear hr hdl hby
 go_enter Tryz.func70,Tryz.ntmps70
 go_wp2_with (at_builtin; refine wpList_append_ownS _ rfl (.tmp 13) (.tmp 14) 130 9 rfl base 5 (.int .u8 0) 1 1 elemByte (.slice la x.loose.length lc) x.loose.length (bc x.loose) rfl hl (.string d) d.size (bc d.data.toList) rfl (Src.ofString _ underStr d) HB.out hbs ?go)
 case go=>
  intro v' w1 o1 g1 b1
  obtain ⟨A',c',rfl,hc1,hc2⟩:=own_slice o1
  have hb2:=lh (blk_grown H3.out g1 (fun e=>hlp e.symm))
  have hp2:=own_ne o1 hb2.out (by decide)
  have k1:=cellOf (j:=1) hb2.out
  simp at k1
  have e1:=freeOf (j:=1) hb2.out
  -- the file as it stands behind the store
  have hl2:(x.loose ++ d.data.toList).length=x.loose.length+d.size:=by rw [List.length_append,HD.out]
  have hs1:w1.ownsRow base 5 1 sv x.safe.length (bc x.safe):=hs.kept g1 (by
   cases hsv:sv.ownBlock with
   | none=>exact .inl rfl
   | some g=>exact .inr (fun e=>H1.out g hsv e.symm))
  have file:FileAt base (w1.setCell ⟨p,1,none⟩ (.slice A' (x.loose.length+d.size) c')) p (fun k=>k=p∨sv.ownBlock=some k∨(Value.slice A' (x.loose.length+d.size) c').ownBlock=some k) { x with loose:=x.loose ++ d.data.toList }:=by
   refine ⟨sv,.slice A' (x.loose.length+d.size) c',?_,hp,?_,own_far hs1 hsp _,?_,?_,fun k=>Iff.rfl⟩
   ·have:=blk_set hb2.out 1 (.slice A' (x.loose.length+d.size) c')
    simpa using this
   ·have:=g1.size
    simp [World.setCell] at this ⊢
    omega
   ·simp only [hl2,bc_append]
    exact own_far o1 hp2 _
   ·intro g hg he
    rcases b1 g he with h | h
    ·exact H1.out g hg h
    ·have:=(hs.lt g hg).2
     omega
  have keptF:Kept w (w1.setCell ⟨p,1,none⟩ (.slice A' (x.loose.length+d.size) c')) F :=
   Kept.setCell (Kept.grown (Kept.refl w F) g1 (fun k hk=>.inl ((H2.out k).2 (.inr (.inr hk))))) (.inl ((H2.out p).2 (.inl rfl))) _
  have footF:∀ k,(k=p∨sv.ownBlock=some k∨(Value.slice A' (x.loose.length+d.size) c').ownBlock=some k)→F k∨w.heap.size≤k:=by
   rintro k (rfl | hk | hk)
   ·exact .inl ((H2.out k).2 (.inl rfl))
   ·exact .inl ((H2.out k).2 (.inr (.inl hk)))
   ·rcases b1 k hk with h | h
    ·exact .inl ((H2.out k).2 (.inr (.inr h)))
    ·exact .inr h
  have FL:=lh file
  have KF:=lh keptF
  have FF:=lh footF
  clear g1 b1 hs1 file keptF footF hl2
  go_wp2_with (go_at_call 83; refine (burnt_any base p _ _ _ FL.out HR.out hg).mono ?_; rintro e w' ⟨rfl,hm⟩; have HM:=lh hm; clear hm)
  all_goals go_ret
  all_goals refine ⟨?_,Moved.trans FF.out KF.out HM.out⟩
  all_goals simp_all [FD.burns]
theorem sync_down (base p:Nat) (F:Nat→Prop) (x:FD) (w:World) (h:FileAt base w p F x) (hd:x.down=true) :
  Calls Tryz.prog 71 #[.pointer (some ⟨p,0,none⟩)] w fun e w'=>e=.returned (.int .i64 170)∧w'=w:=by
 obtain ⟨sv,lv,hb,_⟩:=h
 have h4:=cellOf (j:=4) hb
 simp [hd] at h4
 clear hb hd
 go_enter Tryz.func71,Tryz.ntmps71
 go_wp2
 go_ret
 exact ⟨rfl,rfl⟩
theorem burn_no {x:FD} (h:x.burns=false):x.burn={ x with fuse:=x.fuse - 1 }:=by
 unfold FD.burns at h; unfold FD.burn
 rw [if_neg (by simpa using h)]
theorem sync_crash (base p:Nat) (F:Nat→Prop) (x:FD) (w:World) (h:FileAt base w p F x) (hd:x.down=false) (hr:Room x) (hg:Good x) (hb:x.burns=true) :
  Calls Tryz.prog 71 #[.pointer (some ⟨p,0,none⟩)] w fun e w'=>e=.returned (.int .i64 140)∧Moved base w w' p F x.burn:=by
 have FL:=lh h
 obtain ⟨sv,lv,hbk,_⟩:=h
 have h4:=cellOf (j:=4) hbk
 simp [hd] at h4
 have HR:=lh hr
 clear hbk hd hr
 go_enter Tryz.func71,Tryz.ntmps71
 go_wp2_with (go_at_call 83; refine (burnt_any base p _ _ _ FL.out HR.out hg).mono ?_; rintro e w' ⟨rfl,hm⟩; have HM:=lh hm; clear hm)
 go_ret
 exact ⟨rfl,HM.out⟩
set_option maxHeartbeats 1600000 in
theorem sync_up (base p:Nat) (F:Nat→Prop) (x:FD) (w:World) (h:FileAt base w p F x) (hd:x.down=false) (hr:Room x) (hg:Good x) (hb:x.burns=false) :
  Calls Tryz.prog 71 #[.pointer (some ⟨p,0,none⟩)] w fun e w'=>e=.returned (.int .i64 0)∧Moved base w w' p F ⟨x.safe ++ x.loose,[],x.fuse - 1,x.keep,x.down⟩:=by
 have FL:=lh h
 obtain ⟨sv0,lv0,hbk,_⟩:=h
 have h4:=cellOf (j:=4) hbk
 simp [hd] at h4
 have HR:=lh hr
 have HDN:=lh hd
 have HBN:=lh hb
 clear hbk hd hr
 go_enter Tryz.func71,Tryz.ntmps71
 go_wp2_with (go_at_call 83; refine (burnt_any base p _ _ _ FL.out HR.out hg).mono ?_; rintro e w1 ⟨rfl,hm⟩; have HM:=lh hm; clear hm)
 obtain ⟨F1,hf1,hF1,hk1⟩:=HM.out
 rw [burn_no HBN.out] at hf1
 obtain ⟨sv,lv,hbk,hp,hbs,hs,hl,hdis,hF⟩:=hf1
 simp only at hs hl
 obtain ⟨sa,sc,rfl,hsc,hsm⟩:=own_slice hs
 obtain ⟨la,lc,rfl,hlc,hlm⟩:=own_slice hl
 have k0:=cellOf (j:=0) hbk
 have k1:=cellOf (j:=1) hbk
 simp at k0 k1
 have f0:=freeOf (j:=0) hbk
 have f1:=freeOf (j:=1) hbk
 have hsp:=own_ne hs hbk (by decide)
 have hlp:=own_ne hl hbk (by decide)
 have H1:=lh hdis
 have H2:=lh hF
 have H3:=lh hbk
 have H5:=lh hF1
 have H6:=lh hk1
 clear hdis hF hbk hF1 hk1
 refine wp_region_lex (fun _=>True) [0,0,0,0,0,1,0,0,0,1,2,0,0,2,0,0,2] (by kernel_rfl) (by kernel_rfl) (by kernel_rfl) (trivial) (fun Q' hQ'=>?_)
 simp only [List.zip_cons_cons,List.zip_nil_right]
 repeat((first|(refine wpX_light rfl fun K hK=>?_;apply Exists.intro;refine ⟨fun w' hw'=>?_,?_⟩;(try dsimp only at hw');go_simp;exact⟨rfl,rfl⟩)|(refine wpX_read rfl fun K hK=>?_;apply Exists.intro;refine ⟨?_,?_⟩;go_simp;exact⟨rfl,rfl⟩)|(refine wpX_not rfl fun K hK=>?_)|(refine wpX_light_g rfl fun K hK=>?_;apply Exists.intro;refine ⟨fun w' hw'=>?_,?_⟩;(try dsimp only at hw');go_simp;exact⟨rfl,rfl⟩)|(refine wpX_read_g rfl fun K hK=>?_;apply Exists.intro;refine ⟨?_,?_⟩;go_simp;exact⟨rfl,rfl⟩));go_simp;refine hK _ _ ?_;clear hK K)
 refine wpX_heavy rfl (fun K hK=>?_)
 refine wp_append_ownS _ (.tmp 14) (.tmp 18) 130 130 rfl base 5 (.int .u8 0) 1 1 elemByte (.slice sa x.safe.length sc) x.safe.length (bc x.safe) rfl (own_drew hs) (.slice la x.loose.length lc) x.loose.length (bc x.loose) rfl ?src ?by1 ?ba (fun v' w2 o1 g1 b1=>?_)
 case src=>exact src_own (base:=base) (e:=5) (e':=5) elemByte.under (own_drew hl) (bc_one _)
 case by1=>have:=HR.out; unfold Room at this; omega
 case ba=>exact hbs
 obtain ⟨A',c',rfl,hc1,hc2⟩:=own_slice o1
 have hb2:=lh (blk_grown (w:=w1.drew) H3.out g1 (fun e=>hsp e.symm))
 have hp2:=own_ne o1 hb2.out (by decide)
 have k0:=cellOf (j:=0) hb2.out
 have k1:=cellOf (j:=1) hb2.out
 simp at k0 k1
 have e0:=freeOf (j:=0) hb2.out
 have e1:=freeOf (j:=1) hb2.out
 have G1:=lh g1
 have B1:=lh b1
 clear g1 b1
 go_simp
 refine hK _ _ ⟨rfl,trivial,?_⟩
 clear hK K
 repeat((first|(refine wpX_light rfl fun K hK=>?_;apply Exists.intro;refine ⟨fun w' hw'=>?_,?_⟩;(try dsimp only at hw');go_simp;exact⟨rfl,rfl⟩)|(refine wpX_read rfl fun K hK=>?_;apply Exists.intro;refine ⟨?_,?_⟩;go_simp;exact⟨rfl,rfl⟩)|(refine wpX_not rfl fun K hK=>?_)|(refine wpX_light_g rfl fun K hK=>?_;apply Exists.intro;refine ⟨fun w' hw'=>?_,?_⟩;(try dsimp only at hw');go_simp;exact⟨rfl,rfl⟩)|(refine wpX_read_g rfl fun K hK=>?_;apply Exists.intro;refine ⟨?_,?_⟩;go_simp;exact⟨rfl,rfl⟩));go_simp;refine hK _ _ ?_;clear hK K)
 refine wpX_heavy rfl (fun K hK=>?_)
 go_wp2
 repeat((first|(refine wpX_light rfl fun K hK=>?_;apply Exists.intro;refine ⟨fun w' hw'=>?_,?_⟩;(try dsimp only at hw');go_simp;exact⟨rfl,rfl⟩)|(refine wpX_read rfl fun K hK=>?_;apply Exists.intro;refine ⟨?_,?_⟩;go_simp;exact⟨rfl,rfl⟩)|(refine wpX_not rfl fun K hK=>?_)|(refine wpX_light_g rfl fun K hK=>?_;apply Exists.intro;refine ⟨fun w' hw'=>?_,?_⟩;(try dsimp only at hw');go_simp;exact⟨rfl,rfl⟩)|(refine wpX_read_g rfl fun K hK=>?_;apply Exists.intro;refine ⟨?_,?_⟩;go_simp;exact⟨rfl,rfl⟩));go_simp;refine hK _ _ ?_;clear hK K)
 refine wpX_heavy rfl (fun K hK=>?_)
 go_wp2
 refine hQ' _ _ ?_
 go_wp2
 go_ret
 refine ⟨rfl,Moved.trans H5.out H6.out ⟨fun k=>k=p∨(Value.slice A' (x.safe.length+x.loose.length) c').ownBlock=some k,⟨.slice A' (x.safe.length+x.loose.length) c',.slice none 0 0,?_,hp,?_,?_,World.ownsRow_nil _ _ _ _,?_,?_⟩,?_,?_⟩⟩
 ·have:=blk_set (blk_set hb2.out 0 (.slice A' (x.safe.length+x.loose.length) c')) 1 (.slice none 0 0)
  simpa using this
 ·have:=G1.out.size
  simp [World.setCell] at this ⊢
  omega
 ·simp only [List.length_append,bc_append]
  exact own_far (own_far o1 hp2 _) hp2 _
 ·simp [Value.ownBlock]
 ·intro k; simp [Value.ownBlock]
 ·rintro k (rfl | hk)
  ·exact .inl ((H2.out k).2 (.inl rfl))
  ·rcases B1.out k hk with h | h
   ·exact .inl ((H2.out k).2 (.inr (.inl h)))
   ·exact .inr (by simpa [World.setCell] using h)
 ·have hFp:F1 p:=(H2.out p).2 (.inl rfl)
  refine Kept.setCell (Kept.setCell (Kept.grown (Kept.drew (Kept.refl w1 F1)) G1.out ?_) (.inl hFp) _) (.inl hFp) _
  intro k hk
  exact .inl ((H2.out k).2 (.inr (.inl hk)))
end Go.Proofs.YtogkkfdkeefjnaaGreatDoor.Disk
