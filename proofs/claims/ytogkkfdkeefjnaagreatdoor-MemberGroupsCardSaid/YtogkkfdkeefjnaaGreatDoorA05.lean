/-
  What the calls of the package disk do to a file in memory: Cut, Arm, Restart, Read and New. The calls of the package disk, told as steps of one file of a law's own: what each answers and what it makes of the file. The package codec's writer and its numbers, walked.
-/
import Derived.Test.YtogkkfdkeefjnaaGreatDoorA04
import Derived.IntWalk
import Derived.Test.YtogkkfdkeefjnaaGreatDoorA01
import Derived.Test.YtogkkfdkeefjnaaGreatDoorA03
namespace Go.Proofs.YtogkkfdkeefjnaaGreatDoor.Disk
open Go.RowKit Go.Proofs.YtogkkfdkeefjnaaGreatDoorBase Go.Proofs.YtogkkfdkeefjnaaGreatDoorLex
set_option linter.unusedVariables false
set_option maxRecDepth 100000
set_option linter.unusedSimpArgs false
theorem cut_down (base p:Nat) (F:Nat→Prop) (x:FD) (n:Int) (w:World) (h:FileAt base w p F x) (hd:x.down=true) :
  Calls Tryz.prog 53 #[.pointer (some ⟨p,0,none⟩),.int .i64 n] w fun e w'=>e=.returned (.int .i64 170)∧w'=w:=by
 obtain ⟨sv,lv,hb,_⟩:=h
 have h4:=cellOf (j:=4) hb
 simp [hd] at h4
 clear hb hd
 go_enter Tryz.func53,Tryz.ntmps53
 go_wp2
 go_ret
 exact ⟨rfl,rfl⟩
set_option maxHeartbeats 800000 in
theorem cut_neg (base p:Nat) (F:Nat→Prop) (x:FD) (n:Int) (w:World) (h:FileAt base w p F x) (hd:x.down=false) (hn:n < 0) :
  Calls Tryz.prog 53 #[.pointer (some ⟨p,0,none⟩),.int .i64 n] w fun e w'=>e=.returned (.int .i64 141)∧w'=w.drew:=by
 obtain ⟨sv,lv,hb,_⟩:=h
 have h4:=cellOf (j:=4) hb
 simp [hd] at h4
 clear hb hd
 have q:decide (n < 0)=true:=by simpa using hn
 go_enter Tryz.func53,Tryz.ntmps53
 go_wp2
 refine wp_region_lex (fun _=>True) [0,0,0,0,0,0,0,1,0,0,0,0,1,0,0,0,0,0] (by kernel_rfl) (by kernel_rfl) (by kernel_rfl) (trivial) (fun Q' hQ'=>?_)
 simp only [List.zip_cons_cons,List.zip_nil_right]
 repeat((first|(refine wpX_light rfl fun K hK=>?_;apply Exists.intro;refine ⟨fun w' hw'=>?_,?_⟩;(try dsimp only at hw');go_simp;exact⟨rfl,rfl⟩)|(refine wpX_read rfl fun K hK=>?_;apply Exists.intro;refine ⟨?_,?_⟩;go_simp;exact⟨rfl,rfl⟩)|(refine wpX_not rfl fun K hK=>?_)|(refine wpX_light_g rfl fun K hK=>?_;apply Exists.intro;refine ⟨fun w' hw'=>?_,?_⟩;(try dsimp only at hw');go_simp;exact⟨rfl,rfl⟩)|(refine wpX_read_g rfl fun K hK=>?_;apply Exists.intro;refine ⟨?_,?_⟩;go_simp;exact⟨rfl,rfl⟩));go_simp;refine hK _ _ ?_;clear hK K)
 refine wpX_nil (hQ' _ _ ?_)
 go_wp2
 go_ret
 exact ⟨rfl,rfl⟩
set_option maxHeartbeats 800000 in
theorem cut_far (base p:Nat) (F:Nat→Prop) (x:FD) (n:Int) (w:World) (h:FileAt base w p F x) (hd:x.down=false) (hr:Room x) (hn:¬ n < 0) (hn2:(x.safe.length:Int)+x.loose.length < n) :
  Calls Tryz.prog 53 #[.pointer (some ⟨p,0,none⟩),.int .i64 n] w fun e w'=>e=.returned (.int .i64 141)∧w'=w.drew:=by
 obtain ⟨sv,lv,hb,hp,hbs,hs,hl,_⟩:=h
 obtain ⟨sa,sc,rfl,hsc,hsm⟩:=own_slice hs
 obtain ⟨la,lc,rfl,hlc,hlm⟩:=own_slice hl
 have h4:=cellOf (j:=4) hb
 have h0:=cellOf (j:=0) hb
 have h1:=cellOf (j:=1) hb
 simp [hd] at h4 h0 h1
 clear hb hd
 unfold Room at hr
 have q:decide (n < 0)=false:=by simpa using hn
 have q1:decide ((x.safe.length:Int)+x.loose.length < n)=true:=by simpa using hn2
 have qw:IntKind.i64.wrap ((x.safe.length:Int)+x.loose.length)=(x.safe.length:Int)+x.loose.length:=IntWalk.i64_in _ (by omega)
 clear hn hn2 hs hl
 go_enter Tryz.func53,Tryz.ntmps53
 go_wp2
 refine wp_region_lex (fun _=>True) [0,0,0,0,0,0,0,1,0,0,0,0,1,0,0,0,0,0] (by kernel_rfl) (by kernel_rfl) (by kernel_rfl) (trivial) (fun Q' hQ'=>?_)
 simp only [List.zip_cons_cons,List.zip_nil_right]
 repeat((first|(refine wpX_light rfl fun K hK=>?_;apply Exists.intro;refine ⟨fun w' hw'=>?_,?_⟩;(try dsimp only at hw');go_simp;exact⟨rfl,rfl⟩)|(refine wpX_read rfl fun K hK=>?_;apply Exists.intro;refine ⟨?_,?_⟩;go_simp;exact⟨rfl,rfl⟩)|(refine wpX_not rfl fun K hK=>?_)|(refine wpX_light_g rfl fun K hK=>?_;apply Exists.intro;refine ⟨fun w' hw'=>?_,?_⟩;(try dsimp only at hw');go_simp;exact⟨rfl,rfl⟩)|(refine wpX_read_g rfl fun K hK=>?_;apply Exists.intro;refine ⟨?_,?_⟩;go_simp;exact⟨rfl,rfl⟩));go_simp;refine hK _ _ ?_;clear hK K)
 refine wpX_nil (hQ' _ _ ?_)
 go_wp2
 go_ret
 exact ⟨rfl,rfl⟩
theorem Moved.of_drew {base p:Nat} {w w':World} {F:Nat→Prop} {x':FD} (h:Moved base w.drew w' p F x'):Moved base w w' p F x':=by
 obtain ⟨F',h1,h2,h3⟩:=h
 exact ⟨F',h1,h2,⟨h3.os,h3.tape,h3.output,h3.size,h3.block⟩⟩
set_option maxHeartbeats 1600000 in
theorem cut_crash (base p:Nat) (F:Nat→Prop) (x:FD) (n:Nat) (w:World) (h:FileAt base w p F x) (hd:x.down=false) (hr:Room x) (hg:Good x) (hn:n≤x.safe.length+x.loose.length) (hb:x.burns=true) :
  Calls Tryz.prog 53 #[.pointer (some ⟨p,0,none⟩),.int .i64 n] w fun e w'=>e=.returned (.int .i64 140)∧Moved base w w' p F x.burn:=by
 have FL:=lh h
 obtain ⟨sv,lv,hbk,hp,hbs,hs,hl,_⟩:=h
 obtain ⟨sa,sc,rfl,hsc,hsm⟩:=own_slice hs
 obtain ⟨la,lc,rfl,hlc,hlm⟩:=own_slice hl
 have h4:=cellOf (j:=4) hbk
 have h0:=cellOf (j:=0) hbk
 have h1:=cellOf (j:=1) hbk
 simp [hd] at h4 h0 h1
 have HR:=lh hr
 have HN:=lh hn
 have HDN:=lh hd
 have HBN:=lh hb
 unfold Room at hr
 have q:decide ((n:Int) < 0)=false:=by simp
 have q1:decide ((x.safe.length:Int)+x.loose.length < (n:Int))=false:=by simp; omega
 have qw:IntKind.i64.wrap ((x.safe.length:Int)+x.loose.length)=(x.safe.length:Int)+x.loose.length:=IntWalk.i64_in _ (by omega)
 clear hbk hd hn hs hl hr hsc hsm hlc hlm
 go_enter Tryz.func53,Tryz.ntmps53
 go_wp2
 refine wp_region_lex (fun _=>True) [0,0,0,0,0,0,0,1,0,0,0,0,1,0,0,0,0,0] (by kernel_rfl) (by kernel_rfl) (by kernel_rfl) (trivial) (fun Q' hQ'=>?_)
 simp only [List.zip_cons_cons,List.zip_nil_right]
 repeat((first|(refine wpX_light rfl fun K hK=>?_;apply Exists.intro;refine ⟨fun w' hw'=>?_,?_⟩;(try dsimp only at hw');go_simp;exact⟨rfl,rfl⟩)|(refine wpX_read rfl fun K hK=>?_;apply Exists.intro;refine ⟨?_,?_⟩;go_simp;exact⟨rfl,rfl⟩)|(refine wpX_not rfl fun K hK=>?_)|(refine wpX_light_g rfl fun K hK=>?_;apply Exists.intro;refine ⟨fun w' hw'=>?_,?_⟩;(try dsimp only at hw');go_simp;exact⟨rfl,rfl⟩)|(refine wpX_read_g rfl fun K hK=>?_;apply Exists.intro;refine ⟨?_,?_⟩;go_simp;exact⟨rfl,rfl⟩));go_simp;refine hK _ _ ?_;clear hK K)
 refine wpX_nil (hQ' _ _ ?_)
 go_wp2_with (go_at_call 83; refine (burnt_any base p _ _ _ FL.out.drew HR.out hg).mono ?_; rintro e w1 ⟨rfl,hm⟩; have HM:=lh hm; clear hm)
 go_ret
 exact ⟨rfl,Moved.of_drew HM.out⟩
set_option maxHeartbeats 1600000 in
theorem cut_up (base p:Nat) (F:Nat→Prop) (x:FD) (n:Nat) (w:World) (h:FileAt base w p F x) (hd:x.down=false) (hr:Room x) (hg:Good x) (hn:n≤x.safe.length+x.loose.length) (hb:x.burns=false) :
  Calls Tryz.prog 53 #[.pointer (some ⟨p,0,none⟩),.int .i64 n] w fun e w'=>e=.returned (.int .i64 0)∧Moved base w w' p F ⟨(x.safe ++ x.loose).take n,[],x.fuse - 1,x.keep,x.down⟩:=by
 have FL:=lh h
 obtain ⟨sv,lv,hbk,hp,hbs,hs,hl,_⟩:=h
 obtain ⟨sa,sc,rfl,hsc,hsm⟩:=own_slice hs
 obtain ⟨la,lc,rfl,hlc,hlm⟩:=own_slice hl
 have h4:=cellOf (j:=4) hbk
 have h0:=cellOf (j:=0) hbk
 have h1:=cellOf (j:=1) hbk
 simp [hd] at h4 h0 h1
 have HR:=lh hr
 have HN:=lh hn
 have HDN:=lh hd
 have HBN:=lh hb
 unfold Room at hr
 have q:decide ((n:Int) < 0)=false:=by simp
 have q1:decide ((x.safe.length:Int)+x.loose.length < (n:Int))=false:=by simp; omega
 have qw:IntKind.i64.wrap ((x.safe.length:Int)+x.loose.length)=(x.safe.length:Int)+x.loose.length:=IntWalk.i64_in _ (by omega)
 clear hbk hd hn hs hl hr hsc hsm hlc hlm
 go_enter Tryz.func53,Tryz.ntmps53
 go_wp2
 refine wp_region_lex (fun _=>True) [0,0,0,0,0,0,0,1,0,0,0,0,1,0,0,0,0,0] (by kernel_rfl) (by kernel_rfl) (by kernel_rfl) (trivial) (fun Q' hQ'=>?_)
 simp only [List.zip_cons_cons,List.zip_nil_right]
 repeat((first|(refine wpX_light rfl fun K hK=>?_;apply Exists.intro;refine ⟨fun w' hw'=>?_,?_⟩;(try dsimp only at hw');go_simp;exact⟨rfl,rfl⟩)|(refine wpX_read rfl fun K hK=>?_;apply Exists.intro;refine ⟨?_,?_⟩;go_simp;exact⟨rfl,rfl⟩)|(refine wpX_not rfl fun K hK=>?_)|(refine wpX_light_g rfl fun K hK=>?_;apply Exists.intro;refine ⟨fun w' hw'=>?_,?_⟩;(try dsimp only at hw');go_simp;exact⟨rfl,rfl⟩)|(refine wpX_read_g rfl fun K hK=>?_;apply Exists.intro;refine ⟨?_,?_⟩;go_simp;exact⟨rfl,rfl⟩));go_simp;refine hK _ _ ?_;clear hK K)
 refine wpX_nil (hQ' _ _ ?_)
 go_wp2_with (go_at_call 83; refine (burnt_any base p _ _ _ FL.out.drew HR.out hg).mono ?_; rintro e w1 ⟨rfl,hm⟩; have HM:=lh hm; clear hm)
 obtain ⟨F1,hf1,hF1,hk1⟩:=(Moved.of_drew HM.out)
 rw [burn_no HBN.out] at hf1
 clear h0 h1 q q1 qw
 clear hbs hp
 obtain ⟨sv,lv,hbk,hp,hbs,hs,hl,hdis,hF⟩:=hf1
 simp only at hs hl
 obtain ⟨sa,sc,rfl,hsc,hsm⟩:=own_slice hs
 obtain ⟨la,lc,rfl,hlc,hlm⟩:=own_slice hl
 have k0:=cellOf (j:=0) hbk
 have k1:=cellOf (j:=1) hbk
 simp at k0 k1
 have f0:=freeOf (j:=0) hbk
 have f1:=freeOf (j:=1) hbk
 have hsp:=own_ne hs hbk (by decide)
 have hlp:=own_ne hl hbk (by decide)
 have H1:=lh hdis
 have H2:=lh hF
 have H3:=lh hbk
 have H5:=lh hF1
 have H6:=lh hk1
 clear hdis hF hbk hF1 hk1
 refine wp_region_lex (fun _=>True) [0,0,0,0,1,0,0,0,1,2,0,0,0,0,2] (by kernel_rfl) (by kernel_rfl) (by kernel_rfl) (trivial) (fun Q' hQ'=>?_)
 simp only [List.zip_cons_cons,List.zip_nil_right]
 repeat((first|(refine wpX_light rfl fun K hK=>?_;apply Exists.intro;refine ⟨fun w' hw'=>?_,?_⟩;(try dsimp only at hw');go_simp;exact⟨rfl,rfl⟩)|(refine wpX_read rfl fun K hK=>?_;apply Exists.intro;refine ⟨?_,?_⟩;go_simp;exact⟨rfl,rfl⟩)|(refine wpX_not rfl fun K hK=>?_)|(refine wpX_light_g rfl fun K hK=>?_;apply Exists.intro;refine ⟨fun w' hw'=>?_,?_⟩;(try dsimp only at hw');go_simp;exact⟨rfl,rfl⟩)|(refine wpX_read_g rfl fun K hK=>?_;apply Exists.intro;refine ⟨?_,?_⟩;go_simp;exact⟨rfl,rfl⟩));go_simp;refine hK _ _ ?_;clear hK K)
 refine wpX_heavy rfl (fun K hK=>?_)
 refine wp_append_ownS _ (.tmp 34) (.tmp 38) 130 130 rfl base 5 (.int .u8 0) 1 1 elemByte (.slice sa x.safe.length sc) x.safe.length (bc x.safe) rfl (own_drew hs) (.slice la x.loose.length lc) x.loose.length (bc x.loose) rfl ?src ?by1 ?ba (fun v' w2 o1 g1 b1=>?_)
 case src=>exact src_own (base:=base) (e:=5) (e':=5) elemByte.under (own_drew hl) (bc_one _)
 case by1=>have:=HR.out; unfold Room at this; omega
 case ba=>exact hbs
 obtain ⟨A',c',rfl,hc1,hc2⟩:=own_slice o1
 have hb2:=lh (blk_grown (w:=w1.drew) H3.out g1 (fun e=>hsp e.symm))
 have hp2:=own_ne o1 hb2.out (by decide)
 have k0:=cellOf (j:=0) hb2.out
 have k1:=cellOf (j:=1) hb2.out
 simp at k0 k1
 have e0:=freeOf (j:=0) hb2.out
 have e1:=freeOf (j:=1) hb2.out
 have G1:=lh g1
 have B1:=lh b1
 have r1:n≤c':=Nat.le_trans HN.out hc1
 have r2:(n:Int)≤c':=by omega
 clear g1 b1
 go_simp
 refine hK _ _ ⟨rfl,trivial,?_⟩
 clear hK K
 repeat((first|(refine wpX_light rfl fun K hK=>?_;apply Exists.intro;refine ⟨fun w' hw'=>?_,?_⟩;(try dsimp only at hw');go_simp;exact⟨rfl,rfl⟩)|(refine wpX_read rfl fun K hK=>?_;apply Exists.intro;refine ⟨?_,?_⟩;go_simp;exact⟨rfl,rfl⟩)|(refine wpX_not rfl fun K hK=>?_)|(refine wpX_light_g rfl fun K hK=>?_;apply Exists.intro;refine ⟨fun w' hw'=>?_,?_⟩;(try dsimp only at hw');go_simp;exact⟨rfl,rfl⟩)|(refine wpX_read_g rfl fun K hK=>?_;apply Exists.intro;refine ⟨?_,?_⟩;go_simp;exact⟨rfl,rfl⟩));go_simp;refine hK _ _ ?_;clear hK K)
 refine wpX_heavy rfl (fun K hK=>?_)
 go_wp2
 refine hQ' _ _ ?_
 go_wp2
 go_ret
 have o2:=own_take o1 (m:=n) HN.out
 rw [← bc_append,bc_take] at o2
 have hln:((x.safe ++ x.loose).take n).length=n:=by have:=HN.out; simp; omega
 refine ⟨rfl,Moved.trans H5.out H6.out ⟨fun k=>k=p∨(Value.slice A' n c').ownBlock=some k,⟨.slice A' n c',.slice none 0 0,?_,hp,?_,?_,World.ownsRow_nil _ _ _ _,?_,?_⟩,?_,?_⟩⟩
 ·have:=blk_set (blk_set hb2.out 0 (.slice A' n c')) 1 (.slice none 0 0)
  simpa using this
 ·have:=G1.out.size
  simp [World.setCell] at this ⊢
  omega
 ·simp only [hln]
  exact own_far (own_far o2 (by rw [ownB A' n (x.safe.length+x.loose.length) c' c']; exact hp2) _) (by rw [ownB A' n (x.safe.length+x.loose.length) c' c']; exact hp2) _
 ·simp [Value.ownBlock]
 ·intro k; simp [Value.ownBlock]
 ·rintro k (rfl | hk)
  ·exact .inl ((H2.out k).2 (.inl rfl))
  ·rcases B1.out k (by rw [ownB A' (x.safe.length+x.loose.length) n c' c']; exact hk) with h | h
   ·exact .inl ((H2.out k).2 (.inr (.inl h)))
   ·exact .inr (by simpa [World.setCell] using h)
 ·have hFp:F1 p:=(H2.out p).2 (.inl rfl)
  refine Kept.setCell (Kept.setCell (Kept.grown (Kept.drew (Kept.refl w1 F1)) G1.out ?_) (.inl hFp) _) (.inl hFp) _
  intro k hk
  exact .inl ((H2.out k).2 (.inr (.inl hk)))
theorem restart_any (base p:Nat) (F:Nat→Prop) (x:FD) (w:World) (h:FileAt base w p F x) :
  Calls Tryz.prog 27 #[.pointer (some ⟨p,0,none⟩)] w fun e w'=>e=.returned (.tuple #[])∧Moved base w w' p F ⟨x.safe,if x.down then x.loose else [],0,x.keep,false⟩:=by
 obtain ⟨sv,lv,hb,hp,hbs,hs,hl,hdis,hF⟩:=h
 have hsp:=own_ne hs hb (by decide)
 have hlp:=own_ne hl hb (by decide)
 have H2:=lh hF
 have H3:=lh hb
 have H1:=lh hdis
 have h4:=cellOf (j:=4) hb
 have h1:=cellOf (j:=1) hb
 have h2:=cellOf (j:=2) hb
 simp at h4 h1 h2
 have f1:=freeOf (j:=1) hb
 have f2:=freeOf (j:=2) hb
 have f4:=freeOf (j:=4) hb
 have hFp:=lh ((hF p).2 (.inl rfl))
 clear hb hF hdis
 cases hd:x.down
 ·rw [hd] at h4
  have HD:=lh hd
  clear hd
  go_enter Tryz.func27,Tryz.ntmps27
  go_wp2
  go_end0
  refine ⟨rfl,fun k=>k=p∨sv.ownBlock=some k,⟨sv,.slice none 0 0,?_,hp,by simpa [World.setCell] using hbs,own_far (own_far (own_far hs hsp _) hsp _) hsp _,?_,by simp [Value.ownBlock],fun k=>by simp [Value.ownBlock]⟩,?_,?_⟩
  ·have:=blk_set (blk_set (blk_set H3.out 1 (.slice none 0 0)) 4 (.bool false)) 2 (.int .i64 0)
   simpa using this
  ·exact World.ownsRow_nil _ _ _ _
  ·rintro k (rfl | hk)
   ·exact .inl hFp.out
   ·exact .inl ((H2.out k).2 (.inr (.inl hk)))
  ·exact Kept.setCell (Kept.setCell (Kept.setCell (Kept.refl w F) (.inl hFp.out) _) (.inl hFp.out) _) (.inl hFp.out) _
 ·rw [hd] at h4
  have HD:=lh hd
  clear hd
  go_enter Tryz.func27,Tryz.ntmps27
  go_wp2
  go_end0
  refine ⟨rfl,F,⟨sv,lv,?_,hp,by simpa [World.setCell] using hbs,own_far (own_far hs hsp _) hsp _,own_far (own_far hl hlp _) hlp _,H1.out,H2.out⟩,fun k hk=>.inl hk,Kept.setCell (Kept.setCell (Kept.refl w F) (.inl hFp.out) _) (.inl hFp.out) _⟩
  have:=blk_set (blk_set H3.out 4 (.bool false)) 2 (.int .i64 0)
  simpa using this
theorem arm_bad (base p:Nat) (F:Nat→Prop) (x:FD) (o k:Int) (w:World) (h:o < 1∨65536 < o∨k < 0∨2 < k) :
  Calls Tryz.prog 26 #[.pointer (some ⟨p,0,none⟩),.int .i64 o,.int .i64 k] w fun e w'=>e=.returned (.int .i64 141)∧w'=w:=by
 have H:=lh h
 clear h
 go_enter Tryz.func26,Tryz.ntmps26
 go_wp2
 all_goals first
  | (go_ret; exact ⟨rfl,rfl⟩)
  | (exfalso; have:=H.out; omega)
theorem arm_ok (base p:Nat) (F:Nat→Prop) (x:FD) (o k:Nat) (w:World) (h:FileAt base w p F x) (h1:1≤o) (h2:o≤65536) (h3:k≤2) :
  Calls Tryz.prog 26 #[.pointer (some ⟨p,0,none⟩),.int .i64 o,.int .i64 k] w fun e w'=>e=.returned (.int .i64 0)∧Moved base w w' p F { x with fuse:=o,keep:=k }:=by
 obtain ⟨sv,lv,hb,hp,hbs,hs,hl,hdis,hF⟩:=h
 have hsp:=own_ne hs hb (by decide)
 have hlp:=own_ne hl hb (by decide)
 have H2:=lh hF
 have H3:=lh hb
 have H1:=lh hdis
 have c2:=cellOf (j:=2) hb
 have c3:=cellOf (j:=3) hb
 simp at c2 c3
 have f2:=freeOf (j:=2) hb
 have f3:=freeOf (j:=3) hb
 have hFp:=lh ((hF p).2 (.inl rfl))
 clear hb hF hdis
 go_enter Tryz.func26,Tryz.ntmps26
 go_wp2
 all_goals first
  | (exfalso; omega)
  | skip
 go_ret
 refine ⟨rfl,F,⟨sv,lv,?_,hp,by simpa [World.setCell] using hbs,own_far (own_far hs hsp _) hsp _,own_far (own_far hl hlp _) hlp _,H1.out,H2.out⟩,fun k hk=>.inl hk,Kept.setCell (Kept.setCell (Kept.refl w F) (.inl hFp.out) _) (.inl hFp.out) _⟩
 have:=blk_set (blk_set H3.out 2 (.int .i64 o)) 3 (.int .i64 k)
 simpa using this
theorem read_down (base p:Nat) (F:Nat→Prop) (x:FD) (w:World) (h:FileAt base w p F x) (hd:x.down=true) :
  Calls Tryz.prog 51 #[.pointer (some ⟨p,0,none⟩)] w fun e w'=>e=.returned (.tuple #[.string ⟨#[]⟩,.int .i64 170])∧∃ n,w'=w.drewN n:=by
 obtain ⟨sv,lv,hb,_⟩:=h
 have h4:=cellOf (j:=4) hb
 simp [hd] at h4
 clear hb hd
 go_enter Tryz.func51,Tryz.ntmps51
 go_wp2
 go_ret2
 exact ⟨rfl,0,rfl⟩
set_option maxHeartbeats 800000 in
theorem read_up (base p:Nat) (F:Nat→Prop) (x:FD) (w:World) (h:FileAt base w p F x) (hd:x.down=false) (hr:Room x) :
  Calls Tryz.prog 51 #[.pointer (some ⟨p,0,none⟩)] w fun e w'=>e=.returned (.tuple #[.string ⟨(x.safe ++ x.loose).toArray⟩,.int .i64 0])∧∃ n,w'=w.drewN n:=by
 obtain ⟨sv,lv,hb,hp,hbs,hs,hl,hdis,hF⟩:=h
 have h4:=cellOf (j:=4) hb
 have h0:=cellOf (j:=0) hb
 have h1:=cellOf (j:=1) hb
 simp [hd] at h4 h0 h1
 have r1:=run_convert_own (P:=Tryz.prog) w.drew 130 9 5 base _ sv x.safe elemByte.under underU8 underStr (own_drew hs)
 have r2:=run_convert_own (P:=Tryz.prog) w.drew 130 9 5 base _ lv x.loose elemByte.under underU8 underStr (own_drew hl)
 have r3:∀ w',(Op.stringOp .add ⟨x.safe.toArray⟩ ⟨x.loose.toArray⟩).run Tryz.prog w'=.ok (.string ⟨(x.safe ++ x.loose).toArray⟩) w':=fun w'=>by
  rw [run_string_add_sum w' _ _ (by unfold Room at hr; simp only [size_mk]; omega),ByteArray.mk_append_mk]
 clear hb hF hdis hs hl hd hr
 go_enter Tryz.func51,Tryz.ntmps51
 go_wp2
 refine wp_region_lex (fun _=>True) [0,0,0,1,1,0,0,0,1,1,0,0,0] (by kernel_rfl) (by kernel_rfl) (by kernel_rfl) (trivial) (fun Q' hQ'=>?_)
 simp only [List.zip_cons_cons,List.zip_nil_right]
 repeat((first|(refine wpX_light rfl fun K hK=>?_;apply Exists.intro;refine ⟨fun w' hw'=>?_,?_⟩;(try dsimp only at hw');go_simp;exact⟨rfl,rfl⟩)|(refine wpX_read rfl fun K hK=>?_;apply Exists.intro;refine ⟨?_,?_⟩;go_simp;exact⟨rfl,rfl⟩)|(refine wpX_not rfl fun K hK=>?_)|(refine wpX_light_g rfl fun K hK=>?_;apply Exists.intro;refine ⟨fun w' hw'=>?_,?_⟩;(try dsimp only at hw');go_simp;exact⟨rfl,rfl⟩)|(refine wpX_read_g rfl fun K hK=>?_;apply Exists.intro;refine ⟨?_,?_⟩;go_simp;exact⟨rfl,rfl⟩));go_simp;refine hK _ _ ?_;clear hK K)
 refine wpX_nil (hQ' _ _ ?_)
 go_wp2
 go_ret2
 exact ⟨rfl,1,rfl⟩
theorem new_any (base:Nat) (w:World) (hb:base≤w.heap.size) :
  Calls Tryz.prog 33 #[] w fun e w'=>e=.returned (.pointer (some ⟨w.heap.size,0,none⟩)) ∧
   FileAt base w' w.heap.size (fun k=>k=w.heap.size) ⟨[],[],0,0,false⟩∧Kept w w' (fun _=>False):=by
 go_enter Tryz.func33,Tryz.ntmps33
 go_wp2
 go_ret
 refine ⟨rfl,⟨.slice none 0 0,.slice none 0 0,?_,hb,by simp; omega,World.ownsRow_nil _ _ _ _,World.ownsRow_nil _ _ _ _,by simp [Value.ownBlock],by simp [Value.ownBlock]⟩,Kept.alloc (Kept.refl _ _) _⟩
 exact heap_alloc_new w _
end Go.Proofs.YtogkkfdkeefjnaaGreatDoor.Disk
namespace Go.Proofs.YtogkkfdkeefjnaaGreatDoor.Disk
open Go.RowKit Go.Proofs.YtogkkfdkeefjnaaGreatDoorBase Go.Proofs.YtogkkfdkeefjnaaGreatDoorLex
set_option linter.unusedVariables false
set_option maxRecDepth 100000
set_option linter.unusedSimpArgs false
def FD.add (x:FD) (d:List UInt8):Int×FD:=if x.down then (170,x) else (if x.burns then 140 else 0,FD.burn { x with loose:=x.loose ++ d })
def FD.sync (x:FD):Int×FD:=if x.down then (170,x) else if x.burns then (140,x.burn) else (0,⟨x.safe ++ x.loose,[],x.fuse - 1,x.keep,x.down⟩)
def FD.cut (x:FD) (n:Int):Int×FD :=
 if x.down then (170,x) else if n < 0∨(x.safe.length:Int)+x.loose.length < n then (141,x) else if x.burns then (140,x.burn) else (0,⟨(x.safe ++ x.loose).take n.toNat,[],x.fuse - 1,x.keep,x.down⟩)
def FD.arm (x:FD) (o k:Int):Int×FD:=if o < 1∨65536 < o∨k < 0∨2 < k then (141,x) else (0,{ x with fuse:=o.toNat,keep:=k.toNat })
def FD.restart (x:FD):FD:=⟨x.safe,if x.down then x.loose else [],0,x.keep,false⟩
def FD.read (x:FD):List UInt8×Int:=if x.down then ([],170) else (x.safe ++ x.loose,0)
def FD.new:FD:=⟨[],[],0,0,false⟩
/-- The law's file: at block p, of the law's own memory; what was there before is as it was. -/
def St (w0 w:World) (p:Nat) (F:Nat→Prop) (x:FD):Prop:=FileAt w0.heap.size w p F x∧Below w0.heap.size w0 w∧Good x∧Room x
/-- .. behind a step: what isn't the file's is kept. -/
def Next (w0 w w':World) (p:Nat) (F:Nat→Prop) (x:FD):Prop:=∃ F',St w0 w' p F' x∧(∀ k,F' k→F k∨w.heap.size≤k)∧Kept w w' F
theorem Good.burn {x:FD} (h:Good x):Good x.burn:=by
 unfold Good at *; unfold FD.burn
 split
 ·exact ⟨Nat.zero_le _,h.2⟩
 ·exact ⟨by have:=h.1; simp only; omega,h.2⟩
theorem Room.burn {x:FD} (h:Room x):Room x.burn:=by
 unfold Room at *; unfold FD.burn
 split
 ·simp; have:=List.length_take_le x.kept x.loose; omega
 ·exact h
theorem St.next {w0 w w':World} {p:Nat} {F:Nat→Prop} {x x':FD} (h:St w0 w p F x) (hm:Moved w0.heap.size w w' p F x') (hg:Good x') (hr:Room x'):Next w0 w w' p F x':=by
 obtain ⟨F',hf,hF,hk⟩:=hm
 exact ⟨F',⟨hf,h.2.1.trans (hk.below (fun k hk=>h.1.base_le k hk) h.2.1.size),hg,hr⟩,hF,hk⟩
theorem Next.refl {w0 w:World} {p:Nat} {F:Nat→Prop} {x:FD} (h:St w0 w p F x):Next w0 w w p F x:=⟨F,h,fun k hk=>.inl hk,Kept.refl _ _⟩
theorem St.drewN {w0 w:World} {p:Nat} {F:Nat→Prop} {x:FD} (h:St w0 w p F x) (n:Nat):St w0 (w.drewN n) p F x:=⟨h.1,⟨h.2.1.os,h.2.1.tape,h.2.1.output,h.2.1.size,h.2.1.block⟩,h.2.2⟩
theorem Next.drewN {w0 w:World} {p:Nat} {F:Nat→Prop} {x:FD} (h:St w0 w p F x) (n:Nat):Next w0 w (w.drewN n) p F x:=⟨F,h.drewN n,fun k hk=>.inl hk,(Kept.refl _ _).drewN n⟩
section
variable {w0 w : World} {p : Nat} {F : Nat → Prop} {x x' : FD} {c : Int}
theorem st_add (h:St w0 w p F x) (d:ByteArray) (hr:Room { x with loose:=x.loose ++ d.data.toList }) (hc:x.add d.data.toList=(c,x')) :
  Calls Tryz.prog 70 #[.pointer (some ⟨p,0,none⟩),.string d] w fun e w'=>e=.returned (.int .i64 c)∧Next w0 w w' p F x':=by
 unfold FD.add at hc
 cases hd:x.down
 ·rw [hd] at hc
  simp only [Bool.false_eq_true,if_false,Prod.mk.injEq] at hc
  obtain ⟨rfl,rfl⟩:=hc
  refine (add_up w0.heap.size p F x d w h.1 hd hr h.2.2.1).mono ?_
  rintro e w' ⟨rfl,hm⟩
  rw [hd] at hm
  have hg:Good (⟨x.safe,x.loose ++ d.data.toList,x.fuse,x.keep,false⟩:FD):=h.2.2.1
  have hr':Room (⟨x.safe,x.loose ++ d.data.toList,x.fuse,x.keep,false⟩:FD):=hr
  exact ⟨rfl,h.next hm hg.burn hr'.burn⟩
 ·rw [hd] at hc
  simp only [if_true,Prod.mk.injEq] at hc
  obtain ⟨rfl,rfl⟩:=hc
  refine (add_down w0.heap.size p F x d w h.1 hd).mono ?_
  rintro e w' ⟨rfl,rfl⟩
  exact ⟨rfl,Next.refl h⟩
theorem st_sync (h:St w0 w p F x) (hc:x.sync=(c,x')) :
  Calls Tryz.prog 71 #[.pointer (some ⟨p,0,none⟩)] w fun e w'=>e=.returned (.int .i64 c)∧Next w0 w w' p F x':=by
 unfold FD.sync at hc
 cases hd:x.down
 ·rw [hd] at hc
  simp only [Bool.false_eq_true,if_false] at hc
  cases hb:x.burns
  ·rw [hb] at hc
   simp only [Bool.false_eq_true,if_false,Prod.mk.injEq] at hc
   obtain ⟨rfl,rfl⟩:=hc
   refine (sync_up w0.heap.size p F x w h.1 hd h.2.2.2 h.2.2.1 hb).mono ?_
   rintro e w' ⟨rfl,hm⟩
   have hr:=h.2.2.2
   rw [hd] at hm
   exact ⟨rfl,h.next hm ⟨by have:=h.2.2.1.1; simp only; omega,h.2.2.1.2⟩ (by unfold Room at *; simp; omega)⟩
  ·rw [hb] at hc
   simp only [if_true,Prod.mk.injEq] at hc
   obtain ⟨rfl,rfl⟩:=hc
   refine (sync_crash w0.heap.size p F x w h.1 hd h.2.2.2 h.2.2.1 hb).mono ?_
   rintro e w' ⟨rfl,hm⟩
   exact ⟨rfl,h.next hm h.2.2.1.burn h.2.2.2.burn⟩
 ·rw [hd] at hc
  simp only [if_true,Prod.mk.injEq] at hc
  obtain ⟨rfl,rfl⟩:=hc
  refine (sync_down w0.heap.size p F x w h.1 hd).mono ?_
  rintro e w' ⟨rfl,rfl⟩
  exact ⟨rfl,Next.refl h⟩
theorem st_cut (h:St w0 w p F x) (n:Int) (hc:x.cut n=(c,x')) :
  Calls Tryz.prog 53 #[.pointer (some ⟨p,0,none⟩),.int .i64 n] w fun e w'=>e=.returned (.int .i64 c)∧Next w0 w w' p F x':=by
 unfold FD.cut at hc
 cases hd:x.down
 ·rw [hd] at hc
  simp only [Bool.false_eq_true,if_false] at hc
  by_cases hn:n < 0
  ·rw [if_pos (.inl hn)] at hc
   simp only [Prod.mk.injEq] at hc
   obtain ⟨rfl,rfl⟩:=hc
   refine (cut_neg w0.heap.size p F x n w h.1 hd hn).mono ?_
   rintro e w' ⟨rfl,rfl⟩
   exact ⟨rfl,Next.drewN h 1⟩
  by_cases hf:(x.safe.length:Int)+x.loose.length < n
  ·rw [if_pos (.inr hf)] at hc
   simp only [Prod.mk.injEq] at hc
   obtain ⟨rfl,rfl⟩:=hc
   refine (cut_far w0.heap.size p F x n w h.1 hd h.2.2.2 hn hf).mono ?_
   rintro e w' ⟨rfl,rfl⟩
   exact ⟨rfl,Next.drewN h 1⟩
  rw [if_neg (by omega)] at hc
  obtain ⟨m,rfl⟩:∃ m:Nat,n=m:=⟨n.toNat,by omega⟩
  cases hb:x.burns
  ·rw [hb] at hc
   simp only [Bool.false_eq_true,if_false,Prod.mk.injEq] at hc
   obtain ⟨rfl,rfl⟩:=hc
   refine (cut_up w0.heap.size p F x m w h.1 hd h.2.2.2 h.2.2.1 (by omega) hb).mono ?_
   rintro e w' ⟨rfl,hm⟩
   have hr:=h.2.2.2
   rw [hd] at hm
   exact ⟨rfl,h.next hm ⟨by have:=h.2.2.1.1; simp only; omega,h.2.2.1.2⟩ (by unfold Room at *; simp; omega)⟩
  ·rw [hb] at hc
   simp only [if_true,Prod.mk.injEq] at hc
   obtain ⟨rfl,rfl⟩:=hc
   refine (cut_crash w0.heap.size p F x m w h.1 hd h.2.2.2 h.2.2.1 (by omega) hb).mono ?_
   rintro e w' ⟨rfl,hm⟩
   exact ⟨rfl,h.next hm h.2.2.1.burn h.2.2.2.burn⟩
 ·rw [hd] at hc
  simp only [if_true,Prod.mk.injEq] at hc
  obtain ⟨rfl,rfl⟩:=hc
  refine (cut_down w0.heap.size p F x n w h.1 hd).mono ?_
  rintro e w' ⟨rfl,rfl⟩
  exact ⟨rfl,Next.refl h⟩
theorem st_arm (h:St w0 w p F x) (o k:Int) (hc:x.arm o k=(c,x')) :
  Calls Tryz.prog 26 #[.pointer (some ⟨p,0,none⟩),.int .i64 o,.int .i64 k] w fun e w'=>e=.returned (.int .i64 c)∧Next w0 w w' p F x':=by
 unfold FD.arm at hc
 by_cases hb:o < 1∨65536 < o∨k < 0∨2 < k
 ·rw [if_pos hb] at hc
  simp only [Prod.mk.injEq] at hc
  obtain ⟨rfl,rfl⟩:=hc
  refine (arm_bad w0.heap.size p F x o k w hb).mono ?_
  rintro e w' ⟨rfl,rfl⟩
  exact ⟨rfl,Next.refl h⟩
 ·rw [if_neg hb] at hc
  obtain ⟨o',rfl⟩:∃ m:Nat,o=m:=⟨o.toNat,by omega⟩
  obtain ⟨k',rfl⟩:∃ m:Nat,k=m:=⟨k.toNat,by omega⟩
  simp only [Prod.mk.injEq,Int.toNat_natCast] at hc
  obtain ⟨rfl,rfl⟩:=hc
  refine (arm_ok w0.heap.size p F x o' k' w h.1 (by omega) (by omega) (by omega)).mono ?_
  rintro e w' ⟨rfl,hm⟩
  exact ⟨rfl,h.next hm ⟨by simp only; omega,by simp only; omega⟩ h.2.2.2⟩
theorem st_restart (h:St w0 w p F x) (hc:x.restart=x') :
  Calls Tryz.prog 27 #[.pointer (some ⟨p,0,none⟩)] w fun e w'=>e=.returned (.tuple #[])∧Next w0 w w' p F x':=by
 subst hc
 refine (restart_any w0.heap.size p F x w h.1).mono ?_
 rintro e w' ⟨rfl,hm⟩
 refine ⟨rfl,h.next hm ⟨Nat.zero_le _,h.2.2.1.2⟩ ?_⟩
 have:=h.2.2.2
 unfold Room FD.restart at *
 cases x.down <;> simp <;> omega
theorem st_read (h:St w0 w p F x) {s:List UInt8} (hc:x.read=(s,c)) :
  Calls Tryz.prog 51 #[.pointer (some ⟨p,0,none⟩)] w fun e w'=>e=.returned (.tuple #[.string ⟨s.toArray⟩,.int .i64 c])∧Next w0 w w' p F x:=by
 unfold FD.read at hc
 cases hd:x.down
 ·rw [hd] at hc
  simp only [Bool.false_eq_true,if_false,Prod.mk.injEq] at hc
  obtain ⟨rfl,rfl⟩:=hc
  refine (read_up w0.heap.size p F x w h.1 hd h.2.2.2).mono ?_
  rintro e w' ⟨rfl,n,rfl⟩
  exact ⟨rfl,Next.drewN h n⟩
 ·rw [hd] at hc
  simp only [if_true,Prod.mk.injEq] at hc
  obtain ⟨rfl,rfl⟩:=hc
  refine (read_down w0.heap.size p F x w h.1 hd).mono ?_
  rintro e w' ⟨rfl,n,rfl⟩
  exact ⟨rfl,Next.drewN h n⟩
theorem st_new (hb:Below w0.heap.size w0 w) :
  Calls Tryz.prog 33 #[] w fun e w'=>e=.returned (.pointer (some ⟨w.heap.size,0,none⟩))∧St w0 w' w.heap.size (fun k=>k=w.heap.size) FD.new∧Kept w w' (fun _=>False):=by
 refine (new_any w0.heap.size w hb.size).mono ?_
 rintro e w' ⟨rfl,hf,hk⟩
 exact ⟨rfl,⟨hf,hb.trans (hk.below (fun k h=>h.elim) hb.size),by unfold Good FD.new; simp,by unfold Room FD.new; simp⟩,hk⟩
end
theorem cut_eq_ok {x:FD} {n:Int} (hd:x.down=false) (h:¬ (n < 0∨(x.safe.length:Int)+x.loose.length < n)) (hb:x.burns=false):x.cut n=(0,⟨(x.safe ++ x.loose).take n.toNat,[],x.fuse - 1,x.keep,x.down⟩):=by
 simp only [FD.cut,hd,hb,Bool.false_eq_true,if_false]
 rw [if_neg h]
end Go.Proofs.YtogkkfdkeefjnaaGreatDoor.Disk
namespace Go.Proofs.YtogkkfdkeefjnaaGreatDoor.Codec
open Go.RowKit Go.Proofs.YtogkkfdkeefjnaaGreatDoorBase Go.Proofs.YtogkkfdkeefjnaaGreatDoorLex2 Go.Proofs.YtogkkfdkeefjnaaGreatDoorNum
set_option linter.unusedVariables false
set_option maxRecDepth 100000
set_option linter.unusedSimpArgs false
theorem infoByte:(Tryz.prog.info? 5).map (fun i=>(i.zero,i.size,i.bytes))=some (some (.int .u8 0),1,1):=by kernel_rfl
theorem elemByte:Elem Tryz.prog 130 5 (.int .u8 0) 1 1:=⟨by kernel_rfl,by obtain ⟨i,h1,h2,h3,h4⟩:=info_parts infoByte; exact ⟨i,h1,h2,h3,h4⟩,rfl,by decide,by decide⟩
theorem underStr:Tryz.prog.underlying 9=some .string:=by kernel_rfl
theorem underU8:Tryz.prog.underlying 5=some (.int .u8):=by kernel_rfl
/-- A writer: what is written, and the first error. -/
structure WS where
 out:List UInt8
 err:Int
def WS.fail (s:WS) (e:Int):WS:=if s.err=0 then { s with err:=e } else s
def WriterAt (base:Nat) (w:World) (p:Nat) (F:Nat→Prop) (s:WS):Prop :=
 ∃ sv,w.heap[p]?=some (.cells #[sv,.int .i64 s.err] 190 (0,0))∧base≤p∧base≤w.heap.size∧w.ownsRow base 5 1 sv s.out.length (bc s.out)∧(∀ k,F k ↔ k=p∨sv.ownBlock=some k)
def WMoved (base:Nat) (w w':World) (p:Nat) (F:Nat→Prop) (s':WS):Prop :=
 ∃ F',WriterAt base w' p F' s'∧(∀ k,F' k→F k∨w.heap.size≤k)∧Kept w w' F
section
variable {base p : Nat} {w w' w1 w2 : World} {F F1 : Nat → Prop} {s s2 : WS}
theorem WriterAt.base_le (h:WriterAt base w p F s):∀ k,F k→base≤k:=by
 obtain ⟨sv,hb,hp,hbs,hs,hF⟩:=h
 intro k hk
 rcases (hF k).1 hk with rfl | h
 ·exact hp
 ·exact (hs.lt k h).1
theorem WMoved.trans (hF:∀ k,F1 k→F k∨w.heap.size≤k) (hk:Kept w w1 F) (h2:WMoved base w1 w2 p F1 s2):WMoved base w w2 p F s2:=by
 obtain ⟨F2,f2,b2,k2⟩:=h2
 exact ⟨F2,f2,fun k hk2=>(b2 k hk2).elim (hF k) (fun h=>.inr (Nat.le_trans hk.size h)),hk.trans k2 hF⟩
theorem WMoved.refl (h:WriterAt base w p F s):WMoved base w w p F s:=⟨F,h,fun k hk=>.inl hk,Kept.refl _ _⟩
end
theorem wfail_any (base p:Nat) (F:Nat→Prop) (s:WS) (e:Int) (w:World) (h:WriterAt base w p F s) :
  Calls Tryz.prog 164 #[.pointer (some ⟨p,0,none⟩),.int .i64 e] w fun r w'=>r=.returned (.tuple #[])∧WMoved base w w' p F (s.fail e):=by
 have HW:=lh h
 obtain ⟨sv,hb,hp,hbs,hs,hF⟩:=h
 have c1:=cellOf (j:=1) hb
 simp at c1
 have f1:=freeOf (j:=1) hb
 have hsp:=own_ne hs hb (by decide)
 have HB:=lh hb
 have HF:=lh hF
 clear hb hF
 by_cases h0:s.err=0
 ·rw [h0] at c1
  have H0:=lh h0
  clear h0
  go_enter Tryz.func164,Tryz.ntmps164
  go_wp2
  go_end0
  refine ⟨rfl,F,⟨sv,?_,hp,by simpa [World.setCell] using hbs,?_,HF.out⟩,fun k hk=>.inl hk,(Kept.refl _ _).setCell (.inl ((HF.out p).2 (.inl rfl))) _⟩
  ·have:=blk_set HB.out 1 (.int .i64 e)
   simpa [WS.fail,H0.out] using this
  ·have:(s.fail e).out=s.out:=by unfold WS.fail; split <;> rfl
   rw [this]
   exact own_far hs hsp _
 ·have h0':(s.err == 0)=false:=by simpa using h0
  have H0:=lh h0
  clear h0
  go_enter Tryz.func164,Tryz.ntmps164
  go_wp2
  go_end0
  have:s.fail e=s:=by unfold WS.fail; rw [if_neg H0.out]
  rw [this]
  exact ⟨rfl,WMoved.refl HW.out⟩
theorem size_any (n:Nat) (hn:n < 9223372036854775808) (w:World) :
  Calls Tryz.prog 299 #[.int .i64 n] w fun r w'=>r=.returned (.int .i64 (cls n))∧w'=w:=by
 have hb:=bitLen_cls n (by omega)
 have h2:(n:Int)≤18446744073709551615:=by omega
 have hw:IntKind.u64.wrap (n:Int)=(n:Int):=by rw [IntKind.wrap_u64]; omega
 obtain ⟨b,hbb⟩:∃ b,Lib.bitLen n=b:=⟨_,rfl⟩
 rw [hbb] at hb
 have HBB:=lh hbb
 have HB:=lh hb
 clear hb hbb hn
 by_cases h6:b≤6
 ·have e:cls n=0:=by have:=HB.out; rw [if_pos h6] at this; exact this.symm
  rw [e]
  have HE:=lh e
  clear e
  have q:(b:Int)≤6:=by omega
  go_enter Tryz.func299,Tryz.ntmps299
  go_wp2_with (go_at_call 366; refine (Tryz.bits_Len _ _ (by omega) (by omega)).mono ?_; simp only [Int.toNat_natCast]; rw [HBB.out]; rintro e w' ⟨rfl,rfl⟩)
  go_ret
  exact ⟨rfl,rfl⟩
 have q6:¬ (b:Int)≤6:=by omega
 by_cases h14:b≤14
 ·have e:cls n=1:=by have:=HB.out; rw [if_neg h6,if_pos h14] at this; exact this.symm
  rw [e]
  clear e
  have q:(b:Int)≤14:=by omega
  go_enter Tryz.func299,Tryz.ntmps299
  go_wp2_with (go_at_call 366; refine (Tryz.bits_Len _ _ (by omega) (by omega)).mono ?_; simp only [Int.toNat_natCast]; rw [HBB.out]; rintro e w' ⟨rfl,rfl⟩)
  go_ret
  exact ⟨rfl,rfl⟩
 have q14:¬ (b:Int)≤14:=by omega
 by_cases h30:b≤30
 ·have e:cls n=2:=by have:=HB.out; rw [if_neg h6,if_neg h14,if_pos h30] at this; exact this.symm
  rw [e]
  clear e
  have q:(b:Int)≤30:=by omega
  go_enter Tryz.func299,Tryz.ntmps299
  go_wp2_with (go_at_call 366; refine (Tryz.bits_Len _ _ (by omega) (by omega)).mono ?_; simp only [Int.toNat_natCast]; rw [HBB.out]; rintro e w' ⟨rfl,rfl⟩)
  go_ret
  exact ⟨rfl,rfl⟩
 have q30:¬ (b:Int)≤30:=by omega
 have e:cls n=3:=by have:=HB.out; rw [if_neg h6,if_neg h14,if_neg h30] at this; exact this.symm
 rw [e]
 clear e
 go_enter Tryz.func299,Tryz.ntmps299
 go_wp2_with (go_at_call 366; refine (Tryz.bits_Len _ _ (by omega) (by omega)).mono ?_; simp only [Int.toNat_natCast]; rw [HBB.out]; rintro e w' ⟨rfl,rfl⟩)
 go_ret
 exact ⟨rfl,rfl⟩
end Go.Proofs.YtogkkfdkeefjnaaGreatDoor.Codec
