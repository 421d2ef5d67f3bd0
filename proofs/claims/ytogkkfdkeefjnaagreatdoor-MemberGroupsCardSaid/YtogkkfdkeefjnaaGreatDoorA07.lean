/-
  The package codec's numbers read, walked. The package codec: counts, bounds; what a codec's two functions are to do (contracts of function values).
-/
import Derived.Test.YtogkkfdkeefjnaaGreatDoorA06
import Derived.Laws.EntriesVeiled
import Derived.Shelf.Abstract
namespace Go.Proofs.YtogkkfdkeefjnaaGreatDoor.Codec
open Go.RowKit Go.Proofs.YtogkkfdkeefjnaaGreatDoorBase Go.Proofs.YtogkkfdkeefjnaaGreatDoorLex2 Go.Proofs.YtogkkfdkeefjnaaGreatDoorNum
set_option linter.unusedVariables false
set_option maxRecDepth 100000
set_option linter.unusedSimpArgs false
theorem get_nb (d:ByteArray):∀ (n:Nat) (h:n < d.size),(d[n]'h).toNat=nb d.data.toList n:=by
 intro n h
 unfold nb
 rw [List.getD_eq_getElem?_getD,List.getElem?_eq_getElem (by rw [len_data]; exact h)]
 simp
 rfl
theorem getN_err (p:Nat) (d:ByteArray) (s:RS) (w:World) (h:ReaderAt w p d s) (hd:DSize d) (h0:s.err≠0) :
  Calls Tryz.prog 183 #[.pointer (some ⟨p,0,none⟩)] w fun r w'=>r=.returned (.int .i64 (getN s).1)∧RMoved w w' p d (getN s).2:=by
 have HW:=lh h
 obtain ⟨a,hb,ha,hr⟩:=h
 have c0:=cellOf (j:=0) hb
 have c1:=cellOf (j:=1) hb
 have c2:=cellOf (j:=2) hb
 simp at c0 c1 c2
 have h0':(s.err == 0)=false:=by simpa using h0
 have h0'':decide (s.err=0)=false:=by simpa using h0
 have e1:getN s=(0,s):=by unfold getN; rw [if_pos h0]
 rw [e1]
 clear hb hr e1
 go_enter Tryz.func183,Tryz.ntmps183
 go_wp2
 go_quiet (fail)
 go_wp2
 go_ret
 exact ⟨rfl,HW.out,(Kept.refl w _).drewN _⟩
theorem getN_end (p:Nat) (d:ByteArray) (s:RS) (w:World) (h:ReaderAt w p d s) (hd:DSize d) (h0:s.err=0) (h1:s.rest=[]) :
  Calls Tryz.prog 183 #[.pointer (some ⟨p,0,none⟩)] w fun r w'=>r=.returned (.int .i64 (getN s).1)∧RMoved w w' p d (getN s).2:=by
 have HW:=lh h
 obtain ⟨a,hb,ha,hr⟩:=h
 have c0:=cellOf (j:=0) hb
 have c1:=cellOf (j:=1) hb
 have c2:=cellOf (j:=2) hb
 simp at c0 c1 c2
 rw [h0] at c2
 have hl:a=d.size:=by
  have:=congrArg List.length hr
  rw [h1,List.length_drop,len_data] at this
  simp at this
  omega
 have e1:getN s=(0,s.fail 20):=by unfold getN; rw [if_neg (by simp [h0]),if_pos h1]
 have e2:(s.fail 20).err=20:=by simp [RS.fail,h0]
 have HE:=lh e2
 rw [e1]
 subst hl
 clear hb hr e1 e2 h1
 go_enter Tryz.func183,Tryz.ntmps183
 go_wp2
 go_quiet (fail)
 go_wp2_with (fail)
 refine (rfail_any p d s 20 _ (HW.out.drewN _)).mono ?_
 rintro e w1 ⟨rfl,hm⟩
 have HM:=lh hm
 obtain ⟨⟨a',hb',_,_⟩,_⟩:=hm
 have k2:=cellOf (j:=2) hb'
 simp at k2
 rw [HE.out] at k2
 clear hb'
 go_wp2
 go_ret
 exact ⟨rfl,HM.out.1,HM.out.2.pre_drewN⟩
theorem nb_drop (l:List UInt8) (a i:Nat):nb (l.drop a) i=nb l (a+i):=by
 unfold nb; simp [List.getD_eq_getElem?_getD]
theorem nb_take (l:List UInt8) (a i:Nat) (h:i < a):nb (l.take a) i=nb l i:=by
 unfold nb; simp [List.getD_eq_getElem?_getD,h]
theorem bits_and_u8_nat (a b:Nat) (ha:a < 256) (hb:b < 256):bits .and .u8 (a:Int) (b:Int)=((a &&& b:Nat):Int):=by
 have hx:a &&& b < 2 ^ 8:=Nat.and_lt_two_pow _ (by omega)
 have h1:(BitVec.ofInt 8 (a:Int)).toNat=a:=by
  rw [BitVec.ofInt_natCast,BitVec.toNat_ofNat]; exact Nat.mod_eq_of_lt (by omega)
 have h2:(BitVec.ofInt 8 (b:Int)).toNat=b:=by
  rw [BitVec.ofInt_natCast,BitVec.toNat_ofNat]; exact Nat.mod_eq_of_lt (by omega)
 show IntKind.u8.wrap ((BitVec.ofInt 8 (a:Int) &&& BitVec.ofInt 8 (b:Int)).toNat:Int)=_
 rw [BitVec.toNat_and,h1,h2,IntKind.wrap_u8]
 omega
theorem i64_x {x:Nat} (h:x < 4611686018427387904):IntKind.i64.wrap (x:Int)=(x:Int):=IntWalk.i64_in _ (by omega)
theorem wrap64_x {x:Nat} (h:x < 4611686018427387904):wrap64 (x:Int)=(x:Int):=by unfold wrap64; omega
theorem size_x {x:Nat} (h:x < 4611686018427387904) (w:World):Calls Tryz.prog 299 #[.int .i64 x] w fun r w'=>r=.returned (.int .i64 (cls x))∧w'=w:=size_any x (by omega) w
theorem acc_mono (l:List UInt8):∀ {i j:Nat},i≤j→acc l i≤acc l j
 | i,0,h=>by rw [Nat.le_zero.1 h]; exact Nat.le_refl _
 | i,j+1,h=>by
  rcases Nat.lt_or_ge i (j+1) with h1 | h1
  ·have:=acc_mono l (i:=i) (j:=j) (by omega)
   simp only [acc]; omega
  ·rw [show i=j+1 by omega]; exact Nat.le_refl _
theorem getN_short0 (p:Nat) (d:ByteArray) (s:RS) (w:World) (h:ReaderAt w p d s) (hd:DSize d) (h0:s.err=0) (h1:s.rest≠[]) (hk:nb s.rest 0 / 64=0) (hl:s.rest.length < 1) :
  Calls Tryz.prog 183 #[.pointer (some ⟨p,0,none⟩)] w fun r w'=>r=.returned (.int .i64 (getN s).1)∧RMoved w w' p d (getN s).2:=by
 have HW:=lh h
 obtain ⟨a,hb,ha,hr⟩:=h
 have c0:=cellOf (j:=0) hb
 have c1:=cellOf (j:=1) hb
 have c2:=cellOf (j:=2) hb
 simp at c0 c1 c2
 rw [h0] at c2
 have hlt:a < d.size:=by
  have:s.rest.length≠0:=by simpa using h1
  rw [hr,List.length_drop,len_data] at this
  omega
 have q1:(0:Int)≤a:=by omega
 have q2:(a:Int) < d.size:=by omega
 have q3:((a:Int) == d.size)=false:=by simp; omega
 have q5:decide ((a:Int)=d.size)=false:=by simp; omega
 have q4:=get_nb d
 have qk:((nb d.data.toList a:Nat):Int) / 64=0:=by
  rw [hr,nb_drop] at hk
  simp at hk
  omega
 have et:takeN 1 s=([],s.fail 20):=by unfold takeN; rw [if_neg (by simp [h0]),if_pos hl]
 have e1:getN s=(0,s.fail 20):=by unfold getN; rw [if_neg (by simp [h0]),if_neg h1,hk,if_pos hl]
 have e2:(s.fail 20).err=20:=by simp [RS.fail,h0]
 rw [e1]
 have HT:=lh et
 have HE:=lh e2
 have HD:=lh hd
 clear et e2 e1 hb hr hk hl h1 hd
 go_enter Tryz.func183,Tryz.ntmps183
 go_wp2
 go_quiet (fail)
 go_wp2
 go_quiet (fail)
 go_wp2_with (fail)
 refine (take_any p d s 1 _ (HW.out.drewN _) HD.out (by decide)).mono ?_
 rw [HT.out]
 rintro e w1 ⟨rfl,hm⟩
 have HM:=lh hm
 obtain ⟨⟨a',hb',_,_⟩,_⟩:=hm
 have k2:=cellOf (j:=2) hb'
 simp at k2
 rw [HE.out] at k2
 clear hb'
 go_wp2
 go_ret
 exact ⟨rfl,HM.out.1,HM.out.2.pre_drewN⟩
set_option maxHeartbeats 1600000 in
theorem getN_long0 (p:Nat) (d:ByteArray) (s:RS) (w:World) (h:ReaderAt w p d s) (hd:DSize d) (h0:s.err=0) (h1:s.rest≠[]) (hk:nb s.rest 0 / 64=0) (hl:¬ s.rest.length < 1) :
  Calls Tryz.prog 183 #[.pointer (some ⟨p,0,none⟩)] w fun r w'=>r=.returned (.int .i64 (getN s).1)∧RMoved w w' p d (getN s).2:=by
 have HW:=lh h
 obtain ⟨a,hb,ha,hr⟩:=h
 have c0:=cellOf (j:=0) hb
 have c1:=cellOf (j:=1) hb
 have c2:=cellOf (j:=2) hb
 simp at c0 c1 c2
 rw [h0] at c2
 have hlt:a < d.size:=by
  have:s.rest.length≠0:=by simpa using h1
  rw [hr,List.length_drop,len_data] at this
  omega
 have q1:(0:Int)≤a:=by omega
 have q2:(a:Int) < d.size:=by omega
 have q3:((a:Int) == d.size)=false:=by simp; omega
 have q5:decide ((a:Int)=d.size)=false:=by simp; omega
 have q4:=get_nb d
 have qk:((nb d.data.toList a:Nat):Int) / 64=0:=by
  rw [hr,nb_drop] at hk
  simp at hk
  omega
 have et:takeN 1 s=(s.rest.take 1,⟨s.rest.drop 1,0⟩):=by unfold takeN; rw [if_neg (by simp [h0]),if_neg hl,h0]
 obtain ⟨t,ht⟩:∃ t:ByteArray,⟨(s.rest.take 1).toArray⟩=t:=⟨_,rfl⟩
 have hts:t.size=1:=by rw [← ht,size_mk,List.length_take]; omega
 have htn:∀ (n:Nat) (h:n < t.size),(t[n]'h).toNat=nb t.data.toList n:=get_nb t
 have htv:∀ i,i < 1→nb t.data.toList i=nb s.rest i:=fun i hi=>by rw [← ht,toList_mk,nb_take _ _ _ hi]
 have hb0:nb t.data.toList 0=nb s.rest 0:=htv 0 (by decide)
 obtain ⟨v0,hv0⟩:∃ v0,acc s.rest 0=v0:=⟨_,rfl⟩
 have qn:bits .and .u8 ((nb t.data.toList 0:Nat):Int) 63=(v0:Int):=by
  have h1:=nb_lt s.rest 0
  have:=bits_and_u8_nat (nb s.rest 0) 63 (by omega) (by omega)
  rw [hb0,← hv0]
  simp only [acc]
  have h2:=Nat.and_two_pow_sub_one_eq_mod (nb s.rest 0) 6
  simp at h2
  rw [← h2]
  simpa using this
 have qv:v0 < 64:=by rw [← hv0]; simp [acc]; omega
 have qw:IntKind.u64.wrap (v0:Int)=(v0:Int):=by rw [IntKind.wrap_u64]; omega
 have HV0:=lh hv0
 clear hb0 hv0
 have HT:=lh et
 have HD:=lh hd
 have HTT:=lh ht
 have HTV:=lh htv
 have HK:=lh hk
 have HL:=lh hl
 have H1:=lh h1
 have H0:=lh h0
 clear et hb hr hk hl h1 hd ht htv
 go_enter Tryz.func183,Tryz.ntmps183
 go_wp2
 go_quiet (fail)
 go_wp2
 go_quiet (fail)
 go_wp2_with (fail)
 refine (take_any p d s 1 _ (HW.out.drewN _) HD.out (by decide)).mono ?_
 rw [HT.out]
 rintro e w1 ⟨rfl,hm⟩
 rw [HTT.out]
 have HM:=lh hm
 obtain ⟨⟨a',hb',_,_⟩,_⟩:=hm
 have k2:=cellOf (j:=2) hb'
 simp at k2
 clear hb'
 go_wp2
 go_loop [5,6] (fun vv iv=>∃ i:Nat,i < 1∧iv=.int .i64 ((i+1:Nat):Int)∧vv=.int .u64 (acc s.rest i)) (fun _ iv=>(1 - intOf iv).toNat)
 case atStart=>exact ⟨0,by decide,rfl,by rw [HV0.out]⟩
 case round=>
  obtain ⟨i,hi,rfl,rfl⟩:=hrel
  have hx1:acc s.rest i≤acc s.rest (1 - 1):=acc_mono s.rest (by omega)
  have hx2:acc s.rest (1 - 1) < 64:=by have:=acc_lt s.rest (1 - 1); simpa using this
  by_cases hlast:i+1=1
  ·obtain ⟨x,hx⟩:∃ x,acc s.rest i=x:=⟨_,rfl⟩
   have hxx:acc s.rest (1 - 1)=x:=by rw [← hx]; congr 1; omega
   rw [hx]
   have hxl:x < 64:=by omega
   have q6:((i+1:Nat):Int)=1:=by omega
   rw [q6]
   have hx62:x < 4611686018427387904:=Nat.lt_of_lt_of_le hxl (by decide)
   have q7:=i64_x hx62
   have q9:=wrap64_x hx62
   have qz:=size_x hx62
   clear hx62
   have QZ:=lh qz
   have HXX:=lh hxx
   clear hxx hx1 hx2 hx qz hlast q6
   by_cases hc:cls x=0
   ·have e1:getN s=(x,⟨s.rest.drop 1,0⟩):=by
     unfold getN
     rw [if_neg (by simp [H0.out]),if_neg H1.out,HK.out,if_neg (by simpa using HL.out)]
     have:=HXX.out
     simp only [Nat.reducePow,Nat.reduceSub] at this ⊢
     rw [this,if_pos hc,H0.out]
    have HC:=lh hc
    have E1:=lh e1
    clear e1 hc
    go_wp2_with (go_at_call 299; refine (QZ.out _).mono ?_; rw [HC.out]; rintro e w' ⟨rfl,hww⟩; have HWW:=lh hww; clear hww)
    go_ret
    have e2:=HWW.out
    rw [e2,E1.out]
    exact ⟨rfl,HM.out.1,HM.out.2.pre_drewN⟩
   ·have e1:getN s=(0,RS.fail ⟨s.rest.drop 1,0⟩ 21):=by
     unfold getN
     rw [if_neg (by simp [H0.out]),if_neg H1.out,HK.out,if_neg (by simpa using HL.out)]
     have:=HXX.out
     simp only [Nat.reducePow,Nat.reduceSub] at this ⊢
     rw [this,if_neg hc,H0.out]
    have E1:=lh e1
    have q8:(((cls x:Nat):Int) == 0)=false:=by simp; omega
    have q10:decide (((cls x:Nat):Int)=0)=false:=by simp; omega
    clear e1 hc
    go_wp2_with (go_at_call 299; refine (QZ.out _).mono ?_; rintro e w' ⟨rfl,hww⟩; have HWW:=lh hww; clear hww)
    rename_i w2
    have e2:=HWW.out
    rw [e2]
    refine (rfail_any p d _ 21 _ HM.out.1).mono ?_
    rintro e w3 ⟨rfl,hm3⟩
    have HM3:=lh hm3
    clear hm3
    go_wp2
    go_ret
    rw [E1.out]
    exact ⟨rfl,HM3.out.1,HM.out.2.pre_drewN.trans HM3.out.2 fun k hk=>.inl hk⟩
  ·try (exfalso; omega)
   all_goals (
    have q6:((i+1:Nat):Int) < 1:=by omega
    have hx3:acc s.rest i * 256+nb s.rest (i+1)≤acc s.rest (1 - 1):=acc_mono s.rest (i:=i+1) (by omega)
    have q7:IntKind.u64.wrap ((acc s.rest i:Int) * 256)=(acc s.rest i:Int) * 256:=by rw [IntKind.wrap_u64]; omega
    have q8:IntKind.u64.wrap ((nb t.data.toList (i+1):Nat):Int)=((nb t.data.toList (i+1):Nat):Int):=by have:=nb_lt t.data.toList (i+1); rw [IntKind.wrap_u64]; omega
    have q9:bits .or .u64 ((acc s.rest i:Int) * 256) ((nb t.data.toList (i+1):Nat):Int)=((acc s.rest (i+1):Nat):Int):=by
     have hn:=nb_lt t.data.toList (i+1)
     have ho:=or_tag (n:=nb t.data.toList (i+1)) (i:=8) (k:=acc s.rest i) (by omega)
     have:=bits_or_u64_nat (acc s.rest i * 256) (nb t.data.toList (i+1)) (by omega) (by omega)
     rw [Nat.or_comm] at this
     simp only [Nat.reducePow] at ho
     rw [ho,HTV.out (i+1) (by omega)] at this
     rw [HTV.out (i+1) (by omega)]
     simp only [acc]
     rw [Nat.add_comm (acc s.rest i * 256)]
     simpa using this
    clear hx3 hx1 hx2
    go_wp2
    go_round
    case rel=>exact ⟨i+1,by omega,by go_num,rfl⟩
    case measure=>simp [intOf]; omega)
theorem getN_short1 (p:Nat) (d:ByteArray) (s:RS) (w:World) (h:ReaderAt w p d s) (hd:DSize d) (h0:s.err=0) (h1:s.rest≠[]) (hk:nb s.rest 0 / 64=1) (hl:s.rest.length < 2) :
  Calls Tryz.prog 183 #[.pointer (some ⟨p,0,none⟩)] w fun r w'=>r=.returned (.int .i64 (getN s).1)∧RMoved w w' p d (getN s).2:=by
 have HW:=lh h
 obtain ⟨a,hb,ha,hr⟩:=h
 have c0:=cellOf (j:=0) hb
 have c1:=cellOf (j:=1) hb
 have c2:=cellOf (j:=2) hb
 simp at c0 c1 c2
 rw [h0] at c2
 have hlt:a < d.size:=by
  have:s.rest.length≠0:=by simpa using h1
  rw [hr,List.length_drop,len_data] at this
  omega
 have q1:(0:Int)≤a:=by omega
 have q2:(a:Int) < d.size:=by omega
 have q3:((a:Int) == d.size)=false:=by simp; omega
 have q5:decide ((a:Int)=d.size)=false:=by simp; omega
 have q4:=get_nb d
 have qk:((nb d.data.toList a:Nat):Int) / 64=1:=by
  rw [hr,nb_drop] at hk
  simp at hk
  omega
 have et:takeN 2 s=([],s.fail 20):=by unfold takeN; rw [if_neg (by simp [h0]),if_pos hl]
 have e1:getN s=(0,s.fail 20):=by unfold getN; rw [if_neg (by simp [h0]),if_neg h1,hk,if_pos hl]
 have e2:(s.fail 20).err=20:=by simp [RS.fail,h0]
 rw [e1]
 have HT:=lh et
 have HE:=lh e2
 have HD:=lh hd
 clear et e2 e1 hb hr hk hl h1 hd
 go_enter Tryz.func183,Tryz.ntmps183
 go_wp2
 go_quiet (fail)
 go_wp2
 go_quiet (fail)
 go_wp2_with (fail)
 refine (take_any p d s 2 _ (HW.out.drewN _) HD.out (by decide)).mono ?_
 rw [HT.out]
 rintro e w1 ⟨rfl,hm⟩
 have HM:=lh hm
 obtain ⟨⟨a',hb',_,_⟩,_⟩:=hm
 have k2:=cellOf (j:=2) hb'
 simp at k2
 rw [HE.out] at k2
 clear hb'
 go_wp2
 go_ret
 exact ⟨rfl,HM.out.1,HM.out.2.pre_drewN⟩
set_option maxHeartbeats 1600000 in
theorem getN_long1 (p:Nat) (d:ByteArray) (s:RS) (w:World) (h:ReaderAt w p d s) (hd:DSize d) (h0:s.err=0) (h1:s.rest≠[]) (hk:nb s.rest 0 / 64=1) (hl:¬ s.rest.length < 2) :
  Calls Tryz.prog 183 #[.pointer (some ⟨p,0,none⟩)] w fun r w'=>r=.returned (.int .i64 (getN s).1)∧RMoved w w' p d (getN s).2:=by
 have HW:=lh h
 obtain ⟨a,hb,ha,hr⟩:=h
 have c0:=cellOf (j:=0) hb
 have c1:=cellOf (j:=1) hb
 have c2:=cellOf (j:=2) hb
 simp at c0 c1 c2
 rw [h0] at c2
 have hlt:a < d.size:=by
  have:s.rest.length≠0:=by simpa using h1
  rw [hr,List.length_drop,len_data] at this
  omega
 have q1:(0:Int)≤a:=by omega
 have q2:(a:Int) < d.size:=by omega
 have q3:((a:Int) == d.size)=false:=by simp; omega
 have q5:decide ((a:Int)=d.size)=false:=by simp; omega
 have q4:=get_nb d
 have qk:((nb d.data.toList a:Nat):Int) / 64=1:=by
  rw [hr,nb_drop] at hk
  simp at hk
  omega
 have et:takeN 2 s=(s.rest.take 2,⟨s.rest.drop 2,0⟩):=by unfold takeN; rw [if_neg (by simp [h0]),if_neg hl,h0]
 obtain ⟨t,ht⟩:∃ t:ByteArray,⟨(s.rest.take 2).toArray⟩=t:=⟨_,rfl⟩
 have hts:t.size=2:=by rw [← ht,size_mk,List.length_take]; omega
 have htn:∀ (n:Nat) (h:n < t.size),(t[n]'h).toNat=nb t.data.toList n:=get_nb t
 have htv:∀ i,i < 2→nb t.data.toList i=nb s.rest i:=fun i hi=>by rw [← ht,toList_mk,nb_take _ _ _ hi]
 have hb0:nb t.data.toList 0=nb s.rest 0:=htv 0 (by decide)
 obtain ⟨v0,hv0⟩:∃ v0,acc s.rest 0=v0:=⟨_,rfl⟩
 have qn:bits .and .u8 ((nb t.data.toList 0:Nat):Int) 63=(v0:Int):=by
  have h1:=nb_lt s.rest 0
  have:=bits_and_u8_nat (nb s.rest 0) 63 (by omega) (by omega)
  rw [hb0,← hv0]
  simp only [acc]
  have h2:=Nat.and_two_pow_sub_one_eq_mod (nb s.rest 0) 6
  simp at h2
  rw [← h2]
  simpa using this
 have qv:v0 < 64:=by rw [← hv0]; simp [acc]; omega
 have qw:IntKind.u64.wrap (v0:Int)=(v0:Int):=by rw [IntKind.wrap_u64]; omega
 have HV0:=lh hv0
 clear hb0 hv0
 have HT:=lh et
 have HD:=lh hd
 have HTT:=lh ht
 have HTV:=lh htv
 have HK:=lh hk
 have HL:=lh hl
 have H1:=lh h1
 have H0:=lh h0
 clear et hb hr hk hl h1 hd ht htv
 go_enter Tryz.func183,Tryz.ntmps183
 go_wp2
 go_quiet (fail)
 go_wp2
 go_quiet (fail)
 go_wp2_with (fail)
 refine (take_any p d s 2 _ (HW.out.drewN _) HD.out (by decide)).mono ?_
 rw [HT.out]
 rintro e w1 ⟨rfl,hm⟩
 rw [HTT.out]
 have HM:=lh hm
 obtain ⟨⟨a',hb',_,_⟩,_⟩:=hm
 have k2:=cellOf (j:=2) hb'
 simp at k2
 clear hb'
 go_wp2
 go_loop [5,6] (fun vv iv=>∃ i:Nat,i < 2∧iv=.int .i64 ((i+1:Nat):Int)∧vv=.int .u64 (acc s.rest i)) (fun _ iv=>(2 - intOf iv).toNat)
 case atStart=>exact ⟨0,by decide,rfl,by rw [HV0.out]⟩
 case round=>
  obtain ⟨i,hi,rfl,rfl⟩:=hrel
  have hx1:acc s.rest i≤acc s.rest (2 - 1):=acc_mono s.rest (by omega)
  have hx2:acc s.rest (2 - 1) < 16384:=by have:=acc_lt s.rest (2 - 1); simpa using this
  by_cases hlast:i+1=2
  ·obtain ⟨x,hx⟩:∃ x,acc s.rest i=x:=⟨_,rfl⟩
   have hxx:acc s.rest (2 - 1)=x:=by rw [← hx]; congr 1; omega
   rw [hx]
   have hxl:x < 16384:=by omega
   have q6:((i+1:Nat):Int)=2:=by omega
   rw [q6]
   have hx62:x < 4611686018427387904:=Nat.lt_of_lt_of_le hxl (by decide)
   have q7:=i64_x hx62
   have q9:=wrap64_x hx62
   have qz:=size_x hx62
   clear hx62
   have QZ:=lh qz
   have HXX:=lh hxx
   clear hxx hx1 hx2 hx qz hlast q6
   by_cases hc:cls x=1
   ·have e1:getN s=(x,⟨s.rest.drop 2,0⟩):=by
     unfold getN
     rw [if_neg (by simp [H0.out]),if_neg H1.out,HK.out,if_neg (by simpa using HL.out)]
     have:=HXX.out
     simp only [Nat.reducePow,Nat.reduceSub] at this ⊢
     rw [this,if_pos hc,H0.out]
    have HC:=lh hc
    have E1:=lh e1
    clear e1 hc
    go_wp2_with (go_at_call 299; refine (QZ.out _).mono ?_; rw [HC.out]; rintro e w' ⟨rfl,hww⟩; have HWW:=lh hww; clear hww)
    go_ret
    have e2:=HWW.out
    rw [e2,E1.out]
    exact ⟨rfl,HM.out.1,HM.out.2.pre_drewN⟩
   ·have e1:getN s=(0,RS.fail ⟨s.rest.drop 2,0⟩ 21):=by
     unfold getN
     rw [if_neg (by simp [H0.out]),if_neg H1.out,HK.out,if_neg (by simpa using HL.out)]
     have:=HXX.out
     simp only [Nat.reducePow,Nat.reduceSub] at this ⊢
     rw [this,if_neg hc,H0.out]
    have E1:=lh e1
    have q8:(((cls x:Nat):Int) == 1)=false:=by simp; omega
    have q10:decide (((cls x:Nat):Int)=1)=false:=by simp; omega
    clear e1 hc
    go_wp2_with (go_at_call 299; refine (QZ.out _).mono ?_; rintro e w' ⟨rfl,hww⟩; have HWW:=lh hww; clear hww)
    rename_i w2
    have e2:=HWW.out
    rw [e2]
    refine (rfail_any p d _ 21 _ HM.out.1).mono ?_
    rintro e w3 ⟨rfl,hm3⟩
    have HM3:=lh hm3
    clear hm3
    go_wp2
    go_ret
    rw [E1.out]
    exact ⟨rfl,HM3.out.1,HM.out.2.pre_drewN.trans HM3.out.2 fun k hk=>.inl hk⟩
  ·try (exfalso; omega)
   all_goals (
    have q6:((i+1:Nat):Int) < 2:=by omega
    have hx3:acc s.rest i * 256+nb s.rest (i+1)≤acc s.rest (2 - 1):=acc_mono s.rest (i:=i+1) (by omega)
    have q7:IntKind.u64.wrap ((acc s.rest i:Int) * 256)=(acc s.rest i:Int) * 256:=by rw [IntKind.wrap_u64]; omega
    have q8:IntKind.u64.wrap ((nb t.data.toList (i+1):Nat):Int)=((nb t.data.toList (i+1):Nat):Int):=by have:=nb_lt t.data.toList (i+1); rw [IntKind.wrap_u64]; omega
    have q9:bits .or .u64 ((acc s.rest i:Int) * 256) ((nb t.data.toList (i+1):Nat):Int)=((acc s.rest (i+1):Nat):Int):=by
     have hn:=nb_lt t.data.toList (i+1)
     have ho:=or_tag (n:=nb t.data.toList (i+1)) (i:=8) (k:=acc s.rest i) (by omega)
     have:=bits_or_u64_nat (acc s.rest i * 256) (nb t.data.toList (i+1)) (by omega) (by omega)
     rw [Nat.or_comm] at this
     simp only [Nat.reducePow] at ho
     rw [ho,HTV.out (i+1) (by omega)] at this
     rw [HTV.out (i+1) (by omega)]
     simp only [acc]
     rw [Nat.add_comm (acc s.rest i * 256)]
     simpa using this
    clear hx3 hx1 hx2
    go_wp2
    go_round
    case rel=>exact ⟨i+1,by omega,by go_num,rfl⟩
    case measure=>simp [intOf]; omega)
theorem getN_short2 (p:Nat) (d:ByteArray) (s:RS) (w:World) (h:ReaderAt w p d s) (hd:DSize d) (h0:s.err=0) (h1:s.rest≠[]) (hk:nb s.rest 0 / 64=2) (hl:s.rest.length < 4) :
  Calls Tryz.prog 183 #[.pointer (some ⟨p,0,none⟩)] w fun r w'=>r=.returned (.int .i64 (getN s).1)∧RMoved w w' p d (getN s).2:=by
 have HW:=lh h
 obtain ⟨a,hb,ha,hr⟩:=h
 have c0:=cellOf (j:=0) hb
 have c1:=cellOf (j:=1) hb
 have c2:=cellOf (j:=2) hb
 simp at c0 c1 c2
 rw [h0] at c2
 have hlt:a < d.size:=by
  have:s.rest.length≠0:=by simpa using h1
  rw [hr,List.length_drop,len_data] at this
  omega
 have q1:(0:Int)≤a:=by omega
 have q2:(a:Int) < d.size:=by omega
 have q3:((a:Int) == d.size)=false:=by simp; omega
 have q5:decide ((a:Int)=d.size)=false:=by simp; omega
 have q4:=get_nb d
 have qk:((nb d.data.toList a:Nat):Int) / 64=2:=by
  rw [hr,nb_drop] at hk
  simp at hk
  omega
 have et:takeN 4 s=([],s.fail 20):=by unfold takeN; rw [if_neg (by simp [h0]),if_pos hl]
 have e1:getN s=(0,s.fail 20):=by unfold getN; rw [if_neg (by simp [h0]),if_neg h1,hk,if_pos hl]
 have e2:(s.fail 20).err=20:=by simp [RS.fail,h0]
 rw [e1]
 have HT:=lh et
 have HE:=lh e2
 have HD:=lh hd
 clear et e2 e1 hb hr hk hl h1 hd
 go_enter Tryz.func183,Tryz.ntmps183
 go_wp2
 go_quiet (fail)
 go_wp2
 go_quiet (fail)
 go_wp2_with (fail)
 refine (take_any p d s 4 _ (HW.out.drewN _) HD.out (by decide)).mono ?_
 rw [HT.out]
 rintro e w1 ⟨rfl,hm⟩
 have HM:=lh hm
 obtain ⟨⟨a',hb',_,_⟩,_⟩:=hm
 have k2:=cellOf (j:=2) hb'
 simp at k2
 rw [HE.out] at k2
 clear hb'
 go_wp2
 go_ret
 exact ⟨rfl,HM.out.1,HM.out.2.pre_drewN⟩
set_option maxHeartbeats 1600000 in
theorem getN_long2 (p:Nat) (d:ByteArray) (s:RS) (w:World) (h:ReaderAt w p d s) (hd:DSize d) (h0:s.err=0) (h1:s.rest≠[]) (hk:nb s.rest 0 / 64=2) (hl:¬ s.rest.length < 4) :
  Calls Tryz.prog 183 #[.pointer (some ⟨p,0,none⟩)] w fun r w'=>r=.returned (.int .i64 (getN s).1)∧RMoved w w' p d (getN s).2:=by
 have HW:=lh h
 obtain ⟨a,hb,ha,hr⟩:=h
 have c0:=cellOf (j:=0) hb
 have c1:=cellOf (j:=1) hb
 have c2:=cellOf (j:=2) hb
 simp at c0 c1 c2
 rw [h0] at c2
 have hlt:a < d.size:=by
  have:s.rest.length≠0:=by simpa using h1
  rw [hr,List.length_drop,len_data] at this
  omega
 have q1:(0:Int)≤a:=by omega
 have q2:(a:Int) < d.size:=by omega
 have q3:((a:Int) == d.size)=false:=by simp; omega
 have q5:decide ((a:Int)=d.size)=false:=by simp; omega
 have q4:=get_nb d
 have qk:((nb d.data.toList a:Nat):Int) / 64=2:=by
  rw [hr,nb_drop] at hk
  simp at hk
  omega
 have et:takeN 4 s=(s.rest.take 4,⟨s.rest.drop 4,0⟩):=by unfold takeN; rw [if_neg (by simp [h0]),if_neg hl,h0]
 obtain ⟨t,ht⟩:∃ t:ByteArray,⟨(s.rest.take 4).toArray⟩=t:=⟨_,rfl⟩
 have hts:t.size=4:=by rw [← ht,size_mk,List.length_take]; omega
 have htn:∀ (n:Nat) (h:n < t.size),(t[n]'h).toNat=nb t.data.toList n:=get_nb t
 have htv:∀ i,i < 4→nb t.data.toList i=nb s.rest i:=fun i hi=>by rw [← ht,toList_mk,nb_take _ _ _ hi]
 have hb0:nb t.data.toList 0=nb s.rest 0:=htv 0 (by decide)
 obtain ⟨v0,hv0⟩:∃ v0,acc s.rest 0=v0:=⟨_,rfl⟩
 have qn:bits .and .u8 ((nb t.data.toList 0:Nat):Int) 63=(v0:Int):=by
  have h1:=nb_lt s.rest 0
  have:=bits_and_u8_nat (nb s.rest 0) 63 (by omega) (by omega)
  rw [hb0,← hv0]
  simp only [acc]
  have h2:=Nat.and_two_pow_sub_one_eq_mod (nb s.rest 0) 6
  simp at h2
  rw [← h2]
  simpa using this
 have qv:v0 < 64:=by rw [← hv0]; simp [acc]; omega
 have qw:IntKind.u64.wrap (v0:Int)=(v0:Int):=by rw [IntKind.wrap_u64]; omega
 have HV0:=lh hv0
 clear hb0 hv0
 have HT:=lh et
 have HD:=lh hd
 have HTT:=lh ht
 have HTV:=lh htv
 have HK:=lh hk
 have HL:=lh hl
 have H1:=lh h1
 have H0:=lh h0
 clear et hb hr hk hl h1 hd ht htv
 go_enter Tryz.func183,Tryz.ntmps183
 go_wp2
 go_quiet (fail)
 go_wp2
 go_quiet (fail)
 go_wp2_with (fail)
 refine (take_any p d s 4 _ (HW.out.drewN _) HD.out (by decide)).mono ?_
 rw [HT.out]
 rintro e w1 ⟨rfl,hm⟩
 rw [HTT.out]
 have HM:=lh hm
 obtain ⟨⟨a',hb',_,_⟩,_⟩:=hm
 have k2:=cellOf (j:=2) hb'
 simp at k2
 clear hb'
 go_wp2
 go_loop [5,6] (fun vv iv=>∃ i:Nat,i < 4∧iv=.int .i64 ((i+1:Nat):Int)∧vv=.int .u64 (acc s.rest i)) (fun _ iv=>(4 - intOf iv).toNat)
 case atStart=>exact ⟨0,by decide,rfl,by rw [HV0.out]⟩
 case round=>
  obtain ⟨i,hi,rfl,rfl⟩:=hrel
  have hx1:acc s.rest i≤acc s.rest (4 - 1):=acc_mono s.rest (by omega)
  have hx2:acc s.rest (4 - 1) < 1073741824:=by have:=acc_lt s.rest (4 - 1); simpa using this
  by_cases hlast:i+1=4
  ·obtain ⟨x,hx⟩:∃ x,acc s.rest i=x:=⟨_,rfl⟩
   have hxx:acc s.rest (4 - 1)=x:=by rw [← hx]; congr 1; omega
   rw [hx]
   have hxl:x < 1073741824:=by omega
   have q6:((i+1:Nat):Int)=4:=by omega
   rw [q6]
   have hx62:x < 4611686018427387904:=Nat.lt_of_lt_of_le hxl (by decide)
   have q7:=i64_x hx62
   have q9:=wrap64_x hx62
   have qz:=size_x hx62
   clear hx62
   have QZ:=lh qz
   have HXX:=lh hxx
   clear hxx hx1 hx2 hx qz hlast q6
   by_cases hc:cls x=2
   ·have e1:getN s=(x,⟨s.rest.drop 4,0⟩):=by
     unfold getN
     rw [if_neg (by simp [H0.out]),if_neg H1.out,HK.out,if_neg (by simpa using HL.out)]
     have:=HXX.out
     simp only [Nat.reducePow,Nat.reduceSub] at this ⊢
     rw [this,if_pos hc,H0.out]
    have HC:=lh hc
    have E1:=lh e1
    clear e1 hc
    go_wp2_with (go_at_call 299; refine (QZ.out _).mono ?_; rw [HC.out]; rintro e w' ⟨rfl,hww⟩; have HWW:=lh hww; clear hww)
    go_ret
    have e2:=HWW.out
    rw [e2,E1.out]
    exact ⟨rfl,HM.out.1,HM.out.2.pre_drewN⟩
   ·have e1:getN s=(0,RS.fail ⟨s.rest.drop 4,0⟩ 21):=by
     unfold getN
     rw [if_neg (by simp [H0.out]),if_neg H1.out,HK.out,if_neg (by simpa using HL.out)]
     have:=HXX.out
     simp only [Nat.reducePow,Nat.reduceSub] at this ⊢
     rw [this,if_neg hc,H0.out]
    have E1:=lh e1
    have q8:(((cls x:Nat):Int) == 2)=false:=by simp; omega
    have q10:decide (((cls x:Nat):Int)=2)=false:=by simp; omega
    clear e1 hc
    go_wp2_with (go_at_call 299; refine (QZ.out _).mono ?_; rintro e w' ⟨rfl,hww⟩; have HWW:=lh hww; clear hww)
    rename_i w2
    have e2:=HWW.out
    rw [e2]
    refine (rfail_any p d _ 21 _ HM.out.1).mono ?_
    rintro e w3 ⟨rfl,hm3⟩
    have HM3:=lh hm3
    clear hm3
    go_wp2
    go_ret
    rw [E1.out]
    exact ⟨rfl,HM3.out.1,HM.out.2.pre_drewN.trans HM3.out.2 fun k hk=>.inl hk⟩
  ·try (exfalso; omega)
   all_goals (
    have q6:((i+1:Nat):Int) < 4:=by omega
    have hx3:acc s.rest i * 256+nb s.rest (i+1)≤acc s.rest (4 - 1):=acc_mono s.rest (i:=i+1) (by omega)
    have q7:IntKind.u64.wrap ((acc s.rest i:Int) * 256)=(acc s.rest i:Int) * 256:=by rw [IntKind.wrap_u64]; omega
    have q8:IntKind.u64.wrap ((nb t.data.toList (i+1):Nat):Int)=((nb t.data.toList (i+1):Nat):Int):=by have:=nb_lt t.data.toList (i+1); rw [IntKind.wrap_u64]; omega
    have q9:bits .or .u64 ((acc s.rest i:Int) * 256) ((nb t.data.toList (i+1):Nat):Int)=((acc s.rest (i+1):Nat):Int):=by
     have hn:=nb_lt t.data.toList (i+1)
     have ho:=or_tag (n:=nb t.data.toList (i+1)) (i:=8) (k:=acc s.rest i) (by omega)
     have:=bits_or_u64_nat (acc s.rest i * 256) (nb t.data.toList (i+1)) (by omega) (by omega)
     rw [Nat.or_comm] at this
     simp only [Nat.reducePow] at ho
     rw [ho,HTV.out (i+1) (by omega)] at this
     rw [HTV.out (i+1) (by omega)]
     simp only [acc]
     rw [Nat.add_comm (acc s.rest i * 256)]
     simpa using this
    clear hx3 hx1 hx2
    go_wp2
    go_round
    case rel=>exact ⟨i+1,by omega,by go_num,rfl⟩
    case measure=>simp [intOf]; omega)
theorem getN_short3 (p:Nat) (d:ByteArray) (s:RS) (w:World) (h:ReaderAt w p d s) (hd:DSize d) (h0:s.err=0) (h1:s.rest≠[]) (hk:nb s.rest 0 / 64=3) (hl:s.rest.length < 8) :
  Calls Tryz.prog 183 #[.pointer (some ⟨p,0,none⟩)] w fun r w'=>r=.returned (.int .i64 (getN s).1)∧RMoved w w' p d (getN s).2:=by
 have HW:=lh h
 obtain ⟨a,hb,ha,hr⟩:=h
 have c0:=cellOf (j:=0) hb
 have c1:=cellOf (j:=1) hb
 have c2:=cellOf (j:=2) hb
 simp at c0 c1 c2
 rw [h0] at c2
 have hlt:a < d.size:=by
  have:s.rest.length≠0:=by simpa using h1
  rw [hr,List.length_drop,len_data] at this
  omega
 have q1:(0:Int)≤a:=by omega
 have q2:(a:Int) < d.size:=by omega
 have q3:((a:Int) == d.size)=false:=by simp; omega
 have q5:decide ((a:Int)=d.size)=false:=by simp; omega
 have q4:=get_nb d
 have qk:((nb d.data.toList a:Nat):Int) / 64=3:=by
  rw [hr,nb_drop] at hk
  simp at hk
  omega
 have et:takeN 8 s=([],s.fail 20):=by unfold takeN; rw [if_neg (by simp [h0]),if_pos hl]
 have e1:getN s=(0,s.fail 20):=by unfold getN; rw [if_neg (by simp [h0]),if_neg h1,hk,if_pos hl]
 have e2:(s.fail 20).err=20:=by simp [RS.fail,h0]
 rw [e1]
 have HT:=lh et
 have HE:=lh e2
 have HD:=lh hd
 clear et e2 e1 hb hr hk hl h1 hd
 go_enter Tryz.func183,Tryz.ntmps183
 go_wp2
 go_quiet (fail)
 go_wp2
 go_quiet (fail)
 go_wp2_with (fail)
 refine (take_any p d s 8 _ (HW.out.drewN _) HD.out (by decide)).mono ?_
 rw [HT.out]
 rintro e w1 ⟨rfl,hm⟩
 have HM:=lh hm
 obtain ⟨⟨a',hb',_,_⟩,_⟩:=hm
 have k2:=cellOf (j:=2) hb'
 simp at k2
 rw [HE.out] at k2
 clear hb'
 go_wp2
 go_ret
 exact ⟨rfl,HM.out.1,HM.out.2.pre_drewN⟩
set_option maxHeartbeats 1600000 in
theorem getN_long3 (p:Nat) (d:ByteArray) (s:RS) (w:World) (h:ReaderAt w p d s) (hd:DSize d) (h0:s.err=0) (h1:s.rest≠[]) (hk:nb s.rest 0 / 64=3) (hl:¬ s.rest.length < 8) :
  Calls Tryz.prog 183 #[.pointer (some ⟨p,0,none⟩)] w fun r w'=>r=.returned (.int .i64 (getN s).1)∧RMoved w w' p d (getN s).2:=by
 have HW:=lh h
 obtain ⟨a,hb,ha,hr⟩:=h
 have c0:=cellOf (j:=0) hb
 have c1:=cellOf (j:=1) hb
 have c2:=cellOf (j:=2) hb
 simp at c0 c1 c2
 rw [h0] at c2
 have hlt:a < d.size:=by
  have:s.rest.length≠0:=by simpa using h1
  rw [hr,List.length_drop,len_data] at this
  omega
 have q1:(0:Int)≤a:=by omega
 have q2:(a:Int) < d.size:=by omega
 have q3:((a:Int) == d.size)=false:=by simp; omega
 have q5:decide ((a:Int)=d.size)=false:=by simp; omega
 have q4:=get_nb d
 have qk:((nb d.data.toList a:Nat):Int) / 64=3:=by
  rw [hr,nb_drop] at hk
  simp at hk
  omega
 have et:takeN 8 s=(s.rest.take 8,⟨s.rest.drop 8,0⟩):=by unfold takeN; rw [if_neg (by simp [h0]),if_neg hl,h0]
 obtain ⟨t,ht⟩:∃ t:ByteArray,⟨(s.rest.take 8).toArray⟩=t:=⟨_,rfl⟩
 have hts:t.size=8:=by rw [← ht,size_mk,List.length_take]; omega
 have htn:∀ (n:Nat) (h:n < t.size),(t[n]'h).toNat=nb t.data.toList n:=get_nb t
 have htv:∀ i,i < 8→nb t.data.toList i=nb s.rest i:=fun i hi=>by rw [← ht,toList_mk,nb_take _ _ _ hi]
 have hb0:nb t.data.toList 0=nb s.rest 0:=htv 0 (by decide)
 obtain ⟨v0,hv0⟩:∃ v0,acc s.rest 0=v0:=⟨_,rfl⟩
 have qn:bits .and .u8 ((nb t.data.toList 0:Nat):Int) 63=(v0:Int):=by
  have h1:=nb_lt s.rest 0
  have:=bits_and_u8_nat (nb s.rest 0) 63 (by omega) (by omega)
  rw [hb0,← hv0]
  simp only [acc]
  have h2:=Nat.and_two_pow_sub_one_eq_mod (nb s.rest 0) 6
  simp at h2
  rw [← h2]
  simpa using this
 have qv:v0 < 64:=by rw [← hv0]; simp [acc]; omega
 have qw:IntKind.u64.wrap (v0:Int)=(v0:Int):=by rw [IntKind.wrap_u64]; omega
 have HV0:=lh hv0
 clear hb0 hv0
 have HT:=lh et
 have HD:=lh hd
 have HTT:=lh ht
 have HTV:=lh htv
 have HK:=lh hk
 have HL:=lh hl
 have H1:=lh h1
 have H0:=lh h0
 clear et hb hr hk hl h1 hd ht htv
 go_enter Tryz.func183,Tryz.ntmps183
 go_wp2
 go_quiet (fail)
 go_wp2
 go_quiet (fail)
 go_wp2_with (fail)
 refine (take_any p d s 8 _ (HW.out.drewN _) HD.out (by decide)).mono ?_
 rw [HT.out]
 rintro e w1 ⟨rfl,hm⟩
 rw [HTT.out]
 have HM:=lh hm
 obtain ⟨⟨a',hb',_,_⟩,_⟩:=hm
 have k2:=cellOf (j:=2) hb'
 simp at k2
 clear hb'
 go_wp2
 go_loop [5,6] (fun vv iv=>∃ i:Nat,i < 8∧iv=.int .i64 ((i+1:Nat):Int)∧vv=.int .u64 (acc s.rest i)) (fun _ iv=>(8 - intOf iv).toNat)
 case atStart=>exact ⟨0,by decide,rfl,by rw [HV0.out]⟩
 case round=>
  obtain ⟨i,hi,rfl,rfl⟩:=hrel
  have hx1:acc s.rest i≤acc s.rest (8 - 1):=acc_mono s.rest (by omega)
  have hx2:acc s.rest (8 - 1) < 4611686018427387904:=by have:=acc_lt s.rest (8 - 1); simpa using this
  by_cases hlast:i+1=8
  ·obtain ⟨x,hx⟩:∃ x,acc s.rest i=x:=⟨_,rfl⟩
   have hxx:acc s.rest (8 - 1)=x:=by rw [← hx]; congr 1; omega
   rw [hx]
   have hxl:x < 4611686018427387904:=by omega
   have q6:((i+1:Nat):Int)=8:=by omega
   rw [q6]
   have hx62:x < 4611686018427387904:=Nat.lt_of_lt_of_le hxl (by decide)
   have q7:=i64_x hx62
   have q9:=wrap64_x hx62
   have qz:=size_x hx62
   clear hx62
   have QZ:=lh qz
   have HXX:=lh hxx
   clear hxx hx1 hx2 hx qz hlast q6
   by_cases hc:cls x=3
   ·have e1:getN s=(x,⟨s.rest.drop 8,0⟩):=by
     unfold getN
     rw [if_neg (by simp [H0.out]),if_neg H1.out,HK.out,if_neg (by simpa using HL.out)]
     have:=HXX.out
     simp only [Nat.reducePow,Nat.reduceSub] at this ⊢
     rw [this,if_pos hc,H0.out]
    have HC:=lh hc
    have E1:=lh e1
    clear e1 hc
    go_wp2_with (go_at_call 299; refine (QZ.out _).mono ?_; rw [HC.out]; rintro e w' ⟨rfl,hww⟩; have HWW:=lh hww; clear hww)
    go_ret
    have e2:=HWW.out
    rw [e2,E1.out]
    exact ⟨rfl,HM.out.1,HM.out.2.pre_drewN⟩
   ·have e1:getN s=(0,RS.fail ⟨s.rest.drop 8,0⟩ 21):=by
     unfold getN
     rw [if_neg (by simp [H0.out]),if_neg H1.out,HK.out,if_neg (by simpa using HL.out)]
     have:=HXX.out
     simp only [Nat.reducePow,Nat.reduceSub] at this ⊢
     rw [this,if_neg hc,H0.out]
    have E1:=lh e1
    have q8:(((cls x:Nat):Int) == 3)=false:=by simp; omega
    have q10:decide (((cls x:Nat):Int)=3)=false:=by simp; omega
    clear e1 hc
    go_wp2_with (go_at_call 299; refine (QZ.out _).mono ?_; rintro e w' ⟨rfl,hww⟩; have HWW:=lh hww; clear hww)
    rename_i w2
    have e2:=HWW.out
    rw [e2]
    refine (rfail_any p d _ 21 _ HM.out.1).mono ?_
    rintro e w3 ⟨rfl,hm3⟩
    have HM3:=lh hm3
    clear hm3
    go_wp2
    go_ret
    rw [E1.out]
    exact ⟨rfl,HM3.out.1,HM.out.2.pre_drewN.trans HM3.out.2 fun k hk=>.inl hk⟩
  ·try (exfalso; omega)
   all_goals (
    have q6:((i+1:Nat):Int) < 8:=by omega
    have hx3:acc s.rest i * 256+nb s.rest (i+1)≤acc s.rest (8 - 1):=acc_mono s.rest (i:=i+1) (by omega)
    have q7:IntKind.u64.wrap ((acc s.rest i:Int) * 256)=(acc s.rest i:Int) * 256:=by rw [IntKind.wrap_u64]; omega
    have q8:IntKind.u64.wrap ((nb t.data.toList (i+1):Nat):Int)=((nb t.data.toList (i+1):Nat):Int):=by have:=nb_lt t.data.toList (i+1); rw [IntKind.wrap_u64]; omega
    have q9:bits .or .u64 ((acc s.rest i:Int) * 256) ((nb t.data.toList (i+1):Nat):Int)=((acc s.rest (i+1):Nat):Int):=by
     have hn:=nb_lt t.data.toList (i+1)
     have ho:=or_tag (n:=nb t.data.toList (i+1)) (i:=8) (k:=acc s.rest i) (by omega)
     have:=bits_or_u64_nat (acc s.rest i * 256) (nb t.data.toList (i+1)) (by omega) (by omega)
     rw [Nat.or_comm] at this
     simp only [Nat.reducePow] at ho
     rw [ho,HTV.out (i+1) (by omega)] at this
     rw [HTV.out (i+1) (by omega)]
     simp only [acc]
     rw [Nat.add_comm (acc s.rest i * 256)]
     simpa using this
    clear hx3 hx1 hx2
    go_wp2
    go_round
    case rel=>exact ⟨i+1,by omega,by go_num,rfl⟩
    case measure=>simp [intOf]; omega)
theorem getN_any (p:Nat) (d:ByteArray) (s:RS) (w:World) (h:ReaderAt w p d s) (hd:DSize d) :
  Calls Tryz.prog 183 #[.pointer (some ⟨p,0,none⟩)] w fun r w'=>r=.returned (.int .i64 (getN s).1)∧RMoved w w' p d (getN s).2:=by
 by_cases h0:s.err=0
 ·by_cases h1:s.rest=[]
  ·exact getN_end p d s w h hd h0 h1
  ·have hk:nb s.rest 0 / 64=0∨nb s.rest 0 / 64=1∨nb s.rest 0 / 64=2∨nb s.rest 0 / 64=3:=by have:=nb_lt s.rest 0; omega
   rcases hk with hk | hk | hk | hk
   ·by_cases hl:s.rest.length < 1
    ·exact getN_short0 p d s w h hd h0 h1 hk hl
    ·exact getN_long0 p d s w h hd h0 h1 hk hl
   ·by_cases hl:s.rest.length < 2
    ·exact getN_short1 p d s w h hd h0 h1 hk hl
    ·exact getN_long1 p d s w h hd h0 h1 hk hl
   ·by_cases hl:s.rest.length < 4
    ·exact getN_short2 p d s w h hd h0 h1 hk hl
    ·exact getN_long2 p d s w h hd h0 h1 hk hl
   ·by_cases hl:s.rest.length < 8
    ·exact getN_short3 p d s w h hd h0 h1 hk hl
    ·exact getN_long3 p d s w h hd h0 h1 hk hl
 ·exact getN_err p d s w h hd h0
end Go.Proofs.YtogkkfdkeefjnaaGreatDoor.Codec
namespace Go.Proofs.YtogkkfdkeefjnaaGreatDoor.Codec
open Go.RowKit Go.Proofs.YtogkkfdkeefjnaaGreatDoorBase Go.Proofs.YtogkkfdkeefjnaaGreatDoorLex2 Go.Proofs.YtogkkfdkeefjnaaGreatDoorNum
set_option linter.unusedVariables false
set_option maxRecDepth 100000
set_option linter.unusedSimpArgs false
theorem ReaderAt.err {w:World} {p:Nat} {d:ByteArray} {s:RS} (h:ReaderAt w p d s):w.cell? ⟨p,2,none⟩=some (.int .i64 s.err):=by
 obtain ⟨a,hb,_⟩:=h
 simpa using cellOf (j:=2) hb
theorem count_any (p:Nat) (d:ByteArray) (s:RS) (most:Int) (w:World) (h:ReaderAt w p d s) (hd:DSize d) :
  Calls Tryz.prog 167 #[.pointer (some ⟨p,0,none⟩),.int .i64 most] w fun r w'=>r=.returned (.int .i64 (countN most s).1)∧RMoved w w' p d (countN most s).2:=by
 obtain ⟨n,s1,hg⟩:∃ n s1,getN s=(n,s1):=⟨_,_,rfl⟩
 have hc:countN most s=(if (if most < (n:Int) then s1.fail 22 else s1).err≠0 then 0 else n,if most < (n:Int) then s1.fail 22 else s1):=by
  unfold countN; rw [hg]
 rw [hc]
 have G:=getN_any p d s w h hd
 rw [hg] at G
 have GG:=lh G
 clear G hc hg h hd
 by_cases hm:most < (n:Int)
 ·rw [if_pos hm]
  have he:(s1.fail 22).err≠0:=by unfold RS.fail; split <;> simp_all
  rw [if_pos he]
  have q0:((s1.fail 22).err == 0)=false:=by simpa using he
  have q1:decide ((s1.fail 22).err=0)=false:=by simpa using he
  obtain ⟨s2,hs2⟩:∃ s2,s1.fail 22=s2:=⟨_,rfl⟩
  rw [hs2] at q0 q1 ⊢
  have HS:=lh hs2
  clear hs2 he
  go_enter Tryz.func167,Tryz.ntmps167
  go_wp2_with (fail)
  refine GG.out.mono ?_
  rintro e w1 ⟨rfl,hm1⟩
  have M1:=lh hm1
  clear hm1
  go_wp2_with (fail)
  refine (rfail_any p d _ 22 _ M1.out.1).mono ?_
  rw [HS.out]
  rintro e w2 ⟨rfl,hm2⟩
  have k2:=hm2.1.err
  have M2:=lh hm2
  clear hm2
  go_wp2
  go_ret
  exact ⟨rfl,M1.out.trans M2.out⟩
 ·rw [if_neg hm]
  by_cases he:s1.err=0
  ·rw [if_neg (by simpa using he)]
   have HE:=lh he
   clear he
   go_enter Tryz.func167,Tryz.ntmps167
   go_wp2_with (fail)
   refine GG.out.mono ?_
   rintro e w1 ⟨rfl,hm1⟩
   have k2:=hm1.1.err
   rw [HE.out] at k2
   have M1:=lh hm1
   clear hm1
   go_wp2
   go_ret
   exact ⟨rfl,M1.out⟩
  ·rw [if_pos he]
   have q0:(s1.err == 0)=false:=by simpa using he
   have q1:decide (s1.err=0)=false:=by simpa using he
   clear he
   go_enter Tryz.func167,Tryz.ntmps167
   go_wp2_with (fail)
   refine GG.out.mono ?_
   rintro e w1 ⟨rfl,hm1⟩
   have k2:=hm1.1.err
   have M1:=lh hm1
   clear hm1
   go_wp2
   go_ret
   exact ⟨rfl,M1.out⟩
def bnd (m:Int):Nat:=if m < 0 then 0 else if 1048576 < m then 1048576 else m.toNat
theorem bnd_le (m:Int):bnd m≤1048576:=by unfold bnd; split; omega; split <;> omega
theorem bound_any (m:Int) (w:World) :
  Calls Tryz.prog 162 #[.int .i64 m] w fun r w'=>r=.returned (.int .i64 (bnd m))∧w'=w:=by
 go_enter Tryz.func162,Tryz.ntmps162
 go_wp2
 go_ret
 refine ⟨?_,rfl⟩
 show Ending.returned (.int .i64 (max 0 (min m 1048576)))=_
 congr 2
 unfold bnd
 split
 ·omega
 split <;> omega
/-! ### What a codec is -/
/-- What was there is as it was. -/
def Same (W w:World):Prop:=W.heap.size≤w.heap.size∧∀ k,k < W.heap.size→w.heap[k]?=W.heap[k]?
theorem Same.refl (w:World):Same w w:=⟨Nat.le_refl _,fun _ _=>rfl⟩
theorem Same.trans {a b c:World} (h:Same a b) (h2:Same b c):Same a c:=⟨Nat.le_trans h.1 h2.1,fun k hk=>(h2.2 k (Nat.lt_of_lt_of_le hk h.1)).trans (h.2 k hk)⟩
theorem Same.kept {W w w':World} {F:Nat→Prop} (h:Same W w) (hk:Kept w w' F) (hF:∀ k,F k→W.heap.size≤k):Same W w' :=
 ⟨Nat.le_trans h.1 hk.size,fun k hk1=>(hk.block k (Nat.lt_of_lt_of_le hk1 h.1) (fun hf=>by have:=hF k hf; omega)).trans (h.2 k hk1)⟩
theorem Same.blk {W w:World} (h:Same W w) {k:Nat} {o:Obj} (hb:W.heap[k]?=some o):w.heap[k]?=some o:=(h.2 k (blk_lt hb)).trans hb
/-- How values are, how they are written and read. -/
structure Cod (α:Type) where
 rep:(Nat→Prop)→World→α→Value→Prop
 put:α→WS→WS
 cost:α→Nat
 get:RS→α×RS
structure Fair {α:Type} (c:Cod α):Prop where
 mono:∀ {G G':Nat→Prop} {w:World} {x:α} {v:Value},(∀ k,G k→G' k)→c.rep G w x v→c.rep G' w x v
 keep:∀ {G:Nat→Prop} {w w':World} {x:α} {v:Value},c.rep G w x v→(∀ k,k < w.heap.size→G k→w'.heap[k]?=w.heap[k]?)→c.rep G w' x v
 len:∀ (x:α) (s:WS),(c.put x s).out.length≤s.out.length+c.cost x
def PutOk {α:Type} (W:World) (pv:Value) (c:Cod α):Prop :=
 ∃ f caps,pv=.func (.func f) #[] caps∧Proofs.Enters Tryz.prog f∧∀ (B p:Nat) (F:Nat→Prop) (s:WS) (w:World) (x:α) (v:Value),W.heap.size≤B→Same W w→c.rep (fun k=>k < B) w x v→WriterAt B w p F s→WRoom s (c.cost x) →
  Calls Tryz.prog f (#[.pointer (some ⟨p,0,none⟩),v] ++ caps) w fun r w'=>r=.returned (.tuple #[])∧WMoved B w w' p F (c.put x s)
def GetOk {α:Type} (W:World) (gv:Value) (c:Cod α):Prop :=
 ∃ f caps,gv=.func (.func f) #[] caps∧Proofs.Enters Tryz.prog f∧∀ (p:Nat) (d:ByteArray) (s:RS) (w:World),W.heap.size≤p→Same W w→ReaderAt w p d s→DSize d →
  Calls Tryz.prog f (#[.pointer (some ⟨p,0,none⟩)] ++ caps) w fun r w'=>∃ v,r=.returned v∧RMoved w w' p d (c.get s).2∧c.rep (fun k=>w.heap.size≤k∧k < w'.heap.size) w' (c.get s).1 v
def IsCodec {α:Type} (W:World) (cv:Value) (c:Cod α):Prop:=∃ pv gv,cv=.agg #[pv,gv]∧PutOk W pv c∧GetOk W gv c
/-! ### Numbers -/
def putN (n:Nat) (s:WS):WS:={ s with out:=s.out ++ encN n }
def numC:Cod Int where
 rep:=fun _ _ x v=>v=.int .i64 x
 put:=fun x s=>if x < 0∨4611686018427387904≤x then s.fail 22 else putN x.toNat s
 cost:=fun _=>8
 get:=fun s=>((getN s).1,(getN s).2)
theorem wfail_len (s:WS) (e:Int):(s.fail e).out=s.out:=by unfold WS.fail; split <;> rfl
theorem putN_len (n:Nat) (s:WS):(putN n s).out.length≤s.out.length+8:=by
 unfold putN; simp only [List.length_append]; have:=encN_le n; omega
theorem numC_fair:Fair numC:=by
 refine ⟨fun _ h=>h,fun h _=>h,fun x s=>?_⟩
 simp only [numC]
 split
 ·rw [wfail_len]; omega
 ·exact putN_len _ _
theorem num_codec (W:World):IsCodec W (.agg #[.func (.func 165) #[] #[],.func (.func 183) #[] #[]]) numC:=by
 refine ⟨_,_,rfl,⟨_,_,rfl,Proofs.enters_of Tryz.func165 (by kernel_rfl) rfl,?_⟩,⟨_,_,rfl,Proofs.enters_of Tryz.func183 (by kernel_rfl) rfl,?_⟩⟩
 ·intro B p F s w x v hB hw hv h hr
  simp only [numC] at hv hr
  subst hv
  simp only [numC,Array.append_empty]
  by_cases hx:x < 0∨4611686018427387904≤x
  ·rw [if_pos hx]; exact put_bad B p F s x w h hx
  ·rw [if_neg hx]
   obtain ⟨n,rfl⟩:∃ n:Nat,x=n:=⟨x.toNat,by omega⟩
   exact put_any B p F s n w h (by omega) hr
 ·intro p d s w hp hw h hd
  simp only [numC,Array.append_empty]
  refine (getN_any p d s w h hd).mono ?_
  rintro r w' ⟨rfl,hm⟩
  exact ⟨_,rfl,hm,rfl⟩
theorem number_any (w:World):Calls Tryz.prog 99 #[] w fun r w'=>∃ cv,r=.returned cv∧IsCodec w' cv numC∧Kept w w' (fun _=>False):=by
 go_enter Tryz.func99,Tryz.ntmps99
 go_wp2
 refine bodyPost_ret (results_cell_row rfl _ _ _ _ _ _ _ rfl (heap_alloc_new _ _) Tryz.underlying172 rfl (by kernel_rfl)) rfl ?_
 exact ⟨_,rfl,num_codec _,(Kept.refl _ _).alloc _⟩
end Go.Proofs.YtogkkfdkeefjnaaGreatDoor.Codec
