/-
  The package codec's numbers written, walked. The package codec's reader and its numbers, walked.
-/
import Derived.Test.YtogkkfdkeefjnaaGreatDoorA05
import Derived.Test.YtogkkfdkeefjnaaGreatDoorA03
import Derived.BigQuiet
namespace Go.Proofs.YtogkkfdkeefjnaaGreatDoor.Codec
open Go.RowKit Go.Proofs.YtogkkfdkeefjnaaGreatDoorBase Go.Proofs.YtogkkfdkeefjnaaGreatDoorLex2 Go.Proofs.YtogkkfdkeefjnaaGreatDoorNum
set_option linter.unusedVariables false
set_option maxRecDepth 100000
set_option linter.unusedSimpArgs false
def WRoom (s:WS) (m:Nat):Prop:=s.out.length+m≤200000000000000
theorem put_bad (base p:Nat) (F:Nat→Prop) (s:WS) (n:Int) (w:World) (h:WriterAt base w p F s) (hn:n < 0∨4611686018427387904≤n) :
  Calls Tryz.prog 165 #[.pointer (some ⟨p,0,none⟩),.int .i64 n] w fun r w'=>r=.returned (.tuple #[])∧WMoved base w w' p F (s.fail 22):=by
 have HW:=lh h
 have HN:=lh hn
 clear h hn
 by_cases h0:n < 0
 ·go_enter Tryz.func165,Tryz.ntmps165
  go_wp2_with (go_at_call 164; refine (wfail_any base p F s 22 _ HW.out).mono ?_; rintro e w' ⟨rfl,hm⟩; have HM:=lh hm; clear hm)
  go_returns
  exact ⟨rfl,HM.out⟩
 ·have h1:4611686018427387904≤n:=HN.out.resolve_left h0
  go_enter Tryz.func165,Tryz.ntmps165
  go_wp2_with (go_at_call 164; refine (wfail_any base p F s 22 _ HW.out).mono ?_; rintro e w' ⟨rfl,hm⟩; have HM:=lh hm; clear hm)
  go_returns
  exact ⟨rfl,HM.out⟩
/-- What the loop has written. -/
structure PutRel (base p L v:Nat) (F:Nat→Prop) (s:WS) (w:World) (iv:Value) (wr:World):Prop where
 it:∃ j,j≤L∧iv=.int .i64 ((j:Int) - 1)∧WMoved base w wr p F { s with out:=s.out ++ (be v L).take (L - j) }
set_option maxHeartbeats 3200000 in
set_option maxRecDepth 100000 in
theorem put_0 (base p:Nat) (F:Nat→Prop) (s:WS) (n:Nat) (w:World) (h:WriterAt base w p F s) (hn:n < 4611686018427387904) (hc:cls n=0) (hr:WRoom s 8) (v:Nat) (hv:n+0=v) (hv2:v < 18446744073709551616) (qb:bits .or .u64 (n:Int) 0=(v:Int)) :
  Calls Tryz.prog 165 #[.pointer (some ⟨p,0,none⟩),.int .i64 n] w fun r w'=>r=.returned (.tuple #[])∧WMoved base w w' p F { s with out:=s.out ++ be v 1 }:=by
 have HW:=lh h
 have HC:=lh hc
 have q1:¬ (n:Int) < 0:=by omega
 have q2:¬ (4611686018427387904:Int)≤n:=by omega
 have qw:IntKind.u64.wrap (n:Int)=(n:Int):=by rw [IntKind.wrap_u64]; omega
 have HV:=lh hv
 have HR:=lh hr
 have HV2:=lh hv2
 have HN:=lh hn
 have qz:=size_any n (by omega)
 clear h hc hv hr hv2 hn
 have QZ:=lh qz
 clear qz
 go_enter Tryz.func165,Tryz.ntmps165
 go_wp2_with (go_at_call 299; refine (QZ.out _).mono ?_; rw [HC.out]; rintro e w' ⟨rfl,hww⟩; have HWW:=lh hww; clear hww)
 rename_i w1
 have e1:=HWW.out
 rw [e1]
 clear e1 HWW
 go_loopw [7] (fun iv wr=>PutRel base p 1 v F s w iv wr) (fun iv _=>(intOf iv+1).toNat)
 case atStart=>exact ⟨1,Nat.le_refl _,rfl,by simpa using WMoved.refl HW.out⟩
 case round=>
  obtain ⟨⟨j,hj,rfl,hm⟩⟩:=hrel
  cases j with
  | zero=>
   have HM:=lh hm
   clear hm
   go_wp2
   go_returns
   have:=HM.out
   rw [Nat.sub_zero,List.take_of_length_le (by rw [be_length]; exact Nat.le_refl _)] at this
   exact ⟨rfl,this⟩
  | succ m=>
   have em:(((m+1:Nat):Int) - 1)=(m:Int):=by omega
   rw [em]
   clear em
   obtain ⟨F1,hf1,hF1,hk1⟩:=hm
   obtain ⟨o,ho⟩:∃ o,s.out ++ (be v 1).take (1 - (m+1))=o:=⟨_,rfl⟩
   rw [ho] at hf1
   obtain ⟨sv,hb,hp,hbs,hs,hF⟩:=hf1
   simp only at hs hb
   obtain ⟨sa,sc,hse,hsc,hsm⟩:=own_slice hs
   subst hse
   have c0:=cellOf (j:=0) hb
   simp at c0
   have qm:IntKind.i64.wrap (8 * (m:Int))=8 * (m:Int):=IntWalk.i64_in _ (by omega)
   have qn:(0:Int)≤8 * (m:Int):=by omega
   obtain ⟨b,hbd⟩:∃ b,UInt8.ofNat (v / 256 ^ m)=b:=⟨_,rfl⟩
   have qby:IntKind.u8.wrap ((v:Int) / 2 ^ (8 * (m:Int)).toNat)=((b.toNat:Nat):Int):=by
    rw [← hbd,show (8 * (m:Int)).toNat=8 * m by omega,IntKind.wrap_u8,Int.pow_mul]
    simp
   have hpl:=blk_lt hb
   have hlp:=own_ne hs hb (by decide)
   have H1:=lh hb
   have H2:=lh ho
   have H3:=lh hbd
   have H4:=lh hF
   have H5:=lh hF1
   have H6:=lh hk1
   clear hb ho hbd hF hF1 hk1
   go_wp2
   refine wp_region_lex (fun w'=>w'.cell? ⟨p,0,none⟩=some (.slice sa o.length sc)) [0,0,0,0,3,0,0,0,0,0,2,4,0,0,4] (by kernel_rfl) (by kernel_rfl) (by kernel_rfl) (c0) (fun Q' hQ'=>?_)
   simp only [List.zip_cons_cons,List.zip_nil_right]
   repeat((first|(refine wpX_silent ?_ fun K hK=>?_;rfl;apply Exists.intro;refine ⟨fun w'=>?_,?_⟩;go_simp;exact⟨rfl,rfl⟩)|(refine wpX_read ?_ fun K hK=>?_;rfl;apply Exists.intro;refine ⟨?_,?_⟩;go_simp;exact⟨rfl,rfl⟩)|(refine wpX_float ?_ fun K hK=>?_;rfl;apply Exists.intro;refine ⟨fun w' hw'=>?_,?_⟩;(try dsimp only at hw');go_simp;exact⟨rfl,rfl⟩)|(refine wpX_not ?_ fun K hK=>?_;rfl));go_simp;refine hK _ _ ?_;clear hK K)
   refine wpX_keeps ?_ (fun K hK=>?_)
   ·rfl
   go_wp2
   refine wpX_heavy ?_ (fun K hK=>?_)
   ·rfl
   refine wp_append_ownS _ (.tmp 39) (.tmp 45) 130 130 rfl base 5 (.int .u8 0) 1 1 elemByte (.slice sa o.length sc) o.length (bc o) rfl (own_drew (hs.alloc _)) (.slice (some ⟨wr.heap.size,0,none⟩) 1 1) 1 (bc [b]) rfl ?src ?by1 ?ba (fun v' w2 o1 g1 b1=>?_)
   case src=>
    refine Src.ofSlice _ elemByte.under _ 1 1 _ rfl (fun j u hj=>?_) (bc_one _)
    match j,hj with
    | 0,hj=>
     simp [bc] at hj
     subst hj
     simp [Addr.add]
   case by1=>
    have h1:=HR.out
    unfold WRoom at h1
    have h2:o.length≤s.out.length+1:=by rw [← H2.out]; simp [be_length] <;> omega
    omega
   case ba=>simp; omega
   obtain ⟨A',c',rfl,hc1,hc2⟩:=own_slice o1
   have hb2:=lh (blk_grown (w:=(wr.alloc (.cells #[.int .u8 b.toNat] 5)).drew) ((Below.heap_alloc _ _ _ hpl).trans H1.out) g1 (fun e=>hlp e.symm))
   have hp2:=own_ne o1 hb2.out (by decide)
   have k0:=cellOf (j:=0) hb2.out
   simp at k0
   have e0:=freeOf (j:=0) hb2.out
   have G1:=lh g1
   have B1:=lh b1
   clear g1 b1
   go_simp
   refine hK _ _ ⟨rfl,?_⟩
   clear hK K
   repeat((first|(refine wpX_silent ?_ fun K hK=>?_;rfl;apply Exists.intro;refine ⟨fun w'=>?_,?_⟩;go_simp;exact⟨rfl,rfl⟩)|(refine wpX_read ?_ fun K hK=>?_;rfl;apply Exists.intro;refine ⟨?_,?_⟩;go_simp;exact⟨rfl,rfl⟩)|(refine wpX_float ?_ fun K hK=>?_;rfl;apply Exists.intro;refine ⟨fun w' hw'=>?_,?_⟩;(try dsimp only at hw');go_simp;exact⟨rfl,rfl⟩)|(refine wpX_not ?_ fun K hK=>?_;rfl));go_simp;refine hK _ _ ?_;clear hK K)
   refine wpX_heavy ?_ (fun K hK=>?_)
   ·rfl
   go_wp2
   refine wpX_nil (hQ' _ _ ?_)
   go_wp2
   have he:s.out ++ (be v 1).take (1 - m)=o ++ [b]:=by
    rw [be_take v 1 m (by omega),← List.append_assoc,H2.out,H3.out]
   have HE:=lh he
   clear he
   go_roundw
   case rel=>
    refine ⟨⟨m,by omega,rfl,?_⟩⟩
    rw [HE.out]
    refine WMoved.trans H5.out H6.out ⟨fun k=>k=p∨(Value.slice A' (o.length+1) c').ownBlock=some k,⟨.slice A' (o.length+1) c',?_,hp,?_,?_,fun k=>Iff.rfl⟩,?_,?_⟩
    ·have:=blk_set hb2.out 0 (.slice A' (o.length+1) c')
     simpa using this
    ·have:=G1.out.size
     simp [World.setCell] at this ⊢
     omega
    ·simp only [List.length_append,bc_append,List.length_cons,List.length_nil]
     exact own_far o1 hp2 _
    ·rintro k (rfl | hk)
     ·exact .inl ((H4.out k).2 (.inl rfl))
     ·rcases B1.out k hk with h | h
      ·exact .inl ((H4.out k).2 (.inr h))
      ·refine .inr ?_
       simp at h
       omega
    ·have hFp:F1 p:=(H4.out p).2 (.inl rfl)
     refine Kept.setCell (Kept.grown (Kept.drew (Kept.alloc (Kept.refl wr F1) _)) G1.out ?_) (.inl hFp) _
     intro k hk
     exact .inl ((H4.out k).2 (.inr hk))
   case measure=>simp [intOf]; try omega
set_option maxHeartbeats 3200000 in
set_option maxRecDepth 100000 in
theorem put_1 (base p:Nat) (F:Nat→Prop) (s:WS) (n:Nat) (w:World) (h:WriterAt base w p F s) (hn:n < 4611686018427387904) (hc:cls n=1) (hr:WRoom s 8) (v:Nat) (hv:n+16384=v) (hv2:v < 18446744073709551616) (qb:bits .or .u64 (n:Int) 16384=(v:Int)) :
  Calls Tryz.prog 165 #[.pointer (some ⟨p,0,none⟩),.int .i64 n] w fun r w'=>r=.returned (.tuple #[])∧WMoved base w w' p F { s with out:=s.out ++ be v 2 }:=by
 have HW:=lh h
 have HC:=lh hc
 have q1:¬ (n:Int) < 0:=by omega
 have q2:¬ (4611686018427387904:Int)≤n:=by omega
 have qw:IntKind.u64.wrap (n:Int)=(n:Int):=by rw [IntKind.wrap_u64]; omega
 have HV:=lh hv
 have HR:=lh hr
 have HV2:=lh hv2
 have HN:=lh hn
 have qz:=size_any n (by omega)
 clear h hc hv hr hv2 hn
 have QZ:=lh qz
 clear qz
 go_enter Tryz.func165,Tryz.ntmps165
 go_wp2_with (go_at_call 299; refine (QZ.out _).mono ?_; rw [HC.out]; rintro e w' ⟨rfl,hww⟩; have HWW:=lh hww; clear hww)
 rename_i w1
 have e1:=HWW.out
 rw [e1]
 clear e1 HWW
 go_loopw [7] (fun iv wr=>PutRel base p 2 v F s w iv wr) (fun iv _=>(intOf iv+1).toNat)
 case atStart=>exact ⟨2,Nat.le_refl _,rfl,by simpa using WMoved.refl HW.out⟩
 case round=>
  obtain ⟨⟨j,hj,rfl,hm⟩⟩:=hrel
  cases j with
  | zero=>
   have HM:=lh hm
   clear hm
   go_wp2
   go_returns
   have:=HM.out
   rw [Nat.sub_zero,List.take_of_length_le (by rw [be_length]; exact Nat.le_refl _)] at this
   exact ⟨rfl,this⟩
  | succ m=>
   have em:(((m+1:Nat):Int) - 1)=(m:Int):=by omega
   rw [em]
   clear em
   obtain ⟨F1,hf1,hF1,hk1⟩:=hm
   obtain ⟨o,ho⟩:∃ o,s.out ++ (be v 2).take (2 - (m+1))=o:=⟨_,rfl⟩
   rw [ho] at hf1
   obtain ⟨sv,hb,hp,hbs,hs,hF⟩:=hf1
   simp only at hs hb
   obtain ⟨sa,sc,hse,hsc,hsm⟩:=own_slice hs
   subst hse
   have c0:=cellOf (j:=0) hb
   simp at c0
   have qm:IntKind.i64.wrap (8 * (m:Int))=8 * (m:Int):=IntWalk.i64_in _ (by omega)
   have qn:(0:Int)≤8 * (m:Int):=by omega
   obtain ⟨b,hbd⟩:∃ b,UInt8.ofNat (v / 256 ^ m)=b:=⟨_,rfl⟩
   have qby:IntKind.u8.wrap ((v:Int) / 2 ^ (8 * (m:Int)).toNat)=((b.toNat:Nat):Int):=by
    rw [← hbd,show (8 * (m:Int)).toNat=8 * m by omega,IntKind.wrap_u8,Int.pow_mul]
    simp
   have hpl:=blk_lt hb
   have hlp:=own_ne hs hb (by decide)
   have H1:=lh hb
   have H2:=lh ho
   have H3:=lh hbd
   have H4:=lh hF
   have H5:=lh hF1
   have H6:=lh hk1
   clear hb ho hbd hF hF1 hk1
   go_wp2
   refine wp_region_lex (fun w'=>w'.cell? ⟨p,0,none⟩=some (.slice sa o.length sc)) [0,0,0,0,3,0,0,0,0,0,2,4,0,0,4] (by kernel_rfl) (by kernel_rfl) (by kernel_rfl) (c0) (fun Q' hQ'=>?_)
   simp only [List.zip_cons_cons,List.zip_nil_right]
   repeat((first|(refine wpX_silent ?_ fun K hK=>?_;rfl;apply Exists.intro;refine ⟨fun w'=>?_,?_⟩;go_simp;exact⟨rfl,rfl⟩)|(refine wpX_read ?_ fun K hK=>?_;rfl;apply Exists.intro;refine ⟨?_,?_⟩;go_simp;exact⟨rfl,rfl⟩)|(refine wpX_float ?_ fun K hK=>?_;rfl;apply Exists.intro;refine ⟨fun w' hw'=>?_,?_⟩;(try dsimp only at hw');go_simp;exact⟨rfl,rfl⟩)|(refine wpX_not ?_ fun K hK=>?_;rfl));go_simp;refine hK _ _ ?_;clear hK K)
   refine wpX_keeps ?_ (fun K hK=>?_)
   ·rfl
   go_wp2
   refine wpX_heavy ?_ (fun K hK=>?_)
   ·rfl
   refine wp_append_ownS _ (.tmp 39) (.tmp 45) 130 130 rfl base 5 (.int .u8 0) 1 1 elemByte (.slice sa o.length sc) o.length (bc o) rfl (own_drew (hs.alloc _)) (.slice (some ⟨wr.heap.size,0,none⟩) 1 1) 1 (bc [b]) rfl ?src ?by1 ?ba (fun v' w2 o1 g1 b1=>?_)
   case src=>
    refine Src.ofSlice _ elemByte.under _ 1 1 _ rfl (fun j u hj=>?_) (bc_one _)
    match j,hj with
    | 0,hj=>
     simp [bc] at hj
     subst hj
     simp [Addr.add]
   case by1=>
    have h1:=HR.out
    unfold WRoom at h1
    have h2:o.length≤s.out.length+2:=by rw [← H2.out]; simp [be_length] <;> omega
    omega
   case ba=>simp; omega
   obtain ⟨A',c',rfl,hc1,hc2⟩:=own_slice o1
   have hb2:=lh (blk_grown (w:=(wr.alloc (.cells #[.int .u8 b.toNat] 5)).drew) ((Below.heap_alloc _ _ _ hpl).trans H1.out) g1 (fun e=>hlp e.symm))
   have hp2:=own_ne o1 hb2.out (by decide)
   have k0:=cellOf (j:=0) hb2.out
   simp at k0
   have e0:=freeOf (j:=0) hb2.out
   have G1:=lh g1
   have B1:=lh b1
   clear g1 b1
   go_simp
   refine hK _ _ ⟨rfl,?_⟩
   clear hK K
   repeat((first|(refine wpX_silent ?_ fun K hK=>?_;rfl;apply Exists.intro;refine ⟨fun w'=>?_,?_⟩;go_simp;exact⟨rfl,rfl⟩)|(refine wpX_read ?_ fun K hK=>?_;rfl;apply Exists.intro;refine ⟨?_,?_⟩;go_simp;exact⟨rfl,rfl⟩)|(refine wpX_float ?_ fun K hK=>?_;rfl;apply Exists.intro;refine ⟨fun w' hw'=>?_,?_⟩;(try dsimp only at hw');go_simp;exact⟨rfl,rfl⟩)|(refine wpX_not ?_ fun K hK=>?_;rfl));go_simp;refine hK _ _ ?_;clear hK K)
   refine wpX_heavy ?_ (fun K hK=>?_)
   ·rfl
   go_wp2
   refine wpX_nil (hQ' _ _ ?_)
   go_wp2
   have he:s.out ++ (be v 2).take (2 - m)=o ++ [b]:=by
    rw [be_take v 2 m (by omega),← List.append_assoc,H2.out,H3.out]
   have HE:=lh he
   clear he
   go_roundw
   case rel=>
    refine ⟨⟨m,by omega,rfl,?_⟩⟩
    rw [HE.out]
    refine WMoved.trans H5.out H6.out ⟨fun k=>k=p∨(Value.slice A' (o.length+1) c').ownBlock=some k,⟨.slice A' (o.length+1) c',?_,hp,?_,?_,fun k=>Iff.rfl⟩,?_,?_⟩
    ·have:=blk_set hb2.out 0 (.slice A' (o.length+1) c')
     simpa using this
    ·have:=G1.out.size
     simp [World.setCell] at this ⊢
     omega
    ·simp only [List.length_append,bc_append,List.length_cons,List.length_nil]
     exact own_far o1 hp2 _
    ·rintro k (rfl | hk)
     ·exact .inl ((H4.out k).2 (.inl rfl))
     ·rcases B1.out k hk with h | h
      ·exact .inl ((H4.out k).2 (.inr h))
      ·refine .inr ?_
       simp at h
       omega
    ·have hFp:F1 p:=(H4.out p).2 (.inl rfl)
     refine Kept.setCell (Kept.grown (Kept.drew (Kept.alloc (Kept.refl wr F1) _)) G1.out ?_) (.inl hFp) _
     intro k hk
     exact .inl ((H4.out k).2 (.inr hk))
   case measure=>simp [intOf]; try omega
set_option maxHeartbeats 3200000 in
set_option maxRecDepth 100000 in
theorem put_2 (base p:Nat) (F:Nat→Prop) (s:WS) (n:Nat) (w:World) (h:WriterAt base w p F s) (hn:n < 4611686018427387904) (hc:cls n=2) (hr:WRoom s 8) (v:Nat) (hv:n+2147483648=v) (hv2:v < 18446744073709551616) (qb:bits .or .u64 (n:Int) 2147483648=(v:Int)) :
  Calls Tryz.prog 165 #[.pointer (some ⟨p,0,none⟩),.int .i64 n] w fun r w'=>r=.returned (.tuple #[])∧WMoved base w w' p F { s with out:=s.out ++ be v 4 }:=by
 have HW:=lh h
 have HC:=lh hc
 have q1:¬ (n:Int) < 0:=by omega
 have q2:¬ (4611686018427387904:Int)≤n:=by omega
 have qw:IntKind.u64.wrap (n:Int)=(n:Int):=by rw [IntKind.wrap_u64]; omega
 have HV:=lh hv
 have HR:=lh hr
 have HV2:=lh hv2
 have HN:=lh hn
 have qz:=size_any n (by omega)
 clear h hc hv hr hv2 hn
 have QZ:=lh qz
 clear qz
 go_enter Tryz.func165,Tryz.ntmps165
 go_wp2_with (go_at_call 299; refine (QZ.out _).mono ?_; rw [HC.out]; rintro e w' ⟨rfl,hww⟩; have HWW:=lh hww; clear hww)
 rename_i w1
 have e1:=HWW.out
 rw [e1]
 clear e1 HWW
 go_loopw [7] (fun iv wr=>PutRel base p 4 v F s w iv wr) (fun iv _=>(intOf iv+1).toNat)
 case atStart=>exact ⟨4,Nat.le_refl _,rfl,by simpa using WMoved.refl HW.out⟩
 case round=>
  obtain ⟨⟨j,hj,rfl,hm⟩⟩:=hrel
  cases j with
  | zero=>
   have HM:=lh hm
   clear hm
   go_wp2
   go_returns
   have:=HM.out
   rw [Nat.sub_zero,List.take_of_length_le (by rw [be_length]; exact Nat.le_refl _)] at this
   exact ⟨rfl,this⟩
  | succ m=>
   have em:(((m+1:Nat):Int) - 1)=(m:Int):=by omega
   rw [em]
   clear em
   obtain ⟨F1,hf1,hF1,hk1⟩:=hm
   obtain ⟨o,ho⟩:∃ o,s.out ++ (be v 4).take (4 - (m+1))=o:=⟨_,rfl⟩
   rw [ho] at hf1
   obtain ⟨sv,hb,hp,hbs,hs,hF⟩:=hf1
   simp only at hs hb
   obtain ⟨sa,sc,hse,hsc,hsm⟩:=own_slice hs
   subst hse
   have c0:=cellOf (j:=0) hb
   simp at c0
   have qm:IntKind.i64.wrap (8 * (m:Int))=8 * (m:Int):=IntWalk.i64_in _ (by omega)
   have qn:(0:Int)≤8 * (m:Int):=by omega
   obtain ⟨b,hbd⟩:∃ b,UInt8.ofNat (v / 256 ^ m)=b:=⟨_,rfl⟩
   have qby:IntKind.u8.wrap ((v:Int) / 2 ^ (8 * (m:Int)).toNat)=((b.toNat:Nat):Int):=by
    rw [← hbd,show (8 * (m:Int)).toNat=8 * m by omega,IntKind.wrap_u8,Int.pow_mul]
    simp
   have hpl:=blk_lt hb
   have hlp:=own_ne hs hb (by decide)
   have H1:=lh hb
   have H2:=lh ho
   have H3:=lh hbd
   have H4:=lh hF
   have H5:=lh hF1
   have H6:=lh hk1
   clear hb ho hbd hF hF1 hk1
   go_wp2
   refine wp_region_lex (fun w'=>w'.cell? ⟨p,0,none⟩=some (.slice sa o.length sc)) [0,0,0,0,3,0,0,0,0,0,2,4,0,0,4] (by kernel_rfl) (by kernel_rfl) (by kernel_rfl) (c0) (fun Q' hQ'=>?_)
   simp only [List.zip_cons_cons,List.zip_nil_right]
   repeat((first|(refine wpX_silent ?_ fun K hK=>?_;rfl;apply Exists.intro;refine ⟨fun w'=>?_,?_⟩;go_simp;exact⟨rfl,rfl⟩)|(refine wpX_read ?_ fun K hK=>?_;rfl;apply Exists.intro;refine ⟨?_,?_⟩;go_simp;exact⟨rfl,rfl⟩)|(refine wpX_float ?_ fun K hK=>?_;rfl;apply Exists.intro;refine ⟨fun w' hw'=>?_,?_⟩;(try dsimp only at hw');go_simp;exact⟨rfl,rfl⟩)|(refine wpX_not ?_ fun K hK=>?_;rfl));go_simp;refine hK _ _ ?_;clear hK K)
   refine wpX_keeps ?_ (fun K hK=>?_)
   ·rfl
   go_wp2
   refine wpX_heavy ?_ (fun K hK=>?_)
   ·rfl
   refine wp_append_ownS _ (.tmp 39) (.tmp 45) 130 130 rfl base 5 (.int .u8 0) 1 1 elemByte (.slice sa o.length sc) o.length (bc o) rfl (own_drew (hs.alloc _)) (.slice (some ⟨wr.heap.size,0,none⟩) 1 1) 1 (bc [b]) rfl ?src ?by1 ?ba (fun v' w2 o1 g1 b1=>?_)
   case src=>
    refine Src.ofSlice _ elemByte.under _ 1 1 _ rfl (fun j u hj=>?_) (bc_one _)
    match j,hj with
    | 0,hj=>
     simp [bc] at hj
     subst hj
     simp [Addr.add]
   case by1=>
    have h1:=HR.out
    unfold WRoom at h1
    have h2:o.length≤s.out.length+4:=by rw [← H2.out]; simp [be_length] <;> omega
    omega
   case ba=>simp; omega
   obtain ⟨A',c',rfl,hc1,hc2⟩:=own_slice o1
   have hb2:=lh (blk_grown (w:=(wr.alloc (.cells #[.int .u8 b.toNat] 5)).drew) ((Below.heap_alloc _ _ _ hpl).trans H1.out) g1 (fun e=>hlp e.symm))
   have hp2:=own_ne o1 hb2.out (by decide)
   have k0:=cellOf (j:=0) hb2.out
   simp at k0
   have e0:=freeOf (j:=0) hb2.out
   have G1:=lh g1
   have B1:=lh b1
   clear g1 b1
   go_simp
   refine hK _ _ ⟨rfl,?_⟩
   clear hK K
   repeat((first|(refine wpX_silent ?_ fun K hK=>?_;rfl;apply Exists.intro;refine ⟨fun w'=>?_,?_⟩;go_simp;exact⟨rfl,rfl⟩)|(refine wpX_read ?_ fun K hK=>?_;rfl;apply Exists.intro;refine ⟨?_,?_⟩;go_simp;exact⟨rfl,rfl⟩)|(refine wpX_float ?_ fun K hK=>?_;rfl;apply Exists.intro;refine ⟨fun w' hw'=>?_,?_⟩;(try dsimp only at hw');go_simp;exact⟨rfl,rfl⟩)|(refine wpX_not ?_ fun K hK=>?_;rfl));go_simp;refine hK _ _ ?_;clear hK K)
   refine wpX_heavy ?_ (fun K hK=>?_)
   ·rfl
   go_wp2
   refine wpX_nil (hQ' _ _ ?_)
   go_wp2
   have he:s.out ++ (be v 4).take (4 - m)=o ++ [b]:=by
    rw [be_take v 4 m (by omega),← List.append_assoc,H2.out,H3.out]
   have HE:=lh he
   clear he
   go_roundw
   case rel=>
    refine ⟨⟨m,by omega,rfl,?_⟩⟩
    rw [HE.out]
    refine WMoved.trans H5.out H6.out ⟨fun k=>k=p∨(Value.slice A' (o.length+1) c').ownBlock=some k,⟨.slice A' (o.length+1) c',?_,hp,?_,?_,fun k=>Iff.rfl⟩,?_,?_⟩
    ·have:=blk_set hb2.out 0 (.slice A' (o.length+1) c')
     simpa using this
    ·have:=G1.out.size
     simp [World.setCell] at this ⊢
     omega
    ·simp only [List.length_append,bc_append,List.length_cons,List.length_nil]
     exact own_far o1 hp2 _
    ·rintro k (rfl | hk)
     ·exact .inl ((H4.out k).2 (.inl rfl))
     ·rcases B1.out k hk with h | h
      ·exact .inl ((H4.out k).2 (.inr h))
      ·refine .inr ?_
       simp at h
       omega
    ·have hFp:F1 p:=(H4.out p).2 (.inl rfl)
     refine Kept.setCell (Kept.grown (Kept.drew (Kept.alloc (Kept.refl wr F1) _)) G1.out ?_) (.inl hFp) _
     intro k hk
     exact .inl ((H4.out k).2 (.inr hk))
   case measure=>simp [intOf]; try omega
set_option maxHeartbeats 3200000 in
set_option maxRecDepth 100000 in
theorem put_3 (base p:Nat) (F:Nat→Prop) (s:WS) (n:Nat) (w:World) (h:WriterAt base w p F s) (hn:n < 4611686018427387904) (hc:cls n=3) (hr:WRoom s 8) (v:Nat) (hv:n+13835058055282163712=v) (hv2:v < 18446744073709551616) (qb:bits .or .u64 (n:Int) 13835058055282163712=(v:Int)) :
  Calls Tryz.prog 165 #[.pointer (some ⟨p,0,none⟩),.int .i64 n] w fun r w'=>r=.returned (.tuple #[])∧WMoved base w w' p F { s with out:=s.out ++ be v 8 }:=by
 have HW:=lh h
 have HC:=lh hc
 have q1:¬ (n:Int) < 0:=by omega
 have q2:¬ (4611686018427387904:Int)≤n:=by omega
 have qw:IntKind.u64.wrap (n:Int)=(n:Int):=by rw [IntKind.wrap_u64]; omega
 have HV:=lh hv
 have HR:=lh hr
 have HV2:=lh hv2
 have HN:=lh hn
 have qz:=size_any n (by omega)
 clear h hc hv hr hv2 hn
 have QZ:=lh qz
 clear qz
 go_enter Tryz.func165,Tryz.ntmps165
 go_wp2_with (go_at_call 299; refine (QZ.out _).mono ?_; rw [HC.out]; rintro e w' ⟨rfl,hww⟩; have HWW:=lh hww; clear hww)
 rename_i w1
 have e1:=HWW.out
 rw [e1]
 clear e1 HWW
 go_loopw [7] (fun iv wr=>PutRel base p 8 v F s w iv wr) (fun iv _=>(intOf iv+1).toNat)
 case atStart=>exact ⟨8,Nat.le_refl _,rfl,by simpa using WMoved.refl HW.out⟩
 case round=>
  obtain ⟨⟨j,hj,rfl,hm⟩⟩:=hrel
  cases j with
  | zero=>
   have HM:=lh hm
   clear hm
   go_wp2
   go_returns
   have:=HM.out
   rw [Nat.sub_zero,List.take_of_length_le (by rw [be_length]; exact Nat.le_refl _)] at this
   exact ⟨rfl,this⟩
  | succ m=>
   have em:(((m+1:Nat):Int) - 1)=(m:Int):=by omega
   rw [em]
   clear em
   obtain ⟨F1,hf1,hF1,hk1⟩:=hm
   obtain ⟨o,ho⟩:∃ o,s.out ++ (be v 8).take (8 - (m+1))=o:=⟨_,rfl⟩
   rw [ho] at hf1
   obtain ⟨sv,hb,hp,hbs,hs,hF⟩:=hf1
   simp only at hs hb
   obtain ⟨sa,sc,hse,hsc,hsm⟩:=own_slice hs
   subst hse
   have c0:=cellOf (j:=0) hb
   simp at c0
   have qm:IntKind.i64.wrap (8 * (m:Int))=8 * (m:Int):=IntWalk.i64_in _ (by omega)
   have qn:(0:Int)≤8 * (m:Int):=by omega
   obtain ⟨b,hbd⟩:∃ b,UInt8.ofNat (v / 256 ^ m)=b:=⟨_,rfl⟩
   have qby:IntKind.u8.wrap ((v:Int) / 2 ^ (8 * (m:Int)).toNat)=((b.toNat:Nat):Int):=by
    rw [← hbd,show (8 * (m:Int)).toNat=8 * m by omega,IntKind.wrap_u8,Int.pow_mul]
    simp
   have hpl:=blk_lt hb
   have hlp:=own_ne hs hb (by decide)
   have H1:=lh hb
   have H2:=lh ho
   have H3:=lh hbd
   have H4:=lh hF
   have H5:=lh hF1
   have H6:=lh hk1
   clear hb ho hbd hF hF1 hk1
   go_wp2
   refine wp_region_lex (fun w'=>w'.cell? ⟨p,0,none⟩=some (.slice sa o.length sc)) [0,0,0,0,3,0,0,0,0,0,2,4,0,0,4] (by kernel_rfl) (by kernel_rfl) (by kernel_rfl) (c0) (fun Q' hQ'=>?_)
   simp only [List.zip_cons_cons,List.zip_nil_right]
   repeat((first|(refine wpX_silent ?_ fun K hK=>?_;rfl;apply Exists.intro;refine ⟨fun w'=>?_,?_⟩;go_simp;exact⟨rfl,rfl⟩)|(refine wpX_read ?_ fun K hK=>?_;rfl;apply Exists.intro;refine ⟨?_,?_⟩;go_simp;exact⟨rfl,rfl⟩)|(refine wpX_float ?_ fun K hK=>?_;rfl;apply Exists.intro;refine ⟨fun w' hw'=>?_,?_⟩;(try dsimp only at hw');go_simp;exact⟨rfl,rfl⟩)|(refine wpX_not ?_ fun K hK=>?_;rfl));go_simp;refine hK _ _ ?_;clear hK K)
   refine wpX_keeps ?_ (fun K hK=>?_)
   ·rfl
   go_wp2
   refine wpX_heavy ?_ (fun K hK=>?_)
   ·rfl
   refine wp_append_ownS _ (.tmp 39) (.tmp 45) 130 130 rfl base 5 (.int .u8 0) 1 1 elemByte (.slice sa o.length sc) o.length (bc o) rfl (own_drew (hs.alloc _)) (.slice (some ⟨wr.heap.size,0,none⟩) 1 1) 1 (bc [b]) rfl ?src ?by1 ?ba (fun v' w2 o1 g1 b1=>?_)
   case src=>
    refine Src.ofSlice _ elemByte.under _ 1 1 _ rfl (fun j u hj=>?_) (bc_one _)
    match j,hj with
    | 0,hj=>
     simp [bc] at hj
     subst hj
     simp [Addr.add]
   case by1=>
    have h1:=HR.out
    unfold WRoom at h1
    have h2:o.length≤s.out.length+8:=by rw [← H2.out]; simp [be_length] <;> omega
    omega
   case ba=>simp; omega
   obtain ⟨A',c',rfl,hc1,hc2⟩:=own_slice o1
   have hb2:=lh (blk_grown (w:=(wr.alloc (.cells #[.int .u8 b.toNat] 5)).drew) ((Below.heap_alloc _ _ _ hpl).trans H1.out) g1 (fun e=>hlp e.symm))
   have hp2:=own_ne o1 hb2.out (by decide)
   have k0:=cellOf (j:=0) hb2.out
   simp at k0
   have e0:=freeOf (j:=0) hb2.out
   have G1:=lh g1
   have B1:=lh b1
   clear g1 b1
   go_simp
   refine hK _ _ ⟨rfl,?_⟩
   clear hK K
   repeat((first|(refine wpX_silent ?_ fun K hK=>?_;rfl;apply Exists.intro;refine ⟨fun w'=>?_,?_⟩;go_simp;exact⟨rfl,rfl⟩)|(refine wpX_read ?_ fun K hK=>?_;rfl;apply Exists.intro;refine ⟨?_,?_⟩;go_simp;exact⟨rfl,rfl⟩)|(refine wpX_float ?_ fun K hK=>?_;rfl;apply Exists.intro;refine ⟨fun w' hw'=>?_,?_⟩;(try dsimp only at hw');go_simp;exact⟨rfl,rfl⟩)|(refine wpX_not ?_ fun K hK=>?_;rfl));go_simp;refine hK _ _ ?_;clear hK K)
   refine wpX_heavy ?_ (fun K hK=>?_)
   ·rfl
   go_wp2
   refine wpX_nil (hQ' _ _ ?_)
   go_wp2
   have he:s.out ++ (be v 8).take (8 - m)=o ++ [b]:=by
    rw [be_take v 8 m (by omega),← List.append_assoc,H2.out,H3.out]
   have HE:=lh he
   clear he
   go_roundw
   case rel=>
    refine ⟨⟨m,by omega,rfl,?_⟩⟩
    rw [HE.out]
    refine WMoved.trans H5.out H6.out ⟨fun k=>k=p∨(Value.slice A' (o.length+1) c').ownBlock=some k,⟨.slice A' (o.length+1) c',?_,hp,?_,?_,fun k=>Iff.rfl⟩,?_,?_⟩
    ·have:=blk_set hb2.out 0 (.slice A' (o.length+1) c')
     simpa using this
    ·have:=G1.out.size
     simp [World.setCell] at this ⊢
     omega
    ·simp only [List.length_append,bc_append,List.length_cons,List.length_nil]
     exact own_far o1 hp2 _
    ·rintro k (rfl | hk)
     ·exact .inl ((H4.out k).2 (.inl rfl))
     ·rcases B1.out k hk with h | h
      ·exact .inl ((H4.out k).2 (.inr h))
      ·refine .inr ?_
       simp at h
       omega
    ·have hFp:F1 p:=(H4.out p).2 (.inl rfl)
     refine Kept.setCell (Kept.grown (Kept.drew (Kept.alloc (Kept.refl wr F1) _)) G1.out ?_) (.inl hFp) _
     intro k hk
     exact .inl ((H4.out k).2 (.inr hk))
   case measure=>simp [intOf]; try omega
theorem put_any (base p:Nat) (F:Nat→Prop) (s:WS) (n:Nat) (w:World) (h:WriterAt base w p F s) (hn:n < 4611686018427387904) (hr:WRoom s 8) :
  Calls Tryz.prog 165 #[.pointer (some ⟨p,0,none⟩),.int .i64 n] w fun r w'=>r=.returned (.tuple #[])∧WMoved base w w' p F { s with out:=s.out ++ encN n }:=by
 have hq:∀ t:Nat,t < 18446744073709551616→n ||| t=n+t→bits .or .u64 (n:Int) (t:Int)=((n+t:Nat):Int):=fun t ht ho=>by
  rw [bits_or_u64_nat n t (by omega) ht,ho]
 by_cases h0:n < 64
 ·have hc:=cls_0 h0
  have:=put_0 base p F s n w h hn hc hr n rfl (by omega) (by have:=hq 0 (by omega) (by simp); simpa using this)
  simpa [encN,hc,tag] using this
 by_cases h1:n < 16384
 ·have hc:=cls_1 (by omega) h1
  have:=put_1 base p F s n w h hn hc hr (n+16384) rfl (by omega) (hq 16384 (by omega) (or_tag (i:=14) (k:=1) (by omega)))
  simpa [encN,hc,tag] using this
 by_cases h2:n < 1073741824
 ·have hc:=cls_2 (by omega) h2
  have:=put_2 base p F s n w h hn hc hr (n+2147483648) rfl (by omega) (hq 2147483648 (by omega) (or_tag (i:=30) (k:=2) (by omega)))
  simpa [encN,hc,tag] using this
 ·have hc:=cls_3 (n:=n) (by omega)
  have:=put_3 base p F s n w h hn hc hr (n+13835058055282163712) rfl (by omega) (hq 13835058055282163712 (by omega) (or_tag (i:=62) (k:=3) (by omega)))
  simpa [encN,hc,tag] using this
end Go.Proofs.YtogkkfdkeefjnaaGreatDoor.Codec
namespace Go.Proofs.YtogkkfdkeefjnaaGreatDoor.Codec
open Go.RowKit Go.Proofs.YtogkkfdkeefjnaaGreatDoorBase Go.Proofs.YtogkkfdkeefjnaaGreatDoorLex2 Go.Proofs.YtogkkfdkeefjnaaGreatDoorNum
set_option linter.unusedVariables false
set_option maxRecDepth 100000
set_option linter.unusedSimpArgs false
def ReaderAt (w:World) (p:Nat) (d:ByteArray) (s:RS):Prop :=
 ∃ at_:Nat,w.heap[p]?=some (.cells #[.string d,.int .i64 at_,.int .i64 s.err] 140 (0,0))∧at_≤d.size∧s.rest=d.data.toList.drop at_
def RMoved (w w':World) (p:Nat) (d:ByteArray) (s':RS):Prop:=ReaderAt w' p d s'∧Kept w w' (fun k=>k=p)
def DSize (d:ByteArray):Prop:=d.size≤200000000000000
theorem _root_.Go.Proofs.YtogkkfdkeefjnaaGreatDoorBase.Kept.pre_drewN {w w':World} {F:Nat→Prop} {n:Nat} (h:Kept (w.drewN n) w' F):Kept w w' F:=⟨h.os,h.tape,h.output,h.size,h.block⟩
theorem ReaderAt.drewN {w:World} {p:Nat} {d:ByteArray} {s:RS} (h:ReaderAt w p d s) (n:Nat):ReaderAt (w.drewN n) p d s:=h
theorem RMoved.trans {w w1 w2:World} {p:Nat} {d:ByteArray} {s1 s2:RS} (h1:RMoved w w1 p d s1) (h2:RMoved w1 w2 p d s2):RMoved w w2 p d s2:=⟨h2.1,h1.2.trans h2.2 fun k hk=>.inl hk⟩
theorem RMoved.refl {w:World} {p:Nat} {d:ByteArray} {s:RS} (h:ReaderAt w p d s):RMoved w w p d s:=⟨h,Kept.refl _ _⟩
theorem rfail_any (p:Nat) (d:ByteArray) (s:RS) (e:Int) (w:World) (h:ReaderAt w p d s) :
  Calls Tryz.prog 54 #[.pointer (some ⟨p,0,none⟩),.int .i64 e] w fun r w'=>r=.returned (.tuple #[])∧RMoved w w' p d (s.fail e):=by
 have HW:=lh h
 obtain ⟨a,hb,ha,hr⟩:=h
 have c1:=cellOf (j:=2) hb
 simp at c1
 have f1:=freeOf (j:=2) hb
 have HB:=lh hb
 have HA:=lh ha
 have HR:=lh hr
 clear hb ha hr
 by_cases h0:s.err=0
 ·rw [h0] at c1
  have H0:=lh h0
  clear h0
  go_enter Tryz.func54,Tryz.ntmps54
  go_wp2
  go_end0
  refine ⟨rfl,⟨a,?_,HA.out,?_⟩,(Kept.refl w (fun k=>k=p)).setCell (p:=⟨p,_,none⟩) (.inl rfl) _⟩
  ·have:=blk_set HB.out 2 (.int .i64 e)
   simpa [RS.fail,H0.out] using this
  ·rw [← HR.out]; unfold RS.fail; split <;> rfl
 ·have h0':(s.err == 0)=false:=by simpa using h0
  have H0:=lh h0
  clear h0
  go_enter Tryz.func54,Tryz.ntmps54
  go_wp2
  go_end0
  have:s.fail e=s:=by unfold RS.fail; rw [if_neg H0.out]
  rw [this]
  exact ⟨rfl,RMoved.refl HW.out⟩
theorem drop_take_mk (d:ByteArray) (a n:Nat):d.extract a (a+n)=⟨((d.data.toList.drop a).take n).toArray⟩:=by
 apply ByteArray.ext
 rw [ByteArray.data_extract]
 apply Array.ext'
 simp [List.drop_take]
theorem take_any (p:Nat) (d:ByteArray) (s:RS) (n:Nat) (w:World) (h:ReaderAt w p d s) (hd:DSize d) (hn:n < 4611686018427387904) :
  Calls Tryz.prog 295 #[.pointer (some ⟨p,0,none⟩),.int .i64 n] w fun r w'=>r=.returned (.string ⟨(takeN n s).1.toArray⟩)∧RMoved w w' p d (takeN n s).2:=by
 have HW:=lh h
 unfold DSize at hd
 obtain ⟨a,hb,ha,hr⟩:=h
 have c0:=cellOf (j:=0) hb
 have c1:=cellOf (j:=1) hb
 have c2:=cellOf (j:=2) hb
 simp at c0 c1 c2
 have f1:=freeOf (j:=1) hb
 have hl:s.rest.length=d.size - a:=by rw [hr,List.length_drop,len_data]
 have HB:=lh hb
 have HA:=lh ha
 have HR:=lh hr
 clear hb hr
 by_cases h0:s.err=0
 ·rw [h0] at c2
  have qs:IntKind.i64.wrap ((d.size:Int) - a)=(d.size:Int) - a:=IntWalk.i64_in _ (by omega)
  by_cases h1:s.rest.length < n
  ·have q:(d.size:Int) - a < n:=by omega
   have e1:takeN n s=([],s.fail 20):=by unfold takeN; rw [if_neg (by simp [h0]),if_pos h1]
   rw [e1]
   have H0:=lh h0
   clear h0 hl h1 e1
   go_enter Tryz.func295,Tryz.ntmps295
   go_wp2
   go_quiet (fail)
   go_wp2_with (go_at_call 54; refine (rfail_any p d s 20 _ (HW.out.drewN _)).mono ?_; rintro e w' ⟨rfl,hm⟩; have HM:=lh hm; clear hm)
   go_ret
   exact ⟨rfl,HM.out.1,HM.out.2.pre_drewN⟩
  ·have q:¬ (d.size:Int) - a < n:=by omega
   have e1:takeN n s=(s.rest.take n,⟨s.rest.drop n,s.err⟩):=by unfold takeN; rw [if_neg (by simp [h0]),if_neg h1]
   rw [e1]
   have qa:IntKind.i64.wrap ((a:Int)+n)=(a:Int)+n:=IntWalk.i64_in _ (by omega)
   have q1:(0:Int)≤(a:Int):=by omega
   have q2:(a:Int)≤(a:Int)+n:=by omega
   have q3:(a:Int)+n≤d.size:=by omega
   have q4:((a:Int)+n).toNat=a+n:=by omega
   have HL:=lh hl
   have H0:=lh h0
   clear h0 hl h1 e1
   go_enter Tryz.func295,Tryz.ntmps295
   go_wp2
   go_quiet (fail)
   go_wp2
   go_quiet (fail)
   go_wp2
   go_ret
   refine ⟨?_,⟨a+n,?_,by omega,?_⟩,((Kept.refl w (fun k=>k=p)).drewN _).setCell (p:=⟨p,_,none⟩) (.inl rfl) _⟩
   ·rw [drop_take_mk,HR.out]; rfl
   ·have hb':∀ k,(w.drewN k).heap[p]?=_:=fun _=>HB.out
    refine (blk_set (hb' _) 1 _).trans ?_
    simp
   ·simp [HR.out]
 ·have h0':(s.err == 0)=false:=by simpa using h0
  have e1:takeN n s=([],s):=by unfold takeN; rw [if_pos h0]
  rw [e1]
  have H0:=lh h0
  clear h0 hl e1
  go_enter Tryz.func295,Tryz.ntmps295
  go_wp2
  go_ret
  exact ⟨rfl,RMoved.refl HW.out⟩
end Go.Proofs.YtogkkfdkeefjnaaGreatDoor.Codec
