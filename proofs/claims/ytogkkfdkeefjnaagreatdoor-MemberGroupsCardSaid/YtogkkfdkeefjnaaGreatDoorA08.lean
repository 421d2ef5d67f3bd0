/-
  Encode and Decode at all types: what a codec's put writes into a new writer, what its get reads out of a new reader. The codecs of flags and texts, walked. The codec of texts, walked. The codec of lists, written, walked. The codec of lists, read, walked. The codec of lists, made. Records: parts that are found by a call; their codec, written and read, walked. Records, written and read, walked. What codecs do to bytes, plainly: what is written is read as itself, what is read is what would be written, no beginning of it is read. What codecs do to bytes, plainly: what is written is read as itself, what is read is what would be written, no beginning of it is read. Decimal numerals, plainly. A journal's records as bytes, plainly: framed, read one by one. No program's text. Rows in memory, copied and kept; what numbers' and texts' codecs hold.
-/
import Derived.Test.YtogkkfdkeefjnaaGreatDoorA07
import Derived.Laws.Tables
import Derived.Test.YtogkkfdkeefjnaaGreatDoorA03
import Derived.Lib.ItoaNum
import Derived.Lib.ItoaLen
import Derived.Lib.AtoiTie
import Derived.Test.YtogkkfdkeefjnaaGreatDoorA01
namespace Go.Proofs.YtogkkfdkeefjnaaGreatDoor.Codec
open Go.RowKit Go.Proofs.YtogkkfdkeefjnaaGreatDoorBase Go.Proofs.YtogkkfdkeefjnaaGreatDoorLex2 Go.Proofs.YtogkkfdkeefjnaaGreatDoorNum
set_option linter.unusedVariables false
set_option maxRecDepth 100000
set_option linter.unusedSimpArgs false
def encR {α:Type} (c:Cod α) (x:α):ByteArray×Int :=
 let s:=c.put x ⟨[],0⟩
 if s.err=0 then (⟨s.out.toArray⟩,0) else (⟨#[]⟩,s.err)
def decE {α:Type} (c:Cod α) (d:ByteArray):Int :=
 let s:=(c.get ⟨d.data.toList,0⟩).2
 (if s.rest=[] then s else s.fail 21).err
theorem enc_start {α:Type} {W w:World} {pv gv:Value} {c:Cod α} {t:TypeId} {x:α} {v:Value} (hs:Same W w) (hv:c.rep (fun k=>k < w.heap.size) w x v) (hf:Fair c) :
  let w2:=(w.alloc (.cells #[pv,gv] t)).alloc (.cells #[.slice none 0 0,.int .i64 0] 190)
  Same W w2∧WriterAt w.heap.size w2 (w.heap.size+1) (fun k=>k=w.heap.size+1) ⟨[],0⟩∧c.rep (fun k=>k < w.heap.size) w2 x v∧Kept w w2 (fun _=>False):=by
 intro w2
 have hk:Kept w w2 (fun _=>False):=((Kept.refl w _).alloc _).alloc _
 refine ⟨hs.kept hk (fun _ h=>h.elim),⟨.slice none 0 0,heap_alloc2_new _ _ _,by omega,?_,World.ownsRow_nil _ _ _ _,?_⟩,hf.keep hv (fun k hk1 _=>hk.block k hk1 (fun h=>h)),hk⟩
 ·exact hk.size
 ·intro k; simp [Value.ownBlock]
set_option maxHeartbeats 1600000 in
theorem encode_str {α:Type} (W:World) (cv:Value) (c:Cod α) (x:α) (v:Value) (w:World) (hc:IsCodec W cv c) (hf:Fair c) (hs:Same W w) (hv:c.rep (fun k=>k < w.heap.size) w x v) (hr:WRoom ⟨[],0⟩ (c.cost x)) :
  Calls Tryz.prog 154 #[cv,v] w fun r w'=>r=.returned (.tuple #[.string (encR c x).1,.int .i64 (encR c x).2])∧Kept w w' (fun _=>False):=by
 obtain ⟨pv,gv,rfl,⟨f,caps,rfl,he,hp⟩,_⟩:=hc
 obtain ⟨s1,s2,s3,s4⟩:=enc_start (pv:=.func (.func f) #[] caps) (gv:=gv) (t:=363) hs hv hf
 unfold Proofs.Enters at he
 have P:=hp _ _ _ _ _ _ _ hs.1 s1 s3 s2 hr
 obtain ⟨s',hs'⟩:∃ s',c.put x ⟨[],0⟩=s':=⟨_,rfl⟩
 have HE:Hid (encR c x=if s'.err=0 then (⟨s'.out.toArray⟩,0) else (⟨#[]⟩,s'.err)):=by rw [← hs']; exact lh rfl
 rw [hs'] at P
 have PP:=lh P
 have K4:=lh s4
 clear hp hs hv hf hr s1 s2 s3 s4 hs' P
 go_enter Tryz.func154,Tryz.ntmps154
 go_wp2_with (fail)
 refine PP.out.mono ?_
 rintro e w3 ⟨rfl,hm⟩
 obtain ⟨F',⟨sv,hb,hp,hbs,ho,hF⟩,_,hk⟩:=hm
 have c0:=cellOf (j:=0) hb
 have c1:=cellOf (j:=1) hb
 simp at c0 c1
 have qc:=run_convert_own (P:=Tryz.prog) w3 130 9 5 w.heap.size _ sv s'.out elemByte.under underU8 underStr ho
 have KK:=lh hk
 clear hb hp hbs ho hF hk
 by_cases herr:s'.err=0
 ·have HE':=lh herr
  rw [herr] at c1
  clear herr
  go_wp2
  go_ret2
  rw [HE.out,if_pos HE'.out]
  exact ⟨rfl,K4.out.trans KK.out fun k hk=>.inr (by omega)⟩
 ·have q0:(s'.err == 0)=false:=by simpa using herr
  have q1:decide (s'.err=0)=false:=by simpa using herr
  have HE':=lh herr
  obtain ⟨er,hee⟩:∃ er,s'.err=er:=⟨_,rfl⟩
  rw [hee] at q0 q1 c1
  have HEE:=lh hee
  clear herr hee qc c0
  go_wp2
  go_quiet (fail)
  go_wp2
  go_ret2
  rw [HE.out,if_neg HE'.out,HEE.out]
  exact ⟨rfl,(K4.out.trans KK.out fun k hk=>.inr (by omega)).drewN _⟩
theorem dec_start {W w:World} {pv gv:Value} {t:TypeId} {d:ByteArray} (hs:Same W w) :
  let w2:=(w.alloc (.cells #[pv,gv] t)).alloc (.cells #[.string d,.int .i64 0,.int .i64 0] 140)
  Same W w2∧ReaderAt w2 (w.heap.size+1) d ⟨d.data.toList,0⟩∧Kept w w2 (fun _=>False):=by
 intro w2
 have hk:Kept w w2 (fun _=>False):=((Kept.refl w _).alloc _).alloc _
 exact ⟨hs.kept hk (fun _ h=>h.elim),⟨0,heap_alloc2_new _ _ _,Nat.zero_le _,rfl⟩,hk⟩
set_option maxHeartbeats 1600000 in
theorem decode_int {α:Type} (W:World) (cv:Value) (c:Cod α) (d:ByteArray) (w:World) (hc:IsCodec W cv c) (hf:Fair c) (hs:Same W w) (hd:DSize d) :
  Calls Tryz.prog 161 #[cv,.string d] w fun r w'=>Kept w w' (fun _=>False)∧((decE c d≠0∧r=.returned (.tuple #[(.int .i64 0),.int .i64 (decE c d)])) ∨
   (decE c d=0∧∃ v,r=.returned (.tuple #[v,.int .i64 0])∧c.rep (fun k=>w.heap.size≤k∧k < w'.heap.size) w' (c.get ⟨d.data.toList,0⟩).1 v)):=by
 obtain ⟨pv,gv,rfl,_,⟨f,caps,rfl,he,hp⟩⟩:=hc
 unfold Proofs.Enters at he
 obtain ⟨s1,s2,s4⟩:=dec_start (pv:=pv) (gv:=.func (.func f) #[] caps) (t:=172) (d:=d) hs
 have P:=hp _ _ _ _ (Nat.le_succ_of_le hs.1) s1 s2 hd
 obtain ⟨x,s',hs'⟩:∃ x s',c.get ⟨d.data.toList,0⟩=(x,s'):=⟨_,_,rfl⟩
 have HE:Hid (decE c d=(if s'.rest=[] then s' else s'.fail 21).err):=by unfold decE; rw [hs']; exact lh rfl
 rw [hs'] at P ⊢
 have PP:=lh P
 have K4:=lh s4
 have HF:=lh hf
 clear hp hs hf s1 s2 s4 hs' P hd
 go_enter Tryz.func161,Tryz.ntmps161
 go_wp2_with (fail)
 refine PP.out.mono ?_
 rintro e w3 ⟨v,rfl,hm,hv⟩
 have hm':=hm
 obtain ⟨⟨a,hb,ha,hr⟩,hk⟩:=hm'
 have c1:=cellOf (j:=1) hb
 have c2:=cellOf (j:=2) hb
 simp at c1 c2
 have KK:=lh (K4.out.trans hk fun k hk=>.inr (by omega))
 have HM:=lh hm
 have HV:Hid (c.rep (fun k=>w.heap.size≤k∧k < w3.heap.size) w3 x v):=lh (HF.out.mono (fun k hk=>⟨by have:=hk.1; simp at this; omega,hk.2⟩) hv)
 have hl:s'.rest=[] ↔ a=d.size:=by
  rw [hr,← List.length_eq_zero_iff,List.length_drop,len_data]
  omega
 have HL:=lh hl
 clear hm hv hk hr hl hb
 by_cases ha2:a=d.size
 ·have hrest:=HL.out.2 ha2
  have q1:¬ (a:Int) < d.size:=by omega
  by_cases herr:s'.err=0
  ·have e1:decE c d=0:=by rw [HE.out,if_pos hrest,herr]
   have E1:=lh e1
   rw [herr] at c2
   clear e1 herr hrest ha2
   go_wp2
   go_ret2
   exact ⟨KK.out,.inr ⟨E1.out,v,rfl,HV.out⟩⟩
  ·have e1:decE c d=s'.err:=by rw [HE.out,if_pos hrest]
   have e2:decE c d≠0:=by rw [e1]; exact herr
   have q2:(s'.err == 0)=false:=by simpa using herr
   have q3:decide (s'.err=0)=false:=by simpa using herr
   have E1:=lh e1
   have E2:=lh e2
   clear e1 e2 herr hrest ha2
   go_wp2
   go_quiet (fail)
   go_wp2
   go_ret2
   refine ⟨KK.out.drewN _,.inl ⟨E2.out,?_⟩⟩
   rw [E1.out]; rfl
 ·have hrest:s'.rest≠[]:=fun h=>ha2 (HL.out.1 h)
  have q1:(a:Int) < d.size:=by omega
  have e1:decE c d=(s'.fail 21).err:=by rw [HE.out,if_neg hrest]
  have e2:(s'.fail 21).err≠0:=by unfold RS.fail; split <;> simp_all
  have q2:((s'.fail 21).err == 0)=false:=by simpa using e2
  have q3:decide ((s'.fail 21).err=0)=false:=by simpa using e2
  have E1:=lh e1
  have E2:=lh e2
  clear e1 e2 hrest ha2
  go_wp2_with (fail)
  refine (rfail_any _ d _ 21 _ HM.out.1).mono ?_
  rintro e w4 ⟨rfl,hm4⟩
  have k2:=hm4.1.err
  have KK4:=lh (KK.out.trans hm4.2 fun k hk=>.inr (by omega))
  clear hm4
  go_wp2
  go_quiet (fail)
  go_wp2
  go_ret2
  refine ⟨KK4.out.drewN _,.inl ⟨by rw [E1.out]; exact E2.out,?_⟩⟩
  rw [E1.out]; rfl
end Go.Proofs.YtogkkfdkeefjnaaGreatDoor.Codec
namespace Go.Proofs.YtogkkfdkeefjnaaGreatDoor.Codec
open Go.RowKit Go.Proofs.YtogkkfdkeefjnaaGreatDoorBase Go.Proofs.YtogkkfdkeefjnaaGreatDoorLex2 Go.Proofs.YtogkkfdkeefjnaaGreatDoorNum
set_option linter.unusedVariables false
set_option maxRecDepth 100000
set_option linter.unusedSimpArgs false
def flagC:Cod Bool where
 rep:=fun _ _ x v=>v=.bool x
 put:=fun x s=>putN (if x then 1 else 0) s
 cost:=fun _=>8
 get:=fun s=>let r:=getN s; (r.1 == 1,if 1 < r.1 then r.2.fail 21 else r.2)
theorem flagC_fair:Fair flagC:=by
 refine ⟨fun _ h=>h,fun h _=>h,fun x s=>?_⟩
 simp only [flagC]
 exact putN_len _ _
theorem flag_put (B p:Nat) (F:Nat→Prop) (s:WS) (w:World) (x:Bool) (h:WriterAt B w p F s) (hr:WRoom s 8) :
  Calls Tryz.prog 271 #[.pointer (some ⟨p,0,none⟩),.bool x] w fun r w'=>r=.returned (.tuple #[])∧WMoved B w w' p F (flagC.put x s):=by
 have P0:=lh (put_any B p F s 0 w h (by omega) hr)
 have P1:=lh (put_any B p F s 1 w h (by omega) hr)
 clear h hr
 cases x
 ·go_enter Tryz.func271,Tryz.ntmps271
  go_wp2_with (fail)
  refine P0.out.mono ?_
  rintro e w1 ⟨rfl,hm⟩
  have HM:=lh hm
  clear hm
  go_wp2
  go_end0
  exact ⟨rfl,HM.out⟩
 ·go_enter Tryz.func271,Tryz.ntmps271
  go_wp2_with (fail)
  refine P1.out.mono ?_
  rintro e w1 ⟨rfl,hm⟩
  have HM:=lh hm
  clear hm
  go_wp2
  go_end0
  exact ⟨rfl,HM.out⟩
theorem beq_one (n:Nat):((n:Int) == 1)=(n == 1):=by
 by_cases h:n=1
 ·subst h; rfl
 ·have h2:(n:Int)≠1:=by omega
  rw [beq_eq_false_iff_ne.2 h,beq_eq_false_iff_ne.2 h2]
theorem flag_get (p:Nat) (d:ByteArray) (s:RS) (w:World) (h:ReaderAt w p d s) (hd:DSize d) :
  Calls Tryz.prog 272 #[.pointer (some ⟨p,0,none⟩)] w fun r w'=>∃ v,r=.returned v∧RMoved w w' p d (flagC.get s).2∧v=.bool (flagC.get s).1:=by
 have G:=getN_any p d s w h hd
 obtain ⟨n,s1,hg⟩:∃ n s1,getN s=(n,s1):=⟨_,_,rfl⟩
 have E:Hid (flagC.get s=(n == 1,if 1 < n then s1.fail 21 else s1)):=by
  have h0:flagC.get s=((getN s).1 == 1,if 1 < (getN s).1 then (getN s).2.fail 21 else (getN s).2):=rfl
  rw [h0,hg]; exact lh rfl
 rw [hg] at G
 have GG:=lh G
 clear G hg h hd
 by_cases h1:1 < n
 ·have q1:(1:Int) < n:=by omega
  have H1:=lh h1
  clear h1
  go_enter Tryz.func272,Tryz.ntmps272
  go_wp2_with (fail)
  refine GG.out.mono ?_
  rintro e w1 ⟨rfl,hm⟩
  have HM:=lh hm
  clear hm
  go_wp2_with (fail)
  refine (rfail_any p d _ 21 _ HM.out.1).mono ?_
  rintro e w2 ⟨rfl,hm⟩
  have HM2:=lh hm
  clear hm
  go_wp2
  go_ret
  rw [E.out,if_pos H1.out]
  refine ⟨_,rfl,HM.out.trans HM2.out,?_⟩
  show Value.bool ((n:Int) == 1)=Value.bool (n == 1)
  rw [beq_one]
 ·have q1:¬ (1:Int) < n:=by omega
  have H1:=lh h1
  clear h1
  go_enter Tryz.func272,Tryz.ntmps272
  go_wp2_with (fail)
  refine GG.out.mono ?_
  rintro e w1 ⟨rfl,hm⟩
  have HM:=lh hm
  clear hm
  go_wp2
  go_ret
  rw [E.out,if_neg H1.out]
  refine ⟨_,rfl,HM.out,?_⟩
  show Value.bool ((n:Int) == 1)=Value.bool (n == 1)
  rw [beq_one]
end Go.Proofs.YtogkkfdkeefjnaaGreatDoor.Codec
namespace Go.Proofs.YtogkkfdkeefjnaaGreatDoor.Codec
open Go.RowKit Go.Proofs.YtogkkfdkeefjnaaGreatDoorBase Go.Proofs.YtogkkfdkeefjnaaGreatDoorLex2 Go.Proofs.YtogkkfdkeefjnaaGreatDoorNum
set_option linter.unusedVariables false
set_option maxRecDepth 100000
set_option linter.unusedSimpArgs false
def textC (m:Nat):Cod ByteArray where
 rep:=fun _ _ x v=>v=.string x
 put:=fun x s=>if m < x.size then s.fail 22 else { putN x.size s with out:=(putN x.size s).out ++ x.data.toList }
 cost:=fun x=>8+x.size
 get:=fun s=>let r:=countN m s; (⟨(takeN r.1 r.2).1.toArray⟩,(takeN r.1 r.2).2)
theorem textC_fair (m:Nat):Fair (textC m):=by
 refine ⟨fun _ h=>h,fun h _=>h,fun x s=>?_⟩
 simp only [textC]
 split
 ·rw [wfail_len]; omega
 ·have:=putN_len x.size s
  simp only [List.length_append,len_data]
  omega
theorem text_put_over (B p b m:Nat) (F:Nat→Prop) (s:WS) (w:World) (x:ByteArray) (h:WriterAt B w p F s) (hb:w.cell? ⟨b,0,none⟩=some (.int .i64 m)) (ho:m < x.size) :
  Calls Tryz.prog 293 #[.pointer (some ⟨p,0,none⟩),.string x,.pointer (some ⟨b,0,none⟩)] w fun r w'=>r=.returned (.tuple #[])∧WMoved B w w' p F (s.fail 22):=by
 have q:(m:Int) < x.size:=by omega
 have HW:=lh h
 clear h ho
 go_enter Tryz.func293,Tryz.ntmps293
 go_wp2_with (fail)
 refine (wfail_any B p F s 22 _ HW.out).mono ?_
 rintro e w1 ⟨rfl,hm⟩
 have HM:=lh hm
 clear hm
 go_wp2
 go_returns
 exact ⟨rfl,HM.out⟩
set_option maxHeartbeats 1600000 in
theorem text_put_fits (B p b m:Nat) (F:Nat→Prop) (s:WS) (w:World) (x:ByteArray) (h:WriterAt B w p F s) (hb:w.cell? ⟨b,0,none⟩=some (.int .i64 m)) (ho:¬ m < x.size) (hm:m≤1048576) (hr:WRoom s (8+x.size)) :
  Calls Tryz.prog 293 #[.pointer (some ⟨p,0,none⟩),.string x,.pointer (some ⟨b,0,none⟩)] w fun r w'=>r=.returned (.tuple #[])∧WMoved B w w' p F { putN x.size s with out:=(putN x.size s).out ++ x.data.toList }:=by
 have q:¬ (m:Int) < x.size:=by omega
 unfold WRoom at hr
 have P:=lh (put_any B p F s x.size w h (by omega) (by unfold WRoom; omega))
 have hl:=putN_len x.size s
 obtain ⟨o,hoo⟩:∃ o,(putN x.size s).out=o:=⟨_,rfl⟩
 have hby:((o.length+x.size)+(o.length+x.size) / 4+192) * 1≤281474976710656:=by rw [hoo] at hl; omega
 rw [hoo]
 have HO:=lh hoo
 have HBy:=lh hby
 clear h ho hr hl hoo hby hm
 go_enter Tryz.func293,Tryz.ntmps293
 go_wp2_with (fail)
 refine P.out.mono ?_
 rintro e w1 ⟨rfl,hm⟩
 obtain ⟨F1,⟨sv,hb1,hp,hbs,hs,hF⟩,hF1,hk1⟩:=hm
 have hso:s.out ++ encN x.size=o:=HO.out
 simp only at hb1 hs
 rw [hso] at hs
 obtain ⟨sa,sc,rfl,hsc,hsm⟩:=own_slice hs
 have c0:=cellOf (j:=0) hb1
 simp at c0
 have hlp:=own_ne hs hb1 (by decide)
 have H1:=lh hb1
 have H4:=lh hF
 have H5:=lh hF1
 have H6:=lh hk1
 clear hb1 hF hF1 hk1
 go_wp2_with (at_builtin; refine wpList_append_ownS _ rfl (.tmp 19) (.tmp 20) 130 9 rfl B 5 (.int .u8 0) 1 1 elemByte (.slice sa o.length sc) o.length (bc o) rfl hs (.string x) x.size (bc x.data.toList) rfl (Src.ofString _ underStr x) HBy.out hbs ?go)
 case go=>
  intro v' w2 o1 g1 b1
  obtain ⟨A',c',rfl,hc1,hc2⟩:=own_slice o1
  have hb2:=lh (blk_grown H1.out g1 (fun e=>hlp e.symm))
  have hp2:=own_ne o1 hb2.out (by decide)
  have k0:=cellOf (j:=0) hb2.out
  simp at k0
  have e0:=freeOf (j:=0) hb2.out
  have G1:=lh g1
  have B1:=lh b1
  clear g1 b1
  go_wp2
  go_end0
  refine ⟨rfl,WMoved.trans H5.out H6.out ⟨fun k=>k=p∨(Value.slice A' (o.length+x.size) c').ownBlock=some k,⟨.slice A' (o.length+x.size) c',?_,hp,?_,?_,fun k=>Iff.rfl⟩,?_,?_⟩⟩
  ·have:=blk_set hb2.out 0 (.slice A' (o.length+x.size) c')
   simpa [putN] using this
  ·have:=G1.out.size
   simp [World.setCell] at this ⊢
   omega
  ·simp only [List.length_append,len_data,bc_append]
   exact own_far o1 hp2 _
  ·rintro k (rfl | hk)
   ·exact .inl ((H4.out k).2 (.inl rfl))
   ·rcases B1.out k hk with h | h
    ·exact .inl ((H4.out k).2 (.inr h))
    ·exact .inr h
  ·have hFp:F1 p:=(H4.out p).2 (.inl rfl)
   refine Kept.setCell (Kept.grown (Kept.refl w1 F1) G1.out ?_) (.inl hFp) _
   intro k hk
   exact .inl ((H4.out k).2 (.inr hk))
theorem text_get (p b m:Nat) (d:ByteArray) (s:RS) (w:World) (h:ReaderAt w p d s) (hd:DSize d) (hb:w.cell? ⟨b,0,none⟩=some (.int .i64 m)) (hbp:b≠p) :
  Calls Tryz.prog 294 #[.pointer (some ⟨p,0,none⟩),.pointer (some ⟨b,0,none⟩)] w fun r w'=>r=.returned (.string ((textC m).get s).1)∧RMoved w w' p d ((textC m).get s).2:=by
 have C:=lh (count_any p d s m w h hd)
 have hn:(countN m s).1 < 4611686018427387904:=by
  unfold countN
  have:=getN_le s
  simp only
  (repeat' split) <;> omega
 have HD:=lh hd
 have HN:=lh hn
 clear h hd hn
 go_enter Tryz.func294,Tryz.ntmps294
 go_wp2_with (fail)
 refine C.out.mono ?_
 rintro e w1 ⟨rfl,hm⟩
 have HM:=lh hm
 clear hm
 go_wp2_with (fail)
 refine (take_any p d _ _ _ HM.out.1 HD.out HN.out).mono ?_
 rintro e w2 ⟨rfl,hm⟩
 have HM2:=lh hm
 clear hm
 go_wp2
 go_ret
 exact ⟨rfl,HM.out.trans HM2.out⟩
theorem text_codec (W:World) (b m:Nat) (hm:m≤1048576) (hb:W.cell? ⟨b,0,none⟩=some (.int .i64 m)) (hl:b < W.heap.size) :
  IsCodec W (.agg #[.func (.func 293) #[] #[.pointer (some ⟨b,0,none⟩)],.func (.func 294) #[] #[.pointer (some ⟨b,0,none⟩)]]) (textC m):=by
 have hc:∀ w,Same W w→w.cell? ⟨b,0,none⟩=some (.int .i64 m):=fun w hs=>by
  rw [← hb]
  simp only [World.cell?,hs.2 b hl]
 refine ⟨_,_,rfl,⟨_,_,rfl,Proofs.enters_of Tryz.func293 (by kernel_rfl) rfl,?_⟩,⟨_,_,rfl,Proofs.enters_of Tryz.func294 (by kernel_rfl) rfl,?_⟩⟩
 ·intro B p F s w x v hB hw hv h hr
  have hv':v=.string x:=hv
  subst hv'
  show Calls Tryz.prog _ #[_,_,_] w _
  by_cases ho:m < x.size
  ·have e:(textC m).put x s=s.fail 22:=if_pos ho
   rw [e]
   exact text_put_over B p b m F s w x h (hc w hw) ho
  ·have e:(textC m).put x s={ putN x.size s with out:=(putN x.size s).out ++ x.data.toList }:=if_neg ho
   rw [e]
   exact text_put_fits B p b m F s w x h (hc w hw) ho hm hr
 ·intro p d s w hp hw h hd
  show Calls Tryz.prog _ #[_,_] w _
  refine (text_get p b m d s w h hd (hc w hw) (by omega)).mono ?_
  rintro r w' ⟨rfl,hm⟩
  exact ⟨_,rfl,hm,rfl⟩
theorem text_any (m:Int) (w:World):Calls Tryz.prog 155 #[.int .i64 m] w fun r w'=>∃ cv,r=.returned cv∧IsCodec w' cv (textC (bnd m))∧Kept w w' (fun _=>False):=by
 go_enter Tryz.func155,Tryz.ntmps155
 go_wp2_with (go_at_call 162; refine (bound_any m _).mono ?_; rintro e w1 ⟨rfl,rfl⟩)
 refine bodyPost_ret (results_cell_row rfl _ _ _ _ _ _ _ rfl (heap_alloc2_new _ _ _) Tryz.underlying363 rfl (by kernel_rfl)) rfl ?_
 refine ⟨_,rfl,text_codec _ _ _ (bnd_le m) ?_ ?_,((Kept.refl _ _).alloc _).alloc _⟩
 ·exact cellOf (j:=0) (Below.heap_alloc _ _ _ (by simp) |>.trans (heap_alloc_new w _))
 ·simp; omega
end Go.Proofs.YtogkkfdkeefjnaaGreatDoor.Codec
namespace Go.Proofs.YtogkkfdkeefjnaaGreatDoor.Codec
open Go.RowKit Go.Proofs.YtogkkfdkeefjnaaGreatDoorBase Go.Proofs.YtogkkfdkeefjnaaGreatDoorLex2 Go.Proofs.YtogkkfdkeefjnaaGreatDoorNum
set_option linter.unusedVariables false
set_option maxRecDepth 100000
set_option linter.unusedSimpArgs false
def getL {α:Type} (get:RS→α×RS):Nat→RS→List α×RS
 | 0,s=>([],s)
 | n+1,s=>if s.err≠0 then ([],s) else ((get s).1 :: (getL get n (get s).2).1,(getL get n (get s).2).2)
/-- A row of one-cell elements. -/
def RowRep {α:Type} (c:Cod α) (G:Nat→Prop) (w:World) (l:List α) (v:Value):Prop :=
 ∃ A n cp,v=.slice A n cp∧n=l.length∧n≤maxLen∧(0 < n→∃ b off,A=some ⟨b,off,none⟩∧G b∧b < w.heap.size∧∀ k x,l[k]?=some x→∃ u,w.cell? ⟨b,off+k,none⟩=some u∧c.rep G w x u)
def costs {α:Type} (c:Cod α) (l:List α):Nat:=(l.map c.cost).sum
def puts {α:Type} (c:Cod α) (l:List α) (s:WS):WS:=l.foldl (fun s x=>c.put x s) s
def listC {α:Type} (c:Cod α) (m:Nat):Cod (List α) where
 rep:=RowRep c
 put:=fun l s=>if m < l.length then s.fail 22 else puts c l (putN l.length s)
 cost:=fun l=>8+costs c l
 get:=fun s=>getL c.get (countN m s).1 (countN m s).2
section
variable {α : Type} {c : Cod α}
theorem puts_len (hf:Fair c):∀ (l:List α) (s:WS),(puts c l s).out.length≤s.out.length+costs c l
 | [],s=>by simp [puts,costs]
 | x :: l,s=>by
  have h1:=puts_len hf l (c.put x s)
  have h2:=hf.len x s
  simp only [puts,List.foldl_cons,costs,List.map_cons,List.sum_cons] at h1 ⊢
  omega
theorem puts_take {l:List α} {k:Nat} {x:α} (h:l[k]?=some x) (s:WS):puts c (l.take (k+1)) s=c.put x (puts c (l.take k) s):=by
 rw [List.take_add_one,h]
 simp [puts,List.foldl_append]
theorem costs_take {l:List α} {k:Nat} {x:α} (h:l[k]?=some x):costs c (l.take k)+c.cost x≤costs c l:=by
 have hk:k < l.length:=(List.getElem?_eq_some_iff.1 h).1
 have e:l=l.take k ++ x :: l.drop (k+1):=by
  conv=>lhs; rw [← List.take_append_drop k l]
  rw [List.drop_eq_getElem_cons hk,(List.getElem?_eq_some_iff.1 h).2]
 conv=>rhs; rw [e]
 simp only [costs,List.map_append,List.map_cons,List.sum_append,List.sum_cons]
 omega
theorem listC_fair (hf:Fair c) (m:Nat):Fair (listC c m):=by
 refine ⟨?_,?_,?_⟩
 ·rintro G G' w x v hG ⟨A,n,cp,rfl,hn,hm,hc⟩
  refine ⟨A,n,cp,rfl,hn,hm,fun h0=>?_⟩
  obtain ⟨b,off,hA,hb,hl,hx⟩:=hc h0
  refine ⟨b,off,hA,hG b hb,hl,fun k x hk=>?_⟩
  obtain ⟨u,hu,hr⟩:=hx k x hk
  exact ⟨u,hu,hf.mono hG hr⟩
 ·rintro G w w' x v ⟨A,n,cp,rfl,hn,hm,hc⟩ hk
  refine ⟨A,n,cp,rfl,hn,hm,fun h0=>?_⟩
  obtain ⟨b,off,hA,hb,hl,hx⟩:=hc h0
  have hbb:=hk b hl hb
  refine ⟨b,off,hA,hb,?_,fun k x hk2=>?_⟩
  ·have:w'.heap[b]?=some w.heap[b]:=by rw [hbb]; exact Array.getElem?_eq_getElem hl
   exact blk_lt this
  ·obtain ⟨u,hu,hr⟩:=hx k x hk2
   refine ⟨u,?_,hf.keep hr hk⟩
   rw [← hu]; simp only [World.cell?,hbb]
 ·intro x s
  simp only [listC]
  split
  ·rw [wfail_len]; omega
  ·have h1:=puts_len hf x (putN x.length s)
   have h2:=putN_len x.length s
   omega
end
theorem list_put_over_int {α:Type} (c:Cod α) (B p b m cb:Nat) (F:Nat→Prop) (s:WS) (w:World) (l:List α) (v:Value) (h:WriterAt B w p F s) (hv:RowRep c (fun k=>k < B) w l v) (hb:w.cell? ⟨b,0,none⟩=some (.int .i64 m)) (ho:m < l.length) :
  Calls Tryz.prog 181 #[.pointer (some ⟨p,0,none⟩),v,.pointer (some ⟨b,0,none⟩),.pointer (some ⟨cb,0,none⟩)] w fun r w'=>r=.returned (.tuple #[])∧WMoved B w w' p F (s.fail 22):=by
 obtain ⟨A,n,cp,rfl,rfl,hm,_⟩:=hv
 have q:(m:Int) < l.length:=by omega
 have HW:=lh h
 clear h ho
 go_enter Tryz.func181,Tryz.ntmps181
 go_wp2_with (fail)
 refine (wfail_any B p F s 22 _ HW.out).mono ?_
 rintro e w1 ⟨rfl,hm⟩
 have HM:=lh hm
 clear hm
 go_wp2
 go_returns
 exact ⟨rfl,HM.out⟩
set_option maxHeartbeats 1600000 in
theorem list_put_fits_int {α:Type} (c:Cod α) (hf:Fair c) (W:World) (pv gv:Value) (T:TypeId) (hp:PutOk W pv c) (B p b m cb:Nat) (F:Nat→Prop) (s:WS) (w:World) (l:List α) (v:Value) (hB:W.heap.size≤B) (hw:Same W w) (h:WriterAt B w p F s) (hv:RowRep c (fun k=>k < B) w l v)
  (hb:W.cell? ⟨b,0,none⟩=some (.int .i64 m)) (hbl:b < W.heap.size) (hcb:W.heap[cb]?=some (.cells #[pv,gv] T (0,0))) (ho:¬ m < l.length) (hm:m≤1048576) (hr:WRoom s (8+costs c l)) :
  Calls Tryz.prog 181 #[.pointer (some ⟨p,0,none⟩),v,.pointer (some ⟨b,0,none⟩),.pointer (some ⟨cb,0,none⟩)] w fun r w'=>r=.returned (.tuple #[])∧WMoved B w w' p F (puts c l (putN l.length s)):=by
 obtain ⟨f,caps,rfl,he,hp⟩:=hp
 unfold Proofs.Enters at he
 have HV:=lh hv
 obtain ⟨A,n,cp,rfl,rfl,hmx,hc⟩:=hv
 have q:¬ (m:Int) < l.length:=by omega
 have hll:l.length≤1048576:=by omega
 have c0:w.cell? ⟨b,0,none⟩=some (.int .i64 m):=by rw [← hb]; simp only [World.cell?,hw.2 b hbl]
 unfold WRoom at hr
 have P:=lh (put_any B p F s l.length w h (by omega) (by unfold WRoom; omega))
 have HWA:=lh h
 have HW:=lh hw
 have HR:=lh hr
 have HC:=lh hc
 have HP:=lh hp
 have HCB:=lh hcb
 have HF:=lh hf
 have HBB:=lh hB
 clear h ho hr hp hcb hc hb hbl hw hm hf hB
 go_enter Tryz.func181,Tryz.ntmps181
 go_wp2_with (fail)
 refine P.out.mono ?_
 rintro e w1 ⟨rfl,hm⟩
 have HM:Hid (WMoved B w w1 p F (putN l.length s)):=lh hm
 clear hm
 go_wp2
 go_loopw [20] (fun iv wr=>∃ k:Nat,k≤l.length∧iv=.int .i64 k∧WMoved B w wr p F (puts c (l.take k) (putN l.length s))) (fun iv _=>(l.length - intOf iv).toNat)
 case atStart=>exact ⟨0,Nat.zero_le _,rfl,HM.out⟩
 case round=>
  obtain ⟨k,hk,rfl,hm⟩:=hrel
  by_cases hlast:k=l.length
  ·subst hlast
   rw [List.take_length] at hm
   have HM2:=lh hm
   clear hm
   go_wp2
   go_end0
   exact ⟨rfl,HM2.out⟩
  ·have hkl:k < l.length:=by omega
   have q1:(k:Int) < l.length:=by omega
   obtain ⟨x,hx⟩:∃ x,l[k]?=some x:=⟨_,List.getElem?_eq_getElem hkl⟩
   obtain ⟨B0,off,rfl,hB0,hBl,hxs⟩:=HC.out (by omega)
   obtain ⟨u,hu,hru⟩:=hxs k x hx
   obtain ⟨F1,hf1,hF1,hk1⟩:=hm
   have hsm:Same W wr:=HW.out.kept hk1 (fun j hj=>Nat.le_trans HBB.out (by first | exact WriterAt.base_le HWA.out j hj))
   have hFB:∀ j,j < B→¬ F j:=fun j hj hf=>by have:=WriterAt.base_le HWA.out j hf; omega
   have hur:wr.cell? ⟨B0,off+k,none⟩=some u:=by
    rw [← hu]; simp only [World.cell?,hk1.block B0 hBl (hFB B0 hB0)]
   have hrr:c.rep (fun k=>k < B) wr x u:=HF.out.keep hru (fun j hj hjB=>hk1.block j hj (hFB j hjB))
   have c5:=cellOf (j:=0) (hsm.blk HCB.out)
   simp at c5
   have room:WRoom (puts c (l.take k) (putN l.length s)) (c.cost x):=by
    unfold WRoom
    have h1:=puts_len HF.out (l.take k) (putN l.length s)
    have h2:=putN_len l.length s
    have h3:=costs_take (c:=c) hx
    have h4:=HR.out
    omega
   have P2:=lh (HP.out B p F1 _ wr x u HBB.out hsm hrr hf1 room)
   have e2:=puts_take (c:=c) hx (putN l.length s)
   have E2:=lh e2
   have H5:=lh hF1
   have H6:=lh hk1
   clear hxs hu hru hf1 hF1 hk1 hsm hFB hrr room e2 hx
   go_wp2_with (fail)
   refine P2.out.mono ?_
   rintro e w2 ⟨rfl,hm2⟩
   have HM3:=lh hm2
   clear hm2
   go_wp2
   go_roundw
   case rel=>
    refine ⟨k+1,by omega,by go_num,?_⟩
    rw [E2.out]
    exact WMoved.trans H5.out H6.out HM3.out
   case measure=>simp [intOf]; omega
end Go.Proofs.YtogkkfdkeefjnaaGreatDoor.Codec
namespace Go.Proofs.YtogkkfdkeefjnaaGreatDoor.Codec
open Go.RowKit Go.Proofs.YtogkkfdkeefjnaaGreatDoorBase Go.Proofs.YtogkkfdkeefjnaaGreatDoorLex2 Go.Proofs.YtogkkfdkeefjnaaGreatDoorNum
set_option linter.unusedVariables false
set_option maxRecDepth 100000
set_option linter.unusedSimpArgs false
/-- What the loop has read. -/
structure GetRel {α:Type} (c:Cod α) (T:TypeId) (p:Nat) (d:ByteArray) (res:List α×RS) (m:Nat) (w:World) (vv iv:Value) (wr:World):Prop where
 it:∃ (j:Nat) (xs:List α) (s:RS) (us:List Value) (G:Nat→Prop),iv=.int .i64 j∧xs.length+j≤m∧ReaderAt wr p d s∧Kept w wr (fun k=>k=p)∧wr.ownsRow w.heap.size T 1 vv xs.length us ∧
  (∀ (i:Nat) (x:α),xs[i]?=some x→∃ u,us[i]?=some u∧c.rep G wr x u)∧(∀ k,G k→w.heap.size≤k∧k < wr.heap.size∧vv.ownBlock≠some k) ∧
  res=(xs ++ (getL c.get j s).1,(getL c.get j s).2)
theorem getRel_end {α:Type} {c:Cod α} {T:TypeId} {w wr:World} {vv:Value} {xs:List α} {us:List Value} {G:Nat→Prop} (hf:Fair c)
  (ho:wr.ownsRow w.heap.size T 1 vv xs.length us) (hx:∀ (i:Nat) (x:α),xs[i]?=some x→∃ u,us[i]?=some u∧c.rep G wr x u) (hG:∀ k,G k→w.heap.size≤k∧k < wr.heap.size∧vv.ownBlock≠some k) (hm:xs.length≤1048576) :
  RowRep c (fun k=>w.heap.size≤k∧k < wr.heap.size) wr xs vv:=by
 rcases ho.2 with ⟨rfl,h0⟩ | ⟨g,cap,cur,rfl,hb,hg,hnc,hcm,hcs,htake⟩
 ·refine ⟨none,0,0,rfl,h0.symm,Nat.zero_le _,fun h=>absurd h (Nat.lt_irrefl 0)⟩
 ·refine ⟨_,_,_,rfl,rfl,by unfold maxLen; omega,fun _=>⟨g,0,rfl,⟨hb,blk_lt hg⟩,blk_lt hg,fun k x hk=>?_⟩⟩
  obtain ⟨u,hu,hr⟩:=hx k x hk
  refine ⟨u,?_,hf.mono (fun k hk=>⟨(hG k hk).1,(hG k hk).2.1⟩) hr⟩
  have:=ho.cells (g:=g) rfl k u hu
  rw [Addr.add_lit] at this
  exact this
theorem countN_le (m:Nat) (s:RS):(countN m s).1≤m:=by
 unfold countN
 simp only
 by_cases h:(m:Int) < ((getN s).1:Int)
 ·rw [if_pos h]
  have:((getN s).2.fail 22).err≠0:=by unfold RS.fail; split <;> simp_all
  rw [if_pos this]; omega
 ·rw [if_neg h]
  split <;> omega
theorem cells_one1 {v:Value} (h:v.oneCell'=true):v.cells=#[v]:=by cases v <;> first | rfl|(simp [Value.oneCell'] at h)
theorem own_grownA {w:World} {base:Nat} {e:TypeId} {size:Nat} {v:Value} {n:Nat} {xs:List Value} (h:w.ownsRow base e size v n xs) (o:Obj):(w.alloc o).ownsRow base e size v n xs:=h.alloc o
/-- One round more. -/
theorem getRel_step {α:Type} {c:Cod α} {T:TypeId} {p:Nat} {d:ByteArray} {res:List α×RS} {m j:Nat} {w wr w2 w3:World} {vv v' u:Value} {xs:List α} {x:α} {s3:RS} {us:List Value} {G:Nat→Prop} {o:Obj}
  (hf:Fair c) (hr:res=((xs ++ [x]) ++ (getL c.get j s3).1,(getL c.get j s3).2)) (hjm:xs.length+(j+1)≤m) (hlt:p < w.heap.size) (hm2:RMoved wr w2 p d s3) (hu:c.rep (fun k=>wr.heap.size≤k∧k < w2.heap.size) w2 x u)
  (ho:wr.ownsRow w.heap.size T 1 vv xs.length us) (hx:∀ (i:Nat) (x:α),xs[i]?=some x→∃ u,us[i]?=some u∧c.rep G wr x u) (hG:∀ k,G k→w.heap.size≤k∧k < wr.heap.size∧vv.ownBlock≠some k) (hk:Kept w wr (fun k=>k=p)) (hvp:vv.ownBlock≠some p)
  (o1:w3.ownsRow w.heap.size T 1 v' (xs.length+1) (us ++ [u])) (g1:(w2.alloc o).grownBy w3 vv.ownBlock) (b1:∀ g,v'.ownBlock=some g→vv.ownBlock=some g∨(w2.alloc o).heap.size≤g) :
  GetRel c T p d res m w v' (.int .i64 (j:Int)) w3:=by
 have hs1:=hk.size
 have hs2:=hm2.2.size
 have hs3:=g1.size
 have hal:(w2.alloc o).heap.size=w2.heap.size+1:=by simp
 have hvl:∀ g,vv.ownBlock=some g→g < wr.heap.size:=fun g hg=>(ho.lt g hg).2
 have K3:Kept wr w3 (fun k=>k=p∨vv.ownBlock=some k):=by
  refine Kept.grown ((hm2.2.mono (fun k hk=>.inl hk)).alloc o) g1 ?_
  intro k hk
  exact .inl (.inr hk)
 have hul:us.length=xs.length:=by simpa using ho.1
 refine ⟨j,xs ++ [x],s3,us ++ [u],fun k=>G k∨(wr.heap.size≤k∧k < w2.heap.size),rfl,by simp; omega,?_,?_,by simpa using o1,?_,?_,hr⟩
 ·obtain ⟨a,hb,ha,hra⟩:=hm2.1
  refine ⟨a,?_,ha,hra⟩
  rw [g1.block p (by omega) (fun e=>hvp e.symm),Below.heap_alloc _ _ _ (by omega)]
  exact hb
 ·refine Kept.grown (Kept.alloc (Kept.trans hk hm2.2 (fun k hk=>.inl hk)) o) g1 ?_
  intro k hk
  exact .inr (ho.lt k hk).1
 ·intro i y hi
  rcases Nat.lt_or_ge i xs.length with h | h
  ·rw [List.getElem?_append_left h] at hi
   obtain ⟨z,hz,hrz⟩:=hx i y hi
   refine ⟨z,by rw [List.getElem?_append_left (by omega)]; exact hz,?_⟩
   refine hf.mono (fun k hk=>.inl hk) (hf.keep hrz (fun k hk1 hGk=>K3.block k hk1 ?_))
   obtain ⟨h1,h2,h3⟩:=hG k hGk
   rintro (rfl | hk)
   ·omega
   ·exact h3 hk
  ·have hi2:i=xs.length:=by
    have:=(List.getElem?_eq_some_iff.1 hi).1
    simp at this
    omega
   subst hi2
   rw [List.getElem?_append_right (Nat.le_refl _)] at hi
   simp at hi
   subst hi
   refine ⟨u,by rw [List.getElem?_append_right (by omega),hul]; simp,?_⟩
   refine hf.mono (fun k hk=>.inr hk) (hf.keep hu (fun k hk1 hGk=>?_))
   have hne:some k≠vv.ownBlock:=fun e=>by
    have:=hvl k e.symm
    have:=hGk.1
    omega
   rw [g1.block k (by omega) hne,Below.heap_alloc _ _ _ hk1]
 ·rintro k (hGk | ⟨h1,h2⟩)
  ·obtain ⟨h1,h2,h3⟩:=hG k hGk
   refine ⟨h1,by omega,fun e=>?_⟩
   rcases b1 k e with h | h
   ·exact h3 h
   ·omega
  ·refine ⟨by omega,by omega,fun e=>?_⟩
   rcases b1 k e with h | h
   ·have:=hvl k h
    omega
   ·omega
theorem elem_int:Elem Tryz.prog 22 3 (.int .i64 0) 1 8:=⟨by kernel_rfl,by obtain ⟨i,h1,h2,h3,h4⟩:=info_parts (show (Tryz.prog.info? 3).map (fun i=>(i.zero,i.size,i.bytes))=some (some (.int .i64 0),1,8) by kernel_rfl); exact ⟨i,h1,h2,h3,h4⟩,rfl,by decide,by decide⟩
set_option maxHeartbeats 3200000 in
theorem list_get_int {α:Type} (c:Cod α) (hf:Fair c) (hone:∀ (G:Nat→Prop) (w:World) (x:α) (u:Value),c.rep G w x u→u.oneCell'=true) (W:World) (pv gv:Value) (T:TypeId) (hp:GetOk W gv c) (p b m cb:Nat) (d:ByteArray) (s:RS) (w:World) (hB:W.heap.size≤p) (hw:Same W w) (h:ReaderAt w p d s) (hd:DSize d)
  (hb:W.cell? ⟨b,0,none⟩=some (.int .i64 m)) (hbl:b < W.heap.size) (hcb:W.heap[cb]?=some (.cells #[pv,gv] T (0,0))) (hm:m≤1048576) :
  Calls Tryz.prog 182 #[.pointer (some ⟨p,0,none⟩),.pointer (some ⟨b,0,none⟩),.pointer (some ⟨cb,0,none⟩)] w fun r w'=>∃ v,r=.returned v∧RMoved w w' p d ((listC c m).get s).2∧RowRep c (fun k=>w.heap.size≤k∧k < w'.heap.size) w' ((listC c m).get s).1 v:=by
 obtain ⟨f,caps,rfl,he,hp⟩:=hp
 unfold Proofs.Enters at he
 have c0:w.cell? ⟨b,0,none⟩=some (.int .i64 m):=by rw [← hb]; simp only [World.cell?,hw.2 b hbl]
 have P:=lh (count_any p d s m w h hd)
 have hnm:=countN_le m s
 obtain ⟨res,hres⟩:∃ res,(listC c m).get s=res:=⟨_,rfl⟩
 have hres2:getL c.get (countN m s).1 (countN m s).2=res:=hres
 obtain ⟨n,s1,hns⟩:∃ n s1,countN m s=(n,s1):=⟨_,_,rfl⟩
 rw [hres]
 rw [hns] at P hnm hres2
 simp only at hnm hres2
 have HRES:=lh hres2
 have HLT:=lh (show p < w.heap.size from by obtain ⟨a,hb1,_⟩:=h; exact blk_lt hb1)
 have HD:=lh hd
 have HW:=lh hw
 have HP:=lh hp
 have HCB:=lh hcb
 have HF:=lh hf
 have HBB:=lh hB
 have HNM:=lh hnm
 have HMM:=lh hm
 have HONE:=lh hone
 clear h hp hcb hb hbl hw hf hB hres hres2 hns hnm hd hone hm
 go_enter Tryz.func182,Tryz.ntmps182
 go_wp2_with (fail)
 refine P.out.mono ?_
 rintro e w1 ⟨rfl,hm⟩
 have HM:=lh hm
 clear hm
 go_wp2
 go_loopw [5,6] (fun vv iv wr=>GetRel c 3 p d res m w vv iv wr) (fun _ iv _=>(intOf iv).toNat)
 case atStart=>exact ⟨n,[],s1,[],fun _=>False,rfl,by simpa using HNM.out,HM.out.1,HM.out.2,World.ownsRow_nil _ _ _ _,fun i x hi=>by simp at hi,fun _ h=>h.elim,by rw [HRES.out]; rfl⟩
 case round=>
  obtain ⟨⟨j,xs,s2,us,G,rfl,hjm,hrd,hk,ho,hx,hG,hr⟩⟩:=hrel
  cases j with
  | zero=>
   have E:=lh (getRel_end HF.out ho hx hG (by have:=HMM.out; omega))
   have HK:=lh hk
   have HRD:=lh hrd
   have HR:=lh hr
   clear hjm hrd hk ho hx hG hr
   go_wp2
   go_ret
   rw [HR.out]
   simp only [getL,List.append_nil]
   exact ⟨_,rfl,⟨HRD.out,HK.out⟩,E.out⟩
  | succ j=>
   have q1:(0:Int) < ((j+1:Nat):Int):=by omega
   have c5:=hrd.err
   by_cases herr:s2.err=0
   ·obtain ⟨sa,sc,hse,hsc,hsm0⟩:=own_slice ho
    subst hse
    have hsm:Same W wr:=HW.out.kept hk (fun k hk=>by rw [hk]; exact HBB.out)
    have c6:=cellOf (j:=1) (hsm.blk HCB.out)
    simp at c6
    have P2:=lh (HP.out p d s2 wr HBB.out hsm hrd HD.out)
    have hvp:(Value.slice sa xs.length sc).ownBlock≠some p:=by obtain ⟨a,hb1,_⟩:=hrd; exact own_ne ho hb1 (by decide)
    have hby:((xs.length+1)+(xs.length+1) / 4+192) * 8≤281474976710656:=by have:=HMM.out; omega
    have Q5:Hid (wrap64 (j:Int)=(j:Int)):=by have h1:=HMM.out; refine lh ?_; unfold wrap64; omega
    have hlt:=HLT.out
    obtain ⟨x,s3,hxs⟩:∃ x s3,c.get s2=(x,s3):=⟨_,_,rfl⟩
    have hr2:res=((xs ++ [x]) ++ (getL c.get j s3).1,(getL c.get j s3).2):=by
     rw [hr]; simp only [getL]; rw [if_neg (by simpa using herr),hxs]; simp
    have HR:=lh hr2
    have HXS:=lh hxs
    have HO:=lh ho
    have HX:=lh hx
    have HG:=lh hG
    have HK:=lh hk
    have HVP:=lh hvp
    have HBY:=lh hby
    have HJM:=lh hjm
    rw [herr] at c5
    clear hjm hrd hk ho hx hG hr herr hsm hvp hby hr2 hxs
    go_wp2_with (fail)
    refine P2.out.mono ?_
    rw [HXS.out]
    rintro e w2 ⟨u,rfl,hm2,hu⟩
    have HM2:=lh hm2
    have HU:=lh hu
    have hsz:=lh hm2.2.size
    have ho2:=lh (own_keptF HO.out hm2.2 (fun g hg e=>HVP.out (by rw [hg,e])))
    have hu1:=lh (HONE.out _ _ _ _ hu)
    have hcl:=cells_one1 hu1.out
    unfold Value.cells at hcl
    clear hm2 hu
    have SRC:Hid (Src Tryz.prog 1 22 (.slice (some ⟨w2.heap.size,0,none⟩) 1 1) 1 [u] (w2.alloc (.cells #[u] 3))):=by
     refine lh (Src.ofSlice _ elem_int.under _ 1 1 _ rfl (fun j u hj=>?_) (by intro z hz; rw [List.mem_singleton.1 hz]; exact hu1.out))
     match j,hj with
     | 0,hj=>
      simp at hj
      subst hj
      simp [Addr.add]
    have BA:Hid (w.heap.size≤(w2.alloc (.cells #[u] 3)).heap.size):=by
     have h1:=hsz.out
     have h2:=HK.out.size
     refine lh ?_
     simp
     omega
    go_wp2_with (at_builtin; apply hold)
    unfold Hold
    refine wpList_append_ownS _ rfl (.tmp 21) (.tmp 26) 22 22 rfl w.heap.size 3 (.int .i64 0) 1 8 elem_int (.slice sa xs.length sc) xs.length us rfl (own_grownA ho2.out _) (.slice (some ⟨w2.heap.size,0,none⟩) 1 1) 1 [u] rfl SRC.out HBY.out BA.out (fun v' w3 o1 g1 b1=>?_)
    ·skip
     have O1:=lh o1
     have G1:=lh g1
     have B1:=lh b1
     clear o1 g1 b1
     go_wp2
     go_roundw
     case rel=>
      rw [Q5.out]
      exact getRel_step HF.out HR.out HJM.out HLT.out HM2.out HU.out HO.out HX.out HG.out HK.out HVP.out O1.out G1.out B1.out
     case measure=>
      rw [Q5.out]
      simp only [intOf]
      omega
   ·have q2:(s2.err == 0)=false:=by simpa using herr
    have q3:decide (s2.err=0)=false:=by simpa using herr
    have E:=lh (getRel_end HF.out ho hx hG (by have:=HMM.out; omega))
    have HK:=lh hk
    have HRD:=lh hrd
    have HR:=lh hr
    have HERR:=lh herr
    clear hjm hrd hk ho hx hG hr herr
    go_wp2
    go_ret
    rw [HR.out]
    simp only [getL,if_pos HERR.out,List.append_nil]
    exact ⟨_,rfl,⟨HRD.out,HK.out⟩,E.out⟩
end Go.Proofs.YtogkkfdkeefjnaaGreatDoor.Codec
namespace Go.Proofs.YtogkkfdkeefjnaaGreatDoor.Codec
open Go.RowKit Go.Proofs.YtogkkfdkeefjnaaGreatDoorBase Go.Proofs.YtogkkfdkeefjnaaGreatDoorLex2 Go.Proofs.YtogkkfdkeefjnaaGreatDoorNum
set_option linter.unusedVariables false
set_option maxRecDepth 100000
set_option linter.unusedSimpArgs false
/-- Its values have one cell. -/
def One {α:Type} (c:Cod α):Prop:=∀ (G:Nat→Prop) (w:World) (x:α) (u:Value),c.rep G w x u→u.oneCell'=true
theorem flagC_one:One flagC:=by rintro G w x u rfl; rfl
theorem listC_one {α:Type} (c:Cod α) (m:Nat):One (listC c m):=by rintro G w x u ⟨A,n,cp,rfl,_⟩; rfl
theorem heap_alloc3_new (w:World) (A B C:Obj):(((w.alloc A).alloc B).alloc C).heap[w.heap.size+2]?=some C:=by
 have:=heap_alloc_new ((w.alloc A).alloc B) C
 simpa using this
theorem list_codec_int {α:Type} (c:Cod α) (hf:Fair c) (hone:One c) (W:World) (b cb m:Nat) (hm:m≤1048576) (pv gv:Value) (T:TypeId) (hp:PutOk W pv c) (hg:GetOk W gv c) (hb:W.cell? ⟨b,0,none⟩=some (.int .i64 m)) (hl:b < W.heap.size) (hcb:W.heap[cb]?=some (.cells #[pv,gv] T (0,0))) :
  IsCodec W (.agg #[.func (.func 181) #[] #[.pointer (some ⟨b,0,none⟩),.pointer (some ⟨cb,0,none⟩)],.func (.func 182) #[] #[.pointer (some ⟨b,0,none⟩),.pointer (some ⟨cb,0,none⟩)]]) (listC c m):=by
 refine ⟨_,_,rfl,⟨_,_,rfl,Proofs.enters_of Tryz.func181 (by kernel_rfl) rfl,?_⟩,⟨_,_,rfl,Proofs.enters_of Tryz.func182 (by kernel_rfl) rfl,?_⟩⟩
 ·intro B p F s w x v hB hw hv h hr
  show Calls Tryz.prog _ #[_,_,_,_] w _
  by_cases ho:m < x.length
  ·have e:(listC c m).put x s=s.fail 22:=if_pos ho
   rw [e]
   exact list_put_over_int c B p b m cb F s w x v h hv (by rw [← hb]; simp only [World.cell?,hw.2 b hl]) ho
  ·have e:(listC c m).put x s=puts c x (putN x.length s):=if_neg ho
   rw [e]
   exact list_put_fits_int c hf W pv gv T hp B p b m cb F s w x v hB hw h hv hb hl hcb ho hm hr
 ·intro p d s w hp hw h hd
  show Calls Tryz.prog _ #[_,_,_] w _
  exact list_get_int c hf hone W pv gv T hg p b m cb d s w hp hw h hd hb hl hcb hm
end Go.Proofs.YtogkkfdkeefjnaaGreatDoor.Codec
namespace Go.Proofs.YtogkkfdkeefjnaaGreatDoor.Codec
open Go.RowKit Go.Proofs.YtogkkfdkeefjnaaGreatDoorBase Go.Proofs.YtogkkfdkeefjnaaGreatDoorLex2 Go.Proofs.YtogkkfdkeefjnaaGreatDoorNum
set_option linter.unusedVariables false
set_option maxRecDepth 100000
set_option linter.unusedSimpArgs false
/-- A part of a record: its codec, how it lies in the record and among the record's cells. -/
structure Prt (α:Type) where
 β:Type
 c:Cod β
 fld:α→β
 set:β→α→α
 rd:Array Value→Value
 wr:Array Value→Value→Array Value
structure PFair {α:Type} (N:Nat) (p:Prt α):Prop where
 fair:Fair p.c
 rdwr:∀ {G w y v} {cs:Array Value},p.c.rep G w y v→cs.size=N→p.rd (p.wr cs v)=v
 size:∀ {G w y v} {cs:Array Value},p.c.rep G w y v→cs.size=N→(p.wr cs v).size=N
 fldset:∀ y x,p.fld (p.set y x)=y
 all:∀ {G w y v} {cs:Array Value},p.c.rep G w y v→cs.size=N→cs.all (·.oneCell')=true→(p.wr cs v).all (·.oneCell')=true
/-- The part p isn't touched by q. -/
structure Off {α:Type} (N:Nat) (p q:Prt α):Prop where
 rd:∀ {G w y v} {cs:Array Value},q.c.rep G w y v→cs.size=N→p.rd (q.wr cs v)=p.rd cs
 fld:∀ y x,p.fld (q.set y x)=p.fld x
def putP {α:Type} (ps:List (Prt α)) (x:α) (s:WS):WS:=ps.foldl (fun s p=>p.c.put (p.fld x) s) s
def costP {α:Type} (ps:List (Prt α)) (x:α):Nat:=(ps.map fun p=>p.c.cost (p.fld x)).sum
def getP {α:Type} (ps:List (Prt α)) (y:α×RS):α×RS:=ps.foldl (fun (y:α×RS) p=>(p.set (p.c.get y.2).1 y.1,(p.c.get y.2).2)) y
def recC {α:Type} (N:Nat) (ps:List (Prt α)) (x0:α):Cod α where
 rep:=fun G w x v=>∃ cs,v=.agg cs∧cs.size=N∧cs.all (·.oneCell')=true∧∀ p∈ps,p.c.rep G w (p.fld x) (p.rd cs)
 put:=putP ps
 cost:=costP ps
 get:=fun s=>getP ps (x0,s)
section
variable {α : Type} {ps : List (Prt α)} {N : Nat}
theorem putP_len (hf:∀ p∈ps,Fair p.c) (x:α):∀ s:WS,(putP ps x s).out.length≤s.out.length+costP ps x:=by
 induction ps with
 | nil=>intro s; simp [putP,costP]
 | cons p ps ih=>
  intro s
  have h1:=ih (fun q hq=>hf q (List.mem_cons_of_mem _ hq)) (p.c.put (p.fld x) s)
  have h2:=(hf p List.mem_cons_self).len (p.fld x) s
  simp only [putP,List.foldl_cons,costP,List.map_cons,List.sum_cons] at h1 ⊢
  omega
theorem putP_take {k:Nat} {p:Prt α} (h:ps[k]?=some p) (x:α) (s:WS):putP (ps.take (k+1)) x s=p.c.put (p.fld x) (putP (ps.take k) x s):=by
 rw [List.take_add_one,h]
 simp [putP,List.foldl_append]
theorem getP_take {k:Nat} {p:Prt α} (h:ps[k]?=some p) (y:α×RS):getP (ps.take (k+1)) y=(p.set (p.c.get (getP (ps.take k) y).2).1 (getP (ps.take k) y).1,(p.c.get (getP (ps.take k) y).2).2):=by
 rw [List.take_add_one,h]
 simp [getP,List.foldl_append]
theorem costP_take {k:Nat} {p:Prt α} (h:ps[k]?=some p) (x:α):costP (ps.take k) x+p.c.cost (p.fld x)≤costP ps x:=by
 have hk:k < ps.length:=(List.getElem?_eq_some_iff.1 h).1
 have e:ps=ps.take k ++ p :: ps.drop (k+1):=by
  conv=>lhs; rw [← List.take_append_drop k ps]
  rw [List.drop_eq_getElem_cons hk,(List.getElem?_eq_some_iff.1 h).2]
 conv=>rhs; rw [e]
 simp only [costP,List.map_append,List.map_cons,List.sum_append,List.sum_cons]
 omega
theorem recC_fair (hf:∀ p∈ps,Fair p.c) (x0:α):Fair (recC N ps x0):=by
 refine ⟨?_,?_,fun x s=>putP_len hf x s⟩
 ·rintro G G' w x v hG ⟨cs,hv,hs,ha,hc⟩
  exact ⟨cs,hv,hs,ha,fun p hp=>(hf p hp).mono hG (hc p hp)⟩
 ·rintro G w w' x v ⟨cs,hv,hs,ha,hc⟩ hk
  exact ⟨cs,hv,hs,ha,fun p hp=>(hf p hp).keep (hc p hp) hk⟩
end
/-- What a call that finds a part does. -/
def GetterOk (T:TypeId) (N:Nat) (g:Value) (o:Nat):Prop :=
 ∃ f,g=.func (.func f) #[] #[]∧Proofs.Enters Tryz.prog f∧∀ (b:Nat) (cs:Array Value) (w:World),w.heap[b]?=some (.cells cs T (0,0))→cs.size=N→Calls Tryz.prog f #[.pointer (some ⟨b,0,none⟩)] w fun r w'=>r=.returned (.pointer (some ⟨b,o,none⟩))∧w'=w
def PPut {α:Type} (W:World) (T:TypeId) (N:Nat) (fv:Value) (p:Prt α):Prop :=
 ∃ f caps,fv=.func (.func f) #[] caps∧Proofs.Enters Tryz.prog f∧∀ (B q:Nat) (F:Nat→Prop) (s:WS) (w:World) (b:Nat) (cs:Array Value) (x:α),W.heap.size≤B→Same W w→w.heap[b]?=some (.cells cs T (0,0))→cs.size=N→p.c.rep (fun k=>k < B) w (p.fld x) (p.rd cs)→WriterAt B w q F s→WRoom s (p.c.cost (p.fld x)) →
  Calls Tryz.prog f (#[.pointer (some ⟨q,0,none⟩),.pointer (some ⟨b,0,none⟩)] ++ caps) w fun r w'=>r=.returned (.tuple #[])∧WMoved B w w' q F (p.c.put (p.fld x) s)
def PGet {α:Type} (W:World) (T:TypeId) (N:Nat) (fv:Value) (p:Prt α):Prop :=
 ∃ f caps,fv=.func (.func f) #[] caps∧Proofs.Enters Tryz.prog f∧∀ (q:Nat) (d:ByteArray) (s:RS) (w:World) (b:Nat) (cs:Array Value),W.heap.size≤q→W.heap.size≤b→b≠q→Same W w→w.heap[b]?=some (.cells cs T (0,0))→cs.size=N→ReaderAt w q d s→DSize d →
  Calls Tryz.prog f (#[.pointer (some ⟨q,0,none⟩),.pointer (some ⟨b,0,none⟩)] ++ caps) w fun r w'=>r=.returned (.tuple #[])∧∃ v,ReaderAt w' q d (p.c.get s).2∧Kept w w' (fun k=>k=q∨k=b)∧w'.heap[b]?=some (.cells (p.wr cs v) T (0,0))∧p.c.rep (fun k=>w.heap.size≤k∧k < w'.heap.size) w' (p.c.get s).1 v
section
variable {α : Type} {W W' : World} {T : TypeId} {N : Nat} {v : Value} {p : Prt α}
theorem PPut.later (h:PPut W T N v p) (hs:Same W W'):PPut W' T N v p:=by
 obtain ⟨f,caps,rfl,he,h⟩:=h
 exact ⟨f,caps,rfl,he,fun B q F s w b cs x hB hw=>h B q F s w b cs x (Nat.le_trans hs.1 hB) (hs.trans hw)⟩
theorem PGet.later (h:PGet W T N v p) (hs:Same W W'):PGet W' T N v p:=by
 obtain ⟨f,caps,rfl,he,h⟩:=h
 exact ⟨f,caps,rfl,he,fun q d s w b cs hq hb hne hw=>h q d s w b cs (Nat.le_trans hs.1 hq) (Nat.le_trans hs.1 hb) hne (hs.trans hw)⟩
end
theorem WMoved.pre_drew {B q:Nat} {w w':World} {F:Nat→Prop} {s:WS} (h:WMoved B w.drew w' q F s):WMoved B w w' q F s:=by
 obtain ⟨F',h1,h2,h3⟩:=h
 exact ⟨F',h1,h2,⟨h3.os,h3.tape,h3.output,h3.size,h3.block⟩⟩
/-- A value of one cell goes into a cell of a block. -/
theorem run_storeVar_cell {P:Program} (w:World) (b o:Nat) (t ty:TypeId) (cs:Array Value) (v:Value) (hb:w.heap[b]?=some (.cells cs t (0,0))) (ho:o < cs.size) (hi:(P.info? ty).map (·.size)=some 1) (h1:v.oneCell'=true) :
  (storeVar ty ⟨b,o,none⟩ v).run P w=.ok () (w.setCell ⟨b,o,none⟩ v):=by
 have hc:=cells_one1 h1
 have hcell:w.cell? ⟨b,o,none⟩=some cs[o]:=by rw [cellOf hb]; simp [ho]
 have hfro:=freeOf (j:=o) hb
 have hadd:(⟨b,o,none⟩:Addr).add 0=⟨b,o,none⟩:=rfl
 cases hq:P.info? ty with
 | none=>simp [hq] at hi
 | some i=>
  have hs:i.size=1:=by simpa [hq] using hi
  simp [storeVar,sizeOf,typeInfo,hq,hc,hs,storeCells,run_store P w _ v _ h1,hcell,hfro,hadd]
theorem wp_store_cell {P:Program} {o:Oper} {a:Act} {w:World} {K:Act→World→Prop} {Q:Exit→Act→World→Prop} (ty:TypeId) (x y:Operand) (ho:o.op=.store ty x y) (b j:Nat) (v:Value) (hx:a.eval x=.pointer (some ⟨b,j,none⟩)) (hy:a.eval y=v) (h1:v.oneCell'=true)
  (t:TypeId) (cs:Array Value) (hb:w.heap[b]?=some (.cells cs t (0,0))) (hj:j < cs.size) (hi:(P.info? ty).map (·.size)=some 1) (h:K (a.put o.dst undef) (w.setCell ⟨b,j,none⟩ v)):o.wp P a w K Q:=by
 unfold Oper.wp execOp
 simp only [ho,hx,hy,Instr.storeAt,Instr.sureAddr,Sem.run_bind,Sem.run_pure,Result.andThen_ok,run_storeVar_cell w b j t ty cs v hb hj hi h1]
 exact h
/-- A part of one cell. -/
def oneP {α β:Type} (c:Cod β) (o:Nat) (fld:α→β) (set:β→α→α):Prt α:=⟨β,c,fld,set,fun cs=>cs.getD o undef,fun cs v=>cs.setIfInBounds o v⟩
theorem oneP_fair {α β:Type} {c:Cod β} {o N:Nat} {fld:α→β} {set:β→α→α} (hf:Fair c) (hone:One c) (ho:o < N) (h:∀ y x,fld (set y x)=y):PFair N (oneP c o fld set):=by
 refine ⟨hf,fun {G w y v cs} _ hs=>?_,fun {G w y v cs} _ hs=>?_,h,fun {G w y v cs} hr hs ha=>?_⟩
 ·simp [oneP,hs,ho]
 ·simp [oneP,hs]
 ·refine Array.all_eq_true_iff_forall_mem.2 (fun u hu=>?_)
  rcases Array.mem_or_eq_of_mem_setIfInBounds hu with h1 | rfl
  ·exact Array.all_eq_true_iff_forall_mem.1 ha u h1
  ·exact hone _ _ _ _ hr
end Go.Proofs.YtogkkfdkeefjnaaGreatDoor.Codec
namespace Go.Proofs.YtogkkfdkeefjnaaGreatDoor.Codec
open Go.RowKit Go.Proofs.YtogkkfdkeefjnaaGreatDoorBase Go.Proofs.YtogkkfdkeefjnaaGreatDoorLex2 Go.Proofs.YtogkkfdkeefjnaaGreatDoorNum
set_option linter.unusedVariables false
set_option maxRecDepth 100000
set_option linter.unusedSimpArgs false
/-- The parts of a record in a block. -/
structure PartsAt {α:Type} (W:World) (T:TypeId) (N:Nat) (pa:Nat) (ps:List (Prt α)):Prop where
 lt:pa < W.heap.size
 at_:∀ (k:Nat) (p:Prt α),ps[k]?=some p→∃ u v,W.cell? ⟨pa,k * 2,none⟩=some u∧W.cell? ⟨pa,k * 2+1,none⟩=some v∧PPut W T N u p∧PGet W T N v p
theorem WriterAt.lt {B q:Nat} {w:World} {F:Nat→Prop} {s:WS} (h:WriterAt B w q F s):∀ k,F k→k < w.heap.size:=by
 obtain ⟨sv,hb,hp,hbs,hs,hF⟩:=h
 intro k hk
 rcases (hF k).1 hk with rfl | h
 ·exact blk_lt hb
 ·exact (hs.lt k h).2
theorem WriterAt.alloc {B q:Nat} {w:World} {F:Nat→Prop} {s:WS} (h:WriterAt B w q F s) (o:Obj):WriterAt B (w.alloc o) q F s:=by
 obtain ⟨sv,hb,hp,hbs,hs,hF⟩:=h
 exact ⟨sv,(Below.heap_alloc _ _ _ (blk_lt hb)).trans hb,hp,by simp; omega,hs.alloc o,hF⟩
theorem ReaderAt.alloc {q:Nat} {d:ByteArray} {w:World} {s:RS} (h:ReaderAt w q d s) (o:Obj):ReaderAt (w.alloc o) q d s:=by
 obtain ⟨a,hb,h1,h2⟩:=h
 exact ⟨a,(Below.heap_alloc _ _ _ (blk_lt hb)).trans hb,h1,h2⟩
/-- What the loop has read. -/
def RecRel {α:Type} (ps:List (Prt α)) (T:TypeId) (N:Nat) (x0:α) (q b:Nat) (d:ByteArray) (s:RS) (w1:World) (iv:Value) (wr:World):Prop :=
 ∃ (k:Nat) (cs:Array Value),k≤ps.length∧iv=.int .i64 k∧wr.heap[b]?=some (.cells cs T (0,0))∧cs.size=N∧cs.all (·.oneCell')=true∧ReaderAt wr q d (getP (ps.take k) (x0,s)).2∧Kept w1 wr (fun j=>j=q∨j=b) ∧
  ∀ p∈ps.take k,p.c.rep (fun j=>w1.heap.size≤j∧j < wr.heap.size) wr (p.fld (getP (ps.take k) (x0,s)).1) (p.rd cs)
theorem recRel_step {α:Type} {ps:List (Prt α)} {T:TypeId} {N:Nat} {x0:α} {q b:Nat} {d:ByteArray} {s:RS} {w1 wr w2 w3:World} {k:Nat} {cs:Array Value} {p:Prt α} {v:Value} (hf:∀ p∈ps,PFair N p) (hoff:ps.Pairwise (fun p p'=>Off N p p')) (hp:ps[k]?=some p)
  (hq:q < w1.heap.size) (hb:b < w1.heap.size) (hs:cs.size=N) (ha:cs.all (·.oneCell')=true) (hk:Kept w1 wr (fun j=>j=q∨j=b)) (hreps:∀ p∈ps.take k,p.c.rep (fun j=>w1.heap.size≤j∧j < wr.heap.size) wr (p.fld (getP (ps.take k) (x0,s)).1) (p.rd cs))
  (ka:Kept wr w2 (fun _=>False)) (hr:ReaderAt w3 q d (p.c.get (getP (ps.take k) (x0,s)).2).2) (h3:Kept w2 w3 (fun j=>j=q∨j=b)) (hb3:w3.heap[b]?=some (.cells (p.wr cs v) T (0,0))) (hv:p.c.rep (fun j=>w2.heap.size≤j∧j < w3.heap.size) w3 (p.c.get (getP (ps.take k) (x0,s)).2).1 v) :
  RecRel ps T N x0 q b d s w1 (.int .i64 ((k:Int)+1)) w3:=by
 have hkl:k < ps.length:=(List.getElem?_eq_some_iff.1 hp).1
 have hpm:p∈ps:=List.mem_of_getElem? hp
 have hfp:=hf p hpm
 have e:=getP_take hp (x0,s)
 have s1:=hk.size
 have s2:=ka.size
 have s3:=h3.size
 have k3:Kept wr w3 (fun j=>j=q∨j=b):=(ka.mono (fun _ h=>h.elim)).trans h3 (fun k h=>.inl h)
 refine ⟨k+1,p.wr cs v,by omega,by simp,hb3,hfp.size hv hs,hfp.all hv hs ha,by rw [e]; exact hr,hk.trans k3 (fun k h=>.inl h),?_⟩
 intro p' hp'
 rw [e]
 simp only
 rw [List.take_add_one,hp] at hp'
 rcases List.mem_append.1 hp' with hp' | hp'
 ·have ho:Off N p' p:=by
   obtain ⟨i,hi,hie⟩:=List.mem_iff_getElem.1 hp'
   rw [List.length_take] at hi
   rw [List.getElem_take] at hie
   have:=List.pairwise_iff_getElem.1 hoff i k (by omega) hkl (by omega)
   rw [hie,(List.getElem?_eq_some_iff.1 hp).2] at this
   exact this
  rw [ho.rd hv hs,ho.fld]
  refine (hf p' (List.mem_of_mem_take hp')).fair.mono (fun j hj=>⟨hj.1,by omega⟩) ((hf p' (List.mem_of_mem_take hp')).fair.keep (hreps p' hp') (fun j h1 h2=>k3.block j h1 ?_))
  rintro (rfl | rfl) <;> omega
 ·simp only [Option.toList_some,List.mem_singleton] at hp'
  subst hp'
  rw [hfp.rdwr hv hs,hfp.fldset]
  exact hfp.fair.mono (fun j hj=>⟨by omega,hj.2⟩) hv
theorem heap_alloc2_fst (w:World) (A B:Obj):((w.alloc A).alloc B).heap[w.heap.size]?=some A:=heap_alloc2_old w A B
end Go.Proofs.YtogkkfdkeefjnaaGreatDoor.Codec
namespace Go.Proofs.YtogkkfdkeefjnaaGreatDoor.Codec
open Go.Proofs.YtogkkfdkeefjnaaGreatDoorBase Go.Proofs.YtogkkfdkeefjnaaGreatDoorNum
set_option linter.unusedVariables false
set_option maxRecDepth 100000
set_option linter.unusedSimpArgs false
structure Good {α:Type} (c:Cod α) (ok:α→Prop) (bs:α→List UInt8):Prop where
 put_ok:∀ x o,ok x→c.put x ⟨o,0⟩=⟨o ++ bs x,0⟩
 put_no:∀ x o,¬ ok x→(c.put x ⟨o,0⟩).err=22
 put_err:∀ x s,s.err≠0→(c.put x s).err=s.err
 get_err:∀ s,s.err≠0→(c.get s).2=s
 get_ok:∀ x l,ok x→c.get ⟨bs x ++ l,0⟩=(x,⟨l,0⟩)
 get_is:∀ l x s,c.get ⟨l,0⟩=(x,s)→s.err=0→ok x∧l=bs x ++ s.rest
 get_cut:∀ x l,ok x→l <+: bs x→l.length < (bs x).length→(c.get ⟨l,0⟩).2.err=20
 pos:∀ x,ok x→bs x≠[]
theorem wfail_err {s:WS} (h:s.err≠0) (e:Int):s.fail e=s:=by unfold WS.fail; rw [if_neg h]
theorem rfail_err {s:RS} (h:s.err≠0) (e:Int):s.fail e=s:=by unfold RS.fail; rw [if_neg h]
theorem rfail_ne {s:RS} {e:Int} (he:e≠0):(s.fail e).err≠0:=by unfold RS.fail; split <;> simp_all
def okN (x:Int):Prop:=0≤x∧x < 4611686018427387904
def bsN (x:Int):List UInt8:=encN x.toNat
theorem numC_good:Good numC okN bsN where
 put_ok:=by
  rintro x o ⟨h1,h2⟩
  simp only [numC]
  rw [if_neg (by omega)]
  rfl
 put_no:=by
  intro x o h
  simp only [numC]
  unfold okN at h
  rw [if_pos (by omega)]
  rfl
 put_err:=by
  intro x s h
  simp only [numC]
  split
  ·rw [wfail_err h]
  ·rfl
 get_err:=by intro s h; simp only [numC]; rw [getN_err' h]
 get_ok:=by
  rintro x l ⟨h1,h2⟩
  simp only [numC,bsN]
  rw [getN_enc _ _ (by omega)]
  simp only [Prod.mk.injEq,and_true]
  omega
 get_is:=by
  intro l x s h he
  simp only [numC,Prod.mk.injEq] at h
  obtain ⟨h1,h2⟩:=h
  obtain ⟨n,s',hn⟩:∃ n s',getN ⟨l,0⟩=(n,s'):=⟨_,_,rfl⟩
  rw [hn] at h1 h2
  simp only at h1 h2
  subst h1 h2
  obtain ⟨h3,h4⟩:=getN_is hn he
  exact ⟨⟨by omega,by omega⟩,by simpa [bsN] using h4⟩
 get_cut:=by
  rintro x l ⟨h1,h2⟩ hp hl
  simp only [numC]
  rw [getN_cut (n:=x.toNat) (by omega) hp hl]
 pos:=fun x _=>encN_ne _
/-! ### Counts -/
theorem countN_enc {m:Nat} (n:Nat) (l:List UInt8) (hn:n≤m) (hm:m≤1048576):countN m ⟨encN n ++ l,0⟩=(n,⟨l,0⟩):=by
 unfold countN
 rw [getN_enc n l (by omega)]
 have e:¬ (m:Int) < (n:Int):=by omega
 simp only
 rw [if_neg e]
 rfl
theorem countN_is {m n:Nat} {l:List UInt8} {s:RS} (h:countN m ⟨l,0⟩=(n,s)) (he:s.err=0):n≤m∧l=encN n ++ s.rest:=by
 obtain ⟨k,s',hk⟩:∃ n s',getN ⟨l,0⟩=(n,s'):=⟨_,_,rfl⟩
 unfold countN at h
 rw [hk] at h
 simp only [Prod.mk.injEq] at h
 obtain ⟨h1,h2⟩:=h
 by_cases e:(m:Int) < (k:Int)
 ·rw [if_pos e] at h2
  subst h2
  exact (rfail_ne (by decide) he).elim
 ·rw [if_neg e] at h1 h2
  subst h2
  rw [if_neg (by simpa using he)] at h1
  subst h1
  exact ⟨by omega,(getN_is hk he).2⟩
theorem countN_cut {m n:Nat} {l:List UInt8} (hn:n < 4611686018427387904) (hp:l <+: encN n) (hl:l.length < (encN n).length):countN m ⟨l,0⟩=(0,⟨l,20⟩):=by
 unfold countN
 rw [getN_cut hn hp hl]
 have e:¬ (m:Int) < ((0:Nat):Int):=by omega
 simp only
 rw [if_neg e]
 rfl
/-- A beginning of two parts is a beginning of the first one, or it and a beginning of the second one. -/
theorem prefix_split {a b l:List UInt8} (hp:l <+: a ++ b) (hl:l.length < (a ++ b).length):(l <+: a∧l.length < a.length)∨∃ r,l=a ++ r∧r <+: b∧r.length < b.length:=by
 rcases Nat.lt_or_ge l.length a.length with h | h
 ·exact .inl ⟨List.prefix_of_prefix_length_le hp (List.prefix_append a b) (by omega),h⟩
 ·right
  have h2:a <+: l:=List.prefix_of_prefix_length_le (List.prefix_append a b) hp h
  obtain ⟨r,rfl⟩:=h2
  refine ⟨r,rfl,?_,by simp at hl; omega⟩
  obtain ⟨t,ht⟩:=hp
  rw [List.append_assoc] at ht
  exact ⟨t,List.append_cancel_left ht⟩
/-! ### Texts -/
def okT (m:Nat) (x:ByteArray):Prop:=x.size≤m
def bsT (x:ByteArray):List UInt8:=encN x.size ++ x.data.toList
theorem textC_good {m:Nat} (hm:m≤1048576):Good (textC m) (okT m) bsT where
 put_ok:=by
  intro x o h
  simp only [textC]
  unfold okT at h
  rw [if_neg (by omega)]
  simp [putN,bsT]
 put_no:=by
  intro x o h
  simp only [textC]
  unfold okT at h
  rw [if_pos (by omega)]
  rfl
 put_err:=by
  intro x s h
  simp only [textC]
  split
  ·rw [wfail_err h]
  ·rfl
 get_err:=by
  intro s h
  simp only [textC]
  rw [countN_err (by omega) h,takeN_err h]
 get_ok:=by
  intro x l h
  simp only [textC,bsT]
  rw [List.append_assoc,countN_enc _ _ h hm]
  simp only
  rw [show x.size=x.data.toList.length from (len_data x).symm,takeN_app]
 get_is:=by
  intro l x s h he
  simp only [textC,Prod.mk.injEq] at h
  obtain ⟨h1,h2⟩:=h
  obtain ⟨n,s1,hn⟩:∃ n s',countN m ⟨l,0⟩=(n,s'):=⟨_,_,rfl⟩
  rw [hn] at h1 h2
  simp only at h1 h2
  by_cases he1:s1.err=0
  ·obtain ⟨h3,h4⟩:=countN_is hn he1
   have e:s1=⟨s1.rest,0⟩:=by cases s1; simp only at he1; rw [he1]
   obtain ⟨a,s2,ha⟩:∃ a s',takeN n s1=(a,s'):=⟨_,_,rfl⟩
   rw [ha] at h1 h2
   simp only at h1 h2
   subst h1 h2
   rw [e] at ha
   obtain ⟨h5,h6⟩:=takeN_is ha he
   have hs:(ByteArray.mk a.toArray).size=n:=by rw [size_mk,h5]
   refine ⟨by unfold okT; rw [hs]; exact h3,?_⟩
   unfold bsT
   rw [hs,toList_mk,List.append_assoc,← h6]
   exact h4
  ·rw [takeN_err he1] at h2
   subst h2
   exact (he1 he).elim
 get_cut:=by
  intro x l h hp hl
  simp only [textC]
  rcases prefix_split hp hl with ⟨h1,h2⟩ | ⟨r,rfl,h1,h2⟩
  ·rw [countN_cut (by unfold okT at h; omega) h1 h2]
   rw [takeN_err (by simp)]
  ·rw [countN_enc _ _ h hm]
   simp only
   rw [takeN_cut (by rw [len_data] at h2; exact h2)]
 pos:=fun x _=>by simp [bsT,encN_ne]
/-! ### Encode and Decode -/
section
variable {α : Type} {c : Cod α} {ok : α → Prop} {bs : α → List UInt8}
theorem enc_ok (g:Good c ok bs) {x:α} (h:ok x):encR c x=(⟨(bs x).toArray⟩,0):=by
 unfold encR
 simp only
 rw [g.put_ok x [] h]
 simp
theorem dec_ok (g:Good c ok bs) {x:α} {d:ByteArray} (h:ok x) (hd:d.data.toList=bs x):decE c d=0∧(c.get ⟨d.data.toList,0⟩).1=x:=by
 have h1:=g.get_ok x [] h
 rw [List.append_nil] at h1
 unfold decE
 rw [hd,h1]
 simp
theorem dec_is (g:Good c ok bs) {d:ByteArray} (h:decE c d=0):ok (c.get ⟨d.data.toList,0⟩).1∧d.data.toList=bs (c.get ⟨d.data.toList,0⟩).1:=by
 unfold decE at h
 simp only at h
 by_cases h1:(c.get ⟨d.data.toList,0⟩).2.rest=[]
 ·rw [if_pos h1] at h
  obtain ⟨h2,h3⟩:=g.get_is _ _ _ rfl h
  rw [h1,List.append_nil] at h3
  exact ⟨h2,h3⟩
 ·rw [if_neg h1] at h
  exact (rfail_ne (by decide) h).elim
theorem dec_cut (g:Good c ok bs) {x:α} {d:ByteArray} (h:ok x) (hp:d.data.toList <+: bs x) (hl:d.data.toList.length < (bs x).length):decE c d=20:=by
 have h1:=g.get_cut x _ h hp hl
 unfold decE
 simp only
 split
 ·exact h1
 ·rw [rfail_err (by rw [h1]; decide)]; exact h1
end
end Go.Proofs.YtogkkfdkeefjnaaGreatDoor.Codec
namespace Go.Proofs.YtogkkfdkeefjnaaGreatDoor.Codec
open Go.Proofs.YtogkkfdkeefjnaaGreatDoorBase Go.Proofs.YtogkkfdkeefjnaaGreatDoorNum
set_option linter.unusedVariables false
set_option maxRecDepth 100000
set_option linter.unusedSimpArgs false
def bsF (b:Bool):List UInt8:=encN (if b then 1 else 0)
theorem flagC_good:Good flagC (fun _=>True) bsF where
 put_ok:=fun x o _=>rfl
 put_no:=fun x o h=>(h trivial).elim
 put_err:=fun x s h=>rfl
 get_err:=by
  intro s h
  simp only [flagC]
  rw [getN_err' h]
  rfl
 get_ok:=by
  rintro x l _
  simp only [flagC,bsF]
  rw [getN_enc _ _ (by split <;> omega)]
  cases x <;> rfl
 get_is:=by
  intro l x s h he
  simp only [flagC,Prod.mk.injEq] at h
  obtain ⟨h1,h2⟩:=h
  obtain ⟨n,s',hn⟩:∃ n s',getN ⟨l,0⟩=(n,s'):=⟨_,_,rfl⟩
  rw [hn] at h1 h2
  simp only at h1 h2
  by_cases hn1:1 < n
  ·rw [if_pos hn1] at h2
   subst h2
   exact (rfail_ne (by decide) he).elim
  ·rw [if_neg hn1] at h2
   subst h2
   obtain ⟨h3,h4⟩:=getN_is hn he
   refine ⟨trivial,?_⟩
   have:n=0∨n=1:=by omega
   rcases this with rfl | rfl
   ·subst h1; exact h4
   ·subst h1; exact h4
 get_cut:=by
  rintro x l _ hp hl
  simp only [flagC]
  rw [getN_cut (n:=if x then 1 else 0) (by split <;> omega) hp hl]
  rfl
 pos:=fun x _=>encN_ne _
/-! ### Lists -/
section
variable {α : Type} {c : Cod α} {ok : α → Prop} {bs : α → List UInt8}
theorem puts_cons (x:α) (l:List α) (s:WS):puts c (x :: l) s=puts c l (c.put x s):=rfl
end
end Go.Proofs.YtogkkfdkeefjnaaGreatDoor.Codec
namespace Go.Proofs.YtogkkfdkeefjnaaGreatDoor.Dec
open Go.Lib
set_option linter.unusedVariables false
set_option maxRecDepth 100000
set_option linter.unusedSimpArgs false
/-- A number's text. -/
def numS (n:Int):ByteArray:=⟨(itoa n).toArray⟩
theorem numS_size (n:Int):(numS n).size=(itoa n).length:=by unfold numS; simp [ByteArray.size]
end Go.Proofs.YtogkkfdkeefjnaaGreatDoor.Dec
namespace Go.Proofs.YtogkkfdkeefjnaaGreatDoorNum
set_option linter.unusedVariables false
set_option maxRecDepth 100000
set_option linter.unusedSimpArgs false
/-- A record's bytes. -/
def frameS (t:List UInt8):List UInt8:=encN t.length ++ t ++ [46]
/-- The record that the bytes begin with, and how many bytes it has. -/
def nextS (l:List UInt8):Option (List UInt8×Nat) :=
 let r:=getN ⟨l,0⟩
 if r.2.err≠0 then none
 else if 1048576 < r.1 then none
 else if r.2.rest.length < r.1+1 then none
 else if r.2.rest[r.1]?=some 46 then some (r.2.rest.take r.1,l.length - r.2.rest.length+r.1+1)
 else none
def scanS:Nat→List UInt8→List (List UInt8)×Nat
 | 0,_=>([],0)
 | f+1,l=>match nextS l with
  | none=>([],0)
  | some (t,k)=>(t :: (scanS f (l.drop k)).1,k+(scanS f (l.drop k)).2)
def scanL (l:List UInt8):List (List UInt8)×Nat:=scanS (l.length+1) l
theorem frameS_length (t:List UInt8):(frameS t).length=(encN t.length).length+t.length+1:=by simp [frameS,Nat.add_assoc]
theorem nextS_frame (t l:List UInt8) (h:t.length≤1048576):nextS (frameS t ++ l)=some (t,(frameS t).length):=by
 have e:frameS t ++ l=encN t.length ++ (t ++ (46 :: l)):=by simp [frameS]
 unfold nextS
 rw [e,getN_enc _ _ (by omega)]
 simp only
 rw [if_neg (by simp),if_neg (by omega),if_neg (by simp),if_pos (by simp),frameS_length]
 simp
theorem nextS_is {l t:List UInt8} {k:Nat} (h:nextS l=some (t,k)):l=frameS t ++ l.drop k∧k=(frameS t).length∧t.length≤1048576:=by
 unfold nextS at h
 obtain ⟨n,s,hn⟩:∃ n s,getN ⟨l,0⟩=(n,s):=⟨_,_,rfl⟩
 rw [hn] at h
 simp only at h
 split at h
 ·cases h
 split at h
 ·cases h
 split at h
 ·cases h
 split at h
 ·rename_i h1 h2 h3 h4
  simp only [Option.some.injEq,Prod.mk.injEq] at h
  obtain ⟨h5,h6⟩:=h
  have h7:=(getN_is hn (by simpa using h1)).2
  obtain ⟨r,hr⟩:∃ r,s.rest=r:=⟨_,rfl⟩
  rw [hr] at h3 h4 h5 h6 h7
  have hlt:n < r.length:=by omega
  have h8:r=t ++ 46 :: r.drop (n+1):=by
   rw [← h5]
   have h9:r[n]=46:=by rw [List.getElem?_eq_getElem hlt] at h4; simpa using h4
   conv=>lhs; rw [← List.take_append_drop n r]
   rw [List.drop_eq_getElem_cons hlt,h9]
  have htl:t.length=n:=by rw [← h5,List.length_take]; omega
  have hk:k=(frameS t).length:=by
   rw [frameS_length,htl,← h6,h7,List.length_append]
   omega
  refine ⟨?_,hk,by omega⟩
  have h9:l=frameS t ++ r.drop (n+1):=by
   rw [h7]
   conv=>lhs; rw [h8]
   simp [frameS,htl]
  have h10:l.drop k=r.drop (n+1):=by
   rw [hk]
   conv=>lhs; rw [h9]
   rw [List.drop_left]
  rw [h10]
  exact h9
 ·cases h
theorem frameS_pos (t:List UInt8):2≤(frameS t).length:=by rw [frameS_length]; have:=encN_pos t.length; omega
theorem nextS_le {l t:List UInt8} {k:Nat} (h:nextS l=some (t,k)):2≤k∧k≤l.length:=by
 obtain ⟨h1,h2,h3⟩:=nextS_is h
 have h4:=congrArg List.length h1
 rw [List.length_append] at h4
 have:=frameS_pos t
 omega
/-- The fuel is no matter. -/
theorem scanS_fuel:∀ (f g:Nat) (l:List UInt8),l.length < f→l.length < g→scanS f l=scanS g l
 | 0,_,l,h,_=>by omega
 | _+1,0,l,_,h=>by omega
 | f+1,g+1,l,hf,hg=>by
  simp only [scanS]
  cases h:nextS l with
  | none=>rfl
  | some r=>
   obtain ⟨t,k⟩:=r
   obtain ⟨h1,h2⟩:=nextS_le h
   simp only
   rw [scanS_fuel f g (l.drop k) (by rw [List.length_drop]; omega) (by rw [List.length_drop]; omega)]
theorem scanL_none {l:List UInt8} (h:nextS l=none):scanL l=([],0):=by unfold scanL; simp only [scanS]; rw [h]
theorem scanL_some {l t:List UInt8} {k:Nat} (h:nextS l=some (t,k)):scanL l=(t :: (scanL (l.drop k)).1,k+(scanL (l.drop k)).2):=by
 obtain ⟨h1,h2⟩:=nextS_le h
 have e:scanL l=(t :: (scanS l.length (l.drop k)).1,k+(scanS l.length (l.drop k)).2):=by unfold scanL; simp only [scanS]; rw [h]
 rw [e]
 unfold scanL
 rw [scanS_fuel l.length ((l.drop k).length+1) (l.drop k) (by rw [List.length_drop]; omega) (by omega)]
theorem scanL_le (l:List UInt8):(scanL l).2≤l.length:=by
 have h:∀ (n:Nat) (l:List UInt8),l.length≤n→(scanL l).2≤l.length:=by
  intro n
  induction n with
  | zero=>
   intro l hl
   cases h:nextS l with
   | none=>rw [scanL_none h]; exact Nat.zero_le _
   | some r=>have:=nextS_le (t:=r.1) (k:=r.2) h; omega
  | succ n ih=>
   intro l hl
   cases h:nextS l with
   | none=>rw [scanL_none h]; exact Nat.zero_le _
   | some r=>
    have h1:=nextS_le (t:=r.1) (k:=r.2) h
    rw [scanL_some (t:=r.1) (k:=r.2) h]
    have h2:=ih (l.drop r.2) (by rw [List.length_drop]; omega)
    rw [List.length_drop] at h2
    simp only
    omega
 exact h _ l (Nat.le_refl _)
/-- Records and what is no record behind them. -/
theorem scanL_frames:∀ (ts:List (List UInt8)) (l:List UInt8),(∀ t∈ts,t.length≤1048576)→nextS l=none→scanL (ts.flatMap frameS ++ l)=(ts,(ts.flatMap frameS).length)
 | [],l,_,hl=>by simpa using scanL_none hl
 | t :: ts,l,h,hl=>by
  have h1:=nextS_frame t (ts.flatMap frameS ++ l) (h t List.mem_cons_self)
  have h2:=scanL_frames ts l (fun u hu=>h u (List.mem_cons_of_mem _ hu)) hl
  rw [List.flatMap_cons,List.append_assoc,scanL_some h1,List.drop_left,h2]
  simp
end Go.Proofs.YtogkkfdkeefjnaaGreatDoorNum
namespace Go.Proofs.YtogkkfdkeefjnaaGreatDoor.Codec
open Go.RowKit Go.Proofs.YtogkkfdkeefjnaaGreatDoorBase Go.Proofs.YtogkkfdkeefjnaaGreatDoorLex2 Go.Proofs.YtogkkfdkeefjnaaGreatDoorNum
set_option linter.unusedVariables false
set_option maxRecDepth 100000
set_option linter.unusedSimpArgs false
theorem _root_.Go.Proofs.YtogkkfdkeefjnaaGreatDoorBase.Kept.nil_trans {w w1 w2:World} (h:Kept w w1 (fun _=>False)) (h2:Kept w1 w2 (fun _=>False)):Kept w w2 (fun _=>False):=h.trans h2 fun _ h=>h.elim
theorem _root_.Go.Proofs.YtogkkfdkeefjnaaGreatDoorBase.Kept.nil_below {w w1:World} (h:Kept w w1 (fun _=>False)):Below w.heap.size w w1:=h.below (fun _ h=>h.elim) (Nat.le_refl _)
theorem _root_.Go.Proofs.YtogkkfdkeefjnaaGreatDoorBase.RowIn.kept {w w1:World} {A:Option Addr} {n:Nat} {xs:List Value} (h:RowIn w A n xs) (hk:Kept w w1 (fun _=>False)):RowIn w1 A n xs:=h.below hk.nil_below
theorem num_rep {G:Nat→Prop} {w:World} {x:Int} {u:Value} (h:numC.rep G w x u):u=.int .i64 x:=h
theorem src_row {w:World} {A:Option Addr} {n c:Nat} {xs:List Value} {t e:TypeId} (h:RowIn w A n xs) (ht:Tryz.prog.underlying t=some (.slice e)) (h1:∀ u∈xs,u.oneCell'=true):Src Tryz.prog 1 t (.slice A n c) n xs w:=by
 have hl:=h.len
 by_cases h0:n=0
 ·subst h0
  have:xs=[]:=List.eq_nil_of_length_eq_zero (by omega)
  subst this
  cases A with
  | none=>exact Src.ofNil _ ht c
  | some a=>exact Src.ofSlice _ ht a 0 c [] rfl (fun j u hj=>by simp at hj) (fun u hu=>by cases hu)
 ·obtain ⟨b,off,rfl,hb,hx⟩:=h.cell (by omega)
  exact Src.ofSlice _ ht _ n c xs (by omega) (fun j u hj=>by rw [Addr.add_lit]; exact hx j u hj) h1
theorem own_empty (w:World) (base:Nat) (e:TypeId) (hb:base≤w.heap.size):(w.alloc (.cells #[] e)).ownsRow base e 1 (.slice (some ⟨w.heap.size,0,none⟩) 0 0) 0 [] :=
 ⟨rfl,.inr ⟨w.heap.size,0,#[],rfl,hb,heap_alloc_new _ _,Nat.le_refl _,Nat.zero_le _,rfl,rfl⟩⟩
theorem row_own {w:World} {base:Nat} {e:TypeId} {v:Value} {n:Nat} {xs:List Value} (h:w.ownsRow base e 1 v n xs):∃ A c,v=.slice A n c∧n≤c∧RowIn w A n xs:=by
 have hl:n=xs.length:=by have:=h.1; omega
 rcases h.2 with ⟨rfl,rfl⟩ | ⟨g,cap,cur,rfl,hbg,hh,hnc,hcm,r⟩
 ·exact ⟨none,0,rfl,Nat.le_refl _,hl,Nat.zero_le _,fun h=>absurd h (Nat.lt_irrefl 0)⟩
 ·refine ⟨_,_,rfl,hnc,hl,by omega,fun _=>⟨g,0,rfl,blk_lt hh,fun k u hk=>?_⟩⟩
  have:=h.cells (g:=g) rfl k u hk
  rw [Addr.add_lit] at this
  exact this
theorem cell_same {w w':World} {p j:Nat} (h:w'.heap[p]?=w.heap[p]?):w'.cell? ⟨p,j,none⟩=w.cell? ⟨p,j,none⟩:=by simp only [World.cell?,h]
end Go.Proofs.YtogkkfdkeefjnaaGreatDoor.Codec
