/-
  A list of one state that lies in the caller's own memory, written. The codec of something that may lack: of a state. append to a full row: it lies anew; no program's text.
-/
import Derived.Test.YtogkkfdkeefjnaaGreatDoorA24
import Derived.Test.YtogkkfdkeefjnaaGreatDoorA01
import Derived.Deep.DeepAppendWide
import Derived.Deep.AppendSrc
namespace Go.Proofs.YtogkkfdkeefjnaaGreatDoor.Codec
open Go.RowKit Go.Proofs.YtogkkfdkeefjnaaGreatDoorBase Go.Proofs.YtogkkfdkeefjnaaGreatDoorLex2 Go.Proofs.YtogkkfdkeefjnaaGreatDoorNum
set_option linter.unusedVariables false
set_option maxRecDepth 100000
set_option linter.unusedSimpArgs false
set_option maxHeartbeats 1600000 in
theorem list_put_one {α:Type} (c:Cod α) (hf:Fair c) (hmany:Many c 29) (W:World) (pv gv:Value) (T:TypeId) (hp:PutOk W pv c) (B p b m cb:Nat) (F:Nat→Prop) (s:WS) (w:World) (l:List α) (v:Value) (hB:W.heap.size≤B) (hw:Same W w) (h:WriterAt B w p F s) (A:Option Addr) (cp:Nat) (hv:v=.slice A l.length cp) (hc:0 < l.length→∃ b off,A=some ⟨b,off,none⟩∧¬ F b∧b < w.heap.size∧∀ k x,l[k]?=some x→∃ cs,cs.size=29∧CellsAt w b (off+k * 29) cs∧c.rep (fun k=>k < B) w x (.agg cs))
  (hb:W.cell? ⟨b,0,none⟩=some (.int .i64 m)) (hbl:b < W.heap.size) (hcb:W.heap[cb]?=some (.cells #[pv,gv] T (0,0))) (ho:¬ m < l.length) (hm:m≤1048576) (hr:WRoom s (8+costs c l)) :
  Calls Tryz.prog 184 #[.pointer (some ⟨p,0,none⟩),v,.pointer (some ⟨b,0,none⟩),.pointer (some ⟨cb,0,none⟩)] w fun r w'=>r=.returned (.tuple #[])∧WMoved B w w' p F (puts c l (putN l.length s)):=by
 obtain ⟨f,caps,rfl,he,hp⟩:=hp
 unfold Proofs.Enters at he
 obtain rfl:=hv
 have q:¬ (m:Int) < l.length:=by omega
 have hll:l.length≤1048576:=by omega
 have c0:w.cell? ⟨b,0,none⟩=some (.int .i64 m):=by rw [← hb]; simp only [World.cell?,hw.2 b hbl]
 unfold WRoom at hr
 have P:=lh (put_any B p F s l.length w h (by omega) (by unfold WRoom; omega))
 have HWA:=lh h
 have HW:=lh hw
 have HR:=lh hr
 have HC:=lh hc
 have HP:=lh hp
 have HCB:=lh hcb
 have HF:=lh hf
 have HBB:=lh hB
 have MANY:=lh hmany
 clear h ho hr hp hcb hc hb hbl hw hm hf hB hmany
 go_enter Tryz.func184,Tryz.ntmps184
 go_wp2_with (fail)
 refine P.out.mono ?_
 rintro e w1 ⟨rfl,hm⟩
 have HM:Hid (WMoved B w w1 p F (putN l.length s)):=lh hm
 clear hm
 go_wp2
 go_loopw [20] (fun iv wr=>∃ k:Nat,k≤l.length∧iv=.int .i64 k∧WMoved B w wr p F (puts c (l.take k) (putN l.length s))) (fun iv _=>(l.length - intOf iv).toNat)
 case atStart=>exact ⟨0,Nat.zero_le _,rfl,HM.out⟩
 case round=>
  obtain ⟨k,hk,rfl,hm⟩:=hrel
  by_cases hlast:k=l.length
  ·subst hlast
   rw [List.take_length] at hm
   have HM2:=lh hm
   clear hm
   go_wp2
   go_end0
   exact ⟨rfl,HM2.out⟩
  ·have hkl:k < l.length:=by omega
   have q1:(k:Int) < l.length:=by omega
   obtain ⟨x,hx⟩:∃ x,l[k]?=some x:=⟨_,List.getElem?_eq_getElem hkl⟩
   obtain ⟨B0,off,rfl,hB0,hBl,hxs⟩:=HC.out (by omega)
   obtain ⟨cs,hcs,hu,hru⟩:=hxs k x hx
   obtain ⟨F1,hf1,hF1,hk1⟩:=hm
   have hsm:Same W wr:=HW.out.kept hk1 (fun j hj=>Nat.le_trans HBB.out (by first | exact WriterAt.base_le HWA.out j hj))
   have hFB:∀ j,j < B→¬ F j:=fun j hj hf=>by have:=WriterAt.base_le HWA.out j hf; omega
   have HUR:=lh (hu.keep (hk1.block B0 hBl hB0)).range
   have HCS:=lh hcs
   obtain ⟨K9,H9⟩:=setRow_new (w:=wr) (Z:=#[.int .i64 0,.int .i64 0,.int .i64 0,.slice none 0 0,.slice none 0 0,.int .i64 0,.int .i64 0,.int .i64 0,.int .i64 0,.int .i64 0,.int .i64 0,.int .i64 0,.int .i64 0,.int .i64 0,.int .i64 0,.int .i64 0,.int .i64 0,.int .i64 0,.int .i64 0,.int .i64 0,.int .i64 0,.int .i64 0,.slice none 0 0,.slice none 0 0,.slice none 0 0,.slice none 0 0,.bool false,.slice none 0 0,.pointer none]) (cs:=cs) (T:=75)
   have HZ:=lh (heap_alloc_new wr (.cells #[.int .i64 0,.int .i64 0,.int .i64 0,.slice none 0 0,.slice none 0 0,.int .i64 0,.int .i64 0,.int .i64 0,.int .i64 0,.int .i64 0,.int .i64 0,.int .i64 0,.int .i64 0,.int .i64 0,.int .i64 0,.int .i64 0,.int .i64 0,.int .i64 0,.int .i64 0,.int .i64 0,.int .i64 0,.int .i64 0,.slice none 0 0,.slice none 0 0,.slice none 0 0,.slice none 0 0,.bool false,.slice none 0 0,.pointer none] 75))
   have HA:=lh (show cs.all (·.oneCell')=true from MANY.out _ _ _ _ hru |>.elim fun ds h=>by obtain ⟨h1,_,h3⟩:=h; rw [show cs=ds from by simpa using h1]; exact h3)
   obtain ⟨w9,hw9⟩:∃ w9,(wr.alloc (.cells #[.int .i64 0,.int .i64 0,.int .i64 0,.slice none 0 0,.slice none 0 0,.int .i64 0,.int .i64 0,.int .i64 0,.int .i64 0,.int .i64 0,.int .i64 0,.int .i64 0,.int .i64 0,.int .i64 0,.int .i64 0,.int .i64 0,.int .i64 0,.int .i64 0,.int .i64 0,.int .i64 0,.int .i64 0,.int .i64 0,.slice none 0 0,.slice none 0 0,.slice none 0 0,.slice none 0 0,.bool false,.slice none 0 0,.pointer none] 75)).setRow wr.heap.size cs=w9:=⟨_,rfl⟩
   rw [hw9] at K9 H9
   have HSR:=lh H9
   have hsm9:=hsm.kept K9 (fun _ h=>h.elim)
   have hrr:c.rep (fun k=>k < B) w9 x (.agg cs):=HF.out.keep (HF.out.keep hru (fun j hj hjB=>hk1.block j hj (hFB j hjB))) (fun j hj _=>K9.block j hj (fun h=>h))
   have c5:=cellOf (j:=0) (hsm9.blk HCB.out)
   simp at c5
   have hf9:WriterAt B w9 p F1 (puts c (l.take k) (putN l.length s)):=WriterAt.kept hf1 K9
   have room:WRoom (puts c (l.take k) (putN l.length s)) (c.cost x):=by
    unfold WRoom
    have h1:=puts_len HF.out (l.take k) (putN l.length s)
    have h2:=putN_len l.length s
    have h3:=costs_take (c:=c) hx
    have h4:=HR.out
    omega
   have P2:=lh (HP.out B p F1 _ w9 x (.agg cs) HBB.out hsm9 hrr hf9 room)
   have HI:=lh (show (Tryz.prog.info? 75).map (·.size)=some cs.size by rw [hcs]; kernel_rfl)
   have HIL:=lh (show (Tryz.prog.info? 75).map (·.size)=some cs.toList.length by rw [Array.length_toList]; exact HI.out)
   have e2:=puts_take (c:=c) hx (putN l.length s)
   have E2:=lh e2
   have H5:=lh hF1
   have H6:=lh (hk1.trans K9 (fun _ h=>h.elim))
   clear hxs hu hru hf1 hF1 hk1 hsm hFB hrr room e2 hx K9 H9 hsm9 hf9 hcs
   go_wp2_with (first | refine wpList_load_mid rfl 75 (.tmp 22) rfl B0 (off+k * 29) rfl cs.toList _ HUR.out Tryz.underlying75 rfl HIL.out ?_ | refine wpList_store_row rfl 75 (.tmp 7) (.tmp 23) rfl wr.heap.size cs rfl rfl _ _ HZ.out HI.out (by rw [HCS.out]; rfl) HA.out ?_ | refine wpList_load_row rfl 75 (.tmp 7) rfl wr.heap.size rfl _ cs _ _ HSR.out Tryz.underlying75 rfl HI.out ?_)
   refine P2.out.mono ?_
   rintro e w2 ⟨rfl,hm2⟩
   have HM3:=lh hm2
   clear hm2
   go_wp2
   go_roundw
   case rel=>
    refine ⟨k+1,by omega,by go_num,?_⟩
    rw [E2.out]
    exact WMoved.trans H5.out H6.out HM3.out
   case measure=>simp [intOf]; omega
/-- A list of one is written, wherever it lies outside of the writer's memory. -/
def PutOne {α:Type} (W:World) (pv:Value) (c:Cod α) (m:Nat):Prop :=
 ∃ f caps,pv=.func (.func f) #[] caps∧Proofs.Enters Tryz.prog f∧∀ (B p:Nat) (F:Nat→Prop) (s:WS) (w:World) (x:α) (cs:Array Value) (b:Nat),W.heap.size≤B→Same W w→cs.size=29→w.heap[b]?=some (.cells cs 75 (0,0))→¬ F b→c.rep (fun k=>k < B) w x (.agg cs)→WriterAt B w p F s→WRoom s (8+costs c [x])→1≤m →
  Calls Tryz.prog f (#[.pointer (some ⟨p,0,none⟩),.slice (some ⟨b,0,none⟩) 1 1] ++ caps) w fun r w'=>r=.returned (.tuple #[])∧WMoved B w w' p F ((listN c 29 m).put [x] s)
theorem putOne_of {α:Type} (c:Cod α) (hf:Fair c) (hmany:Many c 29) (W:World) (b cb m:Nat) (hm:m≤1048576) (pv gv:Value) (T:TypeId) (hp:PutOk W pv c) (hb:W.cell? ⟨b,0,none⟩=some (.int .i64 m)) (hbl:b < W.heap.size) (hcb:W.heap[cb]?=some (.cells #[pv,gv] T (0,0))) :
  PutOne W (.func (.func 184) #[] #[.pointer (some ⟨b,0,none⟩),.pointer (some ⟨cb,0,none⟩)]) c m:=by
 refine ⟨_,_,rfl,Proofs.enters_of Tryz.func184 (by kernel_rfl) rfl,?_⟩
 intro B p F s w x cs q hB hw hcs hq hF hr h hroom h1
 have e:(listN c 29 m).put [x] s=puts c [x] (putN [x].length s):=by
  show (if m < [x].length then _ else _)=_
  rw [if_neg (by simp; omega)]
 rw [e]
 show Calls Tryz.prog _ #[.pointer (some ⟨p,0,none⟩),.slice (some ⟨q,0,none⟩) 1 1,.pointer (some ⟨b,0,none⟩),.pointer (some ⟨cb,0,none⟩)] w _
 refine list_put_one c hf hmany W pv gv T hp B p b m cb F s w [x] _ hB hw h (some ⟨q,0,none⟩) 1 rfl (fun _=>⟨q,0,rfl,hF,blk_lt hq,fun k y hk=>?_⟩) hb hbl hcb (by simp; omega) hm hroom
 match k,hk with
 | 0,hk=>
  obtain rfl:x=y:=by simpa using hk
  refine ⟨cs,hcs,fun j v hv=>?_,hr⟩
  rw [show 0+0 * 29+j=j by omega,cellOf hq]
  exact hv
 | k+1,hk=>simp at hk
set_option maxHeartbeats 1600000 in
theorem listofX (pv gv:Value) (m:Int) (w:World) :
  Calls Tryz.prog 104 #[.agg #[pv,gv],.int .i64 m] w fun r w'=>∃ a b,r=.returned (.agg #[a,b])∧a.oneCell'=true∧b.oneCell'=true∧Kept w w' (fun _=>False)∧∀ W',From w.heap.size w' W'→∀ {α:Type} (c:Cod α),Fair c→Many c 29→IsCodec W' (.agg #[pv,gv]) c→IsCodec W' (.agg #[a,b]) (listN c 29 (bnd m))∧PutOne W' a c (bnd m):=by
 go_enter Tryz.func104,Tryz.ntmps104
 go_wp2_with (go_at_call 162; refine (bound_any m _).mono ?_; rintro e w1 ⟨rfl,rfl⟩)
 refine bodyPost_ret (results_cell_row rfl _ _ _ _ _ _ _ rfl (heap_alloc3_new _ _ _ _) Tryz.underlying180 rfl (by kernel_rfl)) rfl ?_
 have hk:Kept w (((w.alloc (.cells #[pv,gv] 185)).alloc (.cells #[.int .i64 (bnd m)] 3)).alloc (.cells #[.func (.func 184) #[] #[.pointer (some ⟨w.heap.size+1,0,none⟩),.pointer (some ⟨w.heap.size,0,none⟩)],.func (.func 185) #[] #[.pointer (some ⟨w.heap.size+1,0,none⟩),.pointer (some ⟨w.heap.size,0,none⟩)]] 180)) (fun _=>False):=(((Kept.refl _ _).alloc _).alloc _).alloc _
 refine ⟨_,_,rfl,rfl,rfl,hk,fun W' hW α c hf hm hc=>?_⟩
 have b1:=hW.blk (k:=w.heap.size+1) (by omega) ((Below.heap_alloc _ _ _ (by simp)).trans (heap_alloc2_new w _ _))
 have b2:=hW.blk (k:=w.heap.size) (by omega) ((Below.heap_alloc _ _ _ (by simp; omega)).trans ((Below.heap_alloc _ _ _ (by simp)).trans (heap_alloc_new w _)))
 exact ⟨list_codec_groupState c hf hm _ _ _ _ (bnd_le m) pv gv 185 (isCodec_agg hc).1 (isCodec_agg hc).2 (cellOf (j:=0) b1) (blk_lt b1) b2,putOne_of c hf hm _ _ _ _ (bnd_le m) pv gv 185 (isCodec_agg hc).1 (cellOf (j:=0) b1) (blk_lt b1) b2⟩
theorem listX (pv gv:Value) (w:World) :
  Calls Tryz.prog 66 #[.agg #[pv,gv]] w fun r w'=>∃ a b,r=.returned (.agg #[a,b])∧a.oneCell'=true∧b.oneCell'=true∧Kept w w' (fun _=>False)∧∀ W',From w.heap.size w' W'→∀ {α:Type} (c:Cod α),Fair c→Many c 29→IsCodec W' (.agg #[pv,gv]) c→IsCodec W' (.agg #[a,b]) (listN c 29 65536)∧PutOne W' a c 65536:=by
 go_enter Tryz.func66,Tryz.ntmps66
 go_wp2_with (fail)
 refine (listofX pv gv _ _).mono ?_
 rintro e w1 ⟨a,b,rfl,ha,hb,hk,hc⟩
 have hz:=hk.blk (heap_alloc2_new w (.cells #[pv,gv] 185) (.cells #[.nilFunc,.nilFunc] 180)) (fun h=>h)
 have k1:Kept w w1 (fun _=>False):=(((Kept.refl w (fun _=>False)).alloc _).alloc _).trans hk (fun _ h=>h.elim)
 have hsz:((w.alloc (.cells #[pv,gv] 185)).alloc (.cells #[.nilFunc,.nilFunc] 180)).heap.size=w.heap.size+2:=by simp
 rw [hsz] at hc
 have HZ:=lh hz
 have K1:=lh k1
 have HC:=lh hc
 have HA:=lh ha
 have HBB:=lh hb
 clear hk hc hz k1 hsz ha hb
 go_wp2_with (first | refine wpList_store_row rfl 180 (.tmp 2) (.tmp 4) rfl (w.heap.size+1) #[a,b] rfl rfl _ _ HZ.out (by kernel_rfl) rfl (by simp [HA.out,HBB.out]) ?_)
 have hsr:=setRow_heap w1 (w.heap.size+1) _ #[a,b] 180 (0,0) HZ.out
 have kr:Kept w1 (w1.setRow (w.heap.size+1) #[a,b]) (fun j=>j=w.heap.size+1):=⟨rfl,rfl,rfl,by simp,fun j _ hj=>setRow_other w1 (w.heap.size+1) j _ hj⟩
 refine bodyPost_ret (results_cell_row rfl _ _ _ _ _ _ _ rfl hsr Tryz.underlying180 rfl (by kernel_rfl)) rfl ?_
 refine ⟨a,b,rfl,HA.out,HBB.out,K1.out.trans kr (fun j h=>.inr (by omega)),fun W' hW α c hf hm hcc=>?_⟩
 exact HC.out W' (hW.pre (b2:=w.heap.size+2) (kr.mono (fun k h=>by omega)) (by omega)) c hf hm hcc
end Go.Proofs.YtogkkfdkeefjnaaGreatDoor.Codec
namespace Go.Proofs.YtogkkfdkeefjnaaGreatDoor.Codec
open Go.RowKit Go.Proofs.YtogkkfdkeefjnaaGreatDoorBase Go.Proofs.YtogkkfdkeefjnaaGreatDoorLex2 Go.Proofs.YtogkkfdkeefjnaaGreatDoorNum
set_option linter.unusedVariables false
set_option maxRecDepth 100000
set_option linter.unusedSimpArgs false
theorem wp_build1 {P:Program} {o:Oper} {a:Act} {w:World} {K:Act→World→Prop} {Q:Exit→Act→World→Prop} (t e:TypeId) (x:Operand) (ho:o.op=.buildSlice t 1 #[(0,x)]) (cs:Array Value) (N:Nat) (z:Value)
  (hu:P.underlying t=some (.slice e)) (hi:(P.info? e).map (fun i=>(i.zero,i.size))=some (some z,N)) (h1:0 < N) (h2:N≤1000) (hcs:cs.size=N) (hx:a.eval x=.agg cs)
  (h:K (a.put o.dst (.slice (some ⟨w.heap.size,0,none⟩) 1 1)) (w.alloc (.cells cs e))):o.wp P a w K Q:=by
 cases hq:P.info? e with
 | none=>rw [hq] at hi; cases hi
 | some ie=>
  rw [hq] at hi
  simp only [Option.map_some,Option.some.injEq,Prod.mk.injEq] at hi
  obtain ⟨hz,hs⟩:=hi
  refine wp_buildSlice t e 1 #[(0,x)] ho cs ie z hu hq hz (by omega) (by omega) ?_ h
  simp only [List.map_toArray,List.map_cons,List.map_nil,hx,hs]
  exact fill_one hcs (by simp)
set_option maxHeartbeats 3200000 in
theorem may_put (W:World) (lb:Nat) (pv gv:Value) (T:TypeId) (hp:PutOk W pv (listN statC 29 65536)) (h1:PutOne W pv statC 65536) (hlb:W.heap[lb]?=some (.cells #[pv,gv] T (0,0))) :
  PutOk W (.func (.func 288) #[] #[.pointer (some ⟨lb,0,none⟩)]) pendC:=by
 refine ⟨_,_,rfl,Proofs.enters_of Tryz.func288 (by kernel_rfl) rfl,?_⟩
 intro B p F s w x v hB hw hv h hr
 obtain ⟨f,caps,rfl,he,hp⟩:=hp
 obtain ⟨f',caps',e,-,h1⟩:=h1
 obtain ⟨rfl,rfl⟩:f=f'∧caps=caps':=by simpa using e
 unfold Proofs.Enters at he
 have c0:=cellOf (j:=0) (hw.blk hlb)
 simp at c0
 show Calls Tryz.prog _ #[.pointer (some ⟨p,0,none⟩),v,.pointer (some ⟨lb,0,none⟩)] w _
 cases x with
 | none=>
  have hv':v=.pointer none:=hv
  subst hv'
  have P:=lh (hp B p F s w [] (.slice none 0 0) hB hw ⟨none,0,0,rfl,rfl,Nat.zero_le _,fun h=>absurd h (Nat.lt_irrefl 0)⟩ h hr)
  clear hp h1 hlb hw hv h hr hB e
  go_enter Tryz.func288,Tryz.ntmps288
  go_wp2_with (fail)
  refine P.out.mono ?_
  rintro e w1 ⟨rfl,hm⟩
  have HM:=lh hm
  clear hm
  go_wp2
  go_returns
  exact ⟨rfl,HM.out⟩
 | some st=>
  obtain ⟨b,o,cs,rfl,hb,hl,hcs,hc,hrep⟩:=hv
  have hall:cs.all (·.oneCell')=true:=by
   obtain ⟨ds,e,_,ha⟩:=statC_many _ _ _ _ hrep
   rw [show cs=ds from by simpa using e]
   exact ha
  have kq:=((Kept.refl w (fun _=>False)).drew).alloc (.cells cs 75)
  have P:=lh (h1 B p F s (w.drew.alloc (.cells cs 75)) st cs w.heap.size hB (hw.kept kq (fun _ h=>h.elim)) hcs (heap_alloc_new w.drew _) (fun hf=>absurd (h.lt _ hf) (Nat.lt_irrefl _)) (statC_fair.keep hrep (fun k hk _=>kq.block k hk (fun h=>h))) (WriterAt.kept h kq) hr (by decide))
  have RNG:=lh (show w.drew.rangeAt b o cs.toList from hc.range)
  have HIL:=lh (show (Tryz.prog.info? 75).map (·.size)=some cs.toList.length by rw [Array.length_toList,hcs]; kernel_rfl)
  have KQ:=lh kq
  have HCS:=lh hcs
  clear hp h1 hlb hw h hr hB e hc hrep hb hl kq hcs hall
  go_enter Tryz.func288,Tryz.ntmps288
  go_wp2
  refine wp_region_lex (fun w'=>w'.cell? ⟨lb,0,none⟩=some (.func (.func f) #[] caps)) [0,3,0,0,0,2,2,4] (by kernel_rfl) (by kernel_rfl) (by kernel_rfl) (c0) (fun Q' hQ'=>?_)
  simp only [List.zip_cons_cons,List.zip_nil_right]
  have c0:w.drew.cell? ⟨lb,0,none⟩=_:=c0
  repeat((first|(refine wpX_silent ?_ fun K hK=>?_;rfl;apply Exists.intro;refine ⟨fun w'=>?_,?_⟩;go_simp;exact⟨rfl,rfl⟩)|(refine wpX_read ?_ fun K hK=>?_;rfl;apply Exists.intro;refine ⟨?_,?_⟩;go_simp;exact⟨rfl,rfl⟩)|(refine wpX_float ?_ fun K hK=>?_;rfl;apply Exists.intro;refine ⟨fun w' hw'=>?_,?_⟩;(try dsimp only at hw');go_simp;exact⟨rfl,rfl⟩)|(refine wpX_not ?_ fun K hK=>?_;rfl));go_simp;refine hK _ _ ?_;clear hK K)
  refine wpX_keeps ?_ (fun K hK=>?_)
  ·rfl
  refine wp_load_mid 75 (.tmp 15) rfl b o rfl cs.toList _ RNG.out Tryz.underlying75 rfl HIL.out ?_
  go_simp
  refine hK _ _ ⟨rfl,c0,?_⟩
  clear hK K
  repeat((first|(refine wpX_silent ?_ fun K hK=>?_;rfl;apply Exists.intro;refine ⟨fun w'=>?_,?_⟩;go_simp;exact⟨rfl,rfl⟩)|(refine wpX_read ?_ fun K hK=>?_;rfl;apply Exists.intro;refine ⟨?_,?_⟩;go_simp;exact⟨rfl,rfl⟩)|(refine wpX_float ?_ fun K hK=>?_;rfl;apply Exists.intro;refine ⟨fun w' hw'=>?_,?_⟩;(try dsimp only at hw');go_simp;exact⟨rfl,rfl⟩)|(refine wpX_not ?_ fun K hK=>?_;rfl));go_simp;refine hK _ _ ?_;clear hK K)
  refine wpX_keeps ?_ (fun K hK=>?_)
  ·rfl
  have c1:(w.drew.alloc (.cells cs 75)).cell? ⟨lb,0,none⟩=_:=(World.cell?_alloc_lt _ _ _ (World.block_lt_of_cell? _ _ c0)).trans c0
  refine wp_build1 59 75 (.tmp 16) rfl cs 29 (.agg #[.int .i64 0,.int .i64 0,.int .i64 0,.slice none 0 0,.slice none 0 0,.int .i64 0,.int .i64 0,.int .i64 0,.int .i64 0,.int .i64 0,.int .i64 0,.int .i64 0,.int .i64 0,.int .i64 0,.int .i64 0,.int .i64 0,.int .i64 0,.int .i64 0,.int .i64 0,.int .i64 0,.int .i64 0,.int .i64 0,.slice none 0 0,.slice none 0 0,.slice none 0 0,.slice none 0 0,.bool false,.slice none 0 0,.pointer none]) Tryz.underlying59 (by kernel_rfl) (by decide) (by decide) HCS.out rfl ?_
  go_simp
  refine hK _ _ ⟨rfl,c1,?_⟩
  clear hK K c0
  repeat((first|(refine wpX_silent ?_ fun K hK=>?_;rfl;apply Exists.intro;refine ⟨fun w'=>?_,?_⟩;go_simp;exact⟨rfl,rfl⟩)|(refine wpX_read ?_ fun K hK=>?_;rfl;apply Exists.intro;refine ⟨?_,?_⟩;go_simp;exact⟨rfl,rfl⟩)|(refine wpX_float ?_ fun K hK=>?_;rfl;apply Exists.intro;refine ⟨fun w' hw'=>?_,?_⟩;(try dsimp only at hw');go_simp;exact⟨rfl,rfl⟩)|(refine wpX_not ?_ fun K hK=>?_;rfl));go_simp;refine hK _ _ ?_;clear hK K)
  refine wpX_heavy ?_ (fun K hK=>?_)
  ·rfl
  go_wp2_with (fail)
  refine P.out.mono ?_
  rintro e w1 ⟨rfl,hm⟩
  have HM:=lh hm
  clear hm
  go_simp
  refine hK _ _ ⟨rfl,?_⟩
  clear hK K
  refine wpX_nil (hQ' _ _ ?_)
  go_wp2
  go_end0
  exact ⟨rfl,WMoved.trans (fun k hk=>.inl hk) (KQ.out.mono (fun _ h=>h.elim)) HM.out⟩
set_option maxHeartbeats 3200000 in
theorem may_get (W:World) (lb:Nat) (pv gv:Value) (T:TypeId) (hp:GetOk W gv (listN statC 29 65536)) (hlb:W.heap[lb]?=some (.cells #[pv,gv] T (0,0))) :
  GetOk W (.func (.func 289) #[] #[.pointer (some ⟨lb,0,none⟩)]) pendC:=by
 refine ⟨_,_,rfl,Proofs.enters_of Tryz.func289 (by kernel_rfl) rfl,?_⟩
 intro p d s w hpW hw h hd
 obtain ⟨f,caps,rfl,he,hp⟩:=hp
 unfold Proofs.Enters at he
 have c0:=cellOf (j:=1) (hw.blk hlb)
 simp at c0
 show Calls Tryz.prog _ #[.pointer (some ⟨p,0,none⟩),.pointer (some ⟨lb,0,none⟩)] w _
 have P:=lh (hp p d s w hpW hw h hd)
 clear hp hlb hw h hd hpW
 have E:=lh (show pendC.get s=(((listN statC 29 65536).get s).1.head?,((listN statC 29 65536).get s).2) from rfl)
 obtain ⟨l,s',hls⟩:∃ l s',(listN statC 29 65536).get s=(l,s'):=⟨_,_,rfl⟩
 rw [hls] at P E
 rw [E.out]
 clear hls E
 go_enter Tryz.func289,Tryz.ntmps289
 go_wp2_with (fail)
 refine P.out.mono ?_
 rintro e w1 ⟨v,rfl,hm,hv⟩
 have HM:=lh hm
 obtain ⟨A,n,cp,rfl,rfl,hmx,hx⟩:=hv
 have HX:=lh hx
 clear hm hx P
 cases l with
 | nil=>
  go_wp2
  go_ret
  exact ⟨_,rfl,HM.out,rfl⟩
 | cons x xs=>
  obtain ⟨b,off,rfl,hb,hbl,hxs⟩:=HX.out (by simp)
  obtain ⟨cs,hcs,hc,hr⟩:=hxs 0 x rfl
  have REP:=lh (show pendC.rep (fun k=>w.heap.size≤k∧k < w1.heap.size) w1 (some x) (.pointer (some ⟨b,off,none⟩)) from ⟨b,off,cs,rfl,hb,hbl,hcs,by simpa using hc,hr⟩)
  obtain ⟨n,hn⟩:∃ n,xs.length=n:=⟨_,rfl⟩
  have q1:(0:Int) < ((x :: xs).length:Nat):=by simp
  have q2:((x :: xs).length:Nat)≤maxLen:=hmx
  obtain ⟨m,hm⟩:∃ m,(x :: xs).length=m:=⟨_,rfl⟩
  rw [hm] at q1 q2 ⊢
  have q3:(0:Int) < m:=q1
  clear hm hn hxs hb hbl hcs hc hr HX hmx q1
  unfold maxLen at q2
  go_wp2
  go_ret
  exact ⟨_,rfl,HM.out,REP.out⟩
set_option maxHeartbeats 3200000 in
theorem maybe_new (pv gv:Value) (w:World) :
  Calls Tryz.prog 151 #[.agg #[pv,gv]] w fun r w'=>∃ a b,r=.returned (.agg #[a,b])∧a.oneCell'=true∧b.oneCell'=true∧Kept w w' (fun _=>False)∧∀ W',From w.heap.size w' W'→IsCodec W' (.agg #[pv,gv]) statC→IsCodec W' (.agg #[a,b]) pendC:=by
 go_enter Tryz.func151,Tryz.ntmps151
 go_wp2_with (fail)
 refine (listX pv gv _).mono ?_
 rintro e w1 ⟨a,b,rfl,ha,hb,hk,hc⟩
 have hz:=hk.blk (heap_alloc2_new w (.cells #[pv,gv] 185) (.cells #[.nilFunc,.nilFunc] 354)) (fun h=>h)
 have k1:Kept w w1 (fun _=>False):=(((Kept.refl w (fun _=>False)).alloc _).alloc _).trans hk (fun _ h=>h.elim)
 have hsz:((w.alloc (.cells #[pv,gv] 185)).alloc (.cells #[.nilFunc,.nilFunc] 354)).heap.size=w.heap.size+2:=by simp
 have hsz1:=hk.size
 rw [hsz] at hc hsz1
 obtain ⟨K9,H9⟩:=setRow_new (w:=w1) (Z:=#[.nilFunc,.nilFunc]) (cs:=#[a,b]) (T:=180)
 have HZ1:=lh (heap_alloc_new w1 (.cells #[.nilFunc,.nilFunc] 180))
 obtain ⟨w2,hw2⟩:∃ w2,(w1.alloc (.cells #[.nilFunc,.nilFunc] 180)).setRow w1.heap.size #[a,b]=w2:=⟨_,rfl⟩
 have HW2:=lh hw2
 rw [hw2] at K9 H9
 have HZ:=lh (K9.blk hz (fun h=>h))
 have K1:=lh (k1.trans K9 (fun _ h=>h.elim))
 have K2:=lh K9
 have HL:=lh H9
 have HC:=lh hc
 have HA:=lh ha
 have HBB:=lh hb
 have SZ:=lh hsz1
 clear hk hc hz k1 hsz hsz1 ha hb K9 H9 hw2
 go_wp2_with (first|(refine wpList_store_row rfl 180 (.tmp 3) (.tmp 5) rfl w1.heap.size #[a,b] rfl rfl _ _ HZ1.out (by kernel_rfl) rfl (by simp [HA.out,HBB.out]) ?_; rw [HW2.out]) | refine wpList_store_row rfl 354 (.tmp 2) (.tmp 8) rfl (w.heap.size+1) #[.func (.func 288) #[] #[.pointer (some ⟨w1.heap.size,0,none⟩)],.func (.func 289) #[] #[.pointer (some ⟨w1.heap.size,0,none⟩)]] rfl rfl _ _ HZ.out (by kernel_rfl) rfl (by simp [Value.oneCell']) ?_)
 have hsr:=setRow_heap w2 (w.heap.size+1) _ #[.func (.func 288) #[] #[.pointer (some ⟨w1.heap.size,0,none⟩)],.func (.func 289) #[] #[.pointer (some ⟨w1.heap.size,0,none⟩)]] 354 (0,0) HZ.out
 have kr:Kept w2 (w2.setRow (w.heap.size+1) #[.func (.func 288) #[] #[.pointer (some ⟨w1.heap.size,0,none⟩)],.func (.func 289) #[] #[.pointer (some ⟨w1.heap.size,0,none⟩)]]) (fun j=>j=w.heap.size+1):=⟨rfl,rfl,rfl,by simp,fun j _ hj=>setRow_other w2 (w.heap.size+1) j _ hj⟩
 refine bodyPost_ret (results_cell_row rfl _ _ _ _ _ _ _ rfl hsr Tryz.underlying354 rfl (by kernel_rfl)) rfl ?_
 refine ⟨_,_,rfl,rfl,rfl,K1.out.trans kr (fun j h=>.inr (by omega)),fun W' hW hcc=>?_⟩
 have hs1:=SZ.out
 have h2:From (w.heap.size+2) w2 W':=hW.pre (b2:=w.heap.size+2) (kr.mono (fun k h=>by omega)) (by omega)
 have h1:From (w.heap.size+2) w1 W':=h2.pre (K2.out.mono (fun _ h=>h.elim)) (Nat.le_refl _)
 obtain ⟨⟨pv',gv',e,hp,hg⟩,hone⟩:=HC.out W' h1 statC statC_fair statC_many hcc
 obtain ⟨rfl,rfl⟩:a=pv'∧b=gv':=by simpa using e
 have hb:W'.heap[w1.heap.size]?=_:=h2.blk (by omega) HL.out
 exact ⟨_,_,rfl,may_put W' w1.heap.size a b _ hp hone hb,may_get W' w1.heap.size a b _ hg hb⟩
end Go.Proofs.YtogkkfdkeefjnaaGreatDoor.Codec
namespace Go.Proofs.YtogkkfdkeefjnaaGreatDoorBase
open Go.RowKit
set_option linter.unusedVariables false
set_option maxRecDepth 100000
set_option linter.unusedSimpArgs false
section
variable {P : Program} (w : World)
theorem run_append_full (t tx ty e:TypeId) (z:Value) (size bytes:Nat) (E:Elem P t e z size bytes) (g n:Nat) (xs:List Value) (hlen:xs.length=n * size) (hc:∀ j u,xs[j]?=some u→w.cell? ⟨g,j,none⟩=some u)
  (x:Value) (m:Nat) (news:List Value) (hs:Src P size tx x m news w) (hm:0 < m) (hbytes:((n+m)+(n+m) / 4+192) * bytes≤281474976710656) :
  ∃ (cp:Nat) (cs:Array Value),(Builtin.append_ #[t,tx] ty #[.slice (some ⟨g,0,none⟩) n n,x]).run P w=.ok (.slice (some ⟨w.heap.size,0,none⟩) (n+m) cp) (w.drew.alloc (.cells cs e))∧n+m≤cp∧cp≤maxLen∧∀ (j:Nat) (u:Value),(xs ++ news)[j]?=some u→cs[j]?=some u:=by
 obtain ⟨ht,⟨i,hi,hz,hsize,hby⟩,hzs,hsz,hbp⟩:=E
 subst hsize
 subst hby
 have hsmall:n+m≤9223372036854775807:=by
  have:(n+m) * 1≤(n+m+(n+m) / 4+192) * i.bytes:=Nat.mul_le_mul (by omega) hbp
  omega
 have h63:n+m≤maxLen:=by simp only [maxLen]; omega
 have hr:=run_append_grow_src (P:=P) w t tx ty e i z ht hi hz (some ⟨g,0,none⟩) n n xs
  (run_firstCells_some _ _ _ _ _ _ _ hlen (fun j u hj=>by rw [Addr.add_lit,Nat.zero_add]; exact hc j u hj)) x m news hs (by omega) (by omega) (growslice_fits_wide (by omega) hbytes)
 refine ⟨_,_,hr,grownCap_ge w (n+m) n e,grownCap_le_maxLen w (n+m) n e h63,fun j u hj=>?_⟩
 have hj1:=(List.getElem?_eq_some_iff.1 hj).1
 rw [Array.getElem?_append_left (by simpa using hj1)]
 simpa using hj
theorem wpList_append_full {ops:Array Oper} {rest:List Oper} {o:Oper} {a:Act} {Q:Exit→Act→World→Prop} (hgd:o.guard=none) (s x:Operand) (t tx:TypeId)
  (ho:o.op=.call { callee:=.builtin .append,args:=#[s,x],argTypes:=#[t,tx] })
  (e:TypeId) (z:Value) (size bytes:Nat) (E:Elem P t e z size bytes) (g n:Nat) (xs:List Value) (hsv:a.eval s=.slice (some ⟨g,0,none⟩) n n) (hlen:xs.length=n * size) (hc:∀ j u,xs[j]?=some u→w.cell? ⟨g,j,none⟩=some u)
  (xv:Value) (m:Nat) (news:List Value) (hx:a.eval x=xv) (hsrc:Src P size tx xv m news w) (hm:0 < m)
  (hbytes:((n+m)+(n+m) / 4+192) * bytes≤281474976710656)
  (h:∀ (cp:Nat) (cs:Array Value),n+m≤cp→cp≤maxLen→(∀ (j:Nat) (u:Value),(xs ++ news)[j]?=some u→cs[j]?=some u)→wpList P ops Q rest (a.put o.dst (.slice (some ⟨w.heap.size,0,none⟩) (n+m) cp)) (w.drew.alloc (.cells cs e))):wpList P ops Q (o :: rest) a w :=
 wpList_plain hgd fun K hK=>by
  obtain ⟨cp,cs,hr,h1,h2,h3⟩:=run_append_full (P:=P) w t tx o.type e z size bytes E g n xs hlen hc xv m news hsrc hm hbytes
  unfold Oper.wp execOp
  simp only [ho,resolve,invoke,builtin,Sem.run_bind,Sem.run_pure,Result.andThen_ok,List.map_toArray,List.map_cons,List.map_nil,hsv,hx,hr]
  exact hK _ _ (h cp cs h1 h2 h3)
end
end Go.Proofs.YtogkkfdkeefjnaaGreatDoorBase
