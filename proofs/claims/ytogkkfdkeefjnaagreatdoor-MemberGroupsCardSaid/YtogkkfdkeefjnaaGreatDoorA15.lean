/-
  The codec of lists of records: what its loops know; no program's text. The codec of lists of records, written, walked.
-/
import Derived.Test.YtogkkfdkeefjnaaGreatDoorA09
import Derived.Deep.WholeRow
import Derived.Great.BuildSlice
namespace Go.Proofs.YtogkkfdkeefjnaaGreatDoor.Codec
open Go.RowKit Go.Proofs.YtogkkfdkeefjnaaGreatDoorBase Go.Proofs.YtogkkfdkeefjnaaGreatDoorLex2 Go.Proofs.YtogkkfdkeefjnaaGreatDoorNum
set_option linter.unusedVariables false
set_option maxRecDepth 100000
set_option linter.unusedSimpArgs false
/-- What the loop has read: records of N cells. -/
structure GetRelN {α:Type} (c:Cod α) (N:Nat) (T:TypeId) (p:Nat) (d:ByteArray) (res:List α×RS) (m:Nat) (w:World) (vv iv:Value) (wr:World):Prop where
 it:∃ (j:Nat) (xs:List α) (s:RS) (us:List Value) (G:Nat→Prop),iv=.int .i64 j∧xs.length+j≤m∧ReaderAt wr p d s∧Kept w wr (fun k=>k=p)∧wr.ownsRow w.heap.size T N vv xs.length us ∧
  (∀ (i:Nat) (x:α),xs[i]?=some x→∃ cs:Array Value,cs.size=N∧(∀ j v,cs[j]?=some v→us[i * N+j]?=some v)∧c.rep G wr x (.agg cs))∧(∀ k,G k→w.heap.size≤k∧k < wr.heap.size∧vv.ownBlock≠some k) ∧
  res=(xs ++ (getL c.get j s).1,(getL c.get j s).2)
theorem getRelN_end {α:Type} {c:Cod α} {N:Nat} {T:TypeId} {w wr:World} {vv:Value} {xs:List α} {us:List Value} {G:Nat→Prop} (hf:Fair c)
  (ho:wr.ownsRow w.heap.size T N vv xs.length us) (hx:∀ (i:Nat) (x:α),xs[i]?=some x→∃ cs:Array Value,cs.size=N∧(∀ j v,cs[j]?=some v→us[i * N+j]?=some v)∧c.rep G wr x (.agg cs)) (hG:∀ k,G k→w.heap.size≤k∧k < wr.heap.size∧vv.ownBlock≠some k) (hm:xs.length≤1048576) :
  RowRepN c N (fun k=>w.heap.size≤k∧k < wr.heap.size) wr xs vv:=by
 rcases ho.2 with ⟨rfl,h0⟩ | ⟨g,cap,cur,rfl,hb,hg,hnc,hcm,hcs,htake⟩
 ·refine ⟨none,0,0,rfl,h0.symm,Nat.zero_le _,fun h=>absurd h (Nat.lt_irrefl 0)⟩
 ·refine ⟨_,_,_,rfl,rfl,by unfold maxLen; omega,fun _=>⟨g,0,rfl,⟨hb,blk_lt hg⟩,blk_lt hg,fun k x hk=>?_⟩⟩
  obtain ⟨cs,hs,hu,hr⟩:=hx k x hk
  refine ⟨cs,hs,fun j v hj=>?_,hf.mono (fun k hk=>⟨(hG k hk).1,(hG k hk).2.1⟩) hr⟩
  have:=ho.cells (g:=g) rfl _ v (hu j v hj)
  rw [Addr.add_lit] at this
  rw [← this]
  congr 2
  omega
/-- One round more. -/
theorem getRelN_step {α:Type} {c:Cod α} {N:Nat} {T:TypeId} {p:Nat} {d:ByteArray} {res:List α×RS} {m j:Nat} {w wr w2 w3:World} {vv v':Value} {cs:Array Value} {xs:List α} {x:α} {s3:RS} {us:List Value} {G:Nat→Prop} {o:Obj}
  (hf:Fair c) (hcs:cs.size=N) (hr:res=((xs ++ [x]) ++ (getL c.get j s3).1,(getL c.get j s3).2)) (hjm:xs.length+(j+1)≤m) (hlt:p < w.heap.size) (hm2:RMoved wr w2 p d s3) (hu:c.rep (fun k=>wr.heap.size≤k∧k < w2.heap.size) w2 x (.agg cs))
  (ho:wr.ownsRow w.heap.size T N vv xs.length us) (hx:∀ (i:Nat) (x:α),xs[i]?=some x→∃ cs:Array Value,cs.size=N∧(∀ j v,cs[j]?=some v→us[i * N+j]?=some v)∧c.rep G wr x (.agg cs)) (hG:∀ k,G k→w.heap.size≤k∧k < wr.heap.size∧vv.ownBlock≠some k) (hk:Kept w wr (fun k=>k=p)) (hvp:vv.ownBlock≠some p)
  (o1:w3.ownsRow w.heap.size T N v' (xs.length+1) (us ++ cs.toList)) (g1:(w2.alloc o).grownBy w3 vv.ownBlock) (b1:∀ g,v'.ownBlock=some g→vv.ownBlock=some g∨(w2.alloc o).heap.size≤g) :
  GetRelN c N T p d res m w v' (.int .i64 (j:Int)) w3:=by
 have hs1:=hk.size
 have hs2:=hm2.2.size
 have hs3:=g1.size
 have hal:(w2.alloc o).heap.size=w2.heap.size+1:=by simp
 have hvl:∀ g,vv.ownBlock=some g→g < wr.heap.size:=fun g hg=>(ho.lt g hg).2
 have K3:Kept wr w3 (fun k=>k=p∨vv.ownBlock=some k):=by
  refine Kept.grown ((hm2.2.mono (fun k hk=>.inl hk)).alloc o) g1 ?_
  intro k hk
  exact .inl (.inr hk)
 have hul:us.length=xs.length * N:=by simpa using ho.1
 refine ⟨j,xs ++ [x],s3,us ++ cs.toList,fun k=>G k∨(wr.heap.size≤k∧k < w2.heap.size),rfl,by simp; omega,?_,?_,by simpa using o1,?_,?_,hr⟩
 ·obtain ⟨a,hb,ha,hra⟩:=hm2.1
  refine ⟨a,?_,ha,hra⟩
  rw [g1.block p (by omega) (fun e=>hvp e.symm),Below.heap_alloc _ _ _ (by omega)]
  exact hb
 ·refine Kept.grown (Kept.alloc (Kept.trans hk hm2.2 (fun k hk=>.inl hk)) o) g1 ?_
  intro k hk
  exact .inr (ho.lt k hk).1
 ·intro i y hi
  rcases Nat.lt_or_ge i xs.length with h | h
  ·rw [List.getElem?_append_left h] at hi
   obtain ⟨zs,hz0,hz,hrz⟩:=hx i y hi
   refine ⟨zs,hz0,fun j v hj=>?_,?_⟩
   ·have h1:=hz j v hj
    have h2:=(List.getElem?_eq_some_iff.1 h1).1
    rw [List.getElem?_append_left h2]
    exact h1
   ·refine hf.mono (fun k hk=>.inl hk) (hf.keep hrz (fun k hk1 hGk=>K3.block k hk1 ?_))
    obtain ⟨h1,h2,h3⟩:=hG k hGk
    rintro (rfl | hk)
    ·omega
    ·exact h3 hk
  ·have hi2:i=xs.length:=by
    have:=(List.getElem?_eq_some_iff.1 hi).1
    simp at this
    omega
   subst hi2
   rw [List.getElem?_append_right (Nat.le_refl _)] at hi
   simp at hi
   subst hi
   refine ⟨cs,hcs,fun j v hj=>?_,?_⟩
   ·rw [List.getElem?_append_right (by omega),hul,Nat.add_sub_cancel_left]
    simpa using hj
   ·refine hf.mono (fun k hk=>.inr hk) (hf.keep hu (fun k hk1 hGk=>?_))
    have hne:some k≠vv.ownBlock:=fun e=>by
     have:=hvl k e.symm
     have:=hGk.1
     omega
    rw [g1.block k (by omega) hne,Below.heap_alloc _ _ _ hk1]
 ·rintro k (hGk | ⟨h1,h2⟩)
  ·obtain ⟨h1,h2,h3⟩:=hG k hGk
   refine ⟨h1,by omega,fun e=>?_⟩
   rcases b1 k e with h | h
   ·exact h3 h
   ·omega
  ·refine ⟨by omega,by omega,fun e=>?_⟩
   rcases b1 k e with h | h
   ·have:=hvl k h
    omega
   ·omega
/-- A record laid into a new block. -/
theorem setRow_new {w:World} {Z cs:Array Value} {T:TypeId}:Kept w ((w.alloc (.cells Z T)).setRow w.heap.size cs) (fun _=>False)∧((w.alloc (.cells Z T)).setRow w.heap.size cs).heap[w.heap.size]?=some (.cells cs T (0,0)):=by
 refine ⟨?_,setRow_heap _ _ _ _ _ _ (heap_alloc_new w _)⟩
 have k:=(Kept.refl w (fun _=>False)).alloc (.cells Z T)
 refine k.trans (G:=fun j=>j=w.heap.size) ⟨rfl,rfl,rfl,by simp,fun j _ hj=>setRow_other _ w.heap.size j cs hj⟩ (fun j h=>.inr (by omega))
/-! ### A new slice of one record -/
theorem fold_spl:∀ (l:List Value) (k o:Nat) (base:Array Value),(l.zipIdx k).foldl (fun (cs:Array Value) (x:Value×Nat)=>cs.setIfInBounds (o+x.2) x.1) base=spl base (o+k) l
 | [],k,o,base=>rfl
 | v :: r,k,o,base=>by
  rw [List.zipIdx_cons,List.foldl_cons,fold_spl r (k+1) o,spl]
  rfl
theorem spl_all {cs base:Array Value} (h:base.size=cs.size):spl base 0 cs.toList=cs:=by
 refine Array.ext_getElem? fun j=>?_
 by_cases hj:j < cs.size
 ·obtain ⟨v,hv⟩:∃ v,cs.toList[j]?=some v:=⟨_,List.getElem?_eq_getElem (by simpa using hj)⟩
  have:=spl_in cs.toList base 0 j v hv (by simp; omega)
  rw [Nat.zero_add] at this
  rw [this]
  simpa using hv.symm
 ·rw [Array.getElem?_eq_none (by rw [spl_size]; omega),Array.getElem?_eq_none (by omega)]
theorem fill_one {cs base:Array Value} {n:Nat} (h1:cs.size=n) (h2:base.size=n):Instr.fill (fun i=>some (i * n,n)) base [(0,.agg cs)]=some cs:=by
 unfold Instr.fill
 simp only [Nat.zero_mul,Nat.zero_add]
 rw [if_neg (by rw [show (Value.agg cs).cells=cs from rfl]; simp; omega)]
 unfold Instr.fill
 congr 1
 rw [show (Value.agg cs).cells=cs from rfl,← Array.foldl_toList,Array.toList_zipIdx]
 have:=fold_spl cs.toList 0 0 base
 simp only [Nat.zero_add] at this
 rw [this]
 exact spl_all (by omega)
theorem wpList_build1 {P:Program} {ops:Array Oper} {rest:List Oper} {o:Oper} {a:Act} {w:World} {Q:Exit→Act→World→Prop} (hg:o.guard=none) (t e:TypeId) (x:Operand) (ho:o.op=.buildSlice t 1 #[(0,x)]) (cs:Array Value) (N:Nat) (z:Value)
  (hu:P.underlying t=some (.slice e)) (hi:(P.info? e).map (fun i=>(i.zero,i.size))=some (some z,N)) (h1:0 < N) (h2:N≤1000) (hcs:cs.size=N) (hx:a.eval x=.agg cs)
  (h:wpList P ops Q rest (a.put o.dst (.slice (some ⟨w.heap.size,0,none⟩) 1 1)) (w.alloc (.cells cs e))):wpList P ops Q (o :: rest) a w:=by
 cases hq:P.info? e with
 | none=>rw [hq] at hi; cases hi
 | some ie=>
  rw [hq] at hi
  simp only [Option.map_some,Option.some.injEq,Prod.mk.injEq] at hi
  obtain ⟨hz,hs⟩:=hi
  refine wpList_buildSlice hg t e 1 #[(0,x)] ho cs ie z hu hq hz (by omega) (by omega) ?_ h
  simp only [List.map_toArray,List.map_cons,List.map_nil,hx,hs]
  exact fill_one hcs (by simp)
end Go.Proofs.YtogkkfdkeefjnaaGreatDoor.Codec
namespace Go.Proofs.YtogkkfdkeefjnaaGreatDoor.Codec
open Go.RowKit Go.Proofs.YtogkkfdkeefjnaaGreatDoorBase Go.Proofs.YtogkkfdkeefjnaaGreatDoorLex2 Go.Proofs.YtogkkfdkeefjnaaGreatDoorNum
set_option linter.unusedVariables false
set_option maxRecDepth 100000
set_option linter.unusedSimpArgs false
theorem WriterAt.kept {B q:Nat} {w w':World} {F:Nat→Prop} {s:WS} (h:WriterAt B w q F s) (hk:Kept w w' (fun _=>False)):WriterAt B w' q F s:=by
 obtain ⟨sv,hb,hp,hbs,hs,hF⟩:=h
 exact ⟨sv,hk.blk hb (fun h=>h),hp,Nat.le_trans hbs hk.size,own_keptF hs hk (fun _ _ h=>h),hF⟩
theorem list_put_over_entryKept {α:Type} (c:Cod α) (B p b m cb:Nat) (F:Nat→Prop) (s:WS) (w:World) (l:List α) (v:Value) (h:WriterAt B w p F s) (hv:RowRepN c 8 (fun k=>k < B) w l v) (hb:w.cell? ⟨b,0,none⟩=some (.int .i64 m)) (ho:m < l.length) :
  Calls Tryz.prog 163 #[.pointer (some ⟨p,0,none⟩),v,.pointer (some ⟨b,0,none⟩),.pointer (some ⟨cb,0,none⟩)] w fun r w'=>r=.returned (.tuple #[])∧WMoved B w w' p F (s.fail 22):=by
 obtain ⟨A,n,cp,rfl,rfl,hm,_⟩:=hv
 have q:(m:Int) < l.length:=by omega
 have HW:=lh h
 clear h ho
 go_enter Tryz.func163,Tryz.ntmps163
 go_wp2_with (fail)
 refine (wfail_any B p F s 22 _ HW.out).mono ?_
 rintro e w1 ⟨rfl,hm⟩
 have HM:=lh hm
 clear hm
 go_wp2
 go_returns
 exact ⟨rfl,HM.out⟩
theorem list_put_over_apiVertex {α:Type} (c:Cod α) (B p b m cb:Nat) (F:Nat→Prop) (s:WS) (w:World) (l:List α) (v:Value) (h:WriterAt B w p F s) (hv:RowRepN c 6 (fun k=>k < B) w l v) (hb:w.cell? ⟨b,0,none⟩=some (.int .i64 m)) (ho:m < l.length) :
  Calls Tryz.prog 316 #[.pointer (some ⟨p,0,none⟩),v,.pointer (some ⟨b,0,none⟩),.pointer (some ⟨cb,0,none⟩)] w fun r w'=>r=.returned (.tuple #[])∧WMoved B w w' p F (s.fail 22):=by
 obtain ⟨A,n,cp,rfl,rfl,hm,_⟩:=hv
 have q:(m:Int) < l.length:=by omega
 have HW:=lh h
 clear h ho
 go_enter Tryz.func316,Tryz.ntmps316
 go_wp2_with (fail)
 refine (wfail_any B p F s 22 _ HW.out).mono ?_
 rintro e w1 ⟨rfl,hm⟩
 have HM:=lh hm
 clear hm
 go_wp2
 go_returns
 exact ⟨rfl,HM.out⟩
theorem list_put_over_kemSecret {α:Type} (c:Cod α) (B p b m cb:Nat) (F:Nat→Prop) (s:WS) (w:World) (l:List α) (v:Value) (h:WriterAt B w p F s) (hv:RowRepN c 2 (fun k=>k < B) w l v) (hb:w.cell? ⟨b,0,none⟩=some (.int .i64 m)) (ho:m < l.length) :
  Calls Tryz.prog 325 #[.pointer (some ⟨p,0,none⟩),v,.pointer (some ⟨b,0,none⟩),.pointer (some ⟨cb,0,none⟩)] w fun r w'=>r=.returned (.tuple #[])∧WMoved B w w' p F (s.fail 22):=by
 obtain ⟨A,n,cp,rfl,rfl,hm,_⟩:=hv
 have q:(m:Int) < l.length:=by omega
 have HW:=lh h
 clear h ho
 go_enter Tryz.func325,Tryz.ntmps325
 go_wp2_with (fail)
 refine (wfail_any B p F s 22 _ HW.out).mono ?_
 rintro e w1 ⟨rfl,hm⟩
 have HM:=lh hm
 clear hm
 go_wp2
 go_returns
 exact ⟨rfl,HM.out⟩
theorem list_put_over_ratchetKey {α:Type} (c:Cod α) (B p b m cb:Nat) (F:Nat→Prop) (s:WS) (w:World) (l:List α) (v:Value) (h:WriterAt B w p F s) (hv:RowRepN c 2 (fun k=>k < B) w l v) (hb:w.cell? ⟨b,0,none⟩=some (.int .i64 m)) (ho:m < l.length) :
  Calls Tryz.prog 381 #[.pointer (some ⟨p,0,none⟩),v,.pointer (some ⟨b,0,none⟩),.pointer (some ⟨cb,0,none⟩)] w fun r w'=>r=.returned (.tuple #[])∧WMoved B w w' p F (s.fail 22):=by
 obtain ⟨A,n,cp,rfl,rfl,hm,_⟩:=hv
 have q:(m:Int) < l.length:=by omega
 have HW:=lh h
 clear h ho
 go_enter Tryz.func381,Tryz.ntmps381
 go_wp2_with (fail)
 refine (wfail_any B p F s 22 _ HW.out).mono ?_
 rintro e w1 ⟨rfl,hm⟩
 have HM:=lh hm
 clear hm
 go_wp2
 go_returns
 exact ⟨rfl,HM.out⟩
theorem list_put_over_ratchetChain {α:Type} (c:Cod α) (B p b m cb:Nat) (F:Nat→Prop) (s:WS) (w:World) (l:List α) (v:Value) (h:WriterAt B w p F s) (hv:RowRepN c 4 (fun k=>k < B) w l v) (hb:w.cell? ⟨b,0,none⟩=some (.int .i64 m)) (ho:m < l.length) :
  Calls Tryz.prog 385 #[.pointer (some ⟨p,0,none⟩),v,.pointer (some ⟨b,0,none⟩),.pointer (some ⟨cb,0,none⟩)] w fun r w'=>r=.returned (.tuple #[])∧WMoved B w w' p F (s.fail 22):=by
 obtain ⟨A,n,cp,rfl,rfl,hm,_⟩:=hv
 have q:(m:Int) < l.length:=by omega
 have HW:=lh h
 clear h ho
 go_enter Tryz.func385,Tryz.ntmps385
 go_wp2_with (fail)
 refine (wfail_any B p F s 22 _ HW.out).mono ?_
 rintro e w1 ⟨rfl,hm⟩
 have HM:=lh hm
 clear hm
 go_wp2
 go_returns
 exact ⟨rfl,HM.out⟩
theorem list_put_over_groupCached {α:Type} (c:Cod α) (B p b m cb:Nat) (F:Nat→Prop) (s:WS) (w:World) (l:List α) (v:Value) (h:WriterAt B w p F s) (hv:RowRepN c 12 (fun k=>k < B) w l v) (hb:w.cell? ⟨b,0,none⟩=some (.int .i64 m)) (ho:m < l.length) :
  Calls Tryz.prog 350 #[.pointer (some ⟨p,0,none⟩),v,.pointer (some ⟨b,0,none⟩),.pointer (some ⟨cb,0,none⟩)] w fun r w'=>r=.returned (.tuple #[])∧WMoved B w w' p F (s.fail 22):=by
 obtain ⟨A,n,cp,rfl,rfl,hm,_⟩:=hv
 have q:(m:Int) < l.length:=by omega
 have HW:=lh h
 clear h ho
 go_enter Tryz.func350,Tryz.ntmps350
 go_wp2_with (fail)
 refine (wfail_any B p F s 22 _ HW.out).mono ?_
 rintro e w1 ⟨rfl,hm⟩
 have HM:=lh hm
 clear hm
 go_wp2
 go_returns
 exact ⟨rfl,HM.out⟩
theorem list_put_over_groupUpdate {α:Type} (c:Cod α) (B p b m cb:Nat) (F:Nat→Prop) (s:WS) (w:World) (l:List α) (v:Value) (h:WriterAt B w p F s) (hv:RowRepN c 2 (fun k=>k < B) w l v) (hb:w.cell? ⟨b,0,none⟩=some (.int .i64 m)) (ho:m < l.length) :
  Calls Tryz.prog 352 #[.pointer (some ⟨p,0,none⟩),v,.pointer (some ⟨b,0,none⟩),.pointer (some ⟨cb,0,none⟩)] w fun r w'=>r=.returned (.tuple #[])∧WMoved B w w' p F (s.fail 22):=by
 obtain ⟨A,n,cp,rfl,rfl,hm,_⟩:=hv
 have q:(m:Int) < l.length:=by omega
 have HW:=lh h
 clear h ho
 go_enter Tryz.func352,Tryz.ntmps352
 go_wp2_with (fail)
 refine (wfail_any B p F s 22 _ HW.out).mono ?_
 rintro e w1 ⟨rfl,hm⟩
 have HM:=lh hm
 clear hm
 go_wp2
 go_returns
 exact ⟨rfl,HM.out⟩
theorem list_put_over_groupPast {α:Type} (c:Cod α) (B p b m cb:Nat) (F:Nat→Prop) (s:WS) (w:World) (l:List α) (v:Value) (h:WriterAt B w p F s) (hv:RowRepN c 8 (fun k=>k < B) w l v) (hb:w.cell? ⟨b,0,none⟩=some (.int .i64 m)) (ho:m < l.length) :
  Calls Tryz.prog 354 #[.pointer (some ⟨p,0,none⟩),v,.pointer (some ⟨b,0,none⟩),.pointer (some ⟨cb,0,none⟩)] w fun r w'=>r=.returned (.tuple #[])∧WMoved B w w' p F (s.fail 22):=by
 obtain ⟨A,n,cp,rfl,rfl,hm,_⟩:=hv
 have q:(m:Int) < l.length:=by omega
 have HW:=lh h
 clear h ho
 go_enter Tryz.func354,Tryz.ntmps354
 go_wp2_with (fail)
 refine (wfail_any B p F s 22 _ HW.out).mono ?_
 rintro e w1 ⟨rfl,hm⟩
 have HM:=lh hm
 clear hm
 go_wp2
 go_returns
 exact ⟨rfl,HM.out⟩
theorem list_put_over_groupState {α:Type} (c:Cod α) (B p b m cb:Nat) (F:Nat→Prop) (s:WS) (w:World) (l:List α) (v:Value) (h:WriterAt B w p F s) (hv:RowRepN c 29 (fun k=>k < B) w l v) (hb:w.cell? ⟨b,0,none⟩=some (.int .i64 m)) (ho:m < l.length) :
  Calls Tryz.prog 184 #[.pointer (some ⟨p,0,none⟩),v,.pointer (some ⟨b,0,none⟩),.pointer (some ⟨cb,0,none⟩)] w fun r w'=>r=.returned (.tuple #[])∧WMoved B w w' p F (s.fail 22):=by
 obtain ⟨A,n,cp,rfl,rfl,hm,_⟩:=hv
 have q:(m:Int) < l.length:=by omega
 have HW:=lh h
 clear h ho
 go_enter Tryz.func184,Tryz.ntmps184
 go_wp2_with (fail)
 refine (wfail_any B p F s 22 _ HW.out).mono ?_
 rintro e w1 ⟨rfl,hm⟩
 have HM:=lh hm
 clear hm
 go_wp2
 go_returns
 exact ⟨rfl,HM.out⟩
def list_put_fits_LstP_P (p0_:Nat) (p1_:Nat):Prop:=∀ {α:Type} (c:Cod α) (hf:Fair c) (hmany:Many c p0_) (W:World) (pv gv:Value) (T:TypeId) (hp:PutOk W pv c) (B p b m cb:Nat) (F:Nat→Prop) (s:WS) (w:World) (l:List α) (v:Value) (hB:W.heap.size≤B) (hw:Same W w) (h:WriterAt B w p F s) (hv:RowRepN c p0_ (fun k=>k < B) w l v)
  (hb:W.cell? ⟨b,0,none⟩=some (.int .i64 m)) (hbl:b < W.heap.size) (hcb:W.heap[cb]?=some (.cells #[pv,gv] T (0,0))) (ho:¬ m < l.length) (hm:m≤1048576) (hr:WRoom s (8+costs c l)),
  Calls Tryz.prog p1_ #[.pointer (some ⟨p,0,none⟩),v,.pointer (some ⟨b,0,none⟩),.pointer (some ⟨cb,0,none⟩)] w fun r w'=>r=.returned (.tuple #[])∧WMoved B w w' p F (puts c l (putN l.length s))
set_option maxHeartbeats 14400000 in
theorem list_put_fits_LstP_A:(Ix 0→list_put_fits_LstP_P 8 163)∧(Ix 1→list_put_fits_LstP_P 6 316)∧(Ix 2→list_put_fits_LstP_P 2 325)∧(Ix 3→list_put_fits_LstP_P 2 381)∧(Ix 4→list_put_fits_LstP_P 4 385)∧(Ix 5→list_put_fits_LstP_P 12 350)∧(Ix 6→list_put_fits_LstP_P 2 352)∧(Ix 7→list_put_fits_LstP_P 8 354)∧(Ix 8→list_put_fits_LstP_P 29 184):=by
 refine ⟨?_,?_,?_,?_,?_,?_,?_,?_,?_⟩
 all_goals
  intro I α c hf hmany W pv gv T hp B p b m cb F s w l v hB hw h hv hb hbl hcb ho hm hr
  obtain ⟨f,caps,rfl,he,hp⟩:=hp
  unfold Proofs.Enters at he
  have HV:=lh hv
  obtain ⟨A,n,cp,rfl,rfl,hmx,hc⟩:=hv
  have q:¬ (m:Int) < l.length:=by omega
  have hll:l.length≤1048576:=by omega
  have c0:w.cell? ⟨b,0,none⟩=some (.int .i64 m):=by rw [← hb]; simp only [World.cell?,hw.2 b hbl]
  unfold WRoom at hr
  have P:=lh (put_any B p F s l.length w h (by omega) (by unfold WRoom; omega))
  have HWA:=lh h
  have HW:=lh hw
  have HR:=lh hr
  have HC:=lh hc
  have HP:=lh hp
  have HCB:=lh hcb
  have HF:=lh hf
  have HBB:=lh hB
  have MANY:=lh hmany
  clear h ho hr hp hcb hc hb hbl hw hm hf hB hmany
  first|(guard_hyp I:Ix 0; go_enter Tryz.func163,Tryz.ntmps163)|(guard_hyp I:Ix 1; go_enter Tryz.func316,Tryz.ntmps316)|(guard_hyp I:Ix 2; go_enter Tryz.func325,Tryz.ntmps325)|(guard_hyp I:Ix 3; go_enter Tryz.func381,Tryz.ntmps381)|(guard_hyp I:Ix 4; go_enter Tryz.func385,Tryz.ntmps385)|(guard_hyp I:Ix 5; go_enter Tryz.func350,Tryz.ntmps350)|(guard_hyp I:Ix 6; go_enter Tryz.func352,Tryz.ntmps352)|(guard_hyp I:Ix 7; go_enter Tryz.func354,Tryz.ntmps354)|(guard_hyp I:Ix 8; go_enter Tryz.func184,Tryz.ntmps184)
  go_wp2_with (fail)
  refine P.out.mono ?_
  rintro e w1 ⟨rfl,hm⟩
  have HM:Hid (WMoved B w w1 p F (putN l.length s)):=lh hm
  clear hm
  go_wp2
  go_loopw [20] (fun iv wr=>∃ k:Nat,k≤l.length∧iv=.int .i64 k∧WMoved B w wr p F (puts c (l.take k) (putN l.length s))) (fun iv _=>(l.length - intOf iv).toNat)
  case atStart=>exact ⟨0,Nat.zero_le _,rfl,HM.out⟩
  case round=>
   obtain ⟨k,hk,rfl,hm⟩:=hrel
   by_cases hlast:k=l.length
   ·subst hlast
    rw [List.take_length] at hm
    have HM2:=lh hm
    clear hm
    go_wp2
    go_end0
    exact ⟨rfl,HM2.out⟩
   ·have hkl:k < l.length:=by omega
    have q1:(k:Int) < l.length:=by omega
    obtain ⟨x,hx⟩:∃ x,l[k]?=some x:=⟨_,List.getElem?_eq_getElem hkl⟩
    obtain ⟨B0,off,rfl,hB0,hBl,hxs⟩:=HC.out (by omega)
    obtain ⟨cs,hcs,hu,hru⟩:=hxs k x hx
    obtain ⟨F1,hf1,hF1,hk1⟩:=hm
    have hsm:Same W wr:=HW.out.kept hk1 (fun j hj=>Nat.le_trans HBB.out (by first | exact WriterAt.base_le HWA.out j hj))
    have hFB:∀ j,j < B→¬ F j:=fun j hj hf=>by have:=WriterAt.base_le HWA.out j hf; omega
    have HUR:=lh (hu.keep (hk1.block B0 hBl (hFB B0 hB0))).range
    have HCS:=lh hcs
    first|(guard_hyp I:Ix 0; obtain ⟨K9,H9⟩:=setRow_new (w:=wr) (Z:=#[.int .i64 0,.int .i64 0,.int .i64 0,.int .i64 0,.int .i64 0,.int .i64 0,.int .i64 0,.int .i64 0]) (cs:=cs) (T:=113))|(guard_hyp I:Ix 1; obtain ⟨K9,H9⟩:=setRow_new (w:=wr) (Z:=#[.bool false,.int .i64 0,.int .i64 0,.int .i64 0,.int .i64 0,.slice none 0 0]) (cs:=cs) (T:=117))|(guard_hyp I:Ix 2; obtain ⟨K9,H9⟩:=setRow_new (w:=wr) (Z:=#[.int .i64 0,.int .i64 0]) (cs:=cs) (T:=124))|(guard_hyp I:Ix 3; obtain ⟨K9,H9⟩:=setRow_new (w:=wr) (Z:=#[.int .i64 0,.int .i64 0]) (cs:=cs) (T:=431))|(guard_hyp I:Ix 4; obtain ⟨K9,H9⟩:=setRow_new (w:=wr) (Z:=#[.int .i64 0,.int .i64 0,.int .i64 0,.slice none 0 0]) (cs:=cs) (T:=446))|(guard_hyp I:Ix 5; obtain ⟨K9,H9⟩:=setRow_new (w:=wr) (Z:=#[.int .i64 0,.int .i64 0,.int .i64 0,.int .i64 0,.int .i64 0,.int .i64 0,.int .i64 0,.int .i64 0,.int .i64 0,.int .i64 0,.int .i64 0,.int .i64 0]) (cs:=cs) (T:=231))|(guard_hyp I:Ix 6; obtain ⟨K9,H9⟩:=setRow_new (w:=wr) (Z:=#[.int .i64 0,.int .i64 0]) (cs:=cs) (T:=253))|(guard_hyp I:Ix 7; obtain ⟨K9,H9⟩:=setRow_new (w:=wr) (Z:=#[.int .i64 0,.int .i64 0,.slice none 0 0,.int .i64 0,.int .i64 0,.int .i64 0,.slice none 0 0,.slice none 0 0]) (cs:=cs) (T:=342))|(guard_hyp I:Ix 8; obtain ⟨K9,H9⟩:=setRow_new (w:=wr) (Z:=#[.int .i64 0,.int .i64 0,.int .i64 0,.slice none 0 0,.slice none 0 0,.int .i64 0,.int .i64 0,.int .i64 0,.int .i64 0,.int .i64 0,.int .i64 0,.int .i64 0,.int .i64 0,.int .i64 0,.int .i64 0,.int .i64 0,.int .i64 0,.int .i64 0,.int .i64 0,.int .i64 0,.int .i64 0,.int .i64 0,.slice none 0 0,.slice none 0 0,.slice none 0 0,.slice none 0 0,.bool false,.slice none 0 0,.pointer none]) (cs:=cs) (T:=75))
    first|(guard_hyp I:Ix 0; have HZ:=lh (heap_alloc_new wr (.cells #[.int .i64 0,.int .i64 0,.int .i64 0,.int .i64 0,.int .i64 0,.int .i64 0,.int .i64 0,.int .i64 0] 113)))|(guard_hyp I:Ix 1; have HZ:=lh (heap_alloc_new wr (.cells #[.bool false,.int .i64 0,.int .i64 0,.int .i64 0,.int .i64 0,.slice none 0 0] 117)))|(guard_hyp I:Ix 2; have HZ:=lh (heap_alloc_new wr (.cells #[.int .i64 0,.int .i64 0] 124)))|(guard_hyp I:Ix 3; have HZ:=lh (heap_alloc_new wr (.cells #[.int .i64 0,.int .i64 0] 431)))|(guard_hyp I:Ix 4; have HZ:=lh (heap_alloc_new wr (.cells #[.int .i64 0,.int .i64 0,.int .i64 0,.slice none 0 0] 446)))|(guard_hyp I:Ix 5; have HZ:=lh (heap_alloc_new wr (.cells #[.int .i64 0,.int .i64 0,.int .i64 0,.int .i64 0,.int .i64 0,.int .i64 0,.int .i64 0,.int .i64 0,.int .i64 0,.int .i64 0,.int .i64 0,.int .i64 0] 231)))|(guard_hyp I:Ix 6; have HZ:=lh (heap_alloc_new wr (.cells #[.int .i64 0,.int .i64 0] 253)))|(guard_hyp I:Ix 7; have HZ:=lh (heap_alloc_new wr (.cells #[.int .i64 0,.int .i64 0,.slice none 0 0,.int .i64 0,.int .i64 0,.int .i64 0,.slice none 0 0,.slice none 0 0] 342)))|(guard_hyp I:Ix 8; have HZ:=lh (heap_alloc_new wr (.cells #[.int .i64 0,.int .i64 0,.int .i64 0,.slice none 0 0,.slice none 0 0,.int .i64 0,.int .i64 0,.int .i64 0,.int .i64 0,.int .i64 0,.int .i64 0,.int .i64 0,.int .i64 0,.int .i64 0,.int .i64 0,.int .i64 0,.int .i64 0,.int .i64 0,.int .i64 0,.int .i64 0,.int .i64 0,.int .i64 0,.slice none 0 0,.slice none 0 0,.slice none 0 0,.slice none 0 0,.bool false,.slice none 0 0,.pointer none] 75)))
    have HA:=lh (show cs.all (·.oneCell')=true from MANY.out _ _ _ _ hru |>.elim fun ds h=>by obtain ⟨h1,_,h3⟩:=h; rw [show cs=ds from by simpa using h1]; exact h3)
    first|(guard_hyp I:Ix 0; obtain ⟨w9,hw9⟩:∃ w9,(wr.alloc (.cells #[.int .i64 0,.int .i64 0,.int .i64 0,.int .i64 0,.int .i64 0,.int .i64 0,.int .i64 0,.int .i64 0] 113)).setRow wr.heap.size cs=w9:=⟨_,rfl⟩)|(guard_hyp I:Ix 1; obtain ⟨w9,hw9⟩:∃ w9,(wr.alloc (.cells #[.bool false,.int .i64 0,.int .i64 0,.int .i64 0,.int .i64 0,.slice none 0 0] 117)).setRow wr.heap.size cs=w9:=⟨_,rfl⟩)|(guard_hyp I:Ix 2; obtain ⟨w9,hw9⟩:∃ w9,(wr.alloc (.cells #[.int .i64 0,.int .i64 0] 124)).setRow wr.heap.size cs=w9:=⟨_,rfl⟩)|(guard_hyp I:Ix 3; obtain ⟨w9,hw9⟩:∃ w9,(wr.alloc (.cells #[.int .i64 0,.int .i64 0] 431)).setRow wr.heap.size cs=w9:=⟨_,rfl⟩)|(guard_hyp I:Ix 4; obtain ⟨w9,hw9⟩:∃ w9,(wr.alloc (.cells #[.int .i64 0,.int .i64 0,.int .i64 0,.slice none 0 0] 446)).setRow wr.heap.size cs=w9:=⟨_,rfl⟩)|(guard_hyp I:Ix 5; obtain ⟨w9,hw9⟩:∃ w9,(wr.alloc (.cells #[.int .i64 0,.int .i64 0,.int .i64 0,.int .i64 0,.int .i64 0,.int .i64 0,.int .i64 0,.int .i64 0,.int .i64 0,.int .i64 0,.int .i64 0,.int .i64 0] 231)).setRow wr.heap.size cs=w9:=⟨_,rfl⟩)|(guard_hyp I:Ix 6; obtain ⟨w9,hw9⟩:∃ w9,(wr.alloc (.cells #[.int .i64 0,.int .i64 0] 253)).setRow wr.heap.size cs=w9:=⟨_,rfl⟩)|(guard_hyp I:Ix 7; obtain ⟨w9,hw9⟩:∃ w9,(wr.alloc (.cells #[.int .i64 0,.int .i64 0,.slice none 0 0,.int .i64 0,.int .i64 0,.int .i64 0,.slice none 0 0,.slice none 0 0] 342)).setRow wr.heap.size cs=w9:=⟨_,rfl⟩)|(guard_hyp I:Ix 8; obtain ⟨w9,hw9⟩:∃ w9,(wr.alloc (.cells #[.int .i64 0,.int .i64 0,.int .i64 0,.slice none 0 0,.slice none 0 0,.int .i64 0,.int .i64 0,.int .i64 0,.int .i64 0,.int .i64 0,.int .i64 0,.int .i64 0,.int .i64 0,.int .i64 0,.int .i64 0,.int .i64 0,.int .i64 0,.int .i64 0,.int .i64 0,.int .i64 0,.int .i64 0,.int .i64 0,.slice none 0 0,.slice none 0 0,.slice none 0 0,.slice none 0 0,.bool false,.slice none 0 0,.pointer none] 75)).setRow wr.heap.size cs=w9:=⟨_,rfl⟩)
    rw [hw9] at K9 H9
    have HSR:=lh H9
    have hsm9:=hsm.kept K9 (fun _ h=>h.elim)
    have hrr:c.rep (fun k=>k < B) w9 x (.agg cs):=HF.out.keep (HF.out.keep hru (fun j hj hjB=>hk1.block j hj (hFB j hjB))) (fun j hj _=>K9.block j hj (fun h=>h))
    have c5:=cellOf (j:=0) (hsm9.blk HCB.out)
    simp at c5
    have hf9:WriterAt B w9 p F1 (puts c (l.take k) (putN l.length s)):=WriterAt.kept hf1 K9
    have room:WRoom (puts c (l.take k) (putN l.length s)) (c.cost x):=by
     unfold WRoom
     have h1:=puts_len HF.out (l.take k) (putN l.length s)
     have h2:=putN_len l.length s
     have h3:=costs_take (c:=c) hx
     have h4:=HR.out
     omega
    have P2:=lh (HP.out B p F1 _ w9 x (.agg cs) HBB.out hsm9 hrr hf9 room)
    first|(guard_hyp I:Ix 0; have HI:=lh (show (Tryz.prog.info? 113).map (·.size)=some cs.size by rw [hcs]; kernel_rfl))|(guard_hyp I:Ix 1; have HI:=lh (show (Tryz.prog.info? 117).map (·.size)=some cs.size by rw [hcs]; kernel_rfl))|(guard_hyp I:Ix 2; have HI:=lh (show (Tryz.prog.info? 124).map (·.size)=some cs.size by rw [hcs]; kernel_rfl))|(guard_hyp I:Ix 3; have HI:=lh (show (Tryz.prog.info? 431).map (·.size)=some cs.size by rw [hcs]; kernel_rfl))|(guard_hyp I:Ix 4; have HI:=lh (show (Tryz.prog.info? 446).map (·.size)=some cs.size by rw [hcs]; kernel_rfl))|(guard_hyp I:Ix 5; have HI:=lh (show (Tryz.prog.info? 231).map (·.size)=some cs.size by rw [hcs]; kernel_rfl))|(guard_hyp I:Ix 6; have HI:=lh (show (Tryz.prog.info? 253).map (·.size)=some cs.size by rw [hcs]; kernel_rfl))|(guard_hyp I:Ix 7; have HI:=lh (show (Tryz.prog.info? 342).map (·.size)=some cs.size by rw [hcs]; kernel_rfl))|(guard_hyp I:Ix 8; have HI:=lh (show (Tryz.prog.info? 75).map (·.size)=some cs.size by rw [hcs]; kernel_rfl))
    first|(guard_hyp I:Ix 0; have HIL:=lh (show (Tryz.prog.info? 113).map (·.size)=some cs.toList.length by rw [Array.length_toList]; exact HI.out))|(guard_hyp I:Ix 1; have HIL:=lh (show (Tryz.prog.info? 117).map (·.size)=some cs.toList.length by rw [Array.length_toList]; exact HI.out))|(guard_hyp I:Ix 2; have HIL:=lh (show (Tryz.prog.info? 124).map (·.size)=some cs.toList.length by rw [Array.length_toList]; exact HI.out))|(guard_hyp I:Ix 3; have HIL:=lh (show (Tryz.prog.info? 431).map (·.size)=some cs.toList.length by rw [Array.length_toList]; exact HI.out))|(guard_hyp I:Ix 4; have HIL:=lh (show (Tryz.prog.info? 446).map (·.size)=some cs.toList.length by rw [Array.length_toList]; exact HI.out))|(guard_hyp I:Ix 5; have HIL:=lh (show (Tryz.prog.info? 231).map (·.size)=some cs.toList.length by rw [Array.length_toList]; exact HI.out))|(guard_hyp I:Ix 6; have HIL:=lh (show (Tryz.prog.info? 253).map (·.size)=some cs.toList.length by rw [Array.length_toList]; exact HI.out))|(guard_hyp I:Ix 7; have HIL:=lh (show (Tryz.prog.info? 342).map (·.size)=some cs.toList.length by rw [Array.length_toList]; exact HI.out))|(guard_hyp I:Ix 8; have HIL:=lh (show (Tryz.prog.info? 75).map (·.size)=some cs.toList.length by rw [Array.length_toList]; exact HI.out))
    have e2:=puts_take (c:=c) hx (putN l.length s)
    have E2:=lh e2
    have H5:=lh hF1
    have H6:=lh (hk1.trans K9 (fun _ h=>h.elim))
    clear hxs hu hru hf1 hF1 hk1 hsm hFB hrr room e2 hx K9 H9 hsm9 hf9 hcs
    first|(guard_hyp I:Ix 0; go_wp2_with (first | refine wpList_load_mid rfl 113 (.tmp 22) rfl B0 (off+k * 8) rfl cs.toList _ HUR.out Tryz.underlying113 rfl HIL.out ?_ | refine wpList_store_row rfl 113 (.tmp 7) (.tmp 23) rfl wr.heap.size cs rfl rfl _ _ HZ.out HI.out (by rw [HCS.out]; rfl) HA.out ?_ | refine wpList_load_row rfl 113 (.tmp 7) rfl wr.heap.size rfl _ cs _ _ HSR.out Tryz.underlying113 rfl HI.out ?_))|(guard_hyp I:Ix 1; go_wp2_with (first | refine wpList_load_mid rfl 117 (.tmp 22) rfl B0 (off+k * 6) rfl cs.toList _ HUR.out Tryz.underlying117 rfl HIL.out ?_ | refine wpList_store_row rfl 117 (.tmp 7) (.tmp 23) rfl wr.heap.size cs rfl rfl _ _ HZ.out HI.out (by rw [HCS.out]; rfl) HA.out ?_ | refine wpList_load_row rfl 117 (.tmp 7) rfl wr.heap.size rfl _ cs _ _ HSR.out Tryz.underlying117 rfl HI.out ?_))|(guard_hyp I:Ix 2; go_wp2_with (first | refine wpList_load_mid rfl 124 (.tmp 22) rfl B0 (off+k * 2) rfl cs.toList _ HUR.out Tryz.underlying124 rfl HIL.out ?_ | refine wpList_store_row rfl 124 (.tmp 7) (.tmp 23) rfl wr.heap.size cs rfl rfl _ _ HZ.out HI.out (by rw [HCS.out]; rfl) HA.out ?_ | refine wpList_load_row rfl 124 (.tmp 7) rfl wr.heap.size rfl _ cs _ _ HSR.out Tryz.underlying124 rfl HI.out ?_))|(guard_hyp I:Ix 3; go_wp2_with (first | refine wpList_load_mid rfl 431 (.tmp 22) rfl B0 (off+k * 2) rfl cs.toList _ HUR.out Tryz.underlying431 rfl HIL.out ?_ | refine wpList_store_row rfl 431 (.tmp 7) (.tmp 23) rfl wr.heap.size cs rfl rfl _ _ HZ.out HI.out (by rw [HCS.out]; rfl) HA.out ?_ | refine wpList_load_row rfl 431 (.tmp 7) rfl wr.heap.size rfl _ cs _ _ HSR.out Tryz.underlying431 rfl HI.out ?_))|(guard_hyp I:Ix 4; go_wp2_with (first | refine wpList_load_mid rfl 446 (.tmp 22) rfl B0 (off+k * 4) rfl cs.toList _ HUR.out Tryz.underlying446 rfl HIL.out ?_ | refine wpList_store_row rfl 446 (.tmp 7) (.tmp 23) rfl wr.heap.size cs rfl rfl _ _ HZ.out HI.out (by rw [HCS.out]; rfl) HA.out ?_ | refine wpList_load_row rfl 446 (.tmp 7) rfl wr.heap.size rfl _ cs _ _ HSR.out Tryz.underlying446 rfl HI.out ?_))|(guard_hyp I:Ix 5; go_wp2_with (first | refine wpList_load_mid rfl 231 (.tmp 22) rfl B0 (off+k * 12) rfl cs.toList _ HUR.out Tryz.underlying231 rfl HIL.out ?_ | refine wpList_store_row rfl 231 (.tmp 7) (.tmp 23) rfl wr.heap.size cs rfl rfl _ _ HZ.out HI.out (by rw [HCS.out]; rfl) HA.out ?_ | refine wpList_load_row rfl 231 (.tmp 7) rfl wr.heap.size rfl _ cs _ _ HSR.out Tryz.underlying231 rfl HI.out ?_))|(guard_hyp I:Ix 6; go_wp2_with (first | refine wpList_load_mid rfl 253 (.tmp 22) rfl B0 (off+k * 2) rfl cs.toList _ HUR.out Tryz.underlying253 rfl HIL.out ?_ | refine wpList_store_row rfl 253 (.tmp 7) (.tmp 23) rfl wr.heap.size cs rfl rfl _ _ HZ.out HI.out (by rw [HCS.out]; rfl) HA.out ?_ | refine wpList_load_row rfl 253 (.tmp 7) rfl wr.heap.size rfl _ cs _ _ HSR.out Tryz.underlying253 rfl HI.out ?_))|(guard_hyp I:Ix 7; go_wp2_with (first | refine wpList_load_mid rfl 342 (.tmp 22) rfl B0 (off+k * 8) rfl cs.toList _ HUR.out Tryz.underlying342 rfl HIL.out ?_ | refine wpList_store_row rfl 342 (.tmp 7) (.tmp 23) rfl wr.heap.size cs rfl rfl _ _ HZ.out HI.out (by rw [HCS.out]; rfl) HA.out ?_ | refine wpList_load_row rfl 342 (.tmp 7) rfl wr.heap.size rfl _ cs _ _ HSR.out Tryz.underlying342 rfl HI.out ?_))|(guard_hyp I:Ix 8; go_wp2_with (first | refine wpList_load_mid rfl 75 (.tmp 22) rfl B0 (off+k * 29) rfl cs.toList _ HUR.out Tryz.underlying75 rfl HIL.out ?_ | refine wpList_store_row rfl 75 (.tmp 7) (.tmp 23) rfl wr.heap.size cs rfl rfl _ _ HZ.out HI.out (by rw [HCS.out]; rfl) HA.out ?_ | refine wpList_load_row rfl 75 (.tmp 7) rfl wr.heap.size rfl _ cs _ _ HSR.out Tryz.underlying75 rfl HI.out ?_))
    refine P2.out.mono ?_
    rintro e w2 ⟨rfl,hm2⟩
    have HM3:=lh hm2
    clear hm2
    go_wp2
    go_roundw
    case rel=>
     refine ⟨k+1,by omega,by go_num,?_⟩
     rw [E2.out]
     exact WMoved.trans H5.out H6.out HM3.out
    case measure=>simp [intOf]; omega
theorem list_put_fits_entryKept:list_put_fits_LstP_P 8 163:=list_put_fits_LstP_A.1 ⟨⟩
theorem list_put_fits_apiVertex:list_put_fits_LstP_P 6 316:=list_put_fits_LstP_A.2.1 ⟨⟩
theorem list_put_fits_kemSecret:list_put_fits_LstP_P 2 325:=list_put_fits_LstP_A.2.2.1 ⟨⟩
theorem list_put_fits_ratchetKey:list_put_fits_LstP_P 2 381:=list_put_fits_LstP_A.2.2.2.1 ⟨⟩
theorem list_put_fits_ratchetChain:list_put_fits_LstP_P 4 385:=list_put_fits_LstP_A.2.2.2.2.1 ⟨⟩
theorem list_put_fits_groupCached:list_put_fits_LstP_P 12 350:=list_put_fits_LstP_A.2.2.2.2.2.1 ⟨⟩
theorem list_put_fits_groupUpdate:list_put_fits_LstP_P 2 352:=list_put_fits_LstP_A.2.2.2.2.2.2.1 ⟨⟩
theorem list_put_fits_groupPast:list_put_fits_LstP_P 8 354:=list_put_fits_LstP_A.2.2.2.2.2.2.2.1 ⟨⟩
theorem list_put_fits_groupState:list_put_fits_LstP_P 29 184:=list_put_fits_LstP_A.2.2.2.2.2.2.2.2 ⟨⟩
end Go.Proofs.YtogkkfdkeefjnaaGreatDoor.Codec
