/-
  slices.Clone, Delete, IndexFunc at groups' states, walked. slices.Delete at groups' states, walked. A member, plainly, and how it lies in memory. What a founder's states are, plainly: small, and fit to be written. A member: who acts, where a group is, whether there is room, the groups' numbers; walked. Encode and Decode at a record's type.
-/
import Derived.Test.YtogkkfdkeefjnaaGreatDoorA24
import Derived.Test.YtogkkfdkeefjnaaGreatDoorA27
import Derived.Lib.SliceRun
import Derived.Test.YtogkkfdkeefjnaaGreatDoorA29
import Derived.Test.YtogkkfdkeefjnaaGreatDoorA09
import Derived.Test.YtogkkfdkeefjnaaGreatDoorA08
import Derived.RegionTactic
import Derived.Deep.WholeRow
namespace Go.Proofs.YtogkkfdkeefjnaaGreatDoor.Codec
open Go.RowKit Go.Proofs.YtogkkfdkeefjnaaGreatDoorBase Go.Proofs.YtogkkfdkeefjnaaGreatDoorLex2 Go.Proofs.YtogkkfdkeefjnaaGreatDoorNum
open Go.Proofs.YtogkkfdkeefjnaaGreatDoor.Term (wpList_store_cell)
set_option linter.unusedVariables false
set_option maxRecDepth 100000
set_option linter.unusedSimpArgs false
def stZ:Array Value:=#[.int .i64 0,.int .i64 0,.int .i64 0,.slice none 0 0,.slice none 0 0,.int .i64 0,.int .i64 0,.int .i64 0,.int .i64 0,.int .i64 0,.int .i64 0,.int .i64 0,.int .i64 0,.int .i64 0,.int .i64 0,.int .i64 0,.int .i64 0,.int .i64 0,.int .i64 0,.int .i64 0,.int .i64 0,.int .i64 0,.slice none 0 0,.slice none 0 0,.slice none 0 0,.slice none 0 0,.bool false,.slice none 0 0,.pointer none]
theorem nil_eq (n c:Nat) (w:World):(binOp .eql 59 (.slice none n c) (.slice none 0 0)).run Tryz.prog w=.ok (.bool true) w:=by kernel_rfl
theorem some_eq (a:Addr) (n c:Nat) (w:World):(binOp .eql 59 (.slice (some a) n c) (.slice none 0 0)).run Tryz.prog w=.ok (.bool false) w:=by kernel_rfl
set_option maxHeartbeats 1600000 in
theorem clone_any (A:Option Addr) (n c:Nat) (xs:List Value) (w:World) (h:RowInN w A n 29 xs) (hn:n≤1000) :
  Calls Tryz.prog 39 #[.slice A n c] w fun e w'=>∃ v',e=.returned v'∧w'.ownsRow w.heap.size 75 29 v' n xs∧Kept w w' (fun _=>False):=by
 cases A with
 | none=>
  have h0:n=0:=by
   rcases Nat.eq_zero_or_pos n with h0 | h0
   ·exact h0
   ·obtain ⟨b,o,e,_⟩:=h.cell h0
    cases e
  subst h0
  have hx:xs=[]:=List.eq_nil_of_length_eq_zero (by simpa using h.len)
  subst hx
  clear h hn
  have heq:=@nil_eq
  go_enter Tryz.func39,Tryz.ntmps39
  go_wp2
  go_ret
  exact ⟨_,rfl,World.ownsRow_nil _ _ _ _,Kept.refl _ _⟩
 | some a=>
  have hs:=h.src (cp:=c) (T:=59) Tryz.underlying59
  have hown:(w.alloc (.cells #[] 75)).ownsRow w.heap.size 75 29 (.slice (some ⟨w.heap.size,0,none⟩) 0 0) 0 []:=⟨rfl,.inr ⟨w.heap.size,0,#[],rfl,Nat.le_refl _,heap_alloc_new _ _,Nat.le_refl _,Nat.zero_le _,rfl,rfl⟩⟩
  have SRC:=lh (h.keep ((Kept.refl w (fun _=>False)).alloc (.cells #[] 75)) (fun _ _ _ h=>h) |>.src (cp:=c) (T:=59) Tryz.underlying59)
  have HO:=lh hown
  have HB:=lh (show ((0+n)+(0+n) / 4+192) * 344≤281474976710656 by omega)
  clear h hn hs hown
  have heq:=@some_eq
  go_enter Tryz.func39,Tryz.ntmps39
  go_wp2_with (first|(at_builtin; apply hold))
  unfold Hold
  refine wpList_append_ownS _ rfl (.tmp 5) (.tmp 6) 59 59 rfl w.heap.size 75 (.agg #[.int .i64 0,.int .i64 0,.int .i64 0,.slice none 0 0,.slice none 0 0,.int .i64 0,.int .i64 0,.int .i64 0,.int .i64 0,.int .i64 0,.int .i64 0,.int .i64 0,.int .i64 0,.int .i64 0,.int .i64 0,.int .i64 0,.int .i64 0,.int .i64 0,.int .i64 0,.int .i64 0,.int .i64 0,.int .i64 0,.slice none 0 0,.slice none 0 0,.slice none 0 0,.slice none 0 0,.bool false,.slice none 0 0,.pointer none]) 29 344 elem_groupState _ 0 [] rfl HO.out _ n xs rfl SRC.out HB.out (by simp) (fun v' w3 o1 g1 b1=>?_)
  have O1:=lh (show w3.ownsRow w.heap.size 75 29 v' n xs by simpa using o1)
  have K1:=lh (Kept.grown ((Kept.refl w (fun _=>False)).alloc (.cells #[] 75)) g1 (fun k hk=>.inr (by have h2:w.heap.size=k:=Option.some.inj hk; omega)))
  clear o1 g1 b1
  go_wp2
  go_ret
  exact ⟨_,rfl,O1.out,K1.out⟩
set_option maxHeartbeats 1600000 in
theorem atfun_any (cs:Array Value) (id g:Int) (ib:Nat) (w:World) (h0:cs[0]?=some (.int .i64 g)) (hs:cs.size=29) (hi:w.cell? ⟨ib,0,none⟩=some (.int .i64 id)) (hl:ib < w.heap.size) :
  Calls Tryz.prog 35 #[.agg cs,.pointer (some ⟨ib,0,none⟩)] w fun e w'=>e=.returned (.bool (g == id))∧Kept w w' (fun _=>False):=by
 have c0:(w.alloc (.cells cs 75)).cell? ⟨w.heap.size,0,none⟩=some (.int .i64 g):=by rw [cellOf (heap_alloc_new _ _),h0]
 have c1:(w.alloc (.cells cs 75)).cell? ⟨ib,0,none⟩=some (.int .i64 id):=(World.cell?_alloc_lt _ _ _ (World.block_lt_of_cell? _ _ hi)).trans hi
 have K:=lh ((Kept.refl w (fun _=>False)).alloc (.cells cs 75))
 obtain ⟨r,hr⟩:∃ r,(g == id)=r:=⟨_,rfl⟩
 rw [hr]
 clear h0 hs hi hl
 go_enter Tryz.func35,Tryz.ntmps35
 go_wp2
 go_ret
 exact ⟨by simp [hr],K.out⟩
/-- The place of a group, or -1. -/
def ixV (l:List StfD) (id:Int):Int:=match ix l id with | some k=>k | none=>-1
theorem ix_none {l:List StfD} {id:Int} (h:∀ (j:Nat) (x:StfD),j < l.length→l[j]?=some x→x.s.id≠id):ix l id=none:=by
 unfold ix
 rw [List.findIdx?_eq_none_iff]
 intro x hx
 obtain ⟨j,hj⟩:=List.getElem?_of_mem hx
 have:=h j x (List.getElem?_eq_some_iff.1 hj).1 hj
 simpa using this
theorem ix_some {l:List StfD} {id:Int} {k:Nat} {x:StfD} (hk:l[k]?=some x) (hx:x.s.id=id) (h:∀ (j:Nat) (y:StfD),j < k→l[j]?=some y→y.s.id≠id):ix l id=some k:=by
 unfold ix
 obtain ⟨hl,he⟩:=List.getElem?_eq_some_iff.1 hk
 rw [List.findIdx?_eq_some_iff_getElem]
 refine ⟨hl,by rw [he]; simpa using hx,fun j hj=>?_⟩
 have:=h j l[j] hj (List.getElem?_eq_getElem (by omega))
 simpa using this
set_option maxHeartbeats 3200000 in
theorem index_any (l:List StfD) (A:Option Addr) (cp:Nat) (xs:List Value) (G:Nat→Prop) (ib:Nat) (id:Int) (w:World) (h:RowInN w A l.length 29 xs) (hf:FlatRep stfC 29 G w l xs) (hi:w.cell? ⟨ib,0,none⟩=some (.int .i64 id)) (hl:ib < w.heap.size) (hn:l.length≤1000) :
  Calls Tryz.prog 34 #[.slice A l.length cp,.func (.func 35) #[] #[.pointer (some ⟨ib,0,none⟩)]] w fun e w'=>e=.returned (.int .i64 (ixV l id))∧Kept w w' (fun _=>False):=by
 have he:=Proofs.enters_of Tryz.func35 (by kernel_rfl) rfl
 obtain ⟨n,hn'⟩:∃ n,l.length=n:=⟨_,rfl⟩
 rw [hn'] at h hn ⊢
 have H:=lh h
 have HF:=lh hf
 have HI:=lh hi
 have HL:=lh hl
 have LN:=lh hn'
 clear h hf hi hl hn'
 go_enter Tryz.func34,Tryz.ntmps34
 go_wp2
 go_loopw [8] (fun iv wr=>∃ k:Nat,k≤n∧iv=.int .i64 k∧(∀ (j:Nat) (x:StfD),j < k→l[j]?=some x→x.s.id≠id)∧Kept w wr (fun _=>False)) (fun iv _=>(n - intOf iv).toNat)
 case atStart=>exact ⟨0,Nat.zero_le _,rfl,fun j x hj=>by omega,Kept.refl _ _⟩
 case round=>
  obtain ⟨k,hk,rfl,hall,hkw⟩:=hrel
  have ALL:=lh hall
  have KW:=lh hkw
  clear hall hkw
  by_cases hlast:k=n
  ·subst hlast
   have e:ixV l id=-1:=by
    unfold ixV
    rw [ix_none (fun j x hj hx=>ALL.out j x (by rw [← LN.out]; exact hj) hx)]
   have E:=lh e
   clear e hk
   go_wp2
   go_ret
   exact ⟨by rw [E.out]; rfl,KW.out⟩
  ·have hkn:k < n:=by omega
   have q1:(k:Int) < n:=by omega
   have q0:(0:Int)≤k:=by omega
   obtain ⟨x,hx⟩:∃ x,l[k]?=some x:=⟨_,List.getElem?_eq_getElem (by rw [LN.out]; exact hkn)⟩
   obtain ⟨b,off,rfl,hbl,hcell⟩:=H.out.cell (by omega)
   obtain ⟨cs,hcs,hgx,hrep⟩:=flat_get HF.out hx
   obtain ⟨hs,ha,h0⟩:=stf_id hrep
   have hrg:w.rangeAt b (off+k * 29) cs.toList:=fun j v hv=>by
    have:=hcell _ v (hgx j v (by simpa using hv))
    rw [show off+k * 29+j=off+(k * 29+j) by omega]
    exact this
   have hrg2:wr.rangeAt b (off+k * 29) cs.toList:=fun j v hv=>by
    rw [← hrg j v hv]
    simp only [World.cell?,KW.out.block b hbl (fun h=>h)]
   have hi2:wr.cell? ⟨ib,0,none⟩=some (.int .i64 id):=by
    rw [← HI.out]
    simp only [World.cell?,KW.out.block ib HL.out (fun h=>h)]
   have C:=lh (atfun_any cs id x.s.id ib wr h0 hs hi2 (Nat.lt_of_lt_of_le HL.out KW.out.size))
   have RNG:=lh hrg2
   have HIL:=lh (show (Tryz.prog.info? 75).map (·.size)=some cs.toList.length by rw [Array.length_toList,hs]; kernel_rfl)
   have HX:=lh hx
   obtain ⟨r,hr⟩:∃ r,(x.s.id == id)=r:=⟨_,rfl⟩
   rw [hr] at C
   have HRR:=lh hr
   clear hx hbl hcell hcs hgx hrep hs ha h0 hrg hrg2 hi2 hr hlast
   cases r with
   | true=>
    have e:ixV l id=k:=by
     unfold ixV
     rw [ix_some HX.out (by simpa using HRR.out) ALL.out]
    have E:=lh e
    clear e
    go_wp2_with (first | refine wpList_load_mid rfl 75 (.tmp 14) rfl b (off+k * 29) rfl cs.toList _ RNG.out Tryz.underlying75 rfl HIL.out ?_)
    refine C.out.mono ?_
    rintro e w1 ⟨rfl,hk1⟩
    have K1:=lh hk1
    clear hk1
    go_wp2
    go_ret
    exact ⟨by rw [E.out]; rfl,KW.out.trans K1.out (fun _ h=>h.elim)⟩
   | false=>
    go_wp2_with (first | refine wpList_load_mid rfl 75 (.tmp 14) rfl b (off+k * 29) rfl cs.toList _ RNG.out Tryz.underlying75 rfl HIL.out ?_)
    refine C.out.mono ?_
    rintro e w1 ⟨rfl,hk1⟩
    have K1:=lh hk1
    clear hk1
    go_wp2
    go_roundw
    case rel=>
     refine ⟨k+1,by omega,by go_num,fun j y hj hy=>?_,KW.out.trans K1.out (fun _ h=>h.elim)⟩
     by_cases ej:j=k
     ·subst ej
      rw [HX.out] at hy
      obtain rfl:=Option.some.inj hy
      simpa using HRR.out
     ·exact ALL.out j y (by omega) hy
    case measure=>simp [intOf]; omega
end Go.Proofs.YtogkkfdkeefjnaaGreatDoor.Codec
namespace Go.Proofs.YtogkkfdkeefjnaaGreatDoor.Codec
open Go.RowKit Go.Proofs.YtogkkfdkeefjnaaGreatDoorBase Go.Proofs.YtogkkfdkeefjnaaGreatDoorLex2 Go.Proofs.YtogkkfdkeefjnaaGreatDoorNum
set_option linter.unusedVariables false
set_option maxRecDepth 100000
set_option linter.unusedSimpArgs false
theorem run_append_room {P:Program} (w:World) (t tx ty e:TypeId) (z:Value) (size bytes:Nat) (E:Elem P t e z size bytes) (g n cap:Nat) (cur:Array Value) (hg:w.heap[g]?=some (.cells cur e (0,0))) (hcs:cur.size=cap * size)
  (x:Value) (m:Nat) (news:List Value) (hs:Src P size tx x m news w) (hroom:n+m≤cap) :
  (Builtin.append_ #[t,tx] ty #[.slice (some ⟨g,0,none⟩) n cap,x]).run P w=.ok (.slice (some ⟨g,0,none⟩) (n+m) cap) (w.setRow g (cur.toList.take (n * size) ++ news ++ cur.toList.drop (n * size+news.length)).toArray):=by
 obtain ⟨ht,⟨i,hi,hz,hsize,hby⟩,hzs,hsz,hbp⟩:=E
 subst hsize
 have hfit:n * i.size+news.length≤cur.size:=by rw [hs.newsLen,hcs,← Nat.add_mul]; exact Nat.mul_le_mul_right _ hroom
 have hst:=run_storeCells_at P g (n * i.size) e news 0 cur w hg (by simpa using hfit) hs.one
 simp only [Nat.add_zero] at hst
 rcases hs.kind with ⟨e',hk⟩ | hk <;> simp [Builtin.append_,run_underlying ht,run_underlying hk,sizeOf,typeInfo,hi,hs.len,hroom,hs.cells,Addr.add_lit,hst]
theorem wp_append_room {P:Program} {o:Oper} {a:Act} {w:World} {K:Act→World→Prop} {Q:Exit→Act→World→Prop} (s x:Operand) (t tx:TypeId)
  (ho:o.op=.call { callee:=.builtin .append,args:=#[s,x],argTypes:=#[t,tx] })
  (e:TypeId) (z:Value) (size bytes:Nat) (E:Elem P t e z size bytes) (g n cap:Nat) (cur:Array Value) (hsv:a.eval s=.slice (some ⟨g,0,none⟩) n cap) (hg:w.heap[g]?=some (.cells cur e (0,0))) (hcs:cur.size=cap * size)
  (xv:Value) (m:Nat) (news:List Value) (hx:a.eval x=xv) (hsrc:Src P size tx xv m news w) (hroom:n+m≤cap)
  (h:K (a.put o.dst (.slice (some ⟨g,0,none⟩) (n+m) cap)) (w.setRow g (cur.toList.take (n * size) ++ news ++ cur.toList.drop (n * size+news.length)).toArray)):o.wp P a w K Q:=by
 have hr:=run_append_room (P:=P) w t tx o.type e z size bytes E g n cap cur hg hcs xv m news hsrc hroom
 unfold Oper.wp execOp
 simp only [ho,resolve,invoke,builtin,Sem.run_bind,Sem.run_pure,Result.andThen_ok,List.map_toArray,List.map_cons,List.map_nil,hsv,hx,hr]
 exact h
theorem run_clear_one {P:Program} (w:World) (t e ty:TypeId) (Z:Array Value) (ht:P.underlying t=some (.slice e)) (hv:∀ w,(zeroValue e).run P w=.ok (.agg Z) w) (h1:∀ v∈Z.toList,v.oneCell'=true) (b o c:Nat)
  (hc:∀ j,j < Z.size→(w.cell? ⟨b,o+j,none⟩).isSome=true) (hf:∀ j,j < Z.size→w.frozen? ⟨b,o+j,none⟩=false) :
  (Builtin.clear_ #[t] ty #[.slice (some ⟨b,o,none⟩) 1 c]).run P w=.ok (.tuple #[]) (w.setCells b o Z.toList):=by
 have hzc:(Builtin.zeroCells (Value.agg Z).cells 1).toList=Z.toList:=by
  apply List.ext_getElem
  ·simp [Builtin.zeroCells,Value.cells]
  ·intro i h1 h2
   simp [Builtin.zeroCells,Value.cells] at h1 h2 ⊢
   rw [Nat.mod_eq_of_lt h2]
   exact getElem!_pos Z i h2
 have hst:=run_storeCells_cells (P:=P) b o Z.toList 0 w (by simpa using hc) (by simpa using hf) h1
 simp only [Nat.add_zero] at hst
 simp [Builtin.clear_,run_underlying ht,hv,hzc,hst]
theorem zero_state (w:World):(zeroValue 75).run Tryz.prog w=.ok (.agg stZ) w:=by kernel_rfl
set_option maxHeartbeats 3200000 in
theorem delete_any (base:Nat) (v:Value) (m k:Nat) (xs:List Value) (w:World) (h:w.ownsRow base 75 29 v (m+1) xs) (hk:k≤m) (hn:m≤1000) (h1:∀ u∈xs,u.oneCell'=true) :
  Calls Tryz.prog 38 #[v,.int .i64 k,.int .i64 ((k:Int)+1)] w fun e w'=>∃ v',e=.returned v'∧w'.ownsRow base 75 29 v' m (xs.take (k * 29) ++ xs.drop ((k+1) * 29))∧Kept w w' (fun j=>v.ownBlock=some j)∧v'.ownBlock=v.ownBlock:=by
 rcases h.2 with ⟨rfl,h0⟩ | ⟨g,cap,cur,rfl,hb,hg,hnc,hcm,hcs,htake⟩
 ·omega
 have hlen:xs.length=(m+1) * 29:=h.1
 obtain ⟨news,hnews⟩:∃ news,xs.drop ((k+1) * 29)=news:=⟨_,rfl⟩
 have hnl:news.length=(m+1 - (k+1)) * 29:=by rw [← hnews,List.length_drop,hlen,Nat.sub_mul]
 have hcur:∀ (j:Nat) (u:Value),xs[j]?=some u→cur[j]?=some u:=fun j u hj=>by
  rw [← htake,List.getElem?_take] at hj
  split at hj
  ·simpa using hj
  ·cases hj
 have hsrc:Src Tryz.prog 29 59 (.slice (if cap=k+1 then some ⟨g,0,none⟩ else some ⟨g,(k+1) * 29,none⟩) (m+1 - (k+1)) (cap - (k+1))) (m+1 - (k+1)) news w.drew:=by
  by_cases hc:cap=k+1
  ·rw [if_pos hc]
   have h0:m+1 - (k+1)=0:=by omega
   rw [h0] at hnl ⊢
   have:news=[]:=List.eq_nil_of_length_eq_zero (by simpa using hnl)
   subst this
   exact Src.ofSlice _ Tryz.underlying59 _ 0 _ [] (by simp) (fun j u h=>by cases h) (fun u h=>by cases h)
  ·rw [if_neg hc]
   refine Src.ofSlice _ Tryz.underlying59 _ _ _ news hnl (fun j u hj=>?_) (fun u hu=>h1 u (List.mem_of_mem_drop (hnews ▸ hu)))
   rw [Addr.add_mid]
   show w.cell? _=_
   rw [cellOf hg]
   refine hcur _ u ?_
   rw [← hnews,List.getElem?_drop] at hj
   exact hj
 have htk:cur.toList.take (k * 29)=xs.take (k * 29):=by
  rw [← htake,List.take_take]
  congr 1
  omega
 obtain ⟨cur1,hcur1⟩:∃ cur1,(cur.toList.take (k * 29) ++ news ++ cur.toList.drop (k * 29+news.length)).toArray=cur1:=⟨_,rfl⟩
 have hsz1:cur1.size=cap * 29:=by
  rw [← hcur1]
  simp only [List.size_toArray,List.length_append,List.length_take,List.length_drop,Array.length_toList,hcs,hnl]
  have:k * 29+(m+1 - (k+1)) * 29≤cap * 29:=by rw [← Nat.add_mul]; exact Nat.mul_le_mul_right _ (by omega)
  omega
 have hxl:(xs.take (k * 29) ++ news).length=m * 29:=by
  rw [List.length_append,List.length_take,hlen,hnl]
  omega
 have htk1:cur1.toList.take (m * 29)=xs.take (k * 29) ++ news:=by
  rw [← hcur1]
  simp only [List.toList_toArray]
  rw [htk,← hxl]
  exact List.take_left
 obtain ⟨u1,hu1⟩:∃ u1,w.drew.setRow g cur1=u1:=⟨_,rfl⟩
 have hg1:u1.heap[g]?=some (.cells cur1 75 (0,0)):=by rw [← hu1]; exact setRow_heap w.drew g _ cur1 75 (0,0) hg
 have hcl:∀ ty,(Builtin.clear_ #[59] ty #[.slice (some ⟨g,m * 29,none⟩) 1 (cap - m)]).run Tryz.prog u1=.ok (.tuple #[]) (u1.setCells g (m * 29) stZ.toList):=fun ty=>by
  have hin:∀ j,j < 29→m * 29+j < cur1.size:=fun j hj=>by
   rw [hsz1]
   have:(m+1) * 29≤cap * 29:=Nat.mul_le_mul_right _ hnc
   omega
  refine run_clear_one u1 59 75 ty stZ Tryz.underlying59 zero_state (by simp [stZ,Value.oneCell']) g (m * 29) (cap - m) (fun j hj=>?_) (fun j hj=>freeOf hg1)
  rw [cellOf hg1,Array.getElem?_eq_getElem (hin j hj)]
  rfl
 have hgf:=setCells_blk (w:=u1) (t:=75) stZ.toList cur1 (m * 29) u1 hg1
 have hkf:=setCells_kept (b:=g) stZ.toList (m * 29) u1
 have hown:(u1.setCells g (m * 29) stZ.toList).ownsRow base 75 29 (.slice (some ⟨g,0,none⟩) m cap) m (xs.take (k * 29) ++ news):=by
  refine ⟨hxl,.inr ⟨g,cap,_,rfl,hb,hgf,by omega,hcm,by rw [spl_size]; exact hsz1,?_⟩⟩
  rw [← htk1]
  refine List.ext_getElem? fun j=>?_
  rw [List.getElem?_take,List.getElem?_take]
  split
  ·rw [Array.getElem?_toList,Array.getElem?_toList]
   exact spl_out _ _ _ _ (by omega)
  ·rfl
 have kall:Kept w (u1.setCells g (m * 29) stZ.toList) (fun j=>j=g):=by
  refine ((Kept.refl w (fun j=>j=g)).drew.trans (w2:=u1) (G:=fun j=>j=g) ?_ (fun k h=>.inl h)).trans hkf (fun k h=>.inl h)
  rw [← hu1]
  exact ⟨rfl,rfl,rfl,by simp,fun j _ hj=>setRow_other w.drew g j _ hj⟩
 have HOWN:=lh hown
 have KALL:=lh kall
 rw [show m+1 - (k+1)=m - k by omega] at hsrc
 have HC1:=lh hcur1
 have HU1:=lh hu1
 have HCS:=lh hcs
 have q1:(0:Int)≤k:=by omega
 have q2:(k:Int)≤(k:Int)+1:=by omega
 have q3:(k:Int)+1≤(m:Int)+1:=by omega
 have q4:(m:Int)+1≤cap:=by omega
 have q5:(k:Int)≤(m:Int)+1:=by omega
 have q6:(k:Int)≤cap:=by omega
 have q7:(k:Int)+1≤cap:=by omega
 have q8:((k:Int) == (k:Int)+1)=false:=by simp only [beq_eq_false_iff_ne,ne_eq]; omega
 have q9:¬ cap=m:=by omega
 have q10:(m:Int)≤(m:Int)+1:=by omega
 have q11:(m:Int)≤cap:=by omega
 have KM:=lh (show k+(m - k)=m by omega)
 have KR:=lh (show k+(m - k)≤cap by omega)
 unfold maxLen at hcm
 have HG:Hid (w.drew.heap[g]?=some (.cells cur 75 (0,0))):=lh hg
 have SRC0:=lh hsrc
 clear hg htake hcs h hlen hnl hcur hsrc htk hcur1 hsz1 hxl htk1 hu1 hg1 hgf hkf hown kall h1
 go_enter Tryz.func38,Tryz.ntmps38
 go_wp2
 refine wp_region_lex (fun _=>True) [0,0,0,0,0,0,4,0] (by kernel_rfl) (by kernel_rfl) (by kernel_rfl) (trivial) (fun Q' hQ'=>?_)
 simp only [List.zip_cons_cons,List.zip_nil_right]
 repeat((first|(refine wpX_silent ?_ fun K hK=>?_;rfl;apply Exists.intro;refine ⟨fun w'=>?_,?_⟩;go_simp;exact⟨rfl,rfl⟩)|(refine wpX_read ?_ fun K hK=>?_;rfl;apply Exists.intro;refine ⟨?_,?_⟩;go_simp;exact⟨rfl,rfl⟩)|(refine wpX_float ?_ fun K hK=>?_;rfl;apply Exists.intro;refine ⟨fun w' hw'=>?_,?_⟩;(try dsimp only at hw');go_simp;exact⟨rfl,rfl⟩)|(refine wpX_not ?_ fun K hK=>?_;rfl));go_simp;refine hK _ _ ?_;clear hK K)
 have SRC:=SRC0.out
 clear SRC0
 generalize (if cap=k+1 then (some ⟨g,0,none⟩:Option Addr) else some ⟨g,(k+1) * 29,none⟩)=z25 at SRC ⊢
 have SRC:=lh SRC
 refine wpX_heavy ?_ (fun K hK=>?_)
 ·rfl
 refine wp_append_room (.tmp 22) (.tmp 25) 59 59 rfl 75 (.agg stZ) 29 344 elem_groupState g k cap cur rfl HG.out HCS.out _ _ news rfl ?src KR.out ?_
 case src=>
  exact SRC.out
 rw [HC1.out,HU1.out,KM.out]
 go_simp
 refine hK _ _ ⟨rfl,?_⟩
 clear hK K
 repeat((first|(refine wpX_silent ?_ fun K hK=>?_;rfl;apply Exists.intro;refine ⟨fun w'=>?_,?_⟩;go_simp;exact⟨rfl,rfl⟩)|(refine wpX_read ?_ fun K hK=>?_;rfl;apply Exists.intro;refine ⟨?_,?_⟩;go_simp;exact⟨rfl,rfl⟩)|(refine wpX_float ?_ fun K hK=>?_;rfl;apply Exists.intro;refine ⟨fun w' hw'=>?_,?_⟩;(try dsimp only at hw');go_simp;exact⟨rfl,rfl⟩)|(refine wpX_not ?_ fun K hK=>?_;rfl));go_simp;refine hK _ _ ?_;clear hK K)
 refine wpX_nil (hQ' _ _ ?_)
 go_wp2
 go_ret
 exact ⟨.slice (some ⟨g,0,none⟩) m cap,rfl,hnews ▸ HOWN.out,KALL.out.mono (fun j h=>by rw [h]; rfl),rfl⟩
end Go.Proofs.YtogkkfdkeefjnaaGreatDoor.Codec
namespace Go.Proofs.YtogkkfdkeefjnaaGreatDoor.Member
open Go.RowKit Go.Proofs.YtogkkfdkeefjnaaGreatDoorBase Go.Proofs.YtogkkfdkeefjnaaGreatDoorLex2 Go.Proofs.YtogkkfdkeefjnaaGreatDoor.Codec Go.Proofs.YtogkkfdkeefjnaaGreatDoor.Term
set_option linter.unusedVariables false
set_option maxRecDepth 100000
set_option linter.unusedSimpArgs false
/-- A member: its file, what it keeps, whether it is down. -/
structure MD where
 fd:Disk.FD
 snap:SnapD
 down:Bool
/-- A member's cells. -/
def memCells (s:Nat) (sig now:Int) (wv kv pv gv:Value) (f q:Nat) (down:Bool):Array Value :=
 #[.pointer (some ⟨s,0,none⟩),.int .i64 0,.int .i64 sig,wv,.int .i64 now,.slice none 0 0,kv,pv,gv,.pointer (some ⟨f,0,none⟩),.pointer (some ⟨q,0,none⟩),.bool down]
/-- Where a member lies. -/
structure Lay where
 Fs:Nat→Prop
 Ff:Nat→Prop
 G:Nat→Prop
 s:Nat
 m:Nat
 f:Nat
 q:Nat
structure MAt (w0 w:World) (L:Lay) (sig now:Int) (wv kv pv gv:Value) (ts:TS) (x:MD):Prop where
 st:SAt w0 w L.s L.Fs ts
 fl:Disk.St w0 w L.f L.Ff x.fd
 jr:JAt w L.q L.f
 mem:w.heap[L.m]?=some (.cells (memCells L.s sig now wv kv pv gv L.f L.q x.down) 83 (0,0))
 snap:snapC.rep L.G w x.snap (.agg #[kv,pv,gv])
 bm:w0.heap.size≤L.m
 bq:w0.heap.size≤L.q
 mq:L.m≠L.q
 fm:¬ L.Ff L.m
 fq:¬ L.Ff L.q
 sm:¬ L.Fs L.m
 sq:¬ L.Fs L.q
 sf:∀ k,L.Fs k→¬ L.Ff k
 g:∀ k,L.G k→k < w.heap.size∧¬ L.Fs k∧¬ L.Ff k∧k≠L.m
 wo:∃ A n c,wv=.slice A n c
 sb:0≤sig∧sig≤262144
/-- The member's own blocks. -/
def Lay.own (L:Lay) (k:Nat):Prop:=L.Fs k∨L.Ff k∨k=L.m
/-- A member behind some calls. -/
def MNext (w0 w w':World) (L:Lay) (x:MD):Prop :=
 ∃ L' sig now wv kv pv gv ts,MAt w0 w' L' sig now wv kv pv gv ts x∧L'.s=L.s∧L'.m=L.m∧(∀ k,L'.own k→L.own k∨w.heap.size≤k)∧Kept w w' L.own
section
variable {w0 w w1 w2 : World} {L L1 : Lay} {sig now : Int} {wv kv pv gv : Value} {ts : TS} {x x2 : MD}
theorem MAt.kept (h:MAt w0 w L sig now wv kv pv gv ts x) (hk:Kept w w1 (fun _=>False)):MAt w0 w1 L sig now wv kv pv gv ts x :=
 ⟨h.st.kept hk,st_kept h.fl hk,hk.blk h.jr (fun h=>h),hk.blk h.mem (fun h=>h),snapC_fair.keep h.snap (fun k hk1 _=>hk.block k hk1 (fun h=>h)),h.bm,h.bq,h.mq,h.fm,h.fq,h.sm,h.sq,h.sf,fun k hk1=>⟨Nat.lt_of_lt_of_le (h.g k hk1).1 hk.size,(h.g k hk1).2⟩,h.wo,h.sb⟩
theorem MAt.next (h:MAt w0 w L sig now wv kv pv gv ts x) (hk:Kept w w1 (fun _=>False)):MNext w0 w w1 L x :=
 ⟨L,sig,now,wv,kv,pv,gv,ts,h.kept hk,rfl,rfl,fun k hk=>.inl hk,hk.mono (fun _ h=>h.elim)⟩
theorem MNext.trans (hF:∀ k,L1.own k→L.own k∨w.heap.size≤k) (hs:L1.s=L.s) (hm:L1.m=L.m) (hk:Kept w w1 L.own) (h2:MNext w0 w1 w2 L1 x2):MNext w0 w w2 L x2:=by
 obtain ⟨L2,sig,now,wv,kv,pv,gv,ts,a,es,em,b,k⟩:=h2
 exact ⟨L2,sig,now,wv,kv,pv,gv,ts,a,es.trans hs,em.trans hm,fun j hj=>(b j hj).elim (hF j) (fun h=>.inr (Nat.le_trans hk.size h)),hk.trans k hF⟩
theorem MAt.m_lt (h:MAt w0 w L sig now wv kv pv gv ts x):L.m < w.heap.size:=blk_lt h.mem
theorem MAt.q_lt (h:MAt w0 w L sig now wv kv pv gv ts x):L.q < w.heap.size:=blk_lt h.jr
end
end Go.Proofs.YtogkkfdkeefjnaaGreatDoor.Member
namespace Go.Proofs.YtogkkfdkeefjnaaGreatDoor.Member
open Go.RowKit Go.Proofs.YtogkkfdkeefjnaaGreatDoorBase Go.Proofs.YtogkkfdkeefjnaaGreatDoorLex2 Go.Proofs.YtogkkfdkeefjnaaGreatDoor.Codec Go.Proofs.YtogkkfdkeefjnaaGreatDoor.Term
set_option linter.unusedVariables false
set_option maxRecDepth 100000
set_option linter.unusedSimpArgs false
/-- A term's number. -/
def Tm (t:Int):Prop:=0≤t∧t≤262144
theorem Tm.ok {t:Int} (h:Tm t):okS t:=⟨by have:=h.1; omega,by have:=h.2; omega⟩
theorem tm_nat {t:Nat} (h:t≤262144):Tm t:=⟨by omega,by omega⟩
theorem tm_zero:Tm 0:=⟨by decide,by decide⟩
/-- The secrets of an epoch that are kept. -/
def ep0 (i d x e c m r a:Int):EpocD:=⟨0,0,0,0,i,d,0,x,e,c,m,r,a⟩
def st0 (id k cl sg lf:Int) (e:EpocD) (cf it cx rt:Int):StatD :=
 ⟨id,0,0,[⟨true,k,cl,sg,0,[]⟩],[⟨0,lf⟩],e,cf,it,cx,⟨1,[rt],[]⟩,[],[],false,[]⟩
/-- A founder's state. -/
def Sm (x:StfD):Prop:=∃ id k cl sg lf i d xp e c m r a cf it cx rt,x=⟨st0 id k cl sg lf (ep0 i d xp e c m r a) cf it cx rt,none⟩∧(0≤id∧id≤65536)∧Tm k∧Tm cl∧Tm sg∧Tm lf∧Tm i∧Tm d∧Tm xp∧Tm e∧Tm c∧Tm m∧Tm r∧Tm a∧Tm cf∧Tm it∧Tm cx∧Tm rt
theorem okM_nil {α:Type} (ok:α→Prop) (m:Nat):okM ok m []:=⟨Nat.zero_le _,fun x h=>by cases h⟩
theorem okM_one {α:Type} {ok:α→Prop} {m:Nat} {x:α} (h:ok x) (hm:1≤m):okM ok m [x]:=⟨hm,fun y hy=>by obtain rfl:=List.mem_singleton.1 hy; exact h⟩
theorem okS_zero:okS 0:=tm_zero.ok
theorem Sm.ok {x:StfD} (h:Sm x):okRr stfG x:=by
 obtain ⟨id,k,cl,sg,lf,i,d,xp,e,c,m,r,a,cf,it,cx,rt,rfl,hid,hk,hcl,hsg,hlf,hi,hd,hxp,he,hc,hm,hr,ha,hcf,hit,hcx,hrt⟩:=h
 refine stf_ok ?_ (fun s hs=>by cases hs)
 refine stat_ok ⟨by show _≤id; omega,by show id < _; omega⟩ okS_zero okS_zero (okM_one ?_ (by decide)) (okM_one ?_ (by decide)) ?_ hcf.ok hit.ok hcx.ok ?_ (okM_nil _ _) (okM_nil _ _) trivial (okM_nil _ _)
 ·exact vert_ok trivial hk.ok hcl.ok hsg.ok okS_zero (okM_nil _ _)
 ·exact secr_ok okS_zero hlf.ok
 ·exact epoc_ok okS_zero okS_zero okS_zero okS_zero hi.ok hd.ok okS_zero hxp.ok he.ok hc.ok hm.ok hr.ok ha.ok
 ·exact rats_ok (show okS 1 from Tm.ok (t:=1) ⟨by decide,by decide⟩) (okM_one hrt.ok (by decide)) (okM_nil _ _)
theorem Sm.cost {x:StfD} (h:Sm x):stfC.cost x≤400:=by
 obtain ⟨id,k,cl,sg,lf,i,d,xp,e,c,m,r,a,cf,it,cx,rt,rfl,_⟩:=h
 exact Nat.le_of_ble_eq_true (show Nat.ble _ 400=true by kernel_rfl)
/-- What a client keeps that only founded groups and left them. -/
structure SnOk (x:SnapD):Prop where
 kept:x.kept=[]
 psks:x.psks=List.replicate 16 0
 len:x.groups.length≤4
 sm:∀ g∈x.groups,Sm g
theorem costs_le {α:Type} {c:Cod α} {m:Nat}:∀ {l:List α},(∀ x∈l,c.cost x≤m)→costs c l≤l.length * m
 | [],h=>by simp [costs]
 | x :: l,h=>by
  have h1:=h x List.mem_cons_self
  have h2:=costs_le (l:=l) (fun y hy=>h y (List.mem_cons_of_mem _ hy))
  simp only [costs,List.map_cons,List.sum_cons,List.length_cons,Nat.add_mul] at h2 ⊢
  omega
theorem SnOk.ok {x:SnapD} (h:SnOk x):okRr snapG x:=by
 refine snap_ok ?_ ?_ ⟨by have:=h.len; omega,fun g hg=>(h.sm g hg).ok⟩
 ·rw [h.kept]; exact okM_nil _ _
 ·rw [h.psks]
  exact ⟨by simp,fun y hy=>by obtain rfl:=List.eq_of_mem_replicate hy; exact okS_zero⟩
theorem SnOk.cost {x:SnapD} (h:SnOk x):snapC.cost x≤2000:=by
 have e:snapC.cost x=(8+costs keptC x.kept)+((8+costs sgnC x.psks)+(8+costs stfC x.groups)):=by
  show ((8+costs keptC x.kept) :: (8+costs sgnC x.psks) :: (8+costs stfC x.groups) :: []).sum=_
  simp
 have h1:costs keptC x.kept=0:=by rw [h.kept]; rfl
 have h2:costs sgnC x.psks=128:=by rw [h.psks]; rfl
 have h3:=costs_le (c:=stfC) (l:=x.groups) (fun g hg=>(h.sm g hg).cost)
 have h4:=h.len
 omega
theorem SnOk.enc {x:SnapD} (h:SnOk x):encR snapC x=(⟨(bsRr snapG x).toArray⟩,0)∧(bsRr snapG x).length≤2000:=⟨rt_enc snap_rt h.ok,Nat.le_trans (rt_len snap_rt snapC_fair h.ok) h.cost⟩
theorem snok_new:SnOk ⟨[],List.replicate 16 0,[]⟩:=⟨rfl,rfl,by decide,fun g hg=>by cases hg⟩
theorem SnOk.more {x:SnapD} (h:SnOk x) {g:StfD} (hg:Sm g) (hl:x.groups.length < 4):SnOk { x with groups:=x.groups ++ [g] } :=
 ⟨h.kept,h.psks,by simp; omega,fun y hy=>by
  rcases List.mem_append.1 hy with hy | hy
  ·exact h.sm y hy
  ·obtain rfl:=List.mem_singleton.1 hy; exact hg⟩
def cutAt {α:Type} (l:List α) (k:Nat):List α:=l.take k ++ l.drop (k+1)
theorem SnOk.less {x:SnapD} (h:SnOk x) (k:Nat):SnOk { x with groups:=cutAt x.groups k } :=
 ⟨h.kept,h.psks,by
  have:=h.len
  simp only [cutAt,List.length_append,List.length_take,List.length_drop]; omega,fun y hy=>by
  rcases List.mem_append.1 hy with hy | hy
  ·exact h.sm y (List.mem_of_mem_take hy)
  ·exact h.sm y (List.mem_of_mem_drop hy)⟩
end Go.Proofs.YtogkkfdkeefjnaaGreatDoor.Member
namespace Go.Proofs.YtogkkfdkeefjnaaGreatDoor.Member
open Go.RowKit Go.Proofs.YtogkkfdkeefjnaaGreatDoorBase Go.Proofs.YtogkkfdkeefjnaaGreatDoorLex2 Go.Proofs.YtogkkfdkeefjnaaGreatDoor.Codec Go.Proofs.YtogkkfdkeefjnaaGreatDoor.Term
set_option linter.unusedVariables false
set_option maxRecDepth 100000
set_option linter.unusedSimpArgs false
theorem snap_parts {G:Nat→Prop} {w:World} {x:SnapD} {kv pv gv:Value} (h:snapC.rep G w x (.agg #[kv,pv,gv])):RowRepN keptC 8 G w x.kept kv∧RowRep sgnC G w x.psks pv∧RowRepN stfC 29 G w x.groups gv:=by
 obtain ⟨cs,e,hs,ha,hr⟩:=h
 obtain rfl:#[kv,pv,gv]=cs:=by simpa using e
 exact ⟨hr snap_kept (by simp [snapP]),hr snap_psks (by simp [snapP]),hr snap_groups (by simp [snapP])⟩
theorem snap_of {G:Nat→Prop} {w:World} {x:SnapD} {kv pv gv:Value} (h1:RowRepN keptC 8 G w x.kept kv) (h2:RowRep sgnC G w x.psks pv) (h3:RowRepN stfC 29 G w x.groups gv):snapC.rep G w x (.agg #[kv,pv,gv]):=by
 refine ⟨#[kv,pv,gv],rfl,rfl,?_,fun p hp=>?_⟩
 ·obtain ⟨A,n,cp,rfl,_⟩:=h1
  obtain ⟨A',n',cp',rfl,_⟩:=h2
  obtain ⟨A'',n'',cp'',rfl,_⟩:=h3
  simp [Value.oneCell']
 ·simp only [snapP,List.mem_cons,List.not_mem_nil,or_false] at hp
  rcases hp with rfl | rfl | rfl
  ·exact h1
  ·exact h2
  ·exact h3
section
variable {w0 w : World} {L : Lay} {sig now : Int} {wv kv pv gv : Value} {ts : TS} {x : MD}
/-- What the member's cells are. -/
theorem MAt.cell (h:MAt w0 w L sig now wv kv pv gv ts x) (j:Nat):w.cell? ⟨L.m,j,none⟩=(memCells L.s sig now wv kv pv gv L.f L.q x.down)[j]?:=cellOf h.mem
theorem MAt.range {wA:World} (hm:wA.heap[L.m]?=some (.cells (memCells L.s sig now wv kv pv gv L.f L.q x.down) 83 (0,0))) (o n:Nat):wA.rangeAt L.m o ((memCells L.s sig now wv kv pv gv L.f L.q x.down).extract o (o+n)).toList:=World.rangeAt_of_block hm o n
set_option maxHeartbeats 1600000 in
theorem me_any (h:MAt w0 w L sig now wv kv pv gv ts x):Calls Tryz.prog 24 #[.pointer (some ⟨L.m,0,none⟩)] w fun e w'=>e=.returned (.agg #[.pointer (some ⟨L.s,0,none⟩),.int .i64 0,.int .i64 sig,wv,.int .i64 now,pv])∧Kept w w' (fun _=>False):=by
 obtain ⟨A1,n1,k1,rfl⟩:=h.wo
 obtain ⟨-,⟨A2,n2,k2,rfl,-⟩,-⟩:=snap_parts h.snap
 have kA:=(Kept.refl w (fun _=>False)).alloc (.cells #[.pointer none,.int .i64 0,.int .i64 0,.slice none 0 0,.int .i64 0,.slice none 0 0] 78)
 have hA:=h.kept kA
 have rg:(w.alloc (.cells #[.pointer none,.int .i64 0,.int .i64 0,.slice none 0 0,.int .i64 0,.slice none 0 0] 78)).rangeAt L.m 0 [.pointer (some ⟨L.s,0,none⟩),.int .i64 0,.int .i64 sig,.slice A1 n1 k1,.int .i64 now,.slice none 0 0]:=MAt.range hA.mem 0 6
 have hr:=heap_alloc_new w (.cells #[.pointer none,.int .i64 0,.int .i64 0,.slice none 0 0,.int .i64 0,.slice none 0 0] 78)
 obtain ⟨wA,hwA⟩:∃ wA,w.alloc (.cells #[.pointer none,.int .i64 0,.int .i64 0,.slice none 0 0,.int .i64 0,.slice none 0 0] 78)=wA:=⟨_,rfl⟩
 rw [hwA] at kA hA rg hr
 obtain ⟨K9,H9⟩:=setRow_new (w:=wA) (Z:=#[.pointer none,.int .i64 0,.int .i64 0,.slice none 0 0,.int .i64 0,.slice none 0 0]) (cs:=#[.pointer (some ⟨L.s,0,none⟩),.int .i64 0,.int .i64 sig,.slice A1 n1 k1,.int .i64 now,.slice none 0 0]) (T:=78)
 have hz:=heap_alloc_new wA (.cells #[.pointer none,.int .i64 0,.int .i64 0,.slice none 0 0,.int .i64 0,.slice none 0 0] 78)
 obtain ⟨wB,hwB⟩:∃ wB,(wA.alloc (.cells #[.pointer none,.int .i64 0,.int .i64 0,.slice none 0 0,.int .i64 0,.slice none 0 0] 78)).setRow wA.heap.size #[.pointer (some ⟨L.s,0,none⟩),.int .i64 0,.int .i64 sig,.slice A1 n1 k1,.int .i64 now,.slice none 0 0]=wB:=⟨_,rfl⟩
 rw [hwB] at K9 H9
 have hB:=hA.kept K9
 have c7:=hB.cell 7
 simp [memCells] at c7
 have hrB:=K9.blk hr (fun h=>h)
 have hne:w.heap.size≠wA.heap.size:=by have:=blk_lt hr; omega
 have hu:=blk_set H9 5 (.slice A2 n2 k2)
 have hrC:=blk_far hrB (p:=⟨wA.heap.size,5,none⟩) hne (.slice A2 n2 k2)
 have kC:=(kA.trans K9 (fun _ h=>h.elim)).setCell (p:=⟨wA.heap.size,5,none⟩) (.inr kA.size) (.slice A2 n2 k2)
 obtain ⟨wC,hwC⟩:∃ wC,wB.setCell ⟨wA.heap.size,5,none⟩ (.slice A2 n2 k2)=wC:=⟨_,rfl⟩
 rw [hwC] at hu hrC kC
 have HWA:=lh hwA
 have HWB:=lh hwB
 have HWC:=lh hwC
 have RG:=lh rg
 have HZ:=lh hz
 have H9:=lh H9
 have HU:Hid (wC.heap[wA.heap.size]?=some (.cells #[.pointer (some ⟨L.s,0,none⟩),.int .i64 0,.int .i64 sig,.slice A1 n1 k1,.int .i64 now,.slice A2 n2 k2] 78 (0,0))):=lh hu
 have HR:=lh hrC
 have KC:=lh kC
 clear h kA hA rg hr hwA K9 hz hwB hB hrB hne hu hrC kC hwC
 obtain ⟨m,hmm⟩:∃ m,L.m=m:=⟨_,rfl⟩
 rw [hmm] at c7 RG ⊢
 clear hmm
 go_enter Tryz.func24,Tryz.ntmps24
 go_wp2_with (first|(rw [HWA.out]; refine wpList_load_mid rfl 78 (.tmp 6) rfl m 0 rfl _ _ RG.out Tryz.underlying78 rfl (by kernel_rfl) ?_)|(refine wpList_store_row rfl 78 (.tmp 3) (.tmp 7) rfl wA.heap.size #[.pointer (some ⟨L.s,0,none⟩),.int .i64 0,.int .i64 sig,.slice A1 n1 k1,.int .i64 now,.slice none 0 0] rfl rfl _ _ HZ.out (by kernel_rfl) rfl (by simp [Value.oneCell']) ?_; rw [HWB.out])|(refine wpList_store_cell rfl 22 (.tmp 13) (.tmp 12) rfl wA.heap.size 5 (.slice A2 n2 k2) rfl rfl rfl _ _ H9.out (by simp) (by kernel_rfl) ?_; rw [HWC.out]) | refine wpList_load_row rfl 78 (.tmp 3) rfl wA.heap.size rfl _ _ _ _ HU.out Tryz.underlying78 rfl (by kernel_rfl) ?_|(refine wpList_store_row rfl 78 (.tmp 2) (.tmp 14) rfl w.heap.size #[.pointer (some ⟨L.s,0,none⟩),.int .i64 0,.int .i64 sig,.slice A1 n1 k1,.int .i64 now,.slice A2 n2 k2] rfl rfl _ _ HR.out (by kernel_rfl) rfl (by simp [Value.oneCell']) ?_; apply hold))
 unfold Hold
 rename_i K hK
 refine (show K _ _ from hK _ _ ?_)
 refine wp_ret ?_
 have hsr:=setRow_heap wC w.heap.size _ #[.pointer (some ⟨L.s,0,none⟩),.int .i64 0,.int .i64 sig,.slice A1 n1 k1,.int .i64 now,.slice A2 n2 k2] 78 (0,0) HR.out
 refine bodyPost_ret (results_cell_row rfl _ _ _ _ _ _ _ rfl hsr Tryz.underlying78 rfl (by kernel_rfl)) rfl ?_
 exact ⟨rfl,KC.out.trans (G:=fun j=>j=w.heap.size) ⟨rfl,rfl,rfl,by simp,fun j _ hj=>setRow_other wC w.heap.size j _ hj⟩ (fun j h=>.inr (by omega))⟩
/-- Where a group is, and the error. -/
def atV (x:MD) (id:Int):Int×Int:=if x.down then (0,170) else match ix x.snap.groups id with | some k=>(k,0) | none=>(0,110)
set_option maxHeartbeats 1600000 in
theorem at_any (h:MAt w0 w L sig now wv kv pv gv ts x) (id:Int) (hn:x.snap.groups.length≤1000):Calls Tryz.prog 18 #[.pointer (some ⟨L.m,0,none⟩),.int .i64 id] w fun e w'=>e=.returned (.tuple #[.int .i64 (atV x id).1,.int .i64 (atV x id).2])∧Kept w w' (fun _=>False):=by
 have kA:=(Kept.refl w (fun _=>False)).alloc (.cells #[.int .i64 id] 3)
 have hA:=h.kept kA
 have c8:=hA.cell 8
 have c11:=hA.cell 11
 simp [memCells] at c8 c11
 cases hd:x.down with
 | true=>
  rw [hd] at c11
  have e:atV x id=(0,170):=by unfold atV; rw [hd]; rfl
  have E:=lh e
  have KA:=lh kA
  clear h hA kA hn e hd c8
  go_enter Tryz.func18,Tryz.ntmps18
  go_wp2
  go_returns
  exact ⟨by rw [E.out]; rfl,KA.out⟩
 | false=>
  rw [hd] at c11
  obtain ⟨-,-,hg⟩:=snap_parts hA.snap
  obtain ⟨A,cp,xs,rfl,hf,hrow,-⟩:=flat_of_row stfC_many hg
  have hi:(w.alloc (.cells #[.int .i64 id] 3)).cell? ⟨w.heap.size,0,none⟩=some (.int .i64 id):=by rw [cellOf (heap_alloc_new _ _)]; rfl
  have IX:=lh (index_any x.snap.groups A cp xs L.G w.heap.size id _ hrow hf hi (by simp) hn)
  have KA:=lh kA
  have HD:=lh hd
  clear h hA kA hn hg hf hrow hi hd
  cases hx:ix x.snap.groups id with
  | none=>
   have e:atV x id=(0,110):=by unfold atV; rw [HD.out,hx]; rfl
   have e2:ixV x.snap.groups id=-1:=by unfold ixV; rw [hx]
   rw [e2] at IX
   have E:=lh e
   clear e e2 hx
   go_enter Tryz.func18,Tryz.ntmps18
   go_wp2_with (fail)
   refine IX.out.mono ?_
   rintro e w1 ⟨rfl,hk⟩
   have K1:=lh hk
   clear hk
   go_wp2
   go_returns
   exact ⟨by rw [E.out]; rfl,KA.out.trans K1.out (fun _ h=>h.elim)⟩
  | some k=>
   have e:atV x id=((k:Int),0):=by unfold atV; rw [HD.out,hx]; rfl
   have e2:ixV x.snap.groups id=k:=by unfold ixV; rw [hx]
   rw [e2] at IX
   have E:=lh e
   have q0:(0:Int)≤k:=by omega
   have q1:¬ (k:Int) < 0:=by omega
   clear e e2 hx
   go_enter Tryz.func18,Tryz.ntmps18
   go_wp2_with (fail)
   refine IX.out.mono ?_
   rintro e w1 ⟨rfl,hk⟩
   have K1:=lh hk
   clear hk
   go_wp2
   go_returns
   exact ⟨by rw [E.out]; rfl,KA.out.trans K1.out (fun _ h=>h.elim)⟩
/-- Whether one more group may come. -/
def roomV (x:MD) (id:Int):Int:=if x.down then 170 else if (ix x.snap.groups id).isSome then 110 else if 4≤x.snap.groups.length then 171 else 0
set_option maxHeartbeats 1600000 in
theorem room_any (h:MAt w0 w L sig now wv kv pv gv ts x) (id:Int) (hn:x.snap.groups.length≤1000):Calls Tryz.prog 21 #[.pointer (some ⟨L.m,0,none⟩),.int .i64 id] w fun e w'=>e=.returned (.int .i64 (roomV x id))∧Kept w w' (fun _=>False):=by
 have T:=lh (at_any h id hn)
 have H:=lh h
 have HN:=lh hn
 obtain ⟨-,-,hg⟩:=snap_parts h.snap
 obtain ⟨A,cp,xs,rfl,-,-,-⟩:=flat_of_row stfC_many hg
 obtain ⟨n,hl⟩:∃ n,x.snap.groups.length=n:=⟨_,rfl⟩
 have HL:=lh hl
 clear h hg hn
 have atE:atV x id=if x.down then (0,170) else match ix x.snap.groups id with | some k=>((k:Int),(0:Int)) | none=>(0,110):=rfl
 cases hd:x.down with
 | true=>
  have e:roomV x id=170:=by unfold roomV; rw [hd]; rfl
  rw [hd] at atE
  rw [atE] at T
  have E:=lh e
  clear e atE hl hd
  go_enter Tryz.func21,Tryz.ntmps21
  go_wp2_with (fail)
  refine T.out.mono ?_
  rintro e w1 ⟨rfl,hk⟩
  have K1:=lh hk
  clear hk
  go_wp2
  go_ret
  exact ⟨by rw [E.out]; rfl,K1.out⟩
 | false=>
  rw [hd] at atE
  cases hx:ix x.snap.groups id with
  | some k=>
   have e:roomV x id=110:=by unfold roomV; rw [hd,hx]; rfl
   rw [hx] at atE
   rw [atE] at T
   have E:=lh e
   clear e atE hl hd hx
   go_enter Tryz.func21,Tryz.ntmps21
   go_wp2_with (fail)
   refine T.out.mono ?_
   rintro e w1 ⟨rfl,hk⟩
   have K1:=lh hk
   clear hk
   go_wp2
   go_ret
   exact ⟨by rw [E.out]; rfl,K1.out⟩
  | none=>
   rw [hx] at atE
   rw [atE] at T
   have e:roomV x id=if 4≤n then 171 else 0:=by unfold roomV; rw [hd,hx,hl]; rfl
   have E:=lh e
   clear e atE hd hx hl
   rw [HL.out] at HN
   have hn:=HN.out
   by_cases h4:4≤n
   ·have q:(4:Int)≤n:=by omega
    have E2:=lh (show roomV x id=171 by rw [E.out,if_pos h4])
    clear E h4
    go_enter Tryz.func21,Tryz.ntmps21
    go_wp2_with (fail)
    refine T.out.mono ?_
    rintro e w1 ⟨rfl,hk⟩
    have K1:=lh hk
    have c8:=(H.out.kept hk).cell 8
    simp [memCells] at c8
    rw [HL.out] at c8
    clear hk
    go_wp2
    go_ret
    exact ⟨by rw [E2.out]; rfl,K1.out⟩
   ·have q:¬ (4:Int)≤n:=by omega
    have E2:=lh (show roomV x id=0 by rw [E.out,if_neg h4])
    clear E h4
    go_enter Tryz.func21,Tryz.ntmps21
    go_wp2_with (fail)
    refine T.out.mono ?_
    rintro e w1 ⟨rfl,hk⟩
    have K1:=lh hk
    have c8:=(H.out.kept hk).cell 8
    simp [memCells] at c8
    rw [HL.out] at c8
    clear hk
    go_wp2
    go_ret
    exact ⟨by rw [E2.out]; rfl,K1.out⟩
end
end Go.Proofs.YtogkkfdkeefjnaaGreatDoor.Member
namespace Go.Proofs.YtogkkfdkeefjnaaGreatDoor.Codec
open Go.RowKit Go.Proofs.YtogkkfdkeefjnaaGreatDoorBase Go.Proofs.YtogkkfdkeefjnaaGreatDoorLex2 Go.Proofs.YtogkkfdkeefjnaaGreatDoorNum
set_option linter.unusedVariables false
set_option maxRecDepth 100000
set_option linter.unusedSimpArgs false
theorem results_cell_slot {P:Program} {fn:Func} {p q:Tmp} {ty:TypeId} (h:fn.results=#[.cell p ty,.tmp q]) (tmps:Array Value) (w:World) (g:Nat) (t:TypeId) (cs:Array Value) (fr:Nat×Nat) (d:TypeDesc) (u:Value)
  (hp:tmps.getD p undef=.pointer (some ⟨g,0,none⟩)) (hq:tmps.getD q undef=u) (hg:w.heap[g]?=some (.cells cs t fr))
  (hu:P.underlying ty=some d) (hd:(match d with | .struct _ | .array _ _=>true | _=>false)=true) (hi:(P.info? ty).map (·.size)=some cs.size) :
  (results fn tmps).run P w=.ok (.tuple #[.agg cs,u]) w:=by
 have hp':tmps[p]?.getD undef=.pointer (some ⟨g,0,none⟩):=by simpa using hp
 have hq':tmps[q]?.getD undef=u:=by simpa using hq
 simp [results,h,hp',hq',asAddr,run_loadVar_row w g t ty cs fr d hg hu hd hi]
theorem heap_alloc3_snd (w:World) (A B C:Obj):(((w.alloc A).alloc B).alloc C).heap[w.heap.size+1]?=some B:=by
 rw [Below.heap_alloc _ _ _ (by simp)]
 exact heap_alloc2_new w A B
set_option maxHeartbeats 1600000 in
set_option maxRecDepth 100000 in
theorem encode_snap {α:Type} (W:World) (cv:Value) (c:Cod α) (x:α) (cs:Array Value) (w:World) (hc:IsCodec W cv c) (hf:Fair c) (hs:Same W w) (hsz:cs.size=3) (hv:c.rep (fun k=>k < w.heap.size) w x (.agg cs)) (hr:WRoom ⟨[],0⟩ (c.cost x)) :
  Calls Tryz.prog 36 #[cv,.agg cs] w fun r w'=>r=.returned (.tuple #[.string (encR c x).1,.int .i64 (encR c x).2])∧Kept w w' (fun _=>False):=by
 obtain ⟨pv,gv,rfl,⟨f,caps,rfl,he,hp⟩,_⟩:=hc
 unfold Proofs.Enters at he
 have hk1:Kept w (((w.alloc (.cells #[.func (.func f) #[] caps,gv] 93)).alloc (.cells cs 61)).alloc (.cells #[.slice none 0 0,.int .i64 0] 190)) (fun _=>False):=(((Kept.refl w _).alloc _).alloc _).alloc _
 have hwa:WriterAt w.heap.size (((w.alloc (.cells #[.func (.func f) #[] caps,gv] 93)).alloc (.cells cs 61)).alloc (.cells #[.slice none 0 0,.int .i64 0] 190)) (w.heap.size+2) (fun k=>k=w.heap.size+2) ⟨[],0⟩:=by
  refine ⟨.slice none 0 0,heap_alloc3_new _ _ _ _,by omega,hk1.size,World.ownsRow_nil _ _ _ _,?_⟩
  intro k; simp [Value.ownBlock]
 have hbc:=heap_alloc3_snd w (.cells #[.func (.func f) #[] caps,gv] 93) (.cells cs 61) (.cells #[.slice none 0 0,.int .i64 0] 190)
 have P:=hp _ _ _ _ _ _ _ hs.1 (hs.kept hk1 (fun _ h=>h.elim)) (hf.keep hv (fun k hk1' _=>hk1.block k hk1' (fun h=>h))) hwa hr
 have HI:=lh (show (Tryz.prog.info? 61).map (·.size)=some cs.size by rw [hsz]; kernel_rfl)
 obtain ⟨s',hs'⟩:∃ s',c.put x ⟨[],0⟩=s':=⟨_,rfl⟩
 have HE:Hid (encR c x=if s'.err=0 then (⟨s'.out.toArray⟩,0) else (⟨#[]⟩,s'.err)):=by rw [← hs']; exact lh rfl
 rw [hs'] at P
 have PP:=lh P
 have K4:=lh hk1
 have HBC:=lh hbc
 clear hp hs hv hf hr hk1 hwa hs' P hsz hbc
 go_enter Tryz.func36,Tryz.ntmps36
 go_wp2_with (first | refine wpList_load_row rfl 61 (.tmp 3) rfl (w.heap.size+1) rfl _ cs _ _ HBC.out Tryz.underlying61 rfl HI.out ?_)
 refine PP.out.mono ?_
 rintro e w3 ⟨rfl,hm⟩
 obtain ⟨F',⟨sv,hb,hp,hbs,ho,hF⟩,_,hk⟩:=hm
 have c0:=cellOf (j:=0) hb
 have c1:=cellOf (j:=1) hb
 simp at c0 c1
 have qc:=run_convert_own (P:=Tryz.prog) w3 130 9 5 w.heap.size _ sv s'.out elemByte.under underU8 underStr ho
 have KK:=lh hk
 clear hb hp hbs ho hF hk
 by_cases herr:s'.err=0
 ·have HE':=lh herr
  rw [herr] at c1
  clear herr
  go_wp2
  go_ret2
  rw [HE.out,if_pos HE'.out]
  exact ⟨rfl,K4.out.trans KK.out fun k hk=>.inr (by omega)⟩
 ·have q0:(s'.err == 0)=false:=by simpa using herr
  have q1:decide (s'.err=0)=false:=by simpa using herr
  have HE':=lh herr
  obtain ⟨er,hee⟩:∃ er,s'.err=er:=⟨_,rfl⟩
  rw [hee] at q0 q1 c1
  have HEE:=lh hee
  clear herr hee qc c0
  go_wp2
  go_quiet (fail)
  go_wp2
  go_ret2
  rw [HE.out,if_neg HE'.out,HEE.out]
  exact ⟨rfl,(K4.out.trans KK.out fun k hk=>.inr (by omega)).drewN _⟩
set_option maxHeartbeats 1600000 in
set_option maxRecDepth 100000 in
theorem decode_snap {α:Type} (W:World) (cv:Value) (ps:List (Prt α)) (x0:α) (d:ByteArray) (w:World) (hc:IsCodec W cv (recC 3 ps x0)) (hfp:∀ p∈ps,Fair p.c) (hs:Same W w) (hd:DSize d) :
  Calls Tryz.prog 29 #[cv,.string d] w fun r w'=>Kept w w' (fun _=>False)∧((decE (recC 3 ps x0) d≠0∧r=.returned (.tuple #[.agg #[.slice none 0 0,.slice none 0 0,.slice none 0 0],.int .i64 (decE (recC 3 ps x0) d)])) ∨
   (decE (recC 3 ps x0) d=0∧∃ v,r=.returned (.tuple #[v,.int .i64 0])∧(recC 3 ps x0).rep (fun k=>w.heap.size≤k∧k < w'.heap.size) w' ((recC 3 ps x0).get ⟨d.data.toList,0⟩).1 v)):=by
 obtain ⟨pv,gv,rfl,_,⟨f,caps,rfl,he,hp⟩⟩:=hc
 unfold Proofs.Enters at he
 obtain ⟨w1,hw1⟩:∃ w1,((w.alloc (.cells #[pv,.func (.func f) #[] caps] 93)).alloc (.cells #[.slice none 0 0,.slice none 0 0,.slice none 0 0] 61)).alloc (.cells #[.string d,.int .i64 0,.int .i64 0] 140)=w1:=⟨_,rfl⟩
 have hk1:Kept w w1 (fun _=>False):=by rw [← hw1]; exact (((Kept.refl w _).alloc _).alloc _).alloc _
 have hz1:w1.heap.size=w.heap.size+3:=by rw [← hw1]; simp
 have hrd:ReaderAt w1 (w.heap.size+1+1) d ⟨d.data.toList,0⟩:=by rw [← hw1]; exact ⟨0,heap_alloc3_new _ _ _ _,Nat.zero_le _,rfl⟩
 have hzb:w1.heap[w.heap.size+1]?=some (.cells #[.slice none 0 0,.slice none 0 0,.slice none 0 0] 61 (0,0)):=by rw [← hw1]; exact heap_alloc3_snd _ _ _ _
 have P:=hp (w.heap.size+1+1) d ⟨d.data.toList,0⟩ w1 (Nat.le_trans hs.1 (by omega)) (hs.kept hk1 (fun _ h=>h.elim)) hrd hd
 have hf:Fair (recC 3 ps x0):=recC_fair hfp x0
 obtain ⟨c,hcc⟩:∃ c,recC 3 ps x0=c:=⟨_,rfl⟩
 have hrep:∀ {G w x v},c.rep G w x v→∃ cs,v=.agg cs∧cs.size=3∧cs.all (·.oneCell')=true:=by
  intro G w x v h
  rw [← hcc] at h
  obtain ⟨cs,h1,h2,h3,_⟩:=h
  exact ⟨cs,h1,h2,h3⟩
 rw [hcc] at P hf ⊢
 obtain ⟨x,s',hs'⟩:∃ x s',c.get ⟨d.data.toList,0⟩=(x,s'):=⟨_,_,rfl⟩
 have HE:Hid (decE c d=(if s'.rest=[] then s' else s'.fail 21).err):=by unfold decE; rw [hs']; exact lh rfl
 rw [hs'] at P ⊢
 have PP:=lh P
 have K4:=lh hk1
 have HF:=lh hf
 have HREP:Hid (∀ {G w x v},c.rep G w x v→∃ cs,v=.agg cs∧cs.size=3∧cs.all (·.oneCell')=true):=lh hrep
 have HZ1:=lh hz1
 have HZB:=lh hzb
 have HW1:=lh hw1
 clear hp hs hf hs' P hd hcc hrep hk1 hrd hzb hz1 hfp hw1
 go_enter Tryz.func29,Tryz.ntmps29
 go_wp2_with (fail)
 rw [HW1.out]
 refine PP.out.mono ?_
 rintro e w3 ⟨v,rfl,hm,hv⟩
 obtain ⟨cs,rfl,hcs,hca⟩:=HREP.out hv
 have HCS:=lh hcs
 have HCA:=lh hca
 have HM:=lh hm
 have HV:=lh hv
 have HI:=lh (show (Tryz.prog.info? 61).map (·.size)=some cs.size by rw [hcs]; kernel_rfl)
 have hm':=hm
 obtain ⟨⟨a,hb,ha,hr⟩,hk⟩:=hm'
 have hz1:=HZ1.out
 obtain ⟨w4,hw4⟩:∃ w4,w3.alloc (.cells cs 61)=w4:=⟨_,rfl⟩
 have ka:Kept w3 w4 (fun _=>False):=by rw [← hw4]; exact (Kept.refl w3 (fun _=>False)).alloc _
 have c1:=cellOf (j:=1) (ka.blk hb (fun h=>h))
 have c2:=cellOf (j:=2) (ka.blk hb (fun h=>h))
 simp at c1 c2
 have KK:=lh ((K4.out.trans hk (fun k hk=>.inr (by omega))).trans ka (fun k h=>h.elim))
 have HM4:Hid (ReaderAt w4 (w.heap.size+1+1) d s'):=by rw [← hw4]; exact lh (hm.1.alloc _)
 have HV4:Hid (c.rep (fun k=>w1.heap.size≤k∧k < w4.heap.size) w4 x (.agg cs)):=lh (HF.out.mono (fun k hk=>⟨by have:=hk.1; omega,by have:=hk.2; have:=ka.size; omega⟩) (HF.out.keep hv (fun k h1 _=>ka.block k h1 (fun h=>h))))
 have HB4:=lh (ka.blk (hk.blk HZB.out (by omega)) (fun h=>h))
 have HB5:Hid (w4.heap[w3.heap.size]?=some (.cells cs 61 (0,0))):=by rw [← hw4]; exact lh (heap_alloc_new w3 (.cells cs 61))
 have hl:s'.rest=[] ↔ a=d.size:=by
  rw [hr,← List.length_eq_zero_iff,List.length_drop,len_data]
  omega
 have HL:=lh hl
 have HW4:=lh hw4
 have HS3:=lh hk.size
 clear hm hv hk hr hl hb hcs hca ka hz1 hw4
 by_cases ha2:a=d.size
 ·have hrest:=HL.out.2 ha2
  have q1:¬ (a:Int) < d.size:=by omega
  by_cases herr:s'.err=0
  ·have e1:decE c d=0:=by rw [HE.out,if_pos hrest,herr]
   have E1:=lh e1
   rw [herr] at c2
   clear e1 herr hrest ha2
   go_wp2_with (first|(refine wpList_store_row rfl 61 (.tmp 7) (.tmp 15) rfl w3.heap.size cs rfl rfl 61 #[.slice none 0 0,.slice none 0 0,.slice none 0 0] (heap_alloc_new _ _) HI.out (by rw [HCS.out]; rfl) HCA.out ?_; rw [Go.World.setRow_alloc_new,HW4.out]) | refine wpList_load_row rfl 61 (.tmp 7) rfl w3.heap.size rfl _ cs _ _ HB5.out Tryz.underlying61 rfl HI.out ?_ | refine wpList_store_row rfl 61 (.tmp 4) (.tmp 35) rfl (w.heap.size+1) cs rfl rfl 61 _ HB4.out HI.out (by rw [HCS.out]; rfl) HCA.out ?_)
   have hsr:=setRow_heap w4 (w.heap.size+1) _ cs 61 (0,0) HB4.out
   refine bodyPost_ret (results_cell_slot rfl _ _ _ _ _ _ _ _ rfl rfl hsr Tryz.underlying61 rfl HI.out) rfl ?_
   have kr:Kept w4 (w4.setRow (w.heap.size+1) cs) (fun j=>j=w.heap.size+1):=⟨rfl,rfl,rfl,by simp,fun j _ hj=>setRow_other w4 (w.heap.size+1) j cs hj⟩
   have hz1:=HZ1.out
   have hs3:=HS3.out
   refine ⟨KK.out.trans kr (fun k hk=>.inr (by omega)),.inr ⟨E1.out,_,rfl,HF.out.mono (fun k hk=>⟨by omega,by simpa using hk.2⟩) (HF.out.keep HV4.out (fun k h1 h2=>kr.block k h1 (by omega)))⟩⟩
  ·have e1:decE c d=s'.err:=by rw [HE.out,if_pos hrest]
   have e2:decE c d≠0:=by rw [e1]; exact herr
   have q2:(s'.err == 0)=false:=by simpa using herr
   have q3:decide (s'.err=0)=false:=by simpa using herr
   have E1:=lh e1
   have E2:=lh e2
   clear e1 e2 herr hrest ha2
   go_wp2_with (refine wpList_store_row rfl 61 (.tmp 7) (.tmp 15) rfl w3.heap.size cs rfl rfl 61 #[.slice none 0 0,.slice none 0 0,.slice none 0 0] (heap_alloc_new _ _) HI.out (by rw [HCS.out]; rfl) HCA.out ?_; rw [Go.World.setRow_alloc_new,HW4.out])
   refine wp_region_lex (fun w'=>w'.cell? ⟨w.heap.size+1+1,2,none⟩=some (.int .i64 s'.err)) [1,0,0,0,3,2,0] (by kernel_rfl) (by kernel_rfl) (by kernel_rfl) (show (w4.alloc (.cells #[.slice none 0 0,.slice none 0 0,.slice none 0 0] 61)).cell? _=_ by rw [World.cell?_alloc_lt _ _ _ (World.block_lt_of_cell? _ _ c2)]; exact c2) (fun Q' hQ'=>?_)
   simp only [List.zip_cons_cons,List.zip_nil_right]
   repeat((first|(refine wpX_silent ?_ fun K hK=>?_;rfl;apply Exists.intro;refine ⟨fun w'=>?_,?_⟩;go_simp;exact⟨rfl,rfl⟩)|(refine wpX_read ?_ fun K hK=>?_;rfl;apply Exists.intro;refine ⟨?_,?_⟩;go_simp;exact⟨rfl,rfl⟩)|(refine wpX_float ?_ fun K hK=>?_;rfl;apply Exists.intro;refine ⟨fun w' hw'=>?_,?_⟩;(try dsimp only at hw');go_simp;exact⟨rfl,rfl⟩)|(refine wpX_not ?_ fun K hK=>?_;rfl));go_simp;refine hK _ _ ?_;clear hK K)
   refine wpX_keeps ?_ (fun K hK=>?_)
   ·rfl
   have HBD:=lh (show (w4.alloc (.cells #[.slice none 0 0,.slice none 0 0,.slice none 0 0] 61)).drew.heap[w.heap.size+1]?=some (.cells #[.slice none 0 0,.slice none 0 0,.slice none 0 0] 61 (0,0)) from (Below.heap_alloc _ _ _ (blk_lt HB4.out)).trans HB4.out)
   refine wp_store_row 61 (.tmp 4) (.tmp 30) rfl (w.heap.size+1) #[.slice none 0 0,.slice none 0 0,.slice none 0 0] rfl rfl _ _ HBD.out (by kernel_rfl) rfl (by simp [Value.oneCell']) ?_
   have hsr:=setRow_heap _ (w.heap.size+1) _ #[.slice none 0 0,.slice none 0 0,.slice none 0 0] 61 (0,0) HBD.out
   have kr:Kept w4 ((w4.alloc (.cells #[.slice none 0 0,.slice none 0 0,.slice none 0 0] 61)).drew.setRow (w.heap.size+1) #[.slice none 0 0,.slice none 0 0,.slice none 0 0]) (fun j=>j=w.heap.size+1):=((Kept.refl w4 (fun j=>j=w.heap.size+1)).alloc _).drew.trans (G:=fun j=>j=w.heap.size+1) ⟨rfl,rfl,rfl,by simp,fun j _ hj=>setRow_other _ (w.heap.size+1) j _ hj⟩ (fun k h=>.inl h)
   have HSR:=lh hsr
   have KR:=lh kr
   obtain ⟨wz,hwz⟩:∃ wz,(w4.alloc (.cells #[.slice none 0 0,.slice none 0 0,.slice none 0 0] 61)).drew.setRow (w.heap.size+1) #[.slice none 0 0,.slice none 0 0,.slice none 0 0]=wz:=⟨_,rfl⟩
   rw [hwz] at HSR KR ⊢
   have hce:wz.cell? ⟨w.heap.size+1+1,2,none⟩=some (.int .i64 s'.err):=by
    rw [← c2]
    simp only [World.cell?,KR.out.block (w.heap.size+1+1) (World.block_lt_of_cell? _ _ c2) (by omega)]
   clear hsr kr hwz
   go_simp
   refine hK _ _ ⟨rfl,hce,?_⟩
   clear hK K
   repeat((first|(refine wpX_silent ?_ fun K hK=>?_;rfl;apply Exists.intro;refine ⟨fun w'=>?_,?_⟩;go_simp;exact⟨rfl,rfl⟩)|(refine wpX_read ?_ fun K hK=>?_;rfl;apply Exists.intro;refine ⟨?_,?_⟩;go_simp;exact⟨rfl,rfl⟩)|(refine wpX_float ?_ fun K hK=>?_;rfl;apply Exists.intro;refine ⟨fun w' hw'=>?_,?_⟩;(try dsimp only at hw');go_simp;exact⟨rfl,rfl⟩)|(refine wpX_not ?_ fun K hK=>?_;rfl));go_simp;refine hK _ _ ?_;clear hK K)
   refine wpX_nil (hQ' _ _ ?_)
   go_wp2
   refine bodyPost_ret (results_cell_slot rfl _ _ _ _ _ _ _ _ rfl rfl HSR.out Tryz.underlying61 rfl (by kernel_rfl)) rfl ?_
   refine ⟨KK.out.trans KR.out (fun k hk=>.inr (by omega)),.inl ⟨E2.out,?_⟩⟩
   rw [E1.out]; rfl
 ·have hrest:s'.rest≠[]:=fun h=>ha2 (HL.out.1 h)
  have q1:(a:Int) < d.size:=by omega
  have e1:decE c d=(s'.fail 21).err:=by rw [HE.out,if_neg hrest]
  have e2:(s'.fail 21).err≠0:=by unfold RS.fail; split <;> simp_all
  have q2:((s'.fail 21).err == 0)=false:=by simpa using e2
  have q3:decide ((s'.fail 21).err=0)=false:=by simpa using e2
  have E1:=lh e1
  have E2:=lh e2
  clear e1 e2 hrest ha2
  go_wp2_with (refine wpList_store_row rfl 61 (.tmp 7) (.tmp 15) rfl w3.heap.size cs rfl rfl 61 #[.slice none 0 0,.slice none 0 0,.slice none 0 0] (heap_alloc_new _ _) HI.out (by rw [HCS.out]; rfl) HCA.out ?_; rw [Go.World.setRow_alloc_new,HW4.out])
  refine (rfail_any _ d _ 21 _ HM4.out).mono ?_
  rintro e w5 ⟨rfl,hm5⟩
  have k2:=hm5.1.err
  have KK5:=lh (KK.out.trans hm5.2 fun k hk=>.inr (by omega))
  have HB6:=lh (hm5.2.blk HB4.out (by omega))
  clear hm5 c1 c2
  go_wp2
  refine wp_region_lex (fun w'=>w'.cell? ⟨w.heap.size+1+1,2,none⟩=some (.int .i64 (s'.fail 21).err)) [1,0,0,0,3,2,0] (by kernel_rfl) (by kernel_rfl) (by kernel_rfl) (show (w5.alloc (.cells #[.slice none 0 0,.slice none 0 0,.slice none 0 0] 61)).cell? _=_ by rw [World.cell?_alloc_lt _ _ _ (World.block_lt_of_cell? _ _ k2)]; exact k2) (fun Q' hQ'=>?_)
  simp only [List.zip_cons_cons,List.zip_nil_right]
  repeat((first|(refine wpX_silent ?_ fun K hK=>?_;rfl;apply Exists.intro;refine ⟨fun w'=>?_,?_⟩;go_simp;exact⟨rfl,rfl⟩)|(refine wpX_read ?_ fun K hK=>?_;rfl;apply Exists.intro;refine ⟨?_,?_⟩;go_simp;exact⟨rfl,rfl⟩)|(refine wpX_float ?_ fun K hK=>?_;rfl;apply Exists.intro;refine ⟨fun w' hw'=>?_,?_⟩;(try dsimp only at hw');go_simp;exact⟨rfl,rfl⟩)|(refine wpX_not ?_ fun K hK=>?_;rfl));go_simp;refine hK _ _ ?_;clear hK K)
  refine wpX_keeps ?_ (fun K hK=>?_)
  ·rfl
  have HBD:=lh (show (w5.alloc (.cells #[.slice none 0 0,.slice none 0 0,.slice none 0 0] 61)).drew.heap[w.heap.size+1]?=some (.cells #[.slice none 0 0,.slice none 0 0,.slice none 0 0] 61 (0,0)) from (Below.heap_alloc _ _ _ (blk_lt HB6.out)).trans HB6.out)
  refine wp_store_row 61 (.tmp 4) (.tmp 30) rfl (w.heap.size+1) #[.slice none 0 0,.slice none 0 0,.slice none 0 0] rfl rfl _ _ HBD.out (by kernel_rfl) rfl (by simp [Value.oneCell']) ?_
  have hsr:=setRow_heap _ (w.heap.size+1) _ #[.slice none 0 0,.slice none 0 0,.slice none 0 0] 61 (0,0) HBD.out
  have kr:Kept w5 ((w5.alloc (.cells #[.slice none 0 0,.slice none 0 0,.slice none 0 0] 61)).drew.setRow (w.heap.size+1) #[.slice none 0 0,.slice none 0 0,.slice none 0 0]) (fun j=>j=w.heap.size+1):=((Kept.refl w5 (fun j=>j=w.heap.size+1)).alloc _).drew.trans (G:=fun j=>j=w.heap.size+1) ⟨rfl,rfl,rfl,by simp,fun j _ hj=>setRow_other _ (w.heap.size+1) j _ hj⟩ (fun k h=>.inl h)
  have HSR:=lh hsr
  have KR:=lh kr
  obtain ⟨wz,hwz⟩:∃ wz,(w5.alloc (.cells #[.slice none 0 0,.slice none 0 0,.slice none 0 0] 61)).drew.setRow (w.heap.size+1) #[.slice none 0 0,.slice none 0 0,.slice none 0 0]=wz:=⟨_,rfl⟩
  rw [hwz] at HSR KR ⊢
  have hce:wz.cell? ⟨w.heap.size+1+1,2,none⟩=some (.int .i64 (s'.fail 21).err):=by
   rw [← k2]
   simp only [World.cell?,KR.out.block (w.heap.size+1+1) (World.block_lt_of_cell? _ _ k2) (by omega)]
  clear hsr kr hwz
  go_simp
  refine hK _ _ ⟨rfl,hce,?_⟩
  clear hK K
  repeat((first|(refine wpX_silent ?_ fun K hK=>?_;rfl;apply Exists.intro;refine ⟨fun w'=>?_,?_⟩;go_simp;exact⟨rfl,rfl⟩)|(refine wpX_read ?_ fun K hK=>?_;rfl;apply Exists.intro;refine ⟨?_,?_⟩;go_simp;exact⟨rfl,rfl⟩)|(refine wpX_float ?_ fun K hK=>?_;rfl;apply Exists.intro;refine ⟨fun w' hw'=>?_,?_⟩;(try dsimp only at hw');go_simp;exact⟨rfl,rfl⟩)|(refine wpX_not ?_ fun K hK=>?_;rfl));go_simp;refine hK _ _ ?_;clear hK K)
  refine wpX_nil (hQ' _ _ ?_)
  go_wp2
  refine bodyPost_ret (results_cell_slot rfl _ _ _ _ _ _ _ _ rfl rfl HSR.out Tryz.underlying61 rfl (by kernel_rfl)) rfl ?_
  refine ⟨KK5.out.trans KR.out (fun k hk=>.inr (by omega)),.inl ⟨by rw [E1.out]; exact E2.out,?_⟩⟩
  rw [E1.out]; rfl
end Go.Proofs.YtogkkfdkeefjnaaGreatDoor.Codec
