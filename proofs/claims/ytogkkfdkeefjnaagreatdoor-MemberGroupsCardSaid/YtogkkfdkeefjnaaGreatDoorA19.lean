/-
  Numbers that may be below 0: their codec, walked.
-/
import Derived.Test.YtogkkfdkeefjnaaGreatDoorA15
namespace Go.Proofs.YtogkkfdkeefjnaaGreatDoor.Codec
open Go.RowKit Go.Proofs.YtogkkfdkeefjnaaGreatDoorBase Go.Proofs.YtogkkfdkeefjnaaGreatDoorLex2 Go.Proofs.YtogkkfdkeefjnaaGreatDoorNum
set_option linter.unusedVariables false
set_option maxRecDepth 100000
set_option linter.unusedSimpArgs false
def zig (x:Int):Nat:=if x < 0 then (-2 * (x+1)+1).toNat else (2 * x).toNat
def zag (n:Nat):Int:=if n % 2=1 then -((n:Int) / 2) - 1 else (n:Int) / 2
def sgnC:Cod Int where
 rep:=fun _ _ x v=>v=.int .i64 x∧-2305843009213693952≤x∧x < 2305843009213693952
 put:=fun x s=>putN (zig x) s
 cost:=fun _=>8
 get:=fun s=>(zag (getN s).1,(getN s).2)
theorem sgnC_fair:Fair sgnC:=⟨fun _ h=>h,fun h _=>h,fun x s=>putN_len _ _⟩
theorem sgnC_one:One sgnC:=by rintro G w x u ⟨rfl,_⟩; rfl
theorem zag_zig (x:Int):zag (zig x)=x:=by
 unfold zag zig
 by_cases h:x < 0
 ·rw [if_pos h,if_pos (by omega)]; omega
 ·rw [if_neg h,if_neg (by omega)]; omega
theorem zig_lt {x:Int} (h1:-2305843009213693952≤x) (h2:x < 2305843009213693952):zig x < 4611686018427387904:=by
 unfold zig; split <;> omega
theorem zag_in {n:Nat} (h:n < 4611686018427387904):-2305843009213693952≤zag n∧zag n < 2305843009213693952:=by
 unfold zag; split <;> omega
set_option maxHeartbeats 1600000 in
theorem sgn_put (W:World) (cb:Nat) (pv gv:Value) (T:TypeId) (hp:PutOk W pv numC) (hcb:W.heap[cb]?=some (.cells #[pv,gv] T (0,0))) :
  PutOk W (.func (.func 100) #[] #[.pointer (some ⟨cb,0,none⟩)]) sgnC:=by
 refine ⟨_,_,rfl,Proofs.enters_of Tryz.func100 (by kernel_rfl) rfl,?_⟩
 rintro B p F s w x v hB hw ⟨rfl,l1,l2⟩ h hr
 obtain ⟨f,caps,rfl,he,hp⟩:=hp
 unfold Proofs.Enters at he
 have hz:=zig_lt l1 l2
 have c0:=cellOf (j:=0) (hw.blk hcb)
 simp at c0
 have P:=hp B p F s w (zig x:Nat) (.int .i64 (zig x:Nat)) hB hw rfl h hr
 have e:numC.put (zig x:Nat) s=sgnC.put x s:=by
  show (if ((zig x:Nat):Int) < 0∨4611686018427387904≤((zig x:Nat):Int) then s.fail 22 else putN ((zig x:Nat):Int).toNat s)=putN (zig x) s
  rw [if_neg (by omega)]
  rfl
 rw [e] at P
 have HP:=lh P
 clear hp hw h hr P e hz hcb hB
 show Calls Tryz.prog _ #[.pointer (some ⟨p,0,none⟩),.int .i64 x,.pointer (some ⟨cb,0,none⟩)] w _
 by_cases hx:x < 0
 ·have ez:((zig x:Nat):Int)=-2 * (x+1)+1:=by unfold zig; rw [if_pos hx]; omega
  rw [ez] at HP
  go_enter Tryz.func100,Tryz.ntmps100
  go_wp2_with (fail)
  refine HP.out.mono ?_
  rintro e w1 ⟨rfl,hm⟩
  have HM:=lh hm
  clear hm
  go_wp2
  go_end0
  exact ⟨rfl,HM.out⟩
 ·have ez:((zig x:Nat):Int)=2 * x:=by unfold zig; rw [if_neg hx]; omega
  rw [ez] at HP
  go_enter Tryz.func100,Tryz.ntmps100
  go_wp2_with (fail)
  refine HP.out.mono ?_
  rintro e w1 ⟨rfl,hm⟩
  have HM:=lh hm
  clear hm
  go_wp2
  go_end0
  exact ⟨rfl,HM.out⟩
set_option maxHeartbeats 1600000 in
theorem sgn_get (W:World) (cb:Nat) (pv gv:Value) (T:TypeId) (hp:GetOk W gv numC) (hcb:W.heap[cb]?=some (.cells #[pv,gv] T (0,0))) :
  GetOk W (.func (.func 101) #[] #[.pointer (some ⟨cb,0,none⟩)]) sgnC:=by
 refine ⟨_,_,rfl,Proofs.enters_of Tryz.func101 (by kernel_rfl) rfl,?_⟩
 rintro p d s w hB hw h hd
 obtain ⟨f,caps,rfl,he,hp⟩:=hp
 unfold Proofs.Enters at he
 have c0:=cellOf (j:=1) (hw.blk hcb)
 simp at c0
 have P:=hp p d s w hB hw h hd
 obtain ⟨n,s1,hg⟩:∃ n s1,getN s=(n,s1):=⟨_,_,rfl⟩
 have hn:n < 4611686018427387904:=by have:=getN_le s; rw [hg] at this; exact this
 have e1:numC.get s=((n:Int),s1):=by show (((getN s).1:Int),(getN s).2)=_; rw [hg]
 have e2:sgnC.get s=(zag n,s1):=by show (zag (getN s).1,(getN s).2)=_; rw [hg]
 rw [e1] at P
 rw [e2]
 have HP:=lh P
 have ZI:=lh (zag_in hn)
 clear hp hw h hd P e1 e2 hg hcb hB
 show Calls Tryz.prog _ #[.pointer (some ⟨p,0,none⟩),.pointer (some ⟨cb,0,none⟩)] w _
 by_cases hm:n % 2=1
 ·have ez:Hid (zag n=-((n:Int) / 2) - 1):=lh (by unfold zag; rw [if_pos hm])
  have q1:(n:Int) % 2=1:=by omega
  have q2:(Int.tmod (n:Int) 2 == 1)=true:=by rw [Int.tmod_eq_emod_of_nonneg (by omega)]; simp; omega
  have q3:Int.tdiv (n:Int) 2=(n:Int) / 2:=Int.tdiv_eq_ediv_of_nonneg (by omega)
  go_enter Tryz.func101,Tryz.ntmps101
  go_wp2_with (fail)
  refine HP.out.mono ?_
  rintro e w1 ⟨v,rfl,hm,rfl⟩
  have HM:=lh hm
  clear hm
  go_wp2
  go_ret
  rw [ez.out]
  exact ⟨_,rfl,HM.out,rfl,by rw [← ez.out]; exact ZI.out.1,by rw [← ez.out]; exact ZI.out.2⟩
 ·have ez:Hid (zag n=(n:Int) / 2):=lh (by unfold zag; rw [if_neg hm])
  have q1:¬ (n:Int) % 2=1:=by omega
  have q4:((n:Int) % 2 == 1)=false:=by simpa using q1
  go_enter Tryz.func101,Tryz.ntmps101
  go_wp2_with (fail)
  refine HP.out.mono ?_
  rintro e w1 ⟨v,rfl,hm,rfl⟩
  have HM:=lh hm
  clear hm
  go_wp2
  go_ret
  rw [ez.out]
  exact ⟨_,rfl,HM.out,rfl,by rw [← ez.out]; exact ZI.out.1,by rw [← ez.out]; exact ZI.out.2⟩
/-- What was made from the block b on is as it was. -/
def From (b:Nat) (W W':World):Prop:=W.heap.size≤W'.heap.size∧∀ k,b≤k→k < W.heap.size→W'.heap[k]?=W.heap[k]?
theorem From.blk {b:Nat} {W W':World} (h:From b W W') {k:Nat} {o:Obj} (hk:b≤k) (hb:W.heap[k]?=some o):W'.heap[k]?=some o:=(h.2 k hk (blk_lt hb)).trans hb
theorem From.pre {b b2:Nat} {W1 W2 W':World} (h:From b W2 W') (hk:Kept W1 W2 (fun k=>k < b2)) (hb:b≤b2):From b2 W1 W' :=
 ⟨Nat.le_trans hk.size h.1,fun k h1 h2=>(h.2 k (Nat.le_trans hb h1) (Nat.lt_of_lt_of_le h2 hk.size)).trans (hk.block k h2 (by omega))⟩
theorem number_new (w:World):Calls Tryz.prog 99 #[] w fun r w'=>∃ pv gv,r=.returned (.agg #[pv,gv])∧pv.oneCell'=true∧gv.oneCell'=true∧(∀ W',IsCodec W' (.agg #[pv,gv]) numC)∧Kept w w' (fun _=>False):=by
 go_enter Tryz.func99,Tryz.ntmps99
 go_wp2
 refine bodyPost_ret (results_cell_row rfl _ _ _ _ _ _ _ rfl (heap_alloc_new _ _) Tryz.underlying172 rfl (by kernel_rfl)) rfl ?_
 exact ⟨_,_,rfl,rfl,rfl,fun W'=>num_codec W',(Kept.refl _ _).alloc _⟩
theorem isCodec_agg {α:Type} {W:World} {pv gv:Value} {c:Cod α} (h:IsCodec W (.agg #[pv,gv]) c):PutOk W pv c∧GetOk W gv c:=by
 obtain ⟨a,b,e,h1,h2⟩:=h
 simp only [Value.agg.injEq,Array.mk.injEq,List.cons.injEq,and_true] at e
 obtain ⟨rfl,rfl⟩:=e
 exact ⟨h1,h2⟩
theorem signed_new (w:World):Calls Tryz.prog 63 #[] w fun r w'=>∃ pv gv,r=.returned (.agg #[pv,gv])∧pv.oneCell'=true∧gv.oneCell'=true∧(∀ W',From w.heap.size w' W'→IsCodec W' (.agg #[pv,gv]) sgnC)∧Kept w w' (fun _=>False):=by
 go_enter Tryz.func63,Tryz.ntmps63
 go_wp2_with (fail)
 refine (number_new _).mono ?_
 rintro e w1 ⟨pv,gv,rfl,-,-,hc,hk⟩
 obtain ⟨f1,p1,rfl,_⟩:=(isCodec_agg (hc w1)).1
 obtain ⟨f2,p2,rfl,_⟩:=(isCodec_agg (hc w1)).2
 have HC:=lh hc
 have HK:=lh hk
 have h0:=HK.out.blk (heap_alloc_new w _) (fun h=>h)
 have hl:=blk_lt h0
 have hz1:=heap_alloc_new w1 (.cells #[.nilFunc,.nilFunc] 172)
 obtain ⟨K9,H9⟩:=setRow_new (w:=w1) (Z:=#[.nilFunc,.nilFunc]) (cs:=#[.func (.func f1) #[] p1,.func (.func f2) #[] p2]) (T:=172)
 have hz2:=K9.blk h0 (fun h=>h)
 have HZ1:=lh hz1
 have HZ2:=lh hz2
 have KB:=lh K9
 have HB:=lh H9
 clear hc hk h0 hz1 hz2 K9 H9
 go_wp2_with (first | refine wpList_store_row rfl 172 (.tmp 1) (.tmp 2) rfl w1.heap.size #[.func (.func f1) #[] p1,.func (.func f2) #[] p2] rfl rfl _ _ HZ1.out (by kernel_rfl) rfl (by simp [Value.oneCell']) ?_ | refine wpList_store_row rfl 172 (.tmp 0) (.tmp 5) rfl w.heap.size #[.func (.func 100) #[] #[.pointer (some ⟨w1.heap.size,0,none⟩)],.func (.func 101) #[] #[.pointer (some ⟨w1.heap.size,0,none⟩)]] rfl rfl _ _ HZ2.out (by kernel_rfl) rfl (by simp [Value.oneCell']) ?_)
 obtain ⟨wb,hwb⟩:∃ wb,(w1.alloc (.cells #[.nilFunc,.nilFunc] 172)).setRow w1.heap.size #[.func (.func f1) #[] p1,.func (.func f2) #[] p2]=wb:=⟨_,rfl⟩
 rw [hwb] at HZ2 KB HB ⊢
 have hsr:=setRow_heap wb w.heap.size _ #[.func (.func 100) #[] #[.pointer (some ⟨w1.heap.size,0,none⟩)],.func (.func 101) #[] #[.pointer (some ⟨w1.heap.size,0,none⟩)]] 172 (0,0) HZ2.out
 have kr:Kept wb (wb.setRow w.heap.size #[.func (.func 100) #[] #[.pointer (some ⟨w1.heap.size,0,none⟩)],.func (.func 101) #[] #[.pointer (some ⟨w1.heap.size,0,none⟩)]]) (fun j=>j=w.heap.size):=⟨rfl,rfl,rfl,by simp,fun j _ hj=>setRow_other wb w.heap.size j _ hj⟩
 have k01:Kept w w1 (fun _=>False):=((Kept.refl w (fun _=>False)).alloc _).trans HK.out (fun _ h=>h.elim)
 have hsz:w.heap.size < w1.heap.size:=hl
 refine bodyPost_ret (results_cell_row rfl _ _ _ _ _ _ _ rfl hsr Tryz.underlying172 rfl (by kernel_rfl)) rfl ?_
 have kall:=(k01.trans KB.out (fun _ h=>h.elim)).trans kr (fun j h=>.inr (by omega))
 have hcb:=kr.blk HB.out (by omega)
 exact ⟨_,_,rfl,rfl,rfl,fun W' hW=>⟨_,_,rfl,sgn_put _ _ _ _ _ (isCodec_agg (HC.out W')).1 (hW.blk (by omega) hcb),sgn_get _ _ _ _ _ (isCodec_agg (HC.out W')).2 (hW.blk (by omega) hcb)⟩,kall⟩
end Go.Proofs.YtogkkfdkeefjnaaGreatDoor.Codec
