/-
  Making a term, walked. Terms made of terms, asked, drawn, walked. Stores made; terms opened; signatures looked at, walked. Arguments opened: slices that came in, as rows; no program's text. Lists of terms made and taken apart, walked. Numbers as bytes, plainly: how many bytes a number has, which they are, and what bytes are as a number. No program's text. Reading bytes, plainly: numbers, texts, lists out of what is left of some bytes. No program's text. Reading bytes is the inverse of writing them: numbers. No program's text.
-/
import Derived.Test.YtogkkfdkeefjnaaGreatDoorA02
import Derived.Test.YtogkkfdkeefjnaaGreatDoorA01
import Derived.WalkKit
import Derived.ProofKit
import Derived.OpenShut
import Derived.SliceStrings
import Derived.SizedLaws
import Derived.Lib.BitFns
import Derived.Laws.Bits64b
namespace Go.Proofs.YtogkkfdkeefjnaaGreatDoor.Term
open Go.RowKit Go.Proofs.YtogkkfdkeefjnaaGreatDoorBase Go.Proofs.YtogkkfdkeefjnaaGreatDoorLex2
set_option linter.unusedVariables false
set_option maxRecDepth 100000
set_option linter.unusedSimpArgs false
theorem wpX_lookup {P:Program} {ops:Array Oper} {S:World→Prop} {Q':Act→World→Prop} {a:Act} {w:World} {o:Oper} {rest:List (Nat×Oper)} (t:TypeId) (x i:Operand) (c:Bool) (hop:o.op=.lookup t x i c) (hg:Region.wanted o (yielded ops a.tmps)=true) (X I:Value) (hx:a.eval x=X) (hi:a.eval i=I) (v:Value) (hrun:(Instr.lookup t X I c).run P w=.ok v w)
  (h:∀ K:Act→World→Prop,(∀ a w,wpX P ops S Q' rest a w→K a w)→K (a.put o.dst v) w):wpX P ops S Q' ((1,o) :: rest) a w:=by
 refine wpX_read hg (fun K hK=>⟨v,?_,h K hK⟩)
 unfold execOp
 simp only [hop,hx,hi,Sem.run_bind,hrun,Result.andThen_ok]
 exact ⟨rfl,rfl⟩
theorem wp_update_node {o:Oper} {a:Act} {w:World} {K:Act→World→Prop} {Q:Exit→Act→World→Prop} (x i v:Operand) (ho:o.op=.mapUpdate 95 x i v) (n:Node) (l:List Node) (m:Nat) (u:Value) (hx:a.eval x=.map (some m)) (hi:a.eval i=nodeV n) (hv:a.eval v=u)
  (hn:idx l n=0) (hb:w.heap[m]?=some (.map (entries l).toArray l.length)) (h:K (a.put o.dst undef) (setMap w m (.map ((entries l).toArray.push ⟨nodeV n,u,l.length⟩) (l.length+1)))):o.wp Tryz.prog a w K Q:=by
 have hr:=run_update_node n l m u w hn hb
 unfold Oper.wp execOp
 simp only [ho,hx,hi,hv,Sem.run_bind,hr,Result.andThen_ok]
 exact h
theorem setMap_at {w:World} {m:Nat} {o o':Obj} (hb:w.heap[m]?=some o):(setMap w m o').heap[m]?=some o':=(MapKept.heap_set hb).1
theorem setMap_kept {w:World} {m:Nat} {o':Obj}:Kept w (setMap w m o') (fun k=>k=m):=by
 refine ⟨rfl,rfl,rfl,by simp [setMap],fun k hk hne=>?_⟩
 simp only [setMap,Array.getElem?_setIfInBounds]
 rw [if_neg (fun e=>hne e.symm)]
theorem own_ne_map {w:World} {base:Nat} {e:TypeId} {size:Nat} {v:Value} {n:Nat} {xs:List Value} {m:Nat} {es:Array MapEntry} {k:Nat} (h:w.ownsRow base e size v n xs) (hm:w.heap[m]?=some (.map es k)):v.ownBlock≠some m:=by
 rcases h.2 with ⟨rfl,_⟩ | ⟨g,cap,cur,rfl,hg,hh,r⟩
 ·simp [Value.ownBlock]
 ·intro e
  simp only [Value.ownBlock,Option.some.injEq] at e
  subst e
  rw [hm] at hh
  cases hh
theorem mk_old {s:TS} {n:Node} (h:idx s.nodes n≠0):mk s n=((idx s.nodes n,0),s):=by unfold mk; rw [if_pos h]
theorem mk_bad {s:TS} {n:Node} (h:idx s.nodes n=0) (h2:¬ Right s.nodes n):mk s n=((0,10),s):=by unfold mk; rw [if_neg (by simpa using h),if_pos h2]
theorem mk_full {s:TS} {n:Node} (h:idx s.nodes n=0) (h2:Right s.nodes n) (h3:262144≤s.nodes.length):mk s n=((0,11),s):=by unfold mk; rw [if_neg (by simpa using h),if_neg (by simpa using h2),if_pos h3]
theorem mk_new {s:TS} {n:Node} (h:idx s.nodes n=0) (h2:Right s.nodes n) (h3:¬ 262144≤s.nodes.length):mk s n=((s.nodes.length+1,0),{ s with nodes:=s.nodes ++ [n] }):=by unfold mk; rw [if_neg (by simpa using h),if_neg (by simpa using h2),if_neg h3]
set_option maxRecDepth 100000 in
theorem make_old (w0 w:World) (p:Nat) (F:Nat→Prop) (s:TS) (n:Node) (h:SAt w0 w p F s) (hi:idx s.nodes n≠0) :
  Calls Tryz.prog 68 #[.pointer (some ⟨p,0,none⟩),nodeV n] w fun e w'=>e=.returned (.tuple #[.int .i64 (mk s n).1.1,.int .i64 (mk s n).1.2])∧Kept w w' (fun _=>False):=by
 rw [mk_old hi]
 have e:decide (idx s.nodes n≠0)=true:=by simpa using hi
 obtain ⟨nv,m,hp,hm,hb1,hb2,hb3,ho,hF⟩:=h.at_
 obtain ⟨A,c,rfl,hc,hcm⟩:=own_slice ho
 have pl:=blk_lt hp
 have c1:=cellOf (j:=1) hp
 have c0:=cellOf (j:=0) hp
 simp at c0 c1
 have ka:=((Kept.refl w (fun _=>False)).alloc (.cells #[.int .i64 n.kind,.string n.label,.int .i64 n.a,.int .i64 n.b] 101)).drew
 have LK:=lh (run_lookup_node n s.nodes s.nodes.length m _ (ka.blk hm (fun h=>h)))
 have H:=lh h
 have HA:=lh (h.kept ka)
 unfold nodeV
 go_enter Tryz.func68,Tryz.ntmps68
 go_wp2
 refine wp_region_lex (fun _=>True) [0,0,0,1,1,1,0,0,0,0,0] (by kernel_rfl) (by kernel_rfl) (by kernel_rfl) (trivial) (fun Q' hQ'=>?_)
 simp only [List.zip_cons_cons,List.zip_nil_right]
 repeat((first|(refine wpX_silent ?_ fun K hK=>?_;rfl;apply Exists.intro;refine ⟨fun w'=>?_,?_⟩;go_simp;exact⟨rfl,rfl⟩)|(refine wpX_read ?_ fun K hK=>?_;rfl;apply Exists.intro;refine ⟨?_,?_⟩;go_simp;exact⟨rfl,rfl⟩)|(refine wpX_float ?_ fun K hK=>?_;rfl;apply Exists.intro;refine ⟨fun w' hw'=>?_,?_⟩;(try dsimp only at hw');go_simp;exact⟨rfl,rfl⟩)|(refine wpX_not ?_ fun K hK=>?_;rfl));go_simp;refine hK _ _ ?_;clear hK K)
 refine wpX_lookup _ _ _ _ rfl rfl _ _ rfl rfl _ LK.out (fun K hK=>?_)
 rw [e]
 refine hK _ _ ?_
 clear hK K
 repeat((first|(refine wpX_silent ?_ fun K hK=>?_;rfl;apply Exists.intro;refine ⟨fun w'=>?_,?_⟩;go_simp;exact⟨rfl,rfl⟩)|(refine wpX_read ?_ fun K hK=>?_;rfl;apply Exists.intro;refine ⟨?_,?_⟩;go_simp;exact⟨rfl,rfl⟩)|(refine wpX_float ?_ fun K hK=>?_;rfl;apply Exists.intro;refine ⟨fun w' hw'=>?_,?_⟩;(try dsimp only at hw');go_simp;exact⟨rfl,rfl⟩)|(refine wpX_not ?_ fun K hK=>?_;rfl));go_simp;refine hK _ _ ?_;clear hK K)
 refine wpX_nil (hQ' _ _ ?_)
 go_wp2
 go_ret2
 exact ⟨rfl,ka⟩
theorem right_any (w0 w:World) (p:Nat) (F:Nat→Prop) (s:TS) (n:Node) (h:SAt w0 w p F s) (hl:n.label.size≤9223372036854775807) :
  Calls Tryz.prog 153 #[.pointer (some ⟨p,0,none⟩),nodeV n] w fun e w'=>e=.returned (.bool (decide (Right s.nodes n)))∧Kept w w' (fun _=>False):=by
 by_cases hk:n.kind=1
 ·exact right_atom w0 w p F s n hk
 ·obtain ⟨k,l,a,b⟩:=n
  exact right_other w0 w p F s k l a b h hk hl
set_option maxRecDepth 100000 in
theorem make_bad (w0 w:World) (p:Nat) (F:Nat→Prop) (s:TS) (n:Node) (h:SAt w0 w p F s) (hl:n.label.size≤9223372036854775807) (hi:idx s.nodes n=0) (hr:¬ Right s.nodes n) :
  Calls Tryz.prog 68 #[.pointer (some ⟨p,0,none⟩),nodeV n] w fun e w'=>e=.returned (.tuple #[.int .i64 (mk s n).1.1,.int .i64 (mk s n).1.2])∧Kept w w' (fun _=>False):=by
 rw [mk_bad hi hr]
 have hd:decide (Right s.nodes n)=false:=by simpa using hr
 have e:decide (idx s.nodes n≠0)=false:=by simpa using hi
 obtain ⟨nv,m,hp,hm,hb1,hb2,hb3,ho,hF⟩:=h.at_
 obtain ⟨A,c,rfl,hc,hcm⟩:=own_slice ho
 have pl:=blk_lt hp
 have c1:=cellOf (j:=1) hp
 have c0:=cellOf (j:=0) hp
 simp at c0 c1
 have ka:=((Kept.refl w (fun _=>False)).alloc (.cells #[.int .i64 n.kind,.string n.label,.int .i64 n.a,.int .i64 n.b] 101)).drew
 have LK:=lh (run_lookup_node n s.nodes s.nodes.length m _ (ka.blk hm (fun h=>h)))
 have H:=lh h
 have HA:=lh (h.kept ka)
 unfold nodeV
 go_enter Tryz.func68,Tryz.ntmps68
 go_wp2
 refine wp_region_lex (fun _=>True) [0,0,0,1,1,1,0,0,0,0,0] (by kernel_rfl) (by kernel_rfl) (by kernel_rfl) (trivial) (fun Q' hQ'=>?_)
 simp only [List.zip_cons_cons,List.zip_nil_right]
 repeat((first|(refine wpX_silent ?_ fun K hK=>?_;rfl;apply Exists.intro;refine ⟨fun w'=>?_,?_⟩;go_simp;exact⟨rfl,rfl⟩)|(refine wpX_read ?_ fun K hK=>?_;rfl;apply Exists.intro;refine ⟨?_,?_⟩;go_simp;exact⟨rfl,rfl⟩)|(refine wpX_float ?_ fun K hK=>?_;rfl;apply Exists.intro;refine ⟨fun w' hw'=>?_,?_⟩;(try dsimp only at hw');go_simp;exact⟨rfl,rfl⟩)|(refine wpX_not ?_ fun K hK=>?_;rfl));go_simp;refine hK _ _ ?_;clear hK K)
 refine wpX_lookup _ _ _ _ rfl rfl _ _ rfl rfl _ LK.out (fun K hK=>?_)
 rw [e]
 refine hK _ _ ?_
 clear hK K
 repeat((first|(refine wpX_silent ?_ fun K hK=>?_;rfl;apply Exists.intro;refine ⟨fun w'=>?_,?_⟩;go_simp;exact⟨rfl,rfl⟩)|(refine wpX_read ?_ fun K hK=>?_;rfl;apply Exists.intro;refine ⟨?_,?_⟩;go_simp;exact⟨rfl,rfl⟩)|(refine wpX_float ?_ fun K hK=>?_;rfl;apply Exists.intro;refine ⟨fun w' hw'=>?_,?_⟩;(try dsimp only at hw');go_simp;exact⟨rfl,rfl⟩)|(refine wpX_not ?_ fun K hK=>?_;rfl));go_simp;refine hK _ _ ?_;clear hK K)
 refine wpX_nil (hQ' _ _ ?_)
 go_wp2_with (fail)
 obtain ⟨w1,hw1⟩:∃ w1,(w.alloc (.cells #[.int .i64 n.kind,.string n.label,.int .i64 n.a,.int .i64 n.b] 101)).drew=w1:=⟨_,rfl⟩
 rw [hw1] at ka HA ⊢
 have hbx:w1.heap[w.heap.size]?=some (.cells #[.int .i64 n.kind,.string n.label,.int .i64 n.a,.int .i64 n.b] 101 (0,0)):=by rw [← hw1]; exact heap_alloc_new w _
 clear hw1
 refine (right_any w0 _ p F s n HA.out hl).mono ?_
 rintro e w2 ⟨rfl,hk⟩
 have K2:=lh (ka.trans hk (fun _ h=>h.elim))
 have HX:=lh (hk.blk hbx (fun h=>h))
 clear hk hbx ka
 rw [hd]
 go_wp2
 go_ret2
 exact ⟨rfl,K2.out⟩
set_option maxRecDepth 100000 in
theorem make_full (w0 w:World) (p:Nat) (F:Nat→Prop) (s:TS) (n:Node) (h:SAt w0 w p F s) (hl:n.label.size≤9223372036854775807) (hi:idx s.nodes n=0) (hr:Right s.nodes n) (hf:262144≤s.nodes.length) :
  Calls Tryz.prog 68 #[.pointer (some ⟨p,0,none⟩),nodeV n] w fun e w'=>e=.returned (.tuple #[.int .i64 (mk s n).1.1,.int .i64 (mk s n).1.2])∧Kept w w' (fun _=>False):=by
 rw [mk_full hi hr hf]
 have hd:decide (Right s.nodes n)=true:=by simpa using hr
 have e:decide (idx s.nodes n≠0)=false:=by simpa using hi
 obtain ⟨nv,m,hp,hm,hb1,hb2,hb3,ho,hF⟩:=h.at_
 obtain ⟨A,c,rfl,hc,hcm⟩:=own_slice ho
 have pl:=blk_lt hp
 have c1:=cellOf (j:=1) hp
 have c0:=cellOf (j:=0) hp
 simp at c0 c1
 have ka:=((Kept.refl w (fun _=>False)).alloc (.cells #[.int .i64 n.kind,.string n.label,.int .i64 n.a,.int .i64 n.b] 101)).drew
 have LK:=lh (run_lookup_node n s.nodes s.nodes.length m _ (ka.blk hm (fun h=>h)))
 have H:=lh h
 have HA:=lh (h.kept ka)
 unfold nodeV
 go_enter Tryz.func68,Tryz.ntmps68
 go_wp2
 refine wp_region_lex (fun _=>True) [0,0,0,1,1,1,0,0,0,0,0] (by kernel_rfl) (by kernel_rfl) (by kernel_rfl) (trivial) (fun Q' hQ'=>?_)
 simp only [List.zip_cons_cons,List.zip_nil_right]
 repeat((first|(refine wpX_silent ?_ fun K hK=>?_;rfl;apply Exists.intro;refine ⟨fun w'=>?_,?_⟩;go_simp;exact⟨rfl,rfl⟩)|(refine wpX_read ?_ fun K hK=>?_;rfl;apply Exists.intro;refine ⟨?_,?_⟩;go_simp;exact⟨rfl,rfl⟩)|(refine wpX_float ?_ fun K hK=>?_;rfl;apply Exists.intro;refine ⟨fun w' hw'=>?_,?_⟩;(try dsimp only at hw');go_simp;exact⟨rfl,rfl⟩)|(refine wpX_not ?_ fun K hK=>?_;rfl));go_simp;refine hK _ _ ?_;clear hK K)
 refine wpX_lookup _ _ _ _ rfl rfl _ _ rfl rfl _ LK.out (fun K hK=>?_)
 rw [e]
 refine hK _ _ ?_
 clear hK K
 repeat((first|(refine wpX_silent ?_ fun K hK=>?_;rfl;apply Exists.intro;refine ⟨fun w'=>?_,?_⟩;go_simp;exact⟨rfl,rfl⟩)|(refine wpX_read ?_ fun K hK=>?_;rfl;apply Exists.intro;refine ⟨?_,?_⟩;go_simp;exact⟨rfl,rfl⟩)|(refine wpX_float ?_ fun K hK=>?_;rfl;apply Exists.intro;refine ⟨fun w' hw'=>?_,?_⟩;(try dsimp only at hw');go_simp;exact⟨rfl,rfl⟩)|(refine wpX_not ?_ fun K hK=>?_;rfl));go_simp;refine hK _ _ ?_;clear hK K)
 refine wpX_nil (hQ' _ _ ?_)
 go_wp2_with (fail)
 obtain ⟨w1,hw1⟩:∃ w1,(w.alloc (.cells #[.int .i64 n.kind,.string n.label,.int .i64 n.a,.int .i64 n.b] 101)).drew=w1:=⟨_,rfl⟩
 rw [hw1] at ka HA ⊢
 have hbx:w1.heap[w.heap.size]?=some (.cells #[.int .i64 n.kind,.string n.label,.int .i64 n.a,.int .i64 n.b] 101 (0,0)):=by rw [← hw1]; exact heap_alloc_new w _
 clear hw1
 refine (right_any w0 _ p F s n HA.out hl).mono ?_
 rintro e w2 ⟨rfl,hk⟩
 have K2:=lh (ka.trans hk (fun _ h=>h.elim))
 have HX:=lh (hk.blk hbx (fun h=>h))
 clear hk hbx ka
 rw [hd]
 have c2:w2.cell? ⟨p,0,none⟩=some (.slice A s.nodes.length c):=by rw [← c0]; simp only [World.cell?,K2.out.block p pl (fun h=>h)]
 have q:(262144:Int)≤s.nodes.length:=by omega
 have hle:=H.out.ok.len
 clear c0 c1
 go_wp2
 go_ret2
 exact ⟨rfl,K2.out⟩
set_option maxHeartbeats 1600000 in
set_option maxRecDepth 100000 in
theorem make_new (w0 w:World) (p:Nat) (F:Nat→Prop) (s:TS) (n:Node) (h:SAt w0 w p F s) (hl:n.label.size≤9223372036854775807) (hi:idx s.nodes n=0) (hr:Right s.nodes n) (hf:¬ 262144≤s.nodes.length) :
  Calls Tryz.prog 68 #[.pointer (some ⟨p,0,none⟩),nodeV n] w fun e w'=>e=.returned (.tuple #[.int .i64 (mk s n).1.1,.int .i64 (mk s n).1.2])∧TNext w0 w w' p F (mk s n).2:=by
 have hok:=lh (mk_ok h.ok n)
 rw [mk_new hi hr hf] at hok ⊢
 have hd:decide (Right s.nodes n)=true:=by simpa using hr
 have e:decide (idx s.nodes n≠0)=false:=by simpa using hi
 obtain ⟨nv,m,hp,hm,hb1,hb2,hb3,ho,hF⟩:=h.at_
 obtain ⟨A,c,rfl,hc,hcm⟩:=own_slice ho
 have pl:=blk_lt hp
 have c1:=cellOf (j:=1) hp
 have c0:=cellOf (j:=0) hp
 simp at c0 c1
 have ka:=((Kept.refl w (fun _=>False)).alloc (.cells #[.int .i64 n.kind,.string n.label,.int .i64 n.a,.int .i64 n.b] 101)).drew
 have LK:=lh (run_lookup_node n s.nodes s.nodes.length m _ (ka.blk hm (fun h=>h)))
 have H:=lh h
 have HA:=lh (h.kept ka)
 unfold nodeV
 go_enter Tryz.func68,Tryz.ntmps68
 go_wp2
 refine wp_region_lex (fun _=>True) [0,0,0,1,1,1,0,0,0,0,0] (by kernel_rfl) (by kernel_rfl) (by kernel_rfl) (trivial) (fun Q' hQ'=>?_)
 simp only [List.zip_cons_cons,List.zip_nil_right]
 repeat((first|(refine wpX_silent ?_ fun K hK=>?_;rfl;apply Exists.intro;refine ⟨fun w'=>?_,?_⟩;go_simp;exact⟨rfl,rfl⟩)|(refine wpX_read ?_ fun K hK=>?_;rfl;apply Exists.intro;refine ⟨?_,?_⟩;go_simp;exact⟨rfl,rfl⟩)|(refine wpX_float ?_ fun K hK=>?_;rfl;apply Exists.intro;refine ⟨fun w' hw'=>?_,?_⟩;(try dsimp only at hw');go_simp;exact⟨rfl,rfl⟩)|(refine wpX_not ?_ fun K hK=>?_;rfl));go_simp;refine hK _ _ ?_;clear hK K)
 refine wpX_lookup _ _ _ _ rfl rfl _ _ rfl rfl _ LK.out (fun K hK=>?_)
 rw [e]
 refine hK _ _ ?_
 clear hK K
 repeat((first|(refine wpX_silent ?_ fun K hK=>?_;rfl;apply Exists.intro;refine ⟨fun w'=>?_,?_⟩;go_simp;exact⟨rfl,rfl⟩)|(refine wpX_read ?_ fun K hK=>?_;rfl;apply Exists.intro;refine ⟨?_,?_⟩;go_simp;exact⟨rfl,rfl⟩)|(refine wpX_float ?_ fun K hK=>?_;rfl;apply Exists.intro;refine ⟨fun w' hw'=>?_,?_⟩;(try dsimp only at hw');go_simp;exact⟨rfl,rfl⟩)|(refine wpX_not ?_ fun K hK=>?_;rfl));go_simp;refine hK _ _ ?_;clear hK K)
 refine wpX_nil (hQ' _ _ ?_)
 go_wp2_with (fail)
 obtain ⟨w1,hw1⟩:∃ w1,(w.alloc (.cells #[.int .i64 n.kind,.string n.label,.int .i64 n.a,.int .i64 n.b] 101)).drew=w1:=⟨_,rfl⟩
 rw [hw1] at ka HA ⊢
 have hbx:w1.heap[w.heap.size]?=some (.cells #[.int .i64 n.kind,.string n.label,.int .i64 n.a,.int .i64 n.b] 101 (0,0)):=by rw [← hw1]; exact heap_alloc_new w _
 clear hw1
 refine (right_any w0 _ p F s n HA.out hl).mono ?_
 rintro e w2 ⟨rfl,hk⟩
 have K2:=lh (ka.trans hk (fun _ h=>h.elim))
 have HX:=lh (hk.blk hbx (fun h=>h))
 clear hk hbx ka
 rw [hd]
 have c2:w2.cell? ⟨p,0,none⟩=some (.slice A s.nodes.length c):=by rw [← c0]; simp only [World.cell?,K2.out.block p pl (fun h=>h)]
 have q:decide ((262144:Int)≤s.nodes.length)=false:=by simp; omega
 have bx:=K2.out.size
 have hx0:=cellOf (j:=0) HX.out
 have hx1:=cellOf (j:=1) HX.out
 have hx2:=cellOf (j:=2) HX.out
 have hx3:=cellOf (j:=3) HX.out
 simp at hx0 hx1 hx2 hx3
 have HP:=lh (K2.out.blk hp (fun h=>h))
 have HM:=lh (K2.out.blk hm (fun h=>h))
 have HO:=lh (own_keptF ho K2.out (fun _ _ h=>h))
 have HF:=lh hF
 have HF3:=lh hf
 have PL2:=lh (blk_lt (K2.out.blk hp (fun h=>h)))
 have OL:Hid (∀ g,(Value.slice A s.nodes.length c).ownBlock=some g→g < w.heap.size):=lh (fun g hg=>(ho.lt g hg).2)
 clear c0 c1 hp hm ho hF hf
 go_wp2
 refine wp_region_lex (fun w'=>w'.cell? ⟨p,0,none⟩=some (.slice A s.nodes.length c)) [0,0,0,0,3,1,2,4,0,0,4] (by kernel_rfl) (by kernel_rfl) (by kernel_rfl) (c2) (fun Q' hQ'=>?_)
 simp only [List.zip_cons_cons,List.zip_nil_right]
 repeat((first|(refine wpX_silent ?_ fun K hK=>?_;rfl;apply Exists.intro;refine ⟨fun w'=>?_,?_⟩;go_simp;exact⟨rfl,rfl⟩)|(refine wpX_read ?_ fun K hK=>?_;rfl;apply Exists.intro;refine ⟨?_,?_⟩;go_simp;exact⟨rfl,rfl⟩)|(refine wpX_float ?_ fun K hK=>?_;rfl;apply Exists.intro;refine ⟨fun w' hw'=>?_,?_⟩;(try dsimp only at hw');go_simp;exact⟨rfl,rfl⟩)|(refine wpX_not ?_ fun K hK=>?_;rfl));go_simp;refine hK _ _ ?_;clear hK K)
 refine wpX_keeps ?_ (fun K hK=>?_)
 ·rfl
 have pl2:=PL2.out
 go_wp2
 -- S is shown by the walk
 refine wpX_heavy ?_ (fun K hK=>?_)
 ·rfl
 refine wp_append_ownS _ (.tmp 35) (.tmp 37) 96 96 rfl w0.heap.size 101 _ 4 40 elemNode (.slice A s.nodes.length c) s.nodes.length (s.nodes.flatMap nodeC) rfl ?own (.slice (some ⟨w2.heap.size,0,none⟩) 1 1) 1 (nodeC n) rfl ?src ?by1 ?ba (fun v' w3 o1 g1 b1=>?_)
 case own=>exact HO.out.alloc _
 case src=>
  refine Src.ofSlice _ elemNode.under _ 1 1 _ rfl (fun j u hj=>?_) ?_
  ·have hlast:=cellOf (j:=j) (show ((w2.alloc (.cells #[.int .i64 n.kind,.string n.label,.int .i64 n.a,.int .i64 n.b] 101)).drew).heap[w2.heap.size]?=some (.cells #[.int .i64 n.kind,.string n.label,.int .i64 n.a,.int .i64 n.b] 101 (0,0)) from heap_alloc_new w2 _)
   rw [Addr.add_lit,Nat.zero_add,hlast,← hj]
   simp [nodeC]
  ·intro u hu
   simp only [nodeC,List.mem_cons,List.not_mem_nil,or_false] at hu
   rcases hu with rfl | rfl | rfl | rfl <;> rfl
 case by1=>have:=HF3.out; omega
 case ba=>simp; omega
 have hpb:=(Below.heap_alloc w2 (.cells #[.int .i64 n.kind,.string n.label,.int .i64 n.a,.int .i64 n.b] 101) p pl2).trans HP.out
 have hml:=blk_lt HM.out
 have hmb:=(Below.heap_alloc w2 (.cells #[.int .i64 n.kind,.string n.label,.int .i64 n.a,.int .i64 n.b] 101) m hml).trans HM.out
 have hxb:=(Below.heap_alloc w2 (.cells #[.int .i64 n.kind,.string n.label,.int .i64 n.a,.int .i64 n.b] 101) _ (blk_lt HX.out)).trans HX.out
 have np:(Value.slice A s.nodes.length c).ownBlock≠some p:=own_ne HO.out HP.out (by decide)
 have nm:(Value.slice A s.nodes.length c).ownBlock≠some m:=own_ne_map HO.out HM.out
 have nx:(Value.slice A s.nodes.length c).ownBlock≠some w.heap.size:=fun h=>by have:=OL.out _ h; omega
 have hp3:w3.heap[p]?=_:=blk_grown (w:=(w2.alloc (.cells #[.int .i64 n.kind,.string n.label,.int .i64 n.a,.int .i64 n.b] 101)).drew) hpb g1 (fun e=>np e.symm)
 have hm3:w3.heap[m]?=_:=blk_grown (w:=(w2.alloc (.cells #[.int .i64 n.kind,.string n.label,.int .i64 n.a,.int .i64 n.b] 101)).drew) hmb g1 (fun e=>nm e.symm)
 have hx3':w3.heap[w.heap.size]?=_:=blk_grown (w:=(w2.alloc (.cells #[.int .i64 n.kind,.string n.label,.int .i64 n.a,.int .i64 n.b] 101)).drew) hxb g1 (fun e=>nx e.symm)
 have k3:Kept w2 w3 (fun k=>(Value.slice A s.nodes.length c).ownBlock=some k):=Kept.grown (((Kept.refl w2 _).alloc _).drew) g1 (fun k hk=>.inl hk)
 have hne:p≠m:=fun e=>by subst e; rw [HP.out] at HM; cases HM.out
 have hnx:w.heap.size≠p:=by omega
 obtain ⟨A',c',rfl,hc1,hc2⟩:=own_slice o1
 have np':(Value.slice A' (s.nodes.length+1) c').ownBlock≠some p:=own_ne o1 hp3 (by decide)
 have k0:=cellOf (j:=0) hp3
 simp at k0
 have e0:=freeOf (j:=0) hp3
 have P4:=lh (blk_set hp3 0 (.slice A' (s.nodes.length+1) c'))
 have M4:=lh (blk_far hm3 (p:=⟨p,0,none⟩) (Ne.symm hne) (.slice A' (s.nodes.length+1) c'))
 have X4:=lh (blk_far hx3' (p:=⟨p,0,none⟩) hnx (.slice A' (s.nodes.length+1) c'))
 have O4:=lh (own_far o1 (p:=⟨p,0,none⟩) np' (.slice A' (s.nodes.length+1) c'))
 have K4:Hid (Kept w2 (w3.setCell ⟨p,0,none⟩ (.slice A' (s.nodes.length+1) c')) (fun k=>k=p∨(Value.slice A s.nodes.length c).ownBlock=some k)):=lh ((k3.mono (fun _ h=>.inr h)).setCell (p:=⟨p,0,none⟩) (.inl (.inl rfl)) _)
 have B4:=lh b1
 clear o1 g1 b1 hpb hmb hxb hp3 hm3 hx3' k3 c2 hx0 hx1 hx2 hx3 np nm nx np'
 go_simp
 refine hK _ _ ⟨rfl,?_⟩
 clear hK K
 repeat((first|(refine wpX_silent ?_ fun K hK=>?_;rfl;apply Exists.intro;refine ⟨fun w'=>?_,?_⟩;go_simp;exact⟨rfl,rfl⟩)|(refine wpX_read ?_ fun K hK=>?_;rfl;apply Exists.intro;refine ⟨?_,?_⟩;go_simp;exact⟨rfl,rfl⟩)|(refine wpX_float ?_ fun K hK=>?_;rfl;apply Exists.intro;refine ⟨fun w' hw'=>?_,?_⟩;(try dsimp only at hw');go_simp;exact⟨rfl,rfl⟩)|(refine wpX_not ?_ fun K hK=>?_;rfl));go_simp;refine hK _ _ ?_;clear hK K)
 refine wpX_heavy ?_ (fun K hK=>?_)
 ·rfl
 go_wp2
 refine wpX_nil (hQ' _ _ ?_)
 obtain ⟨w4,hw4⟩:∃ w4,w3.setCell ⟨p,0,none⟩ (.slice A' (s.nodes.length+1) c')=w4:=⟨_,rfl⟩
 rw [hw4] at P4 M4 X4 O4 K4 ⊢
 clear k0 e0 hw4
 have y0:=cellOf (j:=0) P4.out
 have y1:=cellOf (j:=1) P4.out
 have x0:=cellOf (j:=0) X4.out
 have x1:=cellOf (j:=1) X4.out
 have x2:=cellOf (j:=2) X4.out
 have x3:=cellOf (j:=3) X4.out
 simp at y0 y1 x0 x1 x2 x3
 go_wp2
 refine wp_region_lex (fun _=>True) [0,0,0,1,1,0,0,0,1,0,4] (by kernel_rfl) (by kernel_rfl) (by kernel_rfl) (trivial) (fun Q' hQ'=>?_)
 simp only [List.zip_cons_cons,List.zip_nil_right]
 repeat((first|(refine wpX_silent ?_ fun K hK=>?_;rfl;apply Exists.intro;refine ⟨fun w'=>?_,?_⟩;go_simp;exact⟨rfl,rfl⟩)|(refine wpX_read ?_ fun K hK=>?_;rfl;apply Exists.intro;refine ⟨?_,?_⟩;go_simp;exact⟨rfl,rfl⟩)|(refine wpX_float ?_ fun K hK=>?_;rfl;apply Exists.intro;refine ⟨fun w' hw'=>?_,?_⟩;(try dsimp only at hw');go_simp;exact⟨rfl,rfl⟩)|(refine wpX_not ?_ fun K hK=>?_;rfl));go_simp;refine hK _ _ ?_;clear hK K)
 refine wpX_heavy rfl (fun K hK=>?_)
 refine wp_update_node _ _ _ rfl n s.nodes m (.int .i64 ((s.nodes.length:Int)+1)) rfl rfl ?u hi (show w4.drew.heap[m]?=_ from M4.out) ?_
 case u=>first | rfl|(show Value.int _ _=_; simp)
 have hm4:w4.drew.heap[m]?=some (.map (entries s.nodes).toArray s.nodes.length):=M4.out
 have k5:Kept w2 (setMap w4.drew m (.map ((entries s.nodes).toArray.push ⟨nodeV n,.int .i64 ((s.nodes.length:Int)+1),s.nodes.length⟩) (s.nodes.length+1))) (fun k=>k=p∨(Value.slice A s.nodes.length c).ownBlock=some k∨k=m) :=
  Kept.trans (K4.out.drew.mono (fun _ h=>h.elim .inl (fun h=>.inr (.inl h)))) setMap_kept (fun k h=>.inl (.inr (.inr h)))
 have kk:Kept w4 (setMap w4.drew m (.map ((entries s.nodes).toArray.push ⟨nodeV n,.int .i64 ((s.nodes.length:Int)+1),s.nodes.length⟩) (s.nodes.length+1))) (fun k=>k=m) :=
  Kept.trans ((Kept.refl w4 (fun k=>k=m)).drew) setMap_kept (fun k h=>.inl h)
 have m5:(setMap w4.drew m (.map ((entries s.nodes).toArray.push ⟨nodeV n,.int .i64 ((s.nodes.length:Int)+1),s.nodes.length⟩) (s.nodes.length+1))).heap[m]?=some (.map (entries (s.nodes ++ [n])).toArray (s.nodes.length+1)):=by
  rw [entries_snoc]
  exact setMap_at hm4
 obtain ⟨w5,hw5⟩:∃ w5,setMap w4.drew m (.map ((entries s.nodes).toArray.push ⟨nodeV n,.int .i64 ((s.nodes.length:Int)+1),s.nodes.length⟩) (s.nodes.length+1))=w5:=⟨_,rfl⟩
 rw [hw5] at k5 kk m5 ⊢
 have P5:=lh (kk.blk P4.out hne)
 have O5:=lh (own_keptF O4.out kk (fun k hk e=>own_ne_map O4.out M4.out (by rw [hk,e])))
 have M5:=lh m5
 have K5:=lh k5
 have z0:=cellOf (j:=0) P5.out
 simp at z0
 clear hw5 kk m5 k5 hm4 y0 y1 x0 x1 x2 x3
 go_simp
 refine hK _ _ ⟨rfl,?_⟩
 clear hK K
 repeat((first|(refine wpX_silent ?_ fun K hK=>?_;rfl;apply Exists.intro;refine ⟨fun w'=>?_,?_⟩;go_simp;exact⟨rfl,rfl⟩)|(refine wpX_read ?_ fun K hK=>?_;rfl;apply Exists.intro;refine ⟨?_,?_⟩;go_simp;exact⟨rfl,rfl⟩)|(refine wpX_float ?_ fun K hK=>?_;rfl;apply Exists.intro;refine ⟨fun w' hw'=>?_,?_⟩;(try dsimp only at hw');go_simp;exact⟨rfl,rfl⟩)|(refine wpX_not ?_ fun K hK=>?_;rfl));go_simp;refine hK _ _ ?_;clear hK K)
 refine wpX_nil (hQ' _ _ ?_)
 go_wp2
 go_ret2
 refine ⟨by simp,?_⟩
 have hs2:=K2.out.size
 have kw:Kept w w5 F:=by
  refine Kept.trans (K2.out.mono (fun _ h=>h.elim)) K5.out (fun k hk=>.inl ((HF.out k).2 ?_))
  rcases hk with rfl | hk | rfl
  ·exact .inl rfl
  ·exact .inr (.inr hk)
  ·exact .inr (.inl rfl)
 refine ⟨fun k=>k=p∨k=m∨(Value.slice A' (s.nodes.length+1) c').ownBlock=some k,⟨⟨.slice A' (s.nodes.length+1) c',m,?_,?_,hb1,hb2,Nat.le_trans hb3 kw.size,?_,fun k=>Iff.rfl⟩,?_,hok.out,H.out.gl⟩,?_,kw⟩
 ·have:=P5.out
  simpa using this
 ·simpa using M5.out
 ·have:=O5.out
  simpa [List.flatMap_append] using this
 ·exact H.out.bel.trans (kw.below (fun k hk=>H.out.at_.base_le k hk) hb3)
 ·rintro k (rfl | rfl | hk)
  ·exact .inl ((HF.out _).2 (.inl rfl))
  ·exact .inl ((HF.out _).2 (.inr (.inl rfl)))
  ·rcases B4.out k hk with h | h
   ·exact .inl ((HF.out _).2 (.inr (.inr h)))
   ·right
    simp at h
    omega
theorem make_any (w0 w:World) (p:Nat) (F:Nat→Prop) (s:TS) (n:Node) (h:SAt w0 w p F s) (hl:n.label.size≤9223372036854775807) :
  Calls Tryz.prog 68 #[.pointer (some ⟨p,0,none⟩),nodeV n] w fun e w'=>e=.returned (.tuple #[.int .i64 (mk s n).1.1,.int .i64 (mk s n).1.2])∧TNext w0 w w' p F (mk s n).2:=by
 by_cases hi:idx s.nodes n=0
 ·by_cases hr:Right s.nodes n
  ·by_cases hf:262144≤s.nodes.length
   ·refine (make_full w0 w p F s n h hl hi hr hf).mono ?_
    rintro e w' ⟨rfl,hk⟩
    refine ⟨rfl,?_⟩
    rw [mk_full hi hr hf]
    exact TNext.of_kept h hk
   ·exact make_new w0 w p F s n h hl hi hr hf
  ·refine (make_bad w0 w p F s n h hl hi hr).mono ?_
   rintro e w' ⟨rfl,hk⟩
   refine ⟨rfl,?_⟩
   rw [mk_bad hi hr]
   exact TNext.of_kept h hk
 ·refine (make_old w0 w p F s n h hi).mono ?_
  rintro e w' ⟨rfl,hk⟩
  refine ⟨rfl,?_⟩
  rw [mk_old hi]
  exact TNext.of_kept h hk
end Go.Proofs.YtogkkfdkeefjnaaGreatDoor.Term
namespace Go.Proofs.YtogkkfdkeefjnaaGreatDoor.Term
open Go.RowKit Go.Proofs.YtogkkfdkeefjnaaGreatDoorBase Go.Proofs.YtogkkfdkeefjnaaGreatDoorLex2
set_option linter.unusedVariables false
set_option maxRecDepth 100000
set_option linter.unusedSimpArgs false
theorem put_any (w0 w:World) (p:Nat) (F:Nat→Prop) (s:TS) (n:Node) (h:SAt w0 w p F s) (hl:n.label.size≤9223372036854775807) :
  Calls Tryz.prog 31 #[.pointer (some ⟨p,0,none⟩),nodeV n] w fun e w'=>e=.returned (.int .i64 (put s n).1)∧TNext w0 w w' p F (put s n).2:=by
 have ka:=(Kept.refl w (fun _=>False)).alloc (.cells #[.int .i64 n.kind,.string n.label,.int .i64 n.a,.int .i64 n.b] 101)
 have H:=lh (h.kept ka)
 have HL:=lh hl
 clear h hl
 unfold nodeV
 go_enter Tryz.func31,Tryz.ntmps31
 go_wp2_with (fail)
 refine (make_any w0 _ p F s n H.out HL.out).mono ?_
 rintro e w1 ⟨rfl,hn⟩
 have N:=lh (TNext.after ka hn)
 clear hn ka
 go_wp2
 go_ret
 exact ⟨rfl,N.out⟩
def textN (l:ByteArray):Node:=⟨2,l,0,0⟩
def pairN (a b:Int):Node:=⟨3,⟨#[]⟩,a,b⟩
def hashN (l:ByteArray) (a:Int):Node:=⟨4,l,a,0⟩
def kdfN (l:ByteArray) (a b:Int):Node:=⟨5,l,a,b⟩
def pubN (a:Int):Node:=⟨6,⟨#[]⟩,a,0⟩
def atomN (a:Int):Node:=⟨1,⟨#[]⟩,a,0⟩
theorem pair_any (w0 w:World) (p:Nat) (F:Nat→Prop) (s:TS) (a b:Int) (h:SAt w0 w p F s) :
  Calls Tryz.prog 157 #[.pointer (some ⟨p,0,none⟩),.int .i64 a,.int .i64 b] w fun e w'=>e=.returned (.int .i64 (put s (pairN a b)).1)∧TNext w0 w w' p F (put s (pairN a b)).2:=by
 have H:=lh h
 clear h
 go_enter Tryz.func157,Tryz.ntmps157
 go_wp2_with (fail)
 refine (put_any w0 _ p F s (pairN a b) H.out (Nat.zero_le _)).mono ?_
 rintro e w1 ⟨rfl,hn⟩
 have N:=lh hn
 clear hn
 go_wp2
 go_ret
 exact ⟨rfl,N.out⟩
theorem text_any (w0 w:World) (p:Nat) (F:Nat→Prop) (s:TS) (l:ByteArray) (h:SAt w0 w p F s) (hl:l.size≤9223372036854775807) :
  Calls Tryz.prog 43 #[.pointer (some ⟨p,0,none⟩),.string l] w fun e w'=>e=.returned (.int .i64 (put s (textN l)).1)∧TNext w0 w w' p F (put s (textN l)).2:=by
 have H:=lh h
 have HL:=lh hl
 clear h hl
 go_enter Tryz.func43,Tryz.ntmps43
 go_wp2_with (fail)
 refine (put_any w0 _ p F s (textN l) H.out HL.out).mono ?_
 rintro e w1 ⟨rfl,hn⟩
 have N:=lh hn
 clear hn
 go_wp2
 go_ret
 exact ⟨rfl,N.out⟩
theorem hash_any (w0 w:World) (p:Nat) (F:Nat→Prop) (s:TS) (l:ByteArray) (a:Int) (h:SAt w0 w p F s) (hl:l.size≤9223372036854775807) :
  Calls Tryz.prog 81 #[.pointer (some ⟨p,0,none⟩),.string l,.int .i64 a] w fun e w'=>e=.returned (.int .i64 (put s (hashN l a)).1)∧TNext w0 w w' p F (put s (hashN l a)).2:=by
 have H:=lh h
 have HL:=lh hl
 clear h hl
 go_enter Tryz.func81,Tryz.ntmps81
 go_wp2_with (fail)
 refine (put_any w0 _ p F s (hashN l a) H.out HL.out).mono ?_
 rintro e w1 ⟨rfl,hn⟩
 have N:=lh hn
 clear hn
 go_wp2
 go_ret
 exact ⟨rfl,N.out⟩
theorem kdf_any (w0 w:World) (p:Nat) (F:Nat→Prop) (s:TS) (l:ByteArray) (a b:Int) (h:SAt w0 w p F s) (hl:l.size≤9223372036854775807) :
  Calls Tryz.prog 74 #[.pointer (some ⟨p,0,none⟩),.string l,.int .i64 a,.int .i64 b] w fun e w'=>e=.returned (.int .i64 (put s (kdfN l a b)).1)∧TNext w0 w w' p F (put s (kdfN l a b)).2:=by
 have H:=lh h
 have HL:=lh hl
 clear h hl
 go_enter Tryz.func74,Tryz.ntmps74
 go_wp2_with (fail)
 refine (put_any w0 _ p F s (kdfN l a b) H.out HL.out).mono ?_
 rintro e w1 ⟨rfl,hn⟩
 have N:=lh hn
 clear hn
 go_wp2
 go_ret
 exact ⟨rfl,N.out⟩
theorem pub_any (w0 w:World) (p:Nat) (F:Nat→Prop) (s:TS) (a:Int) (h:SAt w0 w p F s) :
  Calls Tryz.prog 16 #[.pointer (some ⟨p,0,none⟩),.int .i64 a] w fun e w'=>e=.returned (.int .i64 (put s (pubN a)).1)∧TNext w0 w w' p F (put s (pubN a)).2:=by
 have H:=lh h
 clear h
 go_enter Tryz.func16,Tryz.ntmps16
 go_wp2_with (fail)
 refine (put_any w0 _ p F s (pubN a) H.out (Nat.zero_le _)).mono ?_
 rintro e w1 ⟨rfl,hn⟩
 have N:=lh hn
 clear hn
 go_wp2
 go_ret
 exact ⟨rfl,N.out⟩
/-- A new atom. -/
def fresh (s:TS):Nat×TS:=((put s (atomN (s.drawn+1))).1,if (put s (atomN (s.drawn+1))).1≠0 then { (put s (atomN (s.drawn+1))).2 with drawn:=s.drawn+1 } else (put s (atomN (s.drawn+1))).2)
theorem built_right {s:TS} (h:TOk s) {n:Node} (hm:n∈s.nodes):∃ l,l <+: s.nodes∧Right l n:=by
 obtain ⟨i,hi,e⟩:=List.mem_iff_getElem.1 hm
 exact ⟨s.nodes.take i,List.take_prefix _ _,h.built i n (by rw [List.getElem?_eq_getElem hi,e])⟩
theorem put_mem {s:TS} (h:TOk s) {n:Node} (h0:(put s n).1≠0):n∈(put s n).2.nodes:=List.mem_of_getElem? (mk_there h n h0).1
theorem fresh_ok {s:TS} (h:TOk s):TOk (fresh s).2:=by
 have h1:=mk_ok h (atomN (s.drawn+1))
 unfold fresh
 simp only
 split
 ·rename_i h0
  obtain ⟨l,_,hr⟩:=built_right h1 (put_mem h h0)
  refine ⟨h1.nd,h1.len,h1.built,?_⟩
  unfold Right at hr
  rw [if_pos (show (atomN (s.drawn+1)).kind=1 from rfl)] at hr
  have:=hr.2.1
  simp only [atomN] at this
  simp only
  omega
 ·exact h1
theorem fresh_any (w0 w:World) (p:Nat) (F:Nat→Prop) (s:TS) (h:SAt w0 w p F s) :
  Calls Tryz.prog 14 #[.pointer (some ⟨p,0,none⟩)] w fun e w'=>e=.returned (.int .i64 (fresh s).1)∧TNext w0 w w' p F (fresh s).2:=by
 have hd:=h.ok.drawn
 obtain ⟨nv,m,hp,_⟩:=h.at_
 have c2:=cellOf (j:=2) hp
 simp at c2
 have H:=lh h
 have HOK:=lh (fresh_ok h.ok)
 obtain ⟨t,s1,hs⟩:∃ t s1,put s (atomN (s.drawn+1))=(t,s1):=⟨_,_,rfl⟩
 have HS:=lh hs
 have hdr:s1.drawn=s.drawn:=by
  have:=mk_drawn s (atomN (s.drawn+1))
  have e:s1=(mk s (atomN (s.drawn+1))).2:=by have:=congrArg Prod.snd hs; exact this.symm
  rw [e]; exact this
 have HDR:=lh hdr
 have hf:fresh s=(t,if t≠0 then { s1 with drawn:=s.drawn+1 } else s1):=by unfold fresh; rw [hs]
 rw [hf] at HOK ⊢
 clear h hp hs hdr hf
 by_cases h0:t=0
 ·subst h0
  go_enter Tryz.func14,Tryz.ntmps14
  go_wp2_with (fail)
  refine (put_any w0 _ p F s (atomN (s.drawn+1)) H.out (Nat.zero_le _)).mono ?_
  rw [HS.out]
  rintro e w1 ⟨rfl,hn⟩
  have N:=lh hn
  clear hn
  go_wp2
  go_ret
  exact ⟨rfl,N.out⟩
 ·have q:((t:Int) == 0)=false:=by simpa using h0
  have q2:(t == 0)=false:=by simpa using h0
  have T0:=lh h0
  rw [if_pos h0] at HOK ⊢
  clear h0
  go_enter Tryz.func14,Tryz.ntmps14
  go_wp2_with (fail)
  refine (put_any w0 _ p F s (atomN (s.drawn+1)) H.out (Nat.zero_le _)).mono ?_
  rw [HS.out]
  rintro e w1 ⟨rfl,F1,hn,b1,k1⟩
  obtain ⟨nv1,m1,hp1,hm1,hb1,hb2,hb3,ho1,hF1⟩:=hn.at_
  have d2:=cellOf (j:=2) hp1
  simp at d2
  rw [HDR.out] at d2
  have e2:=freeOf (j:=2) hp1
  have N:=lh hn
  have B1:=lh b1
  have K1:=lh k1
  have P1:=lh hp1
  have M1:=lh hm1
  have O1:=lh ho1
  have HF1:=lh hF1
  have hne:m1≠p:=fun e=>by subst e; rw [hp1] at hm1; cases hm1
  have NE:=lh hne
  have nb:=lh (own_ne ho1 hp1 (by decide))
  clear hn b1 k1 hp1 hm1 ho1 hF1 c2 hne
  go_wp2
  go_ret
  have kc:Kept w1 (w1.setCell ⟨p,2,none⟩ (.int .i64 ((s.drawn:Int)+1))) (fun k=>k=p):=(Kept.refl w1 (fun k=>k=p)).setCell (p:=⟨p,2,none⟩) (.inl rfl) _
  refine ⟨rfl,F1,⟨⟨nv1,m1,?_,blk_far M1.out (p:=⟨p,2,none⟩) NE.out _,hb1,hb2,Nat.le_trans hb3 kc.size,own_far O1.out (p:=⟨p,2,none⟩) nb.out _,HF1.out⟩,N.out.bel.trans (kc.below (fun k hk=>by rw [hk]; exact hb1) hb3),HOK.out,N.out.gl⟩,B1.out,K1.out.trans kc (fun k hk=>B1.out k (by rw [hk]; exact (HF1.out p).2 (.inl rfl)))⟩
  have:=blk_set P1.out 2 (.int .i64 ((s.drawn:Int)+1))
  simpa using this
end Go.Proofs.YtogkkfdkeefjnaaGreatDoor.Term
namespace Go.Proofs.YtogkkfdkeefjnaaGreatDoor.Term
open Go.RowKit Go.Proofs.YtogkkfdkeefjnaaGreatDoorBase Go.Proofs.YtogkkfdkeefjnaaGreatDoorLex2
set_option linter.unusedVariables false
set_option maxRecDepth 100000
set_option linter.unusedSimpArgs false
theorem ok_nil:TOk ⟨[],0⟩:=⟨List.nodup_nil,Nat.zero_le _,fun i n h=>by simp at h,Nat.zero_le _⟩
theorem new_any (w0 w:World) (hb:Below w0.heap.size w0 w) (hg:Gl w0) :
  Calls Tryz.prog 13 #[] w fun e w'=>∃ p F,e=.returned (.pointer (some ⟨p,0,none⟩))∧SAt w0 w' p F ⟨[],0⟩∧(∀ k,F k→w.heap.size≤k)∧Kept w w' (fun _=>False):=by
 have hsz:=hb.size
 have HB:=lh hb
 have HG:=lh hg
 clear hb hg
 have hmm:=@run_makeMap Tryz.prog
 go_enter Tryz.func13,Tryz.ntmps13
 go_wp2
 go_ret
 have hk:Kept w ((w.alloc (.map #[] 0)).alloc (.cells #[.slice none 0 0,.map (some w.heap.size),.int .i64 0] 98)) (fun _=>False):=((Kept.refl _ _).alloc _).alloc _
 refine ⟨w.heap.size+1,fun k=>k=w.heap.size+1∨k=w.heap.size,rfl,⟨⟨.slice none 0 0,w.heap.size,heap_alloc2_new _ _ _,heap_alloc2_old _ _ _,by omega,hsz,Nat.le_trans hsz hk.size,World.ownsRow_nil _ _ _ _,fun k=>by simp [Value.ownBlock]⟩,HB.out.trans (hk.below (fun _ h=>h.elim) hsz),ok_nil,HG.out⟩,fun k hk=>by omega,hk⟩
end Go.Proofs.YtogkkfdkeefjnaaGreatDoor.Term
namespace Go.Proofs.YtogkkfdkeefjnaaGreatDoorBase
open Go.RowKit Go.ChangeShapes Go.WideShapes
set_option linter.unusedVariables false
set_option maxRecDepth 100000
section
variable {H : Type} {enc : TypeId × Value → H} {P : Program} {w : World}
theorem rowIn_of_cells {A:Addr} {n:Nat} {xs:List Value} (hn:n=xs.length) (hm:n≤maxLen) (hc:∀ i u,xs[i]?=some u→w.cell? (A.add i)=some u):RowIn w (some A) n xs:=by
 refine ⟨hn,hm,fun hpos=>?_⟩
 obtain ⟨b,off,spot⟩:=A
 have h0:∃ u,xs[0]?=some u:=⟨xs[0],List.getElem?_eq_getElem (by omega)⟩
 obtain ⟨u,hu⟩:=h0
 have hc0:=hc 0 u hu
 have hspot:spot=none:=by simpa [Addr.add] using World.cell?_spot hc0
 subst hspot
 refine ⟨b,off,rfl,?_,fun k v hv=>?_⟩
 ·have:=World.block_lt_of_cell? _ _ hc0
  simpa [Addr.add] using this
 ·have:=hc k v hv
  rwa [add_plain] at this
end
end Go.Proofs.YtogkkfdkeefjnaaGreatDoorBase
namespace Go.Proofs.YtogkkfdkeefjnaaGreatDoor.Term
open Go.RowKit Go.Proofs.YtogkkfdkeefjnaaGreatDoorBase Go.Proofs.YtogkkfdkeefjnaaGreatDoorLex2
set_option linter.unusedVariables false
set_option maxRecDepth 100000
set_option linter.unusedSimpArgs false
def empty:Node:=textN ⟨#[]⟩
/-- The list of some terms, in a store. -/
def listG (s:TS):List Int→Nat×TS
 | []=>put s empty
 | x :: l=>put (listG s l).2 (pairN x (listG s l).1)
def listT (s:TS) (l:List Int):Nat×TS:=if l.all (knownB s.nodes) then listG s l else (0,s)
def Clear (A:Option Addr) (F:Nat→Prop):Prop:=∀ b,(Value.slice A 0 0).ownBlock=some b→¬ F b
theorem rowIn_keep {A:Option Addr} {n:Nat} {xs:List Value} {w w':World} {F:Nat→Prop} (h:RowIn w A n xs) (hk:Kept w w' F) (hA:Clear A F):RowIn w' A n xs:=by
 refine ⟨h.len,h.max,fun h0=>?_⟩
 obtain ⟨b,off,rfl,hb,hx⟩:=h.cell h0
 have e:=hk.block b hb (hA b rfl)
 exact ⟨b,off,rfl,Nat.lt_of_lt_of_le hb hk.size,fun k u hu=>by rw [← hx k u hu]; simp only [World.cell?,e]⟩
theorem put_ok {s:TS} (h:TOk s) (n:Node):TOk (put s n).2:=mk_ok h n
set_option maxHeartbeats 1600000 in
set_option maxRecDepth 100000 in
theorem list_any (w0 w:World) (p:Nat) (F:Nat→Prop) (s:TS) (l:List Int) (A:Option Addr) (c:Nat) (h:SAt w0 w p F s) (hr:RowIn w A l.length (l.map (Value.int .i64))) (hA:0 < l.length→Clear A F) :
  Calls Tryz.prog 75 #[.pointer (some ⟨p,0,none⟩),.slice A l.length c] w fun e w'=>e=.returned (.int .i64 (listT s l).1)∧TNext w0 w w' p F (listT s l).2:=by
 have hm:=hr.max
 unfold maxLen at hm
 have H:=lh h
 have HR:=lh hr
 have HA:=lh hA
 clear h hr hA
 go_enter Tryz.func75,Tryz.ntmps75
 go_wp2
 go_loopw [11] (fun iv wr=>wr=w∧∃ k:Nat,k≤l.length∧iv=.int .i64 k∧(l.take k).all (knownB s.nodes)=true) (fun iv _=>(l.length - intOf iv).toNat)
 case atStart=>exact ⟨rfl,0,Nat.zero_le _,rfl,rfl⟩
 case round=>
  obtain ⟨hw0,k,hk,rfl,hall⟩:=hrel
  obtain rfl:=hw0.symm
  clear hw0
  by_cases hlt:k < l.length
  ·obtain ⟨b,off,rfl,hbl,hx⟩:=HR.out.cell (by omega)
   have c2:=hx k _ (by rw [List.getElem?_map,List.getElem?_eq_getElem hlt]; rfl)
   have q1:(0:Int)≤k:=by omega
   have q2:(k:Int) < l.length:=by omega
   obtain ⟨x,hxx⟩:∃ x,l[k]=x:=⟨_,rfl⟩
   rw [hxx] at c2
   have hlx:l[k]?=some x:=by rw [List.getElem?_eq_getElem hlt,hxx]
   have HLX:=lh hlx
   have ALL:=lh hall
   clear hx hxx hlx hall
   cases kn:knownB s.nodes x
   ·have KN:=lh kn
    clear kn
    go_wp2_with (fail)
    refine (known_any w0 _ p F s x H.out).mono ?_
    rw [KN.out]
    rintro e w' ⟨rfl,hw⟩
    obtain rfl:=hw.symm
    clear hw
    go_wp2
    go_ret
    have e:listT s l=(0,s):=by
     unfold listT
     rw [if_neg]
     intro h
     have:=List.all_eq_true.1 h x (List.mem_of_getElem? HLX.out)
     rw [KN.out] at this
     cases this
    rw [e]
    exact ⟨rfl,TNext.refl H.out⟩
   ·have KN:=lh kn
    clear kn
    go_wp2_with (fail)
    refine (known_any w0 _ p F s x H.out).mono ?_
    rw [KN.out]
    rintro e w' ⟨rfl,hw⟩
    obtain rfl:=hw.symm
    clear hw
    go_wp2
    go_roundw
    case rel=>
     refine ⟨trivial,k+1,by omega,by go_num,?_⟩
     rw [List.take_add_one,HLX.out]
     simp only [Option.toList_some,List.all_append,ALL.out,List.all_cons,KN.out,List.all_nil,Bool.and_self]
    case measure=>simp [intOf]; omega
  ·have hkl:k=l.length:=by omega
   subst hkl
   rw [List.take_length] at hall
   have e:Hid (listT s l=listG s l):=lh (by unfold listT; rw [if_pos hall])
   clear hall hlt hk
   go_wp2_with (fail)
   refine (text_any w0 _ p F s ⟨#[]⟩ H.out (Nat.zero_le _)).mono ?_
   rintro e w2 ⟨rfl,hn⟩
   have N:=lh hn
   clear hn
   go_wp2
   go_loopw [7,8] (fun tv iv wr=>∃ j:Nat,j≤l.length∧iv=.int .i64 ((j:Int) - 1)∧tv=.int .i64 (listG s (l.drop j)).1∧TNext w0 w wr p F (listG s (l.drop j)).2) (fun _ iv _=>(intOf iv+1).toNat)
   case atStart=>exact ⟨l.length,Nat.le_refl _,rfl,by rw [List.drop_length]; rfl,by rw [List.drop_length]; exact N.out⟩
   case round=>
    obtain ⟨j,hj,rfl,rfl,hn⟩:=hrel
    obtain ⟨F1,s1,b1,k1⟩:=hn
    have S1:=lh s1
    have B1:=lh b1
    have K1:=lh k1
    clear s1 b1 k1
    cases j with
    | zero=>
     have q:¬ (0:Int)≤((0:Nat):Int) - 1:=by omega
     rw [List.drop_zero] at S1
     go_wp2
     go_ret
     rw [e.out]
     exact ⟨by simp,F1,S1.out,B1.out,K1.out⟩
    | succ j=>
     have hlt:j < l.length:=by omega
     obtain ⟨b,off,rfl,hbl,hx⟩:=(rowIn_keep HR.out K1.out (HA.out (by omega))).cell (by omega)
     have c2:=hx j _ (by rw [List.getElem?_map,List.getElem?_eq_getElem hlt]; rfl)
     obtain ⟨x,hxx⟩:∃ x,l[j]=x:=⟨_,rfl⟩
     rw [hxx] at c2
     have hd:l.drop j=x :: l.drop (j+1):=by rw [List.drop_eq_getElem_cons hlt,hxx]
     have q0:((j+1:Nat):Int) - 1=j:=by omega
     have q1:(0:Int)≤j:=by omega
     have q2:(j:Int) < l.length:=by omega
     obtain ⟨t,st,hts⟩:∃ t st,listG s (l.drop (j+1))=(t,st):=⟨_,_,rfl⟩
     have HG:Hid (listG s (l.drop j)=put st (pairN x t)):=by rw [hd]; exact lh (by show put (listG s (l.drop (j+1))).2 _=_; rw [hts])
     rw [hts] at S1 ⊢
     rw [q0]
     clear hx hxx hd hts q0
     go_wp2_with (fail)
     refine (pair_any w0 _ p F1 st x t S1.out).mono ?_
     rintro e w3 ⟨rfl,hn⟩
     have N3:=lh (TNext.trans B1.out K1.out hn)
     clear hn
     go_wp2
     go_roundw
     case rel=>
      exact ⟨j,by omega,by go_num,by rw [HG.out],by rw [HG.out]; exact N3.out⟩
     case measure=>simp [intOf]
end Go.Proofs.YtogkkfdkeefjnaaGreatDoor.Term
namespace Go.Proofs.YtogkkfdkeefjnaaGreatDoorNum
set_option linter.unusedVariables false
set_option maxRecDepth 100000
set_option linter.unusedSimpArgs false
/-- The class: 2^cls bytes. -/
def cls (n:Nat):Nat:=if n < 64 then 0 else if n < 16384 then 1 else if n < 1073741824 then 2 else 3
/-- The bytes of v, the greatest first. -/
def be (v:Nat):Nat→List UInt8
 | 0=>[]
 | L+1=>UInt8.ofNat (v / 256 ^ L) :: be v L
def tag:Nat→Nat
 | 0=>0
 | 1=>16384
 | 2=>2147483648
 | _=>13835058055282163712
def encN (n:Nat):List UInt8:=be (n+tag (cls n)) (2 ^ cls n)
theorem be_length (v:Nat):∀ L,(be v L).length=L
 | 0=>rfl
 | L+1=>by simp [be,be_length v L]
theorem encN_length (n:Nat):(encN n).length=2 ^ cls n:=be_length _ _
theorem cls_le (n:Nat):cls n≤3:=by unfold cls; split <;> (try split) <;> (try split) <;> omega
theorem encN_le (n:Nat):(encN n).length≤8:=by
 rw [encN_length]
 have:=cls_le n
 have:cls n=0∨cls n=1∨cls n=2∨cls n=3:=by omega
 rcases this with h | h | h | h <;> rw [h] <;> decide
theorem encN_pos (n:Nat):1≤(encN n).length:=by
 rw [encN_length]; exact Nat.one_le_two_pow
theorem be_take (v:Nat):∀ (L j:Nat),j < L→(be v L).take (L - j)=(be v L).take (L - (j+1)) ++ [UInt8.ofNat (v / 256 ^ j)]
 | 0,j,h=>by omega
 | L+1,j,h=>by
  by_cases e:j=L
  ·subst e
   have h1:j+1 - j=1:=by omega
   simp [be,h1]
  ·have h1:L+1 - j=(L - j)+1:=by omega
   have h2:L+1 - (j+1)=(L - (j+1))+1:=by omega
   rw [h1,h2]
   simp only [be,List.take_succ_cons,List.cons_append]
   rw [be_take v L j (by omega)]
theorem bitLenAux_le:∀ (f x:Nat),Lib.bitLenAux f x≤f
 | 0,x=>by simp [Lib.bitLenAux]
 | f+1,x=>by
  unfold Lib.bitLenAux
  have:=bitLenAux_le f (x / 2)
  split <;> omega
theorem bitLen_le_iff {n k:Nat} (h:n < 18446744073709551616) (hk:k≤64):Lib.bitLen n≤k ↔ n < 2 ^ k:=by
 constructor
 ·intro hb
  rcases Nat.lt_or_ge n (2 ^ k) with h1 | h1
  ·exact h1
  ·exfalso
   have h2:=Lib.bitLen_shift k n h1 h
   have h3:n / 2 ^ k≠0:=by
    have:=Nat.div_pos h1 (Nat.two_pow_pos k)
    omega
   have h4:=Lib.bitLen_half (n / 2 ^ k) h3 (Nat.lt_of_le_of_lt (Nat.div_le_self _ _) h)
   omega
 ·intro hb
  have:Lib.bitLen n=Lib.bitLenAux k n:=Lib.bitLenAux_fuel k n hb 64 hk
  rw [this]
  exact bitLenAux_le k n
theorem bitLen_cls (n:Nat) (h:n < 18446744073709551616):(if Lib.bitLen n≤6 then 0 else if Lib.bitLen n≤14 then 1 else if Lib.bitLen n≤30 then 2 else 3)=cls n:=by
 unfold cls
 have h6:=bitLen_le_iff (k:=6) h (by omega)
 have h14:=bitLen_le_iff (k:=14) h (by omega)
 have h30:=bitLen_le_iff (k:=30) h (by omega)
 simp only [show (2:Nat) ^ 6=64 from rfl,show (2:Nat) ^ 14=16384 from rfl,show (2:Nat) ^ 30=1073741824 from rfl] at h6 h14 h30
 split <;> split <;> (try split) <;> (try split) <;> (try split) <;> (try split) <;> omega
theorem cls_0 {n:Nat} (h:n < 64):cls n=0:=by unfold cls; rw [if_pos h]
theorem cls_1 {n:Nat} (h0:64≤n) (h:n < 16384):cls n=1:=by unfold cls; rw [if_neg (by omega),if_pos h]
theorem cls_2 {n:Nat} (h0:16384≤n) (h:n < 1073741824):cls n=2:=by unfold cls; rw [if_neg (by omega),if_neg (by omega),if_pos h]
theorem cls_3 {n:Nat} (h0:1073741824≤n):cls n=3:=by unfold cls; rw [if_neg (by omega),if_neg (by omega),if_neg (by omega)]
/-- The tag's bits lie over the number's. -/
theorem or_tag {n i k:Nat} (h:n < 2 ^ i):n ||| (k * 2 ^ i)=n+k * 2 ^ i:=by
 have:=Nat.shiftLeft_add_eq_or_of_lt h k
 rw [Nat.shiftLeft_eq] at this
 rw [Nat.or_comm,← this,Nat.add_comm]
end Go.Proofs.YtogkkfdkeefjnaaGreatDoorNum
namespace Go.Proofs.YtogkkfdkeefjnaaGreatDoorNum
set_option linter.unusedVariables false
set_option maxRecDepth 100000
set_option linter.unusedSimpArgs false
/-- A reader: what is left, and the first error. -/
structure RS where
 rest:List UInt8
 err:Int
def RS.fail (s:RS) (e:Int):RS:=if s.err=0 then { s with err:=e } else s
/-- The byte at a place. -/
def nb (l:List UInt8) (i:Nat):Nat:=(l.getD i 0).toNat
/-- The number of i + 1 bytes. -/
def acc (l:List UInt8):Nat→Nat
 | 0=>nb l 0 % 64
 | i+1=>acc l i * 256+nb l (i+1)
def getN (s:RS):Nat×RS :=
 if s.err≠0 then (0,s)
 else if s.rest=[] then (0,s.fail 20)
 else if s.rest.length < 2 ^ (nb s.rest 0 / 64) then (0,s.fail 20)
 else if cls (acc s.rest (2 ^ (nb s.rest 0 / 64) - 1))=nb s.rest 0 / 64 then (acc s.rest (2 ^ (nb s.rest 0 / 64) - 1),⟨s.rest.drop (2 ^ (nb s.rest 0 / 64)),s.err⟩)
 else (0,RS.fail ⟨s.rest.drop (2 ^ (nb s.rest 0 / 64)),s.err⟩ 21)
def takeN (n:Nat) (s:RS):List UInt8×RS :=
 if s.err≠0 then ([],s)
 else if s.rest.length < n then ([],s.fail 20)
 else (s.rest.take n,⟨s.rest.drop n,s.err⟩)
/-- How many: at most so many. -/
def countN (most:Int) (s:RS):Nat×RS :=
 let r:=getN s
 let t:=if most < r.1 then r.2.fail 22 else r.2
 (if t.err≠0 then 0 else r.1,t)
theorem nb_lt (l:List UInt8) (i:Nat):nb l i < 256:=by unfold nb; exact UInt8.toNat_lt _
theorem acc_lt (l:List UInt8):∀ i,acc l i < 64 * 256 ^ i
 | 0=>by simp [acc]; omega
 | i+1=>by
  have:=acc_lt l i
  have:=nb_lt l (i+1)
  simp only [acc,Nat.pow_succ]
  omega
theorem getN_le (s:RS):(getN s).1 < 4611686018427387904:=by
 unfold getN
 split
 ·simp
 split
 ·simp
 split
 ·simp
 split
 ·rename_i h1 h2 h3 h4
  have hk:nb s.rest 0 / 64≤3:=by have:=nb_lt s.rest 0; omega
  have ha:=acc_lt s.rest (2 ^ (nb s.rest 0 / 64) - 1)
  have:nb s.rest 0 / 64=0∨nb s.rest 0 / 64=1∨nb s.rest 0 / 64=2∨nb s.rest 0 / 64=3:=by omega
  simp only
  rcases this with h | h | h | h <;> rw [h] at ha ⊢ <;> simp at ha ⊢ <;> omega
 ·simp
end Go.Proofs.YtogkkfdkeefjnaaGreatDoorNum
namespace Go.Proofs.YtogkkfdkeefjnaaGreatDoorNum
set_option linter.unusedVariables false
set_option maxRecDepth 100000
set_option linter.unusedSimpArgs false
theorem ofNat_nb (l:List UInt8) (i:Nat) (h:i < l.length):UInt8.ofNat (nb l i)=l[i]:=by
 unfold nb
 rw [List.getD_eq_getElem?_getD,List.getElem?_eq_getElem h]
 simp
theorem nb_append (a b:List UInt8) (i:Nat) (h:i < a.length):nb (a ++ b) i=nb a i:=by
 unfold nb
 rw [List.getD_eq_getElem?_getD,List.getD_eq_getElem?_getD,List.getElem?_append_left h]
theorem be_snoc (v:Nat):∀ L,be v (L+1)=be (v / 256) L ++ [UInt8.ofNat v]
 | 0=>by simp [be]
 | L+1=>by
  have h:=be_snoc v L
  have e:v / 256 ^ (L+1)=v / 256 / 256 ^ L:=by rw [Nat.div_div_eq_div_mul,Nat.pow_succ,Nat.mul_comm]
  show UInt8.ofNat (v / 256 ^ (L+1)) :: be v (L+1)=UInt8.ofNat (v / 256 / 256 ^ L) :: be (v / 256) L ++ [UInt8.ofNat v]
  rw [h,e]
  rfl
/-- The value of the first i + 1 bytes. -/
def val (l:List UInt8):Nat→Nat
 | 0=>nb l 0
 | i+1=>val l i * 256+nb l (i+1)
theorem be_val (l:List UInt8):∀ i,i < l.length→be (val l i) (i+1)=l.take (i+1)
 | 0,h=>by
  cases l with
  | nil=>simp at h
  | cons a l=>simp [be,val,nb]
 | i+1,h=>by
  have ih:=be_val l i (by omega)
  have hn:=nb_lt l (i+1)
  rw [be_snoc]
  have e1:val l (i+1) / 256=val l i:=by simp only [val]; omega
  have e2:UInt8.ofNat (val l (i+1))=l[i+1]:=by
   rw [← ofNat_nb l (i+1) h]
   apply UInt8.toNat_inj.1
   simp only [val,UInt8.toNat_ofNat']
   omega
  rw [e1,e2,ih,List.take_succ_eq_append_getElem h]
theorem val_acc (l:List UInt8):∀ i,val l i=acc l i+nb l 0 / 64 * (64 * 256 ^ i)
 | 0=>by simp only [val,acc]; omega
 | i+1=>by
  have ih:=val_acc l i
  simp only [val,acc,Nat.pow_succ]
  rw [ih,Nat.add_mul]
  generalize 256 ^ i=P
  generalize nb l 0 / 64=q
  have:q * (64 * P) * 256=q * (64 * (P * 256)):=by rw [Nat.mul_assoc,Nat.mul_assoc]
  rw [this]
  exact Nat.add_right_comm _ _ _
theorem nb_be (v:Nat):∀ (L i:Nat) (l:List UInt8),i < L→nb (be v L ++ l) i=v / 256 ^ (L - 1 - i) % 256
 | 0,i,l,h=>by omega
 | L+1,0,l,h=>by simp [be,nb]
 | L+1,i+1,l,h=>by
  have ih:=nb_be v L i l (by omega)
  have e:L+1 - 1 - (i+1)=L - 1 - i:=by omega
  rw [e,← ih]
  simp [be,nb]
theorem val_be (v L:Nat) (l:List UInt8) (hv:v < 256 ^ L):∀ i,i < L→val (be v L ++ l) i=v / 256 ^ (L - 1 - i)
 | 0,h=>by
  simp only [val]
  rw [nb_be v L 0 l h,Nat.sub_zero]
  apply Nat.mod_eq_of_lt
  obtain ⟨M,rfl⟩:∃ M,L=M+1:=⟨L - 1,by omega⟩
  rw [Nat.div_lt_iff_lt_mul (Nat.pow_pos (by omega))]
  rw [Nat.pow_succ,Nat.mul_comm] at hv
  simpa using hv
 | i+1,h=>by
  have ih:=val_be v L l hv i (by omega)
  simp only [val]
  rw [ih,nb_be v L (i+1) l h]
  have e:L - 1 - i=(L - 1 - (i+1))+1:=by omega
  rw [e,Nat.pow_succ,← Nat.div_div_eq_div_mul]
  omega
theorem cls_bound {n k:Nat} (h:cls n=k) (hn:n < 4611686018427387904):n < 64 * 256 ^ (2 ^ k - 1):=by
 unfold cls at h
 split at h
 ·subst h; simpa using ‹n < 64›
 split at h
 ·subst h; simp; omega
 split at h
 ·subst h; simp; omega
 ·subst h; simp; omega
theorem tag_eq {k:Nat} (h:k≤3):tag k=k * (64 * 256 ^ (2 ^ k - 1)):=by
 have:k=0∨k=1∨k=2∨k=3:=by omega
 rcases this with rfl | rfl | rfl | rfl <;> rfl
/-- A number's bytes, read: its class and its value. -/
theorem encN_read (n:Nat) (l:List UInt8) (hn:n < 4611686018427387904):nb (encN n ++ l) 0 / 64=cls n∧acc (encN n ++ l) (2 ^ cls n - 1)=n:=by
 have hk:=cls_le n
 have hb:=cls_bound (n:=n) rfl hn
 have ht:=tag_eq hk
 obtain ⟨k,hkk⟩:∃ k,cls n=k:=⟨_,rfl⟩
 unfold encN
 rw [hkk] at hk hb ht ⊢
 have hL:0 < 2 ^ k:=Nat.two_pow_pos k
 obtain ⟨M,hM⟩:∃ M,64 * 256 ^ (2 ^ k - 1)=M:=⟨_,rfl⟩
 have hM4:256 ^ (2 ^ k)=4 * M:=by
  obtain ⟨j,hj⟩:∃ j,2 ^ k=j+1:=⟨2 ^ k - 1,by omega⟩
  rw [← hM,hj,Nat.pow_succ]
  simp only [Nat.add_sub_cancel]
  omega
 rw [hM] at hb ht
 have hlt:n+tag k < 256 ^ (2 ^ k):=by
  rw [hM4,ht]
  have:k=0∨k=1∨k=2∨k=3:=by omega
  rcases this with rfl | rfl | rfl | rfl <;> omega
 have hv:=val_be (n+tag k) (2 ^ k) l hlt (2 ^ k - 1) (by omega)
 have ha:=val_acc (be (n+tag k) (2 ^ k) ++ l) (2 ^ k - 1)
 have hnb:=nb_be (n+tag k) (2 ^ k) 0 l hL
 have hal:=acc_lt (be (n+tag k) (2 ^ k) ++ l) (2 ^ k - 1)
 rw [Nat.sub_zero] at hnb
 rw [hM] at ha hal
 simp only [Nat.sub_self,Nat.pow_zero,Nat.div_one] at hv
 have hq:nb (be (n+tag k) (2 ^ k) ++ l) 0 / 64=k:=by
  generalize nb (be (n+tag k) (2 ^ k) ++ l) 0 / 64=q at *
  generalize acc (be (n+tag k) (2 ^ k) ++ l) (2 ^ k - 1)=a at *
  rw [hv,ht] at ha
  clear hnb hv hlt hM4
  -- n+k * M=a+q * M,n < M,a < M
  have h1:(n+k * M) / M=k:=by rw [Nat.add_mul_div_right _ _ (by omega),Nat.div_eq_of_lt hb]; omega
  have h2:(a+q * M) / M=q:=by rw [Nat.add_mul_div_right _ _ (by omega),Nat.div_eq_of_lt hal]; omega
  rw [ha] at h1
  omega
 refine ⟨hq,?_⟩
 rw [hq,hv] at ha
 generalize acc (be (n+tag k) (2 ^ k) ++ l) (2 ^ k - 1)=a at *
 rw [ht] at ha
 exact Nat.add_right_cancel ha.symm
theorem encN_ne (n:Nat):encN n≠[]:=fun h=>by have:=encN_pos n; rw [h] at this; simp at this
theorem getN_enc (n:Nat) (l:List UInt8) (hn:n < 4611686018427387904):getN ⟨encN n ++ l,0⟩=(n,⟨l,0⟩):=by
 obtain ⟨h1,h2⟩:=encN_read n l hn
 have hl:=encN_length n
 unfold getN
 simp only
 rw [if_neg (by simp),if_neg (by simp [encN_ne]),h1,if_neg (by simp [hl]),h2,if_pos rfl,← hl,List.drop_left]
theorem getN_is {l:List UInt8} {n:Nat} {s:RS} (h:getN ⟨l,0⟩=(n,s)) (he:s.err=0):n < 4611686018427387904∧l=encN n ++ s.rest:=by
 have hlt:=getN_le ⟨l,0⟩
 rw [h] at hlt
 refine ⟨hlt,?_⟩
 unfold getN at h
 simp only at h
 rw [if_neg (by simp)] at h
 split at h
 ·simp only [Prod.mk.injEq] at h; obtain ⟨_,rfl⟩:=h; simp [RS.fail] at he
 split at h
 ·simp only [Prod.mk.injEq] at h; obtain ⟨_,rfl⟩:=h; simp [RS.fail] at he
 split at h
 ·rename_i h1 h2 h3
  simp only [Prod.mk.injEq] at h
  obtain ⟨h4,rfl⟩:=h
  have hk:nb l 0 / 64≤3:=by have:=nb_lt l 0; omega
  have ha:=val_acc l (2 ^ (nb l 0 / 64) - 1)
  have hv:=be_val l (2 ^ (nb l 0 / 64) - 1) (by have:=Nat.two_pow_pos (nb l 0 / 64); omega)
  have e:2 ^ (nb l 0 / 64) - 1+1=2 ^ (nb l 0 / 64):=by have:=Nat.two_pow_pos (nb l 0 / 64); omega
  rw [e,ha,h4,← tag_eq hk] at hv
  rw [h4] at h3
  have:encN n=l.take (2 ^ (nb l 0 / 64)):=by unfold encN; rw [h3,hv]
  rw [this,List.take_append_drop]
 ·simp only [Prod.mk.injEq] at h; obtain ⟨_,rfl⟩:=h; simp [RS.fail] at he
theorem getN_cut {l:List UInt8} {n:Nat} (hn:n < 4611686018427387904) (hp:l <+: encN n) (hl:l.length < (encN n).length):getN ⟨l,0⟩=(0,⟨l,20⟩):=by
 unfold getN
 simp only
 rw [if_neg (by simp)]
 by_cases h0:l=[]
 ·rw [if_pos h0]; rfl
 ·rw [if_neg h0]
  obtain ⟨t,ht⟩:=hp
  have hnb:nb l 0 / 64=cls n:=by
   have h1:=(encN_read n [] hn).1
   rw [List.append_nil,← ht,nb_append _ _ _ (List.length_pos_iff.2 h0)] at h1
   exact h1
  rw [hnb,← encN_length,if_pos hl]
  rfl
theorem getN_err' {s:RS} (h:s.err≠0):getN s=(0,s):=by unfold getN; rw [if_pos h]
theorem countN_err {m:Int} (hm:0≤m) {s:RS} (h:s.err≠0):countN m s=(0,s):=by
 unfold countN
 rw [getN_err' h]
 have e:¬ m < ((0:Nat):Int):=by omega
 simp only
 rw [if_neg e,if_pos h]
theorem takeN_err {n:Nat} {s:RS} (h:s.err≠0):takeN n s=([],s):=by unfold takeN; rw [if_pos h]
theorem takeN_app (a l:List UInt8):takeN a.length ⟨a ++ l,0⟩=(a,⟨l,0⟩):=by
 unfold takeN
 rw [if_neg (by simp),if_neg (by simp)]
 simp
theorem takeN_is {n:Nat} {l a:List UInt8} {s:RS} (h:takeN n ⟨l,0⟩=(a,s)) (he:s.err=0):a.length=n∧l=a ++ s.rest:=by
 unfold takeN at h
 simp only at h
 rw [if_neg (by simp)] at h
 split at h
 ·simp only [Prod.mk.injEq] at h; obtain ⟨_,rfl⟩:=h; simp [RS.fail] at he
 ·rename_i h1
  simp only [Prod.mk.injEq] at h
  obtain ⟨rfl,rfl⟩:=h
  simp
  omega
theorem takeN_cut {n:Nat} {l:List UInt8} (h:l.length < n):takeN n ⟨l,0⟩=([],⟨l,20⟩):=by
 unfold takeN
 simp only
 rw [if_neg (by simp),if_pos h]
 rfl
end Go.Proofs.YtogkkfdkeefjnaaGreatDoorNum
