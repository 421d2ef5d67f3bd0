/-
  Plain lemmas about the model's memory that belong to no program: appending to a row of the call's own from any source, with the wide bound on bytes; what a call keeps but for a footprint. Plain lemmas that belong to no program: slices that came in, texts, integers. The store of terms, plainly. A region that draws its order is walked once, in the order of its text: whatever order the tape picks, what unordered operations do commutes. No program's text is in it. A region that draws its order is walked once, in the order of its text: whatever order the tape picks, what unordered operations do commutes. No program's text is in it. A region that draws its order and holds two operations that turn the world in either order: walked twice, once for each order of the two. No program's text is in it. Maps whose keys are terms: asked and written. DERIVED: THE SHELF's CONTRACTS AT THIS DUMP, IN PLAIN WORDS (tools/lay-plain.mjs out of 'TryzShelf.lean', which tools/lay-shelf.mjs wrote): THE SAME DECLARATIONS UNDER THE SAME NAMES: 'import', 'namespace', 'open', 'def', 'theorem' AND NOTHING ELSE: no command of the shelf's: FOR A HAND-IN. Each laying: the table of numbers ('.._ren') and one theorem, a field a fact of the dump's own or the kernel's comparison; each contract: ONE APPLICATION. A store of terms in memory; which terms there are, walked.
-/
import Derived.Test.YtogkkfdkeefjnaaGreatDoorProg
import Derived.WalkKit
import Derived.KernelRfl
import Derived.StillTailTactics
import Derived.Deep.AppendSrc
import Derived.Deep.DeepAppendWide
import Derived.Handy
import Derived.WalkSpells
import Derived.Outline
import Derived.Lib.Hide
import Derived.Deep.Draws
import Derived.Laws.IdiomStrings
import Derived.Laws.BytesArg
import Derived.IntWalk
import Derived.LoopTactic
import Derived.Still
import Derived.Tactics
import Derived.WideKeyRuns
import Derived.Laws.StructEq
import Derived.ChangeKeysEq
import Derived.Shelf.Small.Bits
import Derived.Shelf.Strconv.Itoa0
import Derived.Shelf.Strconv.Itoa1
import Derived.Shelf.LaysM
import Derived.Shelf.Strconv.Itoa2
import Derived.Shelf.Strconv.Itoa3
import Derived.Ground.Names2Prog
import Derived.Shelf.Slices.Clone
import Derived.BigQuiet
import Derived.Deep.QuietTactic
import Derived.Lib.SmallJoins
import Derived.Lib.LaidTab
import Derived.Lib.ItoaNum
namespace Go.Proofs.YtogkkfdkeefjnaaGreatDoorBase
open Go.RowKit
set_option linter.unusedVariables false
set_option maxRecDepth 100000
set_option linter.unusedSimpArgs false
/-- An element type's row of the table. -/
structure Elem (P:Program) (t e:TypeId) (z:Value) (size bytes:Nat):Prop where
 under:P.underlying t=some (.slice e)
 info:∃ i,P.info? e=some i∧i.zero=some z∧i.size=size∧i.bytes=bytes
 zsize:z.cells.size=size
 spos:0 < size
 bpos:0 < bytes
section
variable {P : Program} (w : World)
theorem firstCells_own (size n base:Nat) (e:TypeId) (v:Value) (xs:List Value) (hown:w.ownsRow base e size v n xs) :
  (Builtin.firstCells size n v).run P w=.ok xs.toArray w:=by
 rcases hown.2 with ⟨rfl,rfl⟩ | ⟨g,cap,cur,rfl,hb,hg,hnc,hcm,hcs,htake⟩
 ·have hx:xs=[]:=List.eq_nil_of_length_eq_zero (by simpa using hown.1)
  subst hx
  exact run_firstCells_none w size 0 0 0
 ·exact run_firstCells_some w size n ⟨g,0,none⟩ n cap xs hown.1 (hown.cells (g:=g) rfl)
theorem run_append_ownS (base:Nat) (t tx ty e:TypeId) (z:Value) (size bytes:Nat) (E:Elem P t e z size bytes)
  (v:Value) (n:Nat) (xs:List Value) (hown:w.ownsRow base e size v n xs)
  (x:Value) (m:Nat) (news:List Value) (hs:Src P size tx x m news w)
  (hbytes:((n+m)+(n+m) / 4+192) * bytes≤281474976710656) (hbase:base≤w.heap.size) :
  ∃ v' w',(Builtin.append_ #[t,tx] ty #[v,x]).run P w=.ok v' w'∧w'.ownsRow base e size v' (n+m) (xs ++ news)∧w.grownBy w' v.ownBlock ∧
   (∀ g,v'.ownBlock=some g→v.ownBlock=some g∨w.heap.size≤g):=by
 obtain ⟨ht,⟨i,hi,hz,hsize,hby⟩,hzs,hsz,hbp⟩:=E
 subst hsize
 subst hby
 have hsmall:n+m≤9223372036854775807:=by
  have:(n+m) * 1≤(n+m+(n+m) / 4+192) * i.bytes:=Nat.mul_le_mul (by omega) hbp
  omega
 have h63:n+m≤maxLen:=by simp only [maxLen]; omega
 have hlen:(xs ++ news).length=(n+m) * i.size:=by rw [List.length_append,hown.1,hs.newsLen,Nat.add_mul]
 have grown:∀ (old:Nat),old < n+m→∀ (row:Option Nat),
   (w.drew.alloc (.cells ((xs ++ news).toArray ++ Builtin.zeroCells z.cells (grownCap w (n+m) old e - (n+m))) e)).ownsRow base e i.size
    (.slice (some ⟨w.heap.size,0,none⟩) (n+m) (grownCap w (n+m) old e)) (n+m) (xs ++ news) ∧
   w.grownBy (w.drew.alloc (.cells ((xs ++ news).toArray ++ Builtin.zeroCells z.cells (grownCap w (n+m) old e - (n+m))) e)) row:=by
  intro old ho row
  have hge:=grownCap_ge w (n+m) old e
  have hcm:grownCap w (n+m) old e≤maxLen:=grownCap_le_maxLen w (n+m) old e h63
  refine ⟨⟨hlen,.inr ⟨w.heap.size,_,_,rfl,hbase,heap_alloc_new w.drew _,hge,hcm,?_,?_⟩⟩,⟨rfl,rfl,rfl,by simp,fun k hk _=>Below.heap_alloc w.drew _ k (by simpa using hk)⟩⟩
  ·simp only [Array.size_append,List.size_toArray,size_zeroCells,hzs,hlen,← Nat.add_mul]
   congr 1
   omega
  ·simp only [Array.toList_append]
   rw [← hlen]
   exact List.take_left
 rcases hown.2 with ⟨rfl,rfl⟩ | ⟨g,cap,cur,rfl,hbg,hg,hnc,hcm,hcs,htake⟩
 ·have hx:xs=[]:=List.eq_nil_of_length_eq_zero (by simpa using hown.1)
  subst hx
  by_cases hm:m=0
  ·subst hm
   have hn:news=[]:=List.eq_nil_of_length_eq_zero (by simpa using hs.newsLen)
   subst hn
   refine ⟨.slice none 0 0,w,?_,World.ownsRow_nil w base e i.size,⟨rfl,rfl,rfl,Nat.le_refl _,fun _ _ _=>rfl⟩,by simp [Value.ownBlock]⟩
   rcases hs.kind with ⟨e',hk⟩ | hk <;> simp [Builtin.append_,run_underlying ht,run_underlying hk,sizeOf,typeInfo,hi,hs.len,hs.cells]
  ·have hr:=run_append_grow_src (P:=P) w t tx ty e i z ht hi hz none 0 0 [] (run_firstCells_none _ _ _ _ _) x m news hs (by omega) (by omega) (growslice_fits_wide (by omega) hbytes)
   have hgr:=grown 0 (by omega) (Value.ownBlock (.slice none 0 0))
   simp only [Nat.zero_add,List.nil_append] at hgr hr ⊢
   exact ⟨_,_,hr,hgr.1,hgr.2,by simp [Value.ownBlock]⟩
 ·by_cases hroom:n+m≤cap
  ·have hfit:n * i.size+news.length≤cur.size:=by rw [hs.newsLen,hcs,← Nat.add_mul]; exact Nat.mul_le_mul_right _ hroom
   have hst:=run_storeCells_at P g (n * i.size) e news 0 cur w hg (by simpa using hfit) hs.one
   simp only [Nat.add_zero] at hst
   have hr:(Builtin.append_ #[t,tx] ty #[.slice (some ⟨g,0,none⟩) n cap,x]).run P w=.ok (.slice (some ⟨g,0,none⟩) (n+m) cap)
     (w.setRow g (cur.toList.take (n * i.size) ++ news ++ cur.toList.drop (n * i.size+news.length)).toArray):=by
    rcases hs.kind with ⟨e',hk⟩ | hk <;> simp [Builtin.append_,run_underlying ht,run_underlying hk,sizeOf,typeInfo,hi,hs.len,hroom,hs.cells,Addr.add_lit,hst]
   refine ⟨_,_,hr,⟨hlen,.inr ⟨g,cap,_,rfl,hbg,setRow_heap w g cur _ e _ hg,hroom,hcm,?_,?_⟩⟩,⟨rfl,rfl,rfl,by simp,fun k _ hk=>setRow_other w g k _ (fun e=>hk (by simp [Value.ownBlock,e]))⟩,by simp [Value.ownBlock]⟩
   ·simp only [List.size_toArray,List.length_append,List.length_take,List.length_drop,Array.length_toList]
    omega
   ·rw [htake,← hlen]
    exact List.take_left
  ·have hr:=run_append_grow_src (P:=P) w t tx ty e i z ht hi hz (some ⟨g,0,none⟩) n cap xs
    (run_firstCells_some _ _ _ _ _ _ _ hown.1 (by simpa using hown.cells (g:=g) rfl)) x m news hs (by omega) (by omega) (growslice_fits_wide (by omega) hbytes)
   have hgr:=grown cap (by omega) (Value.ownBlock (.slice (some ⟨g,0,none⟩) n cap))
   exact ⟨_,_,hr,hgr.1,hgr.2,by simp [Value.ownBlock]⟩
/-- The operation. -/
theorem wp_append_ownS {o:Oper} {a:Act} {K:Act→World→Prop} {Q:Exit→Act→World→Prop} (s x:Operand) (t tx:TypeId)
  (ho:o.op=.call { callee:=.builtin .append,args:=#[s,x],argTypes:=#[t,tx] })
  (base:Nat) (e:TypeId) (z:Value) (size bytes:Nat) (E:Elem P t e z size bytes)
  (v:Value) (n:Nat) (xs:List Value) (hs:a.eval s=v) (hown:w.ownsRow base e size v n xs)
  (xv:Value) (m:Nat) (news:List Value) (hx:a.eval x=xv) (hsrc:Src P size tx xv m news w)
  (hbytes:((n+m)+(n+m) / 4+192) * bytes≤281474976710656) (hbase:base≤w.heap.size)
  (h:∀ v' w',w'.ownsRow base e size v' (n+m) (xs ++ news)→w.grownBy w' v.ownBlock→(∀ g,v'.ownBlock=some g→v.ownBlock=some g∨w.heap.size≤g)→K (a.put o.dst v') w'):o.wp P a w K Q:=by
 obtain ⟨v',w',hr,h2,h3,h4⟩:=run_append_ownS (P:=P) w base t tx o.type e z size bytes E v n xs hown xv m news hsrc hbytes hbase
 unfold Oper.wp execOp
 simp only [ho,resolve,invoke,builtin,Sem.run_bind,Sem.run_pure,Result.andThen_ok,List.map_toArray,List.map_cons,List.map_nil,hs,hx,hr]
 exact h v' w' h2 h3 h4
theorem wpList_append_ownS {ops:Array Oper} {rest:List Oper} {o:Oper} {a:Act} {Q:Exit→Act→World→Prop} (hgd:o.guard=none) (s x:Operand) (t tx:TypeId)
  (ho:o.op=.call { callee:=.builtin .append,args:=#[s,x],argTypes:=#[t,tx] })
  (base:Nat) (e:TypeId) (z:Value) (size bytes:Nat) (E:Elem P t e z size bytes)
  (v:Value) (n:Nat) (xs:List Value) (hs:a.eval s=v) (hown:w.ownsRow base e size v n xs)
  (xv:Value) (m:Nat) (news:List Value) (hx:a.eval x=xv) (hsrc:Src P size tx xv m news w)
  (hbytes:((n+m)+(n+m) / 4+192) * bytes≤281474976710656) (hbase:base≤w.heap.size)
  (h:∀ v' w',w'.ownsRow base e size v' (n+m) (xs ++ news)→w.grownBy w' v.ownBlock→(∀ g,v'.ownBlock=some g→v.ownBlock=some g∨w.heap.size≤g)→wpList P ops Q rest (a.put o.dst v') w'):wpList P ops Q (o :: rest) a w :=
 wpList_plain hgd fun _ hK=>wp_append_ownS w s x t tx ho base e z size bytes E v n xs hs hown xv m news hx hsrc hbytes hbase fun v' w' h2 h3 h4=>hK _ _ (h v' w' h2 h3 h4)
end
/-! ### What a call keeps -/
/-- All blocks that were there are as they were, but those of 'F'. -/
structure Kept (w w':World) (F:Nat→Prop):Prop where
 os:w'.os=w.os
 tape:w'.tape=w.tape
 output:w'.output=w.output
 size:w.heap.size≤w'.heap.size
 block:∀ k,k < w.heap.size→¬ F k→w'.heap[k]?=w.heap[k]?
section
variable {w w1 w2 : World} {F G : Nat → Prop}
theorem Kept.refl (w:World) (F:Nat→Prop):Kept w w F:=⟨rfl,rfl,rfl,Nat.le_refl _,fun _ _ _=>rfl⟩
theorem Kept.trans (h:Kept w w1 F) (h2:Kept w1 w2 G) (hg:∀ k,G k→F k∨w.heap.size≤k):Kept w w2 F :=
 ⟨h2.os.trans h.os,h2.tape.trans h.tape,h2.output.trans h.output,Nat.le_trans h.size h2.size,fun k hk hf=>
  (h2.block k (Nat.lt_of_lt_of_le hk h.size) (fun hG=>(hg k hG).elim hf (fun h=>by omega))).trans (h.block k hk hf)⟩
theorem Kept.mono (h:Kept w w1 F) (hs:∀ k,F k→G k):Kept w w1 G:=⟨h.os,h.tape,h.output,h.size,fun k hk hn=>h.block k hk (fun hf=>hn (hs k hf))⟩
theorem Kept.grown {row:Option Nat} (h:Kept w w1 F) (hg:w1.grownBy w2 row) (hr:∀ k,row=some k→F k∨w.heap.size≤k):Kept w w2 F :=
 h.trans (G:=fun k=>row=some k) ⟨hg.os,hg.tape,hg.output,hg.size,fun k hk hn=>hg.block k hk (fun e=>hn e.symm)⟩ hr
theorem Kept.setCell (h:Kept w w1 F) {p:Addr} (hp:F p.block∨w.heap.size≤p.block) (u:Value):Kept w (w1.setCell p u) F :=
 h.trans (G:=fun k=>k=p.block) ⟨rfl,rfl,rfl,by simp [World.setCell],fun k _ hn=>Below.heap_setCell w1 p u k hn⟩ (fun k hk=>by rw [hk]; exact hp)
theorem Kept.alloc (h:Kept w w1 F) (o:Obj):Kept w (w1.alloc o) F :=
 h.trans (G:=fun _=>False) ⟨rfl,rfl,rfl,by simp,fun k hk _=>Below.heap_alloc _ _ _ hk⟩ (fun _ h=>h.elim)
theorem Kept.drew (h:Kept w w1 F):Kept w w1.drew F:=⟨h.os,h.tape,h.output,h.size,h.block⟩
theorem Kept.drewN (h:Kept w w1 F) (n:Nat):Kept w (w1.drewN n) F:=⟨h.os,h.tape,h.output,h.size,h.block⟩
theorem Kept.below {B:Nat} (h:Kept w w1 F) (hF:∀ k,F k→B≤k) (hB:B≤w.heap.size):Below B w w1 :=
 ⟨h.os,h.tape,h.output,h.size,fun k hk=>h.block k (by omega) (fun hf=>by have:=hF k hf; omega)⟩
theorem Kept.blk (h:Kept w w1 F) {k:Nat} {o:Obj} (hb:w.heap[k]?=some o) (hF:¬ F k):w1.heap[k]?=some o :=
 (h.block k (Array.getElem?_eq_some_iff.1 hb).1 hF).trans hb
end
theorem cellOf {w:World} {g j:Nat} {cur:Array Value} {e:TypeId} (h:w.heap[g]?=some (.cells cur e (0,0))):w.cell? ⟨g,j,none⟩=cur[j]?:=cell_of_row w g j cur e (0,0) h
theorem freeOf {w:World} {g j:Nat} {cur:Array Value} {e:TypeId} (h:w.heap[g]?=some (.cells cur e (0,0))):w.frozen? ⟨g,j,none⟩=false:=by
 simp [World.frozen?,h]
theorem blk_lt {w:World} {g:Nat} {o:Obj} (h:w.heap[g]?=some o):g < w.heap.size:=(Array.getElem?_eq_some_iff.1 h).1
theorem blk_grown {w w':World} {row:Option Nat} {g:Nat} {o:Obj} (hb:w.heap[g]?=some o) (hg:w.grownBy w' row) (hne:some g≠row):w'.heap[g]?=some o :=
 (hg.block g (blk_lt hb) hne).trans hb
theorem blk_set {w:World} {g:Nat} {cur:Array Value} {e:TypeId} {f:Nat×Nat} (h:w.heap[g]?=some (.cells cur e f)) (j:Nat) (u:Value):(w.setCell ⟨g,j,none⟩ u).heap[g]?=some (.cells (cur.setIfInBounds j u) e f):=by
 simp only [World.setCell,Array.getElem?_modify,if_pos,h,Option.map_some]
 rfl
theorem blk_far {w:World} {g:Nat} {o:Obj} (h:w.heap[g]?=some o) {p:Addr} (hne:g≠p.block) (u:Value):(w.setCell p u).heap[g]?=some o :=
 (Below.heap_setCell w p u g hne).trans h
theorem own_far {w:World} {base:Nat} {e:TypeId} {size:Nat} {v:Value} {n:Nat} {xs:List Value} (h:w.ownsRow base e size v n xs) {p:Addr} (hne:v.ownBlock≠some p.block) (u:Value):(w.setCell p u).ownsRow base e size v n xs:=by
 refine ⟨h.1,?_⟩
 rcases h.2 with h2 | ⟨g,cap,cur,rfl,hg,hh,r⟩
 ·exact .inl h2
 ·refine .inr ⟨g,cap,cur,rfl,hg,blk_far hh (fun e=>hne (by simp [Value.ownBlock,e])) u,r⟩
theorem own_keptF {w w':World} {F:Nat→Prop} {base:Nat} {e:TypeId} {size:Nat} {v:Value} {n:Nat} {xs:List Value} (h:w.ownsRow base e size v n xs) (hk:Kept w w' F) (hne:∀ g,v.ownBlock=some g→¬ F g):w'.ownsRow base e size v n xs:=by
 refine ⟨h.1,?_⟩
 rcases h.2 with h2 | ⟨g,cap,cur,rfl,hg,hh,r⟩
 ·exact .inl h2
 ·exact .inr ⟨g,cap,cur,rfl,hg,hk.blk hh (hne g rfl),r⟩
/-- A row's own block is of its element's type. -/
theorem own_ne {w:World} {base:Nat} {e T:TypeId} {size:Nat} {v:Value} {n:Nat} {xs:List Value} {p:Nat} {cs:Array Value} {f:Nat×Nat} (h:w.ownsRow base e size v n xs) (hp:w.heap[p]?=some (.cells cs T f)) (hT:e≠T):v.ownBlock≠some p:=by
 rcases h.2 with ⟨rfl,_⟩ | ⟨g,cap,cur,rfl,hg,hh,r⟩
 ·simp [Value.ownBlock]
 ·simp only [Value.ownBlock]
  intro e
  simp only [Option.some.injEq] at e
  subst e
  rw [hp] at hh
  simp only [Option.some.injEq,Obj.cells.injEq] at hh
  exact hT hh.2.1.symm
theorem own_slice {w:World} {base:Nat} {e:TypeId} {size:Nat} {v:Value} {n:Nat} {xs:List Value} (h:w.ownsRow base e size v n xs):∃ A c,v=.slice A n c∧n≤c∧c≤maxLen:=by
 rcases h.2 with ⟨rfl,rfl⟩ | ⟨g,cap,cur,rfl,hg,hh,hnc,hcm,r⟩
 ·exact ⟨none,0,rfl,Nat.le_refl _,Nat.zero_le _⟩
 ·exact ⟨_,_,rfl,hnc,hcm⟩
/-- The beginning of a row of the call's own is one too (its rest is room). -/
theorem own_take {w:World} {base:Nat} {e:TypeId} {size:Nat} {A:Option Addr} {n c:Nat} {xs:List Value} (h:w.ownsRow base e size (.slice A n c) n xs) {m:Nat} (hm:m≤n):w.ownsRow base e size (.slice A m c) m (xs.take (m * size)):=by
 refine ⟨by rw [List.length_take,h.1]; exact Nat.min_eq_left (Nat.mul_le_mul_right _ hm),?_⟩
 rcases h.2 with ⟨h1,rfl⟩ | ⟨g,cap,cur,hv,hg,hh,hnc,hcm,hcs,ht⟩
 ·simp only [Value.slice.injEq] at h1
  obtain ⟨rfl,_,rfl⟩:=h1
  obtain rfl:m=0:=by omega
  exact .inl ⟨rfl,rfl⟩
 ·simp only [Value.slice.injEq] at hv
  obtain ⟨rfl,_,rfl⟩:=hv
  refine .inr ⟨g,c,cur,rfl,hg,hh,by omega,hcm,hcs,?_⟩
  rw [← ht,List.take_take,Nat.min_eq_left (Nat.mul_le_mul_right _ hm)]
/-- What a row of the call's own yields as a source. -/
theorem src_own {P:Program} {w:World} {base:Nat} {e t e':TypeId} {size:Nat} {v:Value} {n:Nat} {xs:List Value} (hk:P.underlying t=some (.slice e')) (h:w.ownsRow base e size v n xs) (h1:∀ u∈xs,u.oneCell'=true):Src P size t v n xs w:=by
 have hd:w.drew.ownsRow base e size v n xs:=h
 obtain ⟨A,c,rfl,_⟩:=own_slice h
 exact ⟨.inl ⟨e',hk⟩,fun _=>rfl,firstCells_own w size n base e _ xs h,firstCells_own w.drew size n base e _ xs hd,h.1,h1⟩
theorem own_drew {w:World} {base:Nat} {e:TypeId} {size:Nat} {v:Value} {n:Nat} {xs:List Value} (h:w.ownsRow base e size v n xs):w.drew.ownsRow base e size v n xs:=h
/-! ### Rows of bytes -/
def bc (l:List UInt8):List Value:=l.map fun b=>Value.int .u8 b.toNat
theorem bc_one (l:List UInt8):∀ u∈bc l,u.oneCell'=true:=by
 intro u hu
 obtain ⟨_,_,rfl⟩:=List.mem_map.1 hu
 rfl
theorem bc_append (l r:List UInt8):bc (l ++ r)=bc l ++ bc r:=by simp [bc]
theorem bc_take (l:List UInt8) (n:Nat):(bc l).take (n * 1)=bc (l.take n):=by simp [bc,List.map_take]
/-- 'string(b)' of a row of the call's own. -/
theorem run_convert_own {P:Program} (w:World) (src dst e:TypeId) (base n:Nat) (v:Value) (l:List UInt8) (hs:P.underlying src=some (.slice e)) (he:P.underlying e=some (.int .u8)) (hd:P.underlying dst=some .string)
  (hown:w.ownsRow base e 1 v n (bc l)):(convert src dst v).run P w=.ok (.string ⟨l.toArray⟩) w:=by
 have hn:l.length=n:=by have:=hown.1; simpa [bc] using this
 subst hn
 rcases hown.2 with ⟨rfl,h0⟩ | ⟨g,cap,cur,rfl,hb,hg,hnc,hcm,hcs,htake⟩
 ·obtain rfl:l=[]:=List.eq_nil_of_length_eq_zero h0
  exact run_convert_bytes_nil w src e hs he 0 0 dst hd
 ·refine run_convert_bytes_back w src dst e ⟨g,0,none⟩ cap l hs he hd fun j hj=>?_
  refine hown.cells (g:=g) rfl j _ ?_
  simp [bc,List.getElem?_eq_getElem hj]
theorem size_mk (l:List UInt8):(ByteArray.mk l.toArray).size=l.length:=by simp [ByteArray.size]
theorem toList_mk (l:List UInt8):(ByteArray.mk l.toArray).data.toList=l:=by simp
theorem mk_data (s:ByteArray):ByteArray.mk s.data.toList.toArray=s:=by cases s; simp
theorem ownB (A:Option Addr) (m n c d:Nat):(Value.slice A m c).ownBlock=(Value.slice A n d).ownBlock:=by cases A <;> rfl
theorem len_data (d:ByteArray):d.data.toList.length=d.size:=by rw [Array.length_toList]; rfl
/-- A goal's number. -/
structure Ix (n:Nat):Prop
theorem lh {p:Prop} (h:p):Hid p:=Lib.hid h
theorem kb {w w':World} {b:Nat} {o:Obj} (k:Kept w w' (fun _=>False)) (h:Hid (w.heap[b]?=some o)):Hid (w'.heap[b]?=some o):=Lib.hid (k.blk h.out (fun h=>h))
theorem kt {w w1 w2:World} {F:Nat→Prop} (h:Hid (Kept w w1 F)) (k:Kept w1 w2 (fun _=>False)):Hid (Kept w w2 F):=Lib.hid (h.out.trans k (fun _ h=>h.elim))
theorem szk {w w':World} {n:Nat} {F:Nat→Prop} (h:Hid (n≤w.heap.size)) (k:Kept w w' F):Hid (n≤w'.heap.size):=Lib.hid (Nat.le_trans h.out k.size)
end Go.Proofs.YtogkkfdkeefjnaaGreatDoorBase
namespace Go.Proofs.YtogkkfdkeefjnaaGreatDoorBase
open Go.RowKit
set_option linter.unusedVariables false
set_option maxRecDepth 100000
set_option linter.unusedSimpArgs false
/-- A walk stops here. -/
def Hold (p:Prop):Prop:=p
theorem hold {p:Prop} (h:Hold p):p:=h
/-- A slice that came in, of one cell an element: it reads as xs. -/
structure RowIn (w:World) (A:Option Addr) (n:Nat) (xs:List Value):Prop where
 len:n=xs.length
 max:n≤maxLen
 cell:0 < n→∃ b off,A=some ⟨b,off,none⟩∧b < w.heap.size∧∀ k u,xs[k]?=some u→w.cell? ⟨b,off+k,none⟩=some u
theorem RowIn.below {w w':World} {A:Option Addr} {n:Nat} {xs:List Value} (h:RowIn w A n xs) (hb:Below w.heap.size w w'):RowIn w' A n xs:=by
 refine ⟨h.len,h.max,fun hn=>?_⟩
 obtain ⟨b,off,hA,hlt,hc⟩:=h.cell hn
 exact ⟨b,off,hA,Nat.lt_of_lt_of_le hlt hb.size,fun k u hu=>(hb.cell (p:=⟨b,off+k,none⟩) hlt).trans (hc k u hu)⟩
end Go.Proofs.YtogkkfdkeefjnaaGreatDoorBase
namespace Go.Proofs.YtogkkfdkeefjnaaGreatDoor.Term
set_option linter.unusedVariables false
set_option maxRecDepth 100000
set_option linter.unusedSimpArgs false
/-- A term: its kind, its label, its parts. -/
structure Node where
 kind:Int
 label:ByteArray
 a:Int
 b:Int
theorem Node.ext' {x y:Node} (h1:x.kind=y.kind) (h2:x.label=y.label) (h3:x.a=y.a) (h4:x.b=y.b):x=y:=by cases x; cases y; simp_all
instance : DecidableEq Node := fun x y =>
 if h:x.kind=y.kind∧x.label=y.label∧x.a=y.a∧x.b=y.b then .isTrue (Node.ext' h.1 h.2.1 h.2.2.1 h.2.2.2)
 else .isFalse (fun e=>h (by subst e; exact ⟨rfl,rfl,rfl,rfl⟩))
/-- A store: its terms, and how many atoms were drawn. -/
structure TS where
 nodes:List Node
 drawn:Nat
/-- The place of a node, counted from 1; 0: it isn't there. -/
def idx (l:List Node) (n:Node):Nat:=match l.findIdx? (fun x=>decide (x=n)) with | some i=>i+1 | none=>0
def knownB (l:List Node) (t:Int):Bool:=decide (1≤t) && decide (t≤l.length)
def labelMax (k:Int):Int:=if k=2 then 1024 else if k=3∨k=7∨k=8∨k=9 then 0 else if k=4∨k=5 then 32 else if k=6 then 0 else -1
def arity (k:Int):Int:=if k=2 then 0 else if k=3∨k=7∨k=8∨k=9 then 2 else if k=4 then 1 else if k=5 then 2 else if k=6 then 1 else 0
def zeroN:Node:=⟨0,⟨#[]⟩,0,0⟩
def getN (l:List Node) (t:Int):Node:=if knownB l t then l.getD (t.toNat - 1) zeroN else zeroN
/-- Is a node as its kind says? -/
def Right (l:List Node) (n:Node):Prop :=
 if n.kind=1 then 1≤n.a∧n.a≤1099511627776∧n.label=⟨#[]⟩∧n.b=0
 else (n.label.size:Int)≤labelMax n.kind∧(arity n.kind < 1→n.a=0)∧(arity n.kind < 2→n.b=0)∧(1≤arity n.kind→knownB l n.a=true)∧(arity n.kind=2→knownB l n.b=true) ∧
  (n.kind=8→(getN l n.a).kind=6)
instance (l : List Node) (n : Node) : Decidable (Right l n) := by unfold Right; infer_instance
/-- What Make answers and makes of the store. -/
def mk (s:TS) (n:Node):(Nat×Int)×TS :=
 if idx s.nodes n≠0 then ((idx s.nodes n,0),s)
 else if ¬ Right s.nodes n then ((0,10),s)
 else if 262144≤s.nodes.length then ((0,11),s)
 else ((s.nodes.length+1,0),{ s with nodes:=s.nodes ++ [n] })
def put (s:TS) (n:Node):Nat×TS:=((mk s n).1.1,(mk s n).2)
/-- Each term was right when it came in. -/
def Built (l:List Node):Prop:=∀ i n,l[i]?=some n→Right (l.take i) n
structure TOk (s:TS):Prop where
 nd:s.nodes.Nodup
 len:s.nodes.length≤262144
 built:Built s.nodes
 drawn:s.drawn≤1099511627776
theorem idx_zero {l:List Node} {n:Node}:idx l n=0 ↔ n ∉ l:=by
 unfold idx
 cases h:l.findIdx? (fun x=>decide (x=n)) with
 | none=>
  simp only [true_iff]
  rw [List.findIdx?_eq_none_iff] at h
  intro hm
  simpa using h n hm
 | some i=>
  simp only [Nat.add_one_ne_zero,false_iff,Decidable.not_not]
  rw [List.findIdx?_eq_some_iff_getElem] at h
  obtain ⟨hi,h1,_⟩:=h
  have:=of_decide_eq_true h1
  rw [← this]
  exact List.getElem_mem _
theorem idx_get {l:List Node} {n:Node} {i:Nat} (h:idx l n=i+1):l[i]?=some n:=by
 unfold idx at h
 cases h2:l.findIdx? (fun x=>decide (x=n)) with
 | none=>rw [h2] at h; simp at h
 | some j=>
  rw [h2] at h
  simp only [Nat.add_right_cancel_iff] at h
  subst h
  rw [List.findIdx?_eq_some_iff_getElem] at h2
  obtain ⟨hi,h1,_⟩:=h2
  rw [List.getElem?_eq_getElem hi]
  exact congrArg some (of_decide_eq_true h1)
theorem idx_of {l:List Node} (hn:l.Nodup) {n:Node} {i:Nat} (h:l[i]?=some n):idx l n=i+1:=by
 have hm:n∈l:=List.mem_of_getElem? h
 have h0:idx l n≠0:=fun e=>idx_zero.1 e hm
 obtain ⟨j,hj⟩:∃ j,idx l n=j+1:=⟨idx l n - 1,by omega⟩
 have h1:=idx_get hj
 rw [hj]
 have hi:=(List.getElem?_eq_some_iff.1 h).1
 have hj2:=(List.getElem?_eq_some_iff.1 h1).1
 have:=(List.getElem?_inj hi hn).1 (h.trans h1.symm)
 omega
theorem idx_le (l:List Node) (n:Node):idx l n≤l.length:=by
 by_cases h:idx l n=0
 ·omega
 ·obtain ⟨j,hj⟩:∃ j,idx l n=j+1:=⟨idx l n - 1,by omega⟩
  have:=(List.getElem?_eq_some_iff.1 (idx_get hj)).1
  omega
theorem knownB_iff {l:List Node} {t:Int}:knownB l t=true ↔ 1≤t∧t≤l.length:=by simp [knownB]
theorem getN_at {l:List Node} {t:Int} (h:knownB l t=true):l[t.toNat - 1]?=some (getN l t):=by
 unfold getN
 rw [if_pos h]
 rw [knownB_iff] at h
 have hlt:t.toNat - 1 < l.length:=by omega
 simp [List.getD,List.getElem?_eq_getElem hlt]
theorem Built.snoc {l:List Node} {n:Node} (h:Built l) (hr:Right l n):Built (l ++ [n]):=by
 intro i x hx
 rcases Nat.lt_or_ge i l.length with hlt | hge
 ·rw [List.getElem?_append_left hlt] at hx
  rw [List.take_append_of_le_length (by omega)]
  exact h i x hx
 ·have hi:i=l.length:=by
   have:=(List.getElem?_eq_some_iff.1 hx).1
   simp at this; omega
  subst hi
  simp at hx
  subst hx
  rw [List.take_left']
  exact hr
  rfl
theorem mk_ok {s:TS} (h:TOk s) (n:Node):TOk (mk s n).2:=by
 unfold mk
 split
 ·exact h
 ·rename_i h1
  split
  ·exact h
  ·rename_i h2
   split
   ·exact h
   ·rename_i h3
    have h1':n ∉ s.nodes:=idx_zero.1 (by simpa using h1)
    refine ⟨?_,?_,h.built.snoc (by simpa using h2),h.drawn⟩
    ·refine List.nodup_append.2 ⟨h.nd,by simp,?_⟩
     intro x hx y hy e
     simp at hy
     subst hy; subst e
     exact h1' hx
    ·simp; omega
theorem mk_drawn (s:TS) (n:Node):(mk s n).2.drawn=s.drawn:=by unfold mk; split; rfl; split; rfl; split <;> rfl
/-- What was made is there. -/
theorem mk_there {s:TS} (h:TOk s) (n:Node) (h0:(mk s n).1.1≠0):(mk s n).2.nodes[(mk s n).1.1 - 1]?=some n∧(mk s n).1.1=idx (mk s n).2.nodes n:=by
 unfold mk at *
 split
 ·rename_i h1
  obtain ⟨j,hj⟩:∃ j,idx s.nodes n=j+1:=⟨idx s.nodes n - 1,by omega⟩
  simp only [hj,Nat.add_sub_cancel]
  exact ⟨idx_get hj,trivial⟩
 ·rename_i h1
  rw [if_neg h1] at h0
  split
  ·rename_i h2
   rw [if_pos h2] at h0
   exact (h0 rfl).elim
  ·rename_i h2
   rw [if_neg h2] at h0
   split
   ·rename_i h3
    rw [if_pos h3] at h0
    exact (h0 rfl).elim
   ·rename_i h3
    have h1':n ∉ s.nodes:=idx_zero.1 (by simpa using h1)
    have hnd:(s.nodes ++ [n]).Nodup:=by
     refine List.nodup_append.2 ⟨h.nd,by simp,?_⟩
     intro x hx y hy e
     simp at hy
     subst hy; subst e
     exact h1' hx
    have hg:(s.nodes ++ [n])[s.nodes.length]?=some n:=by simp
    simp only [Nat.add_sub_cancel]
    exact ⟨hg,(idx_of hnd hg).symm⟩
end Go.Proofs.YtogkkfdkeefjnaaGreatDoor.Term
namespace Go.Proofs.YtogkkfdkeefjnaaGreatDoorLex
set_option linter.unusedVariables false
set_option maxRecDepth 100000
set_option linter.unusedSimpArgs false
section
variable {P : Program} {ops : Array Oper} {md : Region.Mode} {S : World → Prop} {Q' : Act → World → Prop}
def lightUpon (w:World) (v:Value):Result Next→Prop
 | .ok (.value u) w'=>w'=w∧u=v
 | .ok .skip w'=>w'=w∧v=undef
 | _=>False
/-- The operation yields v in each world of S and leaves it; or it isn't wanted. -/
def Lit (P:Program) (ops:Array Oper) (S:World→Prop) (o:Oper) (v:Value) (a:Act):Prop :=
 (Region.wanted o (yielded ops a.tmps)=true∧∀ w,S w→lightUpon w v ((execOp a.eval o).run P w)) ∨
 (Region.wanted o (yielded ops a.tmps)=false∧v=undef)
theorem lightUpon_unique {w:World} {v u:Value} {r:Result Next} (h:lightUpon w v r) (h2:lightUpon w u r):v=u:=by
 cases r with
 | ok n w'=>
  cases n <;> simp only [lightUpon] at h h2
  case value x=>exact h.2.symm.trans h2.2
  case skip=>exact h.2.trans h2.2.symm
 | halt x w'=>simp only [lightUpon] at h
theorem Lit.unique {o:Oper} {v u:Value} {a:Act} {w:World} (hw:S w) (h:Lit P ops S o v a) (h2:Lit P ops S o u a):v=u:=by
 rcases h with ⟨h,h1⟩ | ⟨h,rfl⟩ <;> rcases h2 with ⟨k,k1⟩ | ⟨k,rfl⟩
 ·exact lightUpon_unique (h1 w hw) (k1 w hw)
 ·rw [h] at k; cases k
 ·rw [h] at k; cases k
 ·rfl
theorem Lit.put {o:Oper} {v x:Value} {a:Act} {d:Option Tmp} (hs:∀ cs b,o.op≠.select cs b) (hd:∀ t,d=some t→t ∉ o.looksAt ops):Lit P ops S o v (a.put d x) ↔ Lit P ops S o v a:=by
 unfold Lit
 rw [execOp_put o hs a d x hd,wanted_put o a d x hd]
def NoWay:Exit→Act→World→Prop:=fun _ _ _=>False
/-- An operation that may turn the world: it comes back, by no panic, and defers nothing. -/
def heavyOp (P:Program) (ops:Array Oper) (S:World→Prop) (o:Oper) (K:Act→World→Prop) (a:Act) (w:World):Prop :=
 if Region.wanted o (yielded ops a.tmps) then o.wp P a w (fun a' w'=>a'.defers=a.defers∧S w'∧K a' w') NoWay
 else K (a.put o.dst undef) w
def stepX (P:Program) (ops:Array Oper) (S:World→Prop) (c:Nat) (o:Oper) (K:Act→World→Prop) (a:Act) (w:World):Prop :=
 match c with
 | 0=>∃ v,Lit P ops S o v a∧K (a.put o.dst v) w
 | 1=>∃ v,Lit P ops (·=w) o v a∧K (a.put o.dst v) w
 | _+2=>heavyOp P ops S o K a w
theorem put_defers (a:Act) (d:Option Tmp) (v:Value):(a.put d v).defers=a.defers:=by cases d <;> rfl
theorem heavy_mono {o:Oper} {K K':Act→World→Prop} {a:Act} {w:World} (hw:S w) (h:∀ a w,S w→K a w→K' a w) (hh:heavyOp P ops S o K a w):heavyOp P ops S o K' a w:=by
 unfold heavyOp at *
 split
 ·rename_i hg
  rw [if_pos hg] at hh
  exact Oper.wp_mono (fun a' w' ⟨h1,h2,h3⟩=>⟨h1,h2,h _ _ h2 h3⟩) hh
 ·rename_i hg
  rw [if_neg hg] at hh
  exact h _ _ hw hh
theorem stepX_mono {c:Nat} {o:Oper} {K K':Act→World→Prop} {a:Act} {w:World} (hw:S w) (h:∀ a w,S w→K a w→K' a w) (hh:stepX P ops S c o K a w):stepX P ops S c o K' a w:=by
 match c,hh with
 | 0,⟨v,h1,h2⟩=>exact ⟨v,h1,h _ _ hw h2⟩
 | 1,⟨v,h1,h2⟩=>exact ⟨v,h1,h _ _ hw h2⟩
 | _+2,hh=>exact heavy_mono hw h hh
/-- It comes back. -/
theorem heavy_ex {o:Oper} {K:Act→World→Prop} {a:Act} {w:World} (hh:heavyOp P ops S o K a w):∃ x w',K (a.put o.dst x) w':=by
 unfold heavyOp at hh
 split at hh
 ·unfold Oper.wp at hh
  generalize (execOp a.eval o).run P w=r at hh
  cases r with
  | ok n w'=>
   cases n <;> simp only [Oper.upon] at hh
   case value u=>exact ⟨u,_,hh.2.2⟩
   case skip=>exact ⟨_,_,hh.2.2⟩
   case defer d=>
    have h:=hh.1
    rw [put_defers] at h
    have:=congrArg List.length h
    simp at this
   case enter f args=>
    obtain ⟨e,w'',fr,hR,_⟩:=hh []
    cases e with
    | returned v=>exact ⟨v,_,hR.2.2⟩
    | panicked ch=>exact hR.elim
    | outgrown=>obtain ⟨_,_,h⟩:=hR; exact h.elim
   case row row args=>
    obtain ⟨v,w'',hR,_⟩:=hh default []
    exact ⟨v,_,hR.2.2⟩
  | halt x w'=>cases x <;> simp only [Oper.upon] at hh <;> exact hh.elim
 ·exact ⟨_,_,hh⟩
theorem stepX_ex {c:Nat} {o:Oper} {K:Act→World→Prop} {a:Act} {w:World} (hh:stepX P ops S c o K a w):∃ x w',K (a.put o.dst x) w':=by
 match c,hh with
 | 0,⟨v,h1,h2⟩=>exact ⟨v,_,h2⟩
 | 1,⟨v,h1,h2⟩=>exact ⟨v,_,h2⟩
 | _+2,hh=>exact heavy_ex hh
/-- May the operations of these classes stand in either order? -/
def compat (c d:Nat):Bool:=c == 0 || d == 0 || (c == 1 && d == 1)
theorem light_light {Sk Sj:World→Prop} {ok oj:Oper} {K:Act→World→Prop} {a:Act} {w:World} (hap:ok.apart ops oj=true) (hsk:∀ cs b,ok.op≠.select cs b) (hsj:∀ cs b,oj.op≠.select cs b)
  (h:∃ v,Lit P ops Sk ok v a∧∃ u,Lit P ops Sj oj u (a.put ok.dst v)∧K ((a.put ok.dst v).put oj.dst u) w) :
  ∃ u,Lit P ops Sj oj u a∧∃ v,Lit P ops Sk ok v (a.put oj.dst u)∧K ((a.put oj.dst u).put ok.dst v) w:=by
 obtain ⟨h1,h2,h3⟩:=Oper.apart_spec hap
 obtain ⟨v,hv,u,hu,hk⟩:=h
 exact ⟨u,(Lit.put hsj h1).1 hu,v,(Lit.put hsk h3).2 hv,by rw [← Act.put_comm a v u h2]; exact hk⟩
theorem light_heavy {ok oj:Oper} {K:Act→World→Prop} {a:Act} {w:World} (hap:ok.apart ops oj=true) (hsk:∀ cs b,ok.op≠.select cs b) (hsj:∀ cs b,oj.op≠.select cs b)
  (h:∃ v,Lit P ops S ok v a∧heavyOp P ops S oj K (a.put ok.dst v) w) :
  heavyOp P ops S oj (fun a' w'=>∃ v,Lit P ops S ok v a'∧K (a'.put ok.dst v) w') a w:=by
 obtain ⟨h1,h2,h3⟩:=Oper.apart_spec hap
 obtain ⟨v,hv,h⟩:=h
 have keep:∀ u,Lit P ops S ok v (a.put oj.dst u):=fun u=>(Lit.put hsk h3).2 hv
 unfold heavyOp at *
 rw [wanted_put oj a ok.dst v h1] at h
 split
 ·rename_i hg
  rw [if_pos hg] at h
  unfold Oper.wp at *
  rw [execOp_put oj hsj a ok.dst v h1] at h
  generalize (execOp a.eval oj).run P w=r at *
  cases r with
  | ok n w'=>
   cases n <;> simp only [Oper.upon] at h ⊢
   case value u=>exact ⟨put_defers _ _ _,h.2.1,v,keep u,by rw [← Act.put_comm a v u h2]; exact h.2.2⟩
   case skip=>exact ⟨put_defers _ _ _,h.2.1,v,keep _,by rw [← Act.put_comm a v undef h2]; exact h.2.2⟩
   case defer d=>
    have h':=h.1
    rw [put_defers,put_defers] at h'
    have:=congrArg List.length h'
    simp [put_defers] at this
   case enter f args=>
    refine Calls.mono h fun e w'' he=>?_
    cases e with
    | returned u=>exact ⟨put_defers _ _ _,he.2.1,v,keep u,by rw [← Act.put_comm a v u h2]; exact he.2.2⟩
    | panicked ch=>exact he.elim
    | outgrown=>exact he
   case row row args=>
    refine Rows.mono h fun u w'' he=>?_
    exact ⟨put_defers _ _ _,he.2.1,v,keep u,by rw [← Act.put_comm a v u h2]; exact he.2.2⟩
  | halt x w'=>cases x <;> simp only [Oper.upon] at h ⊢ <;> exact h
 ·rename_i hg
  rw [if_neg hg] at h
  exact ⟨v,keep _,by rw [← Act.put_comm a v undef h2]; exact h⟩
theorem heavy_light {ok oj:Oper} {K:Act→World→Prop} {a:Act} {w:World} (hw:S w) (hap:ok.apart ops oj=true) (hsk:∀ cs b,ok.op≠.select cs b) (hsj:∀ cs b,oj.op≠.select cs b)
  (h:heavyOp P ops S ok (fun a' w'=>∃ u,Lit P ops S oj u a'∧K (a'.put oj.dst u) w') a w) :
  ∃ u,Lit P ops S oj u a∧heavyOp P ops S ok K (a.put oj.dst u) w:=by
 obtain ⟨h1,h2,h3⟩:=Oper.apart_spec hap
 obtain ⟨x,w1,u,hu,_⟩:=heavy_ex h
 have hu':Lit P ops S oj u a:=(Lit.put hsj h1).1 hu
 refine ⟨u,hu',?_⟩
 have same:∀ y u',Lit P ops S oj u' (a.put ok.dst y)→u'=u:=fun y u' h'=>Lit.unique hw ((Lit.put hsj h1).1 h') hu'
 have go:∀ y w',(∃ u',Lit P ops S oj u' (a.put ok.dst y)∧K ((a.put ok.dst y).put oj.dst u') w')→K ((a.put oj.dst u).put ok.dst y) w':=by
  rintro y w' ⟨u',hl,hk⟩
  obtain rfl:=same y u' hl
  rw [← Act.put_comm a y u' h2]; exact hk
 unfold heavyOp at *
 rw [wanted_put ok a oj.dst u h3]
 split
 ·rename_i hg
  rw [if_pos hg] at h
  unfold Oper.wp at *
  rw [execOp_put ok hsk a oj.dst u h3]
  generalize (execOp a.eval ok).run P w=r at *
  cases r with
  | ok n w'=>
   cases n <;> simp only [Oper.upon] at h ⊢
   case value y=>exact ⟨put_defers _ _ _,h.2.1,go y _ h.2.2⟩
   case skip=>exact ⟨put_defers _ _ _,h.2.1,go _ _ h.2.2⟩
   case defer d=>
    have h':=h.1
    rw [put_defers] at h'
    have:=congrArg List.length h'
    simp at this
   case enter f args=>
    refine Calls.mono h fun e w'' he=>?_
    cases e with
    | returned y=>exact ⟨put_defers _ _ _,he.2.1,go y _ he.2.2⟩
    | panicked ch=>exact he.elim
    | outgrown=>exact he
   case row row args=>
    refine Rows.mono h fun y w'' he=>?_
    exact ⟨put_defers _ _ _,he.2.1,go y _ he.2.2⟩
  | halt x w'=>cases x <;> simp only [Oper.upon] at h ⊢ <;> exact h
 ·rename_i hg
  rw [if_neg hg] at h
  exact go _ _ h
theorem stepX_swap {c d:Nat} {ok oj:Oper} {K:Act→World→Prop} {a:Act} {w:World} (hw:S w) (hc:compat c d=true) (hap:ok.apart ops oj=true) (hsk:∀ cs b,ok.op≠.select cs b) (hsj:∀ cs b,oj.op≠.select cs b)
  (h:stepX P ops S c ok (fun a' w'=>stepX P ops S d oj K a' w') a w):stepX P ops S d oj (fun a' w'=>stepX P ops S c ok K a' w') a w:=by
 match c,d,h with
 | 0,0,h=>exact light_light hap hsk hsj h
 | 0,1,h=>exact light_light hap hsk hsj h
 | 1,0,h=>exact light_light hap hsk hsj h
 | 1,1,h=>exact light_light hap hsk hsj h
 | 0,_+2,h=>exact light_heavy hap hsk hsj h
 | _+2,0,h=>exact heavy_light hw hap hsk hsj h
 | 1,d+2,h=>simp [compat] at hc
 | c+2,1,h=>simp [compat] at hc
 | c+2,d+2,h=>simp [compat] at hc
/-- Whatever order is picked from here on. -/
def wpAnyX (P:Program) (md:Region.Mode) (ops:Array Oper) (S:World→Prop) (cls:Nat→Nat) (Q':Act→World→Prop):Nat→Array Bool→Act→World→Prop
 | 0,listed,a,w=>Region.ready md ops listed=[]∧Q' a w
 | fuel+1,listed,a,w=>
  (Region.ready md ops listed=[]→Q' a w) ∧
  ∀ i∈Region.ready md ops listed,∀ o,ops[i]?=some o→stepX P ops S (cls i) o (wpAnyX P md ops S cls Q' fuel (listed.setIfInBounds i true)) a w
theorem wpOp_of_stepX {c i:Nat} {o:Oper} {K K':Act→World→Prop} {Q:Exit→Act→World→Prop} {a:Act} {w:World} (hi:ops[i]?=some o) (hw:S w) (h:∀ a w,S w→K a w→K' a w)
  (hh:stepX P ops S c o K a w):wpOp P ops Q i K' a w:=by
 have light:∀ {T:World→Prop},T w→(∃ v,Lit P ops T o v a∧K (a.put o.dst v) w)→wpOp P ops Q i K' a w:=by
  rintro T hT ⟨v,hv,hk⟩
  unfold wpOp
  simp only [hi]
  rcases hv with ⟨hg,hl⟩ | ⟨hg,rfl⟩
  ·rw [if_pos hg]
   left
   unfold Oper.wp
   have:=hl w hT
   generalize (execOp a.eval o).run P w=r at *
   cases r with
   | ok n w'=>
    cases n <;> simp only [lightUpon] at this <;> simp only [Oper.upon]
    case value u=>obtain ⟨rfl,rfl⟩:=this; exact h _ _ hw hk
    case skip=>obtain ⟨rfl,rfl⟩:=this; exact h _ _ hw hk
   | halt x w'=>simp only [lightUpon] at this
  ·rw [if_neg (by simp [hg])]
   exact h _ _ hw hk
 match c,hh with
 | 0,hh=>exact light hw hh
 | 1,hh=>exact light (T:=(·=w)) rfl hh
 | _+2,hh=>
  simp only [stepX,heavyOp] at hh
  unfold wpOp
  simp only [hi]
  split
  ·rename_i hg
   rw [if_pos hg] at hh
   left
   unfold Oper.wp at *
   generalize (execOp a.eval o).run P w=r at *
   cases r with
   | ok n w'=>
    cases n <;> simp only [Oper.upon] at hh ⊢
    case enter f args=>
     refine Calls.mono hh fun e w'' he=>?_
     cases e with
     | returned y=>exact h _ _ he.2.1 he.2.2
     | panicked ch=>exact he.elim
     | outgrown=>obtain ⟨_,_,h⟩:=he; exact h.elim
    case row row args=>exact Rows.mono hh fun y w'' he=>h _ _ he.2.1 he.2.2
    all_goals exact h _ _ hh.2.1 hh.2.2
   | halt x w'=>cases x <;> simp only [Oper.upon] at hh ⊢ <;> exact hh.elim
  ·rename_i hg
   rw [if_neg hg] at hh
   exact h _ _ hw hh
theorem wpAny_of_X {cls:Nat→Nat} {Q:Exit→Act→World→Prop} (hQ:∀ a w,Q' a w→Q .normal a w):∀ (fuel:Nat) (listed:Array Bool) (a:Act) (w:World),S w →
  wpAnyX P md ops S cls Q' fuel listed a w→wpAny P md ops Q fuel listed a w
 | 0,_,_,_,_,h=>⟨h.1,hQ _ _ h.2⟩
 | fuel+1,listed,a,w,hw,h=>⟨fun h0=>hQ _ _ (h.1 h0),fun i hi=>by
   obtain ⟨_,o,ho,_⟩:=mem_ready.1 hi
   exact wpOp_of_stepX ho hw (fun a w hw h=>wpAny_of_X hQ fuel _ a w hw h) (h.2 i hi o ho)⟩
/-- j comes behind k in every order. -/
inductive Anc (md:Region.Mode) (ops:Array Oper):Nat→Nat→Prop
 | direct {j:Nat} {o:Oper} {e:Edge}:ops[j]?=some o→e∈o.after→Region.binds md e=true→Anc md ops j e.on
 | step {j k:Nat} {o:Oper} {e:Edge}:ops[j]?=some o→e∈o.after→Region.binds md e=true→Anc md ops e.on k→Anc md ops j k
def Shut (md:Region.Mode) (ops:Array Oper) (listed:Array Bool):Prop :=
 ∀ j oj,ops[j]?=some oj→listed.getD j false=true→∀ e∈oj.after,Region.binds md e=true→listed.getD e.on false=true
theorem Shut.anc {listed:Array Bool} (hs:Shut md ops listed) {j k:Nat} (h:Anc md ops j k):(∀ oj,ops[j]?=some oj→∀ e∈oj.after,Region.binds md e=true→listed.getD e.on false=true)→listed.getD k false=true:=by
 induction h with
 | direct ho he hb=>exact fun hp=>hp _ ho _ he hb
 | step ho he hb _ ih=>exact fun hp=>ih fun oj hj e' he' hb'=>hs _ oj hj (hp _ ho _ he hb) e' he' hb'
theorem Shut.set {listed:Array Bool} (hs:Shut md ops listed) {i:Nat} (hi:i∈Region.ready md ops listed):Shut md ops (listed.setIfInBounds i true):=by
 obtain ⟨_,oi,hoi,hall⟩:=mem_ready.1 hi
 intro j oj hj hl e he hb
 by_cases hij:i=j
 ·subst hij
  have:oj=oi:=Option.some.inj (hj.symm.trans hoi)
  subst this
  exact getD_set_true (hall e he hb)
 ·rw [getD_set_ne false hij] at hl
  exact getD_set_true (hs j oj hj hl e he hb)
theorem getD_both' {listed:Array Bool} {i:Nat} (h:listed.getD i true=false):listed.getD i false=false:=by
 rcases Nat.lt_or_ge i listed.size with h' | h'
 ·simp [h'] at h ⊢; exact h
 ·simp [Array.getElem?_eq_none h'] at h
theorem firstX {cls:Nat→Nat} {k:Nat} {ok:Oper} (hk:ops[k]?=some ok) (hsel:∀ (j:Nat) (o:Oper) cs b,ops[j]?=some o→o.op≠.select cs b) :
  ∀ (fuel:Nat) (listed:Array Bool) (a:Act) (w:World),Shut md ops listed→S w →
   (∀ j oj,ops[j]?=some oj→j≠k→listed.getD j true=false→¬ Anc md ops j k→ok.apart ops oj=true∧compat (cls k) (cls j)=true) →
   k∈Region.ready md ops listed →
   stepX P ops S (cls k) ok (wpAnyX P md ops S cls Q' fuel (listed.setIfInBounds k true)) a w→wpAnyX P md ops S cls Q' (fuel+1) listed a w:=by
 intro fuel
 induction fuel with
 | zero=>
  intro listed a w hsh hw hfree hr H
  refine ⟨fun h=>(by rw [h] at hr; cases hr),fun j hj oj hoj=>?_⟩
  by_cases hjk:j=k
  ·subst hjk
   have:oj=ok:=Option.some.inj (hoj.symm.trans hk)
   subst this
   exact H
  ·obtain ⟨x,w',h,_⟩:=stepX_ex H
   have:=ready_mono hj hjk
   rw [h] at this
   cases this
 | succ fuel ih=>
  intro listed a w hsh hw hfree hr H
  refine ⟨fun h=>(by rw [h] at hr; cases hr),fun j hj oj hoj=>?_⟩
  by_cases hjk:j=k
  ·subst hjk
   have:oj=ok:=Option.some.inj (hoj.symm.trans hk)
   subst this
   exact H
  ·obtain ⟨hjun,oj',hoj',hall⟩:=mem_ready.1 hj
   have:oj'=oj:=Option.some.inj (hoj'.symm.trans hoj)
   subst this
   have hkun:=(mem_ready.1 hr).1
   have hnot:¬ Anc md ops j k:=fun han=>by
    have h1:=hsh.anc han (fun o ho e he hb=>by
     have:o=oj':=Option.some.inj (ho.symm.trans hoj)
     subst this
     exact hall e he hb)
    rw [getD_both' hkun] at h1
    cases h1
   obtain ⟨hap,hc⟩:=hfree j oj' hoj hjk hjun hnot
   have H1:stepX P ops S (cls k) ok (fun a' w'=>stepX P ops S (cls j) oj' (wpAnyX P md ops S cls Q' fuel ((listed.setIfInBounds k true).setIfInBounds j true)) a' w') a w :=
    stepX_mono hw (fun a' w' _ h=>h.2 j (ready_mono hj hjk) oj' hoj) H
   have H2:=stepX_swap hw hc hap (fun cs b=>hsel k ok cs b hk) (fun cs b=>hsel j oj' cs b hoj) H1
   refine stepX_mono hw (fun a' w' hw' h=>ih (listed.setIfInBounds j true) a' w' (hsh.set hj) hw' ?_ (ready_mono hr (Ne.symm hjk)) ?_) H2
   ·intro i oi hoi hik hun hno
    refine hfree i oi hoi hik ?_ hno
    by_cases hji:j=i
    ·subst hji; exact hjun
    ·rw [getD_set_ne true hji] at hun; exact hun
   ·rw [Array.setIfInBounds_comm _ _ hjk]
    exact h
/-- THE WALK IN THE TEXT's ORDER. -/
def wpX (P:Program) (ops:Array Oper) (S:World→Prop) (Q':Act→World→Prop):List (Nat×Oper)→Act→World→Prop
 | [],a,w=>Q' a w
 | (c,o) :: rest,a,w=>stepX P ops S c o (wpX P ops S Q' rest) a w
/-- The ancestors of each operation. -/
def ancs (md:Region.Mode):List Oper→List (List Nat)→List (List Nat)
 | [],acc=>acc
 | o :: r,acc=>ancs md r (acc ++ [((o.after.toList.filter (Region.binds md)).flatMap fun e=>e.on :: acc.getD e.on []).eraseDups])
def AccOk (md:Region.Mode) (ops:Array Oper) (acc:List (List Nat)):Prop:=∀ (j:Nat) (l:List Nat),acc[j]?=some l→∀ k∈l,Anc md ops j k
theorem mem_eraseDups' {l:List Nat} {k:Nat} (h:k∈l.eraseDups):k∈l:=by simpa using h
theorem ancs_ok:∀ (l:List Oper) (acc:List (List Nat)),(∀ j,l[j]?=ops[acc.length+j]?)→AccOk md ops acc→AccOk md ops (ancs md l acc)
 | [],acc,_,h=>h
 | o :: r,acc,hl,h=>by
  refine ancs_ok r _ (fun j=>?_) ?_
  ·have:=hl (j+1)
   simpa [Nat.add_assoc,Nat.add_comm 1 j] using this
  ·intro j l hj k hk
   rcases Nat.lt_or_ge j acc.length with hlt | hge
   ·rw [List.getElem?_append_left hlt] at hj
    exact h j l hj k hk
   ·rw [List.getElem?_append_right hge] at hj
    have hj0:j - acc.length=0:=by
     rcases Nat.eq_zero_or_pos (j - acc.length) with h0 | h0
     ·exact h0
     ·rw [List.getElem?_eq_none (by simp only [List.length_cons,List.length_nil]; omega)] at hj; cases hj
    have hje:j=acc.length:=by omega
    subst hje
    simp only [Nat.sub_self,List.getElem?_cons_zero,Option.some.injEq] at hj
    subst hj
    have ho:ops[acc.length]?=some o:=by have:=hl 0; simpa using this.symm
    have hk':=mem_eraseDups' hk
    obtain ⟨e,he,hke⟩:=List.mem_flatMap.1 hk'
    obtain ⟨he1,he2⟩:=List.mem_filter.1 he
    have he1':e∈o.after:=by simpa using he1
    rcases List.mem_cons.1 hke with rfl | hke
    ·exact .direct ho he1' he2
    ·cases ha:acc[e.on]? with
     | none=>rw [List.getD,ha] at hke; cases hke
     | some l'=>
      rw [List.getD,ha] at hke
      exact .step ho he1' he2 (h _ _ ha _ hke)
def noSelect:Op→Bool
 | .select ..=>false
 | _=>true
def pairsB (A:List (List Nat)) (ops:Array Oper) (cls:List Nat) (k:Nat) (ok:Oper):Nat→List Oper→Bool
 | _,[]=>true
 | j,o :: r=>((A.getD j []).contains k || (ok.apart ops o && compat (cls.getD k 2) (cls.getD j 2))) && pairsB A ops cls k ok (j+1) r
def lexB (md:Region.Mode) (A:List (List Nat)) (ops:Array Oper) (cls:List Nat):Nat→List Oper→Bool
 | _,[]=>true
 | k,o :: r=>noSelect o.op && (o.after.all fun e=>!Region.binds md e || decide (e.on < k)) && pairsB A ops cls k o (k+1) r && lexB md A ops cls (k+1) r
theorem pairsB_spec {A:List (List Nat)} {cls:List Nat} {k:Nat} {ok:Oper}:∀ (l:List Oper) (j0:Nat),(∀ j,l[j]?=ops[j0+j]?)→pairsB A ops cls k ok j0 l=true →
  ∀ j oj,j0≤j→ops[j]?=some oj→(A.getD j []).contains k=true∨(ok.apart ops oj=true∧compat (cls.getD k 2) (cls.getD j 2)=true)
 | [],j0,hl,_,j,oj,hj,ho=>by
  have:=hl (j - j0)
  rw [show j0+(j - j0)=j by omega,ho] at this
  cases this
 | o :: r,j0,hl,h,j,oj,hj,ho=>by
  simp only [pairsB,Bool.and_eq_true,Bool.or_eq_true] at h
  by_cases e:j=j0
  ·subst e
   have h0:=hl 0
   simp only [List.getElem?_cons_zero,Nat.add_zero,ho,Option.some.injEq] at h0
   subst h0
   exact h.1
  ·exact pairsB_spec r (j0+1) (fun i=>by have:=hl (i+1); simpa [Nat.add_assoc,Nat.add_comm 1 i] using this) h.2 j oj (by omega) ho
theorem lexB_spec {A:List (List Nat)} {cls:List Nat}:∀ (l:List Oper) (k0:Nat),(∀ j,l[j]?=ops[k0+j]?)→lexB md A ops cls k0 l=true →
  ∀ k ok,k0≤k→ops[k]?=some ok→(∀ cs b,ok.op≠.select cs b)∧(∀ e∈ok.after,Region.binds md e=true→e.on < k) ∧
   ∀ j oj,k < j→ops[j]?=some oj→(A.getD j []).contains k=true∨(ok.apart ops oj=true∧compat (cls.getD k 2) (cls.getD j 2)=true)
 | [],k0,hl,_,k,ok,hk,ho=>by
  have:=hl (k - k0)
  rw [show k0+(k - k0)=k by omega,ho] at this
  cases this
 | o :: r,k0,hl,h,k,ok,hk,ho=>by
  simp only [lexB,Bool.and_eq_true] at h
  have hl':∀ i,r[i]?=ops[k0+1+i]?:=fun i=>by have:=hl (i+1); simpa [Nat.add_assoc,Nat.add_comm 1 i] using this
  by_cases e:k=k0
  ·subst e
   have h0:=hl 0
   simp only [List.getElem?_cons_zero,Nat.add_zero,ho,Option.some.injEq] at h0
   subst h0
   refine ⟨fun cs b hs=>?_,fun e he hb=>?_,fun j oj hj hoj=>pairsB_spec r (k+1) hl' h.1.2 j oj (by omega) hoj⟩
   ·have:=h.1.1.1
    rw [hs] at this
    cases this
   ·have:=Array.all_eq_true'.1 h.1.1.2 e he
    simpa [hb] using this
  ·exact lexB_spec r (k0+1) hl' h.2 k ok (by omega) ho
theorem anyX_of_lex {A:List (List Nat)} {cls:List Nat} (hA:AccOk md ops A) (hB:lexB md A ops cls 0 ops.toList=true) :
  ∀ (n k:Nat) (listed:Array Bool) (l:List Oper) (cl:List Nat) (a:Act) (w:World),l.length=n→k+n=ops.size→(∀ j,l[j]?=ops[k+j]?)→(∀ j,cl[j]?=cls[k+j]?)→cl.length=n →
   listed.size=ops.size→(∀ j,j < ops.size→listed.getD j false=decide (j < k))→S w →
   wpX P ops S Q' (cl.zip l) a w→wpAnyX P md ops S (fun i=>cls.getD i 2) Q' n listed a w:=by
 have spec:=lexB_spec (ops:=ops) ops.toList 0 (by simp) hB
 intro n
 induction n with
 | zero=>
  intro k listed l cl a w hn hk hl hcl hcn hsz hlist hw h
  have hl0:l=[]:=List.eq_nil_of_length_eq_zero hn
  have hc0:cl=[]:=List.eq_nil_of_length_eq_zero hcn
  subst hl0; subst hc0
  refine ⟨?_,h⟩
  cases hr:Region.ready md ops listed with
  | nil=>rfl
  | cons i r=>
   have hi:i∈Region.ready md ops listed:=by rw [hr]; exact List.mem_cons_self
   obtain ⟨hun,o,ho,_⟩:=mem_ready.1 hi
   have hlt:=(Array.getElem?_eq_some_iff.1 ho).1
   have:=getD_both' hun
   rw [hlist i hlt] at this
   simp at this
   omega
 | succ n ih=>
  intro k listed l cl a w hn hk hl hcl hcn hsz hlist hw h
  obtain ⟨o,r,rfl⟩:=List.exists_cons_of_length_eq_add_one hn
  obtain ⟨c,cr,rfl⟩:=List.exists_cons_of_length_eq_add_one hcn
  have ho:ops[k]?=some o:=by have:=hl 0; simpa using this.symm
  have hc:cls.getD k 2=c:=by have:=hcl 0; simp at this; simp [List.getD,← this]
  have hklt:k < ops.size:=by omega
  obtain ⟨hsel,hedge,hpair⟩:=spec k o (Nat.zero_le _) ho
  have hshut:Shut md ops listed:=fun j oj hj hlj e he hb=>by
   have hjlt:=(Array.getElem?_eq_some_iff.1 hj).1
   rw [hlist j hjlt] at hlj
   have:=(spec j oj (Nat.zero_le _) hj).2.1 e he hb
   simp at hlj
   rw [hlist e.on (by omega)]
   simp
   omega
  have hun:listed.getD k true=false:=by
   have h1:=hlist k hklt
   simp [hsz,hklt] at h1 ⊢
   exact h1
  have hready:k∈Region.ready md ops listed:=mem_ready.2 ⟨hun,o,ho,fun e he hb=>by
   have:=hedge e he hb
   rw [hlist e.on (by omega)]
   simp
   exact this⟩
  refine firstX (cls:=fun i=>cls.getD i 2) ho (fun j oj cs b hj=>(spec j oj (Nat.zero_le _) hj).1 cs b) n listed a w hshut hw ?_ hready ?_
  ·intro j oj hj hne hjun hno
   have hjlt:=(Array.getElem?_eq_some_iff.1 hj).1
   have h1:=getD_both' hjun
   rw [hlist j hjlt] at h1
   simp at h1
   rcases hpair j oj (by omega) hj with h2 | h2
   ·exfalso
    cases hAj:A[j]? with
    | none=>simp [List.getD,hAj] at h2
    | some lj=>
     rw [List.getD,hAj] at h2
     exact hno (hA j lj hAj k (by simpa using h2))
   ·exact h2
  ·rw [hc]
   simp only [List.zip_cons_cons,wpX] at h
   refine stepX_mono hw (fun a' w' hw' h'=>ih (k+1) _ r cr a' w' (by simpa using hn) (by omega) (fun j=>by have:=hl (j+1); simpa [Nat.add_assoc,Nat.add_comm 1 j] using this)
    (fun j=>by have:=hcl (j+1); simpa [Nat.add_assoc,Nat.add_comm 1 j] using this) (by simpa using hcn) (by simpa using hsz) ?_ hw' h') h
   intro j hj
   by_cases e:k=j
   ·subst e
    simp [hsz,hklt]
   ·rw [getD_set_ne false e,hlist j hj]
    simp
    omega
/-- A REGION THAT DRAWS ITS ORDER, walked in the text's order. -/
theorem wp_region_lex {id:Nat} {l:List Oper} {Q:Exit→Act→World→Prop} {a:Act} {w:World} (S:World→Prop) (cls:List Nat) (hm:P.follows .mixedOrders=true) (hlen:cls.length=l.length)
  (hB:lexB .any (ancs .any l []) l.toArray cls 0 l=true) (hS:S w.drew)
  (h:∀ Q':Act→World→Prop,(∀ a w,Q .normal a w→Q' a w)→wpX P l.toArray S Q' (cls.zip l) a w.drew):(Code.region id l.toArray true).wp P Q a w:=by
 refine wp_region_any hm ?_
 have hA:AccOk .any l.toArray (ancs .any l []):=ancs_ok l [] (by simp) (fun j l h=>by cases h)
 refine wpAny_of_X (S:=S) (Q':=fun a w=>Q .normal a w) (cls:=fun i=>cls.getD i 2) (fun _ _ h=>h) _ _ a _ hS ?_
 have:=anyX_of_lex (P:=P) (S:=S) (Q':=fun a w=>Q .normal a w) hA hB l.toArray.size 0 (Array.replicate l.toArray.size false) l cls a w.drew (by simp) (by simp) (by simp) (by simp) (by simpa using hlen) (by simp)
  (fun j hj=>by simp at hj; simp [hj]) hS (h _ (fun _ _ h=>h))
 exact this
end
end Go.Proofs.YtogkkfdkeefjnaaGreatDoorLex
namespace Go.Proofs.YtogkkfdkeefjnaaGreatDoorLex
section
variable {P : Program} {ops : Array Oper} {S : World → Prop} {Q' : Act → World → Prop} {a : Act} {w : World} {o : Oper} {rest : List (Nat × Oper)}
theorem wpX_nil (h:Q' a w):wpX P ops S Q' [] a w:=h
theorem wpX_light (hg:o.guard=none)
  (h:∀ K:Act→World→Prop,(∀ a w,wpX P ops S Q' rest a w→K a w)→∃ v,(∀ w',S w'→lightUpon w' v ((execOp a.eval o).run P w'))∧K (a.put o.dst v) w):wpX P ops S Q' ((0,o) :: rest) a w:=by
 obtain ⟨v,h1,h2⟩:=h _ (fun _ _ h=>h)
 exact ⟨v,.inl ⟨by simp [Region.wanted,hg],h1⟩,h2⟩
theorem wpX_read (hg:o.guard=none)
  (h:∀ K:Act→World→Prop,(∀ a w,wpX P ops S Q' rest a w→K a w)→∃ v,lightUpon w v ((execOp a.eval o).run P w)∧K (a.put o.dst v) w):wpX P ops S Q' ((1,o) :: rest) a w:=by
 obtain ⟨v,h1,h2⟩:=h _ (fun _ _ h=>h)
 exact ⟨v,.inl ⟨by simp [Region.wanted,hg],fun w' hw'=>by cases hw'; exact h1⟩,h2⟩
theorem wpX_heavy (hg:o.guard=none)
  (h:∀ K:Act→World→Prop,(∀ a' w',(a'.defers=a.defers∧S w'∧wpX P ops S Q' rest a' w')→K a' w')→o.wp P a w K NoWay):wpX P ops S Q' ((2,o) :: rest) a w:=by
 show heavyOp P ops S o _ a w
 unfold heavyOp
 rw [if_pos (by simp [Region.wanted,hg])]
 exact h _ (fun _ _ h=>h)
/-- A guarded operation that isn't wanted. -/
theorem wpX_not {c:Nat} (hg:Region.wanted o (yielded ops a.tmps)=false)
  (h:∀ K:Act→World→Prop,(∀ a w,wpX P ops S Q' rest a w→K a w)→K (a.put o.dst undef) w):wpX P ops S Q' ((c,o) :: rest) a w:=by
 have h:=h _ (fun _ _ h=>h)
 match c with
 | 0=>exact ⟨undef,.inr ⟨hg,rfl⟩,h⟩
 | 1=>exact ⟨undef,.inr ⟨hg,rfl⟩,h⟩
 | _+2=>
  show heavyOp P ops S o _ a w
  unfold heavyOp
  rw [if_neg (by simp [hg])]
  exact h
/-- .. and one that is. -/
theorem wpX_light_g (hg:Region.wanted o (yielded ops a.tmps)=true)
  (h:∀ K:Act→World→Prop,(∀ a w,wpX P ops S Q' rest a w→K a w)→∃ v,(∀ w',S w'→lightUpon w' v ((execOp a.eval o).run P w'))∧K (a.put o.dst v) w):wpX P ops S Q' ((0,o) :: rest) a w:=by
 obtain ⟨v,h1,h2⟩:=h _ (fun _ _ h=>h)
 exact ⟨v,.inl ⟨hg,h1⟩,h2⟩
theorem wpX_read_g (hg:Region.wanted o (yielded ops a.tmps)=true)
  (h:∀ K:Act→World→Prop,(∀ a w,wpX P ops S Q' rest a w→K a w)→∃ v,lightUpon w v ((execOp a.eval o).run P w)∧K (a.put o.dst v) w):wpX P ops S Q' ((1,o) :: rest) a w:=by
 obtain ⟨v,h1,h2⟩:=h _ (fun _ _ h=>h)
 exact ⟨v,.inl ⟨hg,fun w' hw'=>by cases hw'; exact h1⟩,h2⟩
end
end Go.Proofs.YtogkkfdkeefjnaaGreatDoorLex
namespace Go.Proofs.YtogkkfdkeefjnaaGreatDoorLex2
set_option linter.unusedVariables false
set_option maxRecDepth 100000
set_option linter.unusedSimpArgs false
section
variable {P : Program} {ops : Array Oper} {md : Region.Mode} {S : World → Prop} {Q' : Act → World → Prop}
def lightUpon (w:World) (v:Value):Result Next→Prop
 | .ok (.value u) w'=>w'=w∧u=v
 | .ok .skip w'=>w'=w∧v=undef
 | _=>False
/-- The operation yields v in each world of S and leaves it; or it isn't wanted. -/
def Lit (P:Program) (ops:Array Oper) (S:World→Prop) (o:Oper) (v:Value) (a:Act):Prop :=
 (Region.wanted o (yielded ops a.tmps)=true∧∀ w,S w→lightUpon w v ((execOp a.eval o).run P w)) ∨
 (Region.wanted o (yielded ops a.tmps)=false∧v=undef)
theorem lightUpon_unique {w:World} {v u:Value} {r:Result Next} (h:lightUpon w v r) (h2:lightUpon w u r):v=u:=by
 cases r with
 | ok n w'=>
  cases n <;> simp only [lightUpon] at h h2
  case value x=>exact h.2.symm.trans h2.2
  case skip=>exact h.2.trans h2.2.symm
 | halt x w'=>simp only [lightUpon] at h
theorem Lit.unique {o:Oper} {v u:Value} {a:Act} {w:World} (hw:S w) (h:Lit P ops S o v a) (h2:Lit P ops S o u a):v=u:=by
 rcases h with ⟨h,h1⟩ | ⟨h,rfl⟩ <;> rcases h2 with ⟨k,k1⟩ | ⟨k,rfl⟩
 ·exact lightUpon_unique (h1 w hw) (k1 w hw)
 ·rw [h] at k; cases k
 ·rw [h] at k; cases k
 ·rfl
theorem Lit.put {o:Oper} {v x:Value} {a:Act} {d:Option Tmp} (hs:∀ cs b,o.op≠.select cs b) (hd:∀ t,d=some t→t ∉ o.looksAt ops):Lit P ops S o v (a.put d x) ↔ Lit P ops S o v a:=by
 unfold Lit
 rw [execOp_put o hs a d x hd,wanted_put o a d x hd]
def NoWay:Exit→Act→World→Prop:=fun _ _ _=>False
/-- An operation that may turn the world: it comes back, by no panic, defers nothing, and leaves a world of T. -/
def heavyOp (P:Program) (ops:Array Oper) (T:World→Prop) (o:Oper) (K:Act→World→Prop) (a:Act) (w:World):Prop :=
 if Region.wanted o (yielded ops a.tmps) then o.wp P a w (fun a' w'=>a'.defers=a.defers∧T w'∧K a' w') NoWay
 else K (a.put o.dst undef) w
def Any:World→Prop:=fun _=>True
/-- The classes: 0 yields the same in every world; 1 in this one; 3 in the worlds of S; 2 turns the world within S; 4 turns it. -/
def stepX (P:Program) (ops:Array Oper) (S:World→Prop) (c:Nat) (o:Oper) (K:Act→World→Prop) (a:Act) (w:World):Prop :=
 match c with
 | 0=>∃ v,Lit P ops Any o v a∧K (a.put o.dst v) w
 | 1=>∃ v,Lit P ops (·=w) o v a∧K (a.put o.dst v) w
 | 2=>heavyOp P ops S o K a w
 | 3=>∃ v,Lit P ops S o v a∧K (a.put o.dst v) w
 | _+4=>heavyOp P ops Any o K a w
/-- What is known of the world behind an operation: S of it where S was known ahead, or it leaves S. -/
def behind (S:World→Prop) (c:Nat) (w w':World):Prop :=
 match c with
 | 2=>S w'∨w'=w
 | _+4=>True
 | _=>w'=w
theorem put_defers (a:Act) (d:Option Tmp) (v:Value):(a.put d v).defers=a.defers:=by cases d <;> rfl
theorem heavy_mono {o:Oper} {K K':Act→World→Prop} {a:Act} {w:World} (h:∀ a w',S w'∨w'=w→K a w'→K' a w') (hh:heavyOp P ops S o K a w):heavyOp P ops S o K' a w:=by
 unfold heavyOp at *
 split
 ·rename_i hg
  rw [if_pos hg] at hh
  exact Oper.wp_mono (fun a' w' ⟨h1,h2,h3⟩=>⟨h1,h2,h _ _ (.inl h2) h3⟩) hh
 ·rename_i hg
  rw [if_neg hg] at hh
  exact h _ _ (.inr rfl) hh
theorem stepX_mono {c:Nat} {o:Oper} {K K':Act→World→Prop} {a:Act} {w:World} (h:∀ a w',behind S c w w'→K a w'→K' a w') (hh:stepX P ops S c o K a w):stepX P ops S c o K' a w:=by
 match c,h,hh with
 | 0,h,⟨v,h1,h2⟩=>exact ⟨v,h1,h _ _ rfl h2⟩
 | 1,h,⟨v,h1,h2⟩=>exact ⟨v,h1,h _ _ rfl h2⟩
 | 3,h,⟨v,h1,h2⟩=>exact ⟨v,h1,h _ _ rfl h2⟩
 | 2,h,hh=>exact heavy_mono h hh
 | _+4,h,hh=>exact heavy_mono (S:=Any) (fun a w' _ hk=>h a w' trivial hk) hh
/-- It comes back. -/
theorem heavy_ex {o:Oper} {K:Act→World→Prop} {a:Act} {w:World} (hh:heavyOp P ops S o K a w):∃ x w',K (a.put o.dst x) w':=by
 unfold heavyOp at hh
 split at hh
 ·unfold Oper.wp at hh
  generalize (execOp a.eval o).run P w=r at hh
  cases r with
  | ok n w'=>
   cases n <;> simp only [Oper.upon] at hh
   case value u=>exact ⟨u,_,hh.2.2⟩
   case skip=>exact ⟨_,_,hh.2.2⟩
   case defer d=>
    have h:=hh.1
    rw [put_defers] at h
    have:=congrArg List.length h
    simp at this
   case enter f args=>
    obtain ⟨e,w'',fr,hR,_⟩:=hh []
    cases e with
    | returned v=>exact ⟨v,_,hR.2.2⟩
    | panicked ch=>exact hR.elim
    | outgrown=>obtain ⟨_,_,h⟩:=hR; exact h.elim
   case row row args=>
    obtain ⟨v,w'',hR,_⟩:=hh default []
    exact ⟨v,_,hR.2.2⟩
  | halt x w'=>cases x <;> simp only [Oper.upon] at hh <;> exact hh.elim
 ·exact ⟨_,_,hh⟩
theorem stepX_ex {c:Nat} {o:Oper} {K:Act→World→Prop} {a:Act} {w:World} (hh:stepX P ops S c o K a w):∃ x w',K (a.put o.dst x) w':=by
 match c,hh with
 | 0,⟨v,h1,h2⟩=>exact ⟨v,_,h2⟩
 | 1,⟨v,h1,h2⟩=>exact ⟨v,_,h2⟩
 | 3,⟨v,h1,h2⟩=>exact ⟨v,_,h2⟩
 | 2,hh=>exact heavy_ex hh
 | _+4,hh=>exact heavy_ex hh
/-- May the operations of these classes stand in either order? -/
def compat (c d:Nat):Bool:=c == 0 || d == 0 || ((c == 1 || c == 3) && (d == 1 || d == 3)) || (c == 3 && d == 2) || (c == 2 && d == 3)
theorem light_light {Sk Sj:World→Prop} {ok oj:Oper} {K:Act→World→Prop} {a:Act} {w:World} (hap:ok.apart ops oj=true) (hsk:∀ cs b,ok.op≠.select cs b) (hsj:∀ cs b,oj.op≠.select cs b)
  (h:∃ v,Lit P ops Sk ok v a∧∃ u,Lit P ops Sj oj u (a.put ok.dst v)∧K ((a.put ok.dst v).put oj.dst u) w) :
  ∃ u,Lit P ops Sj oj u a∧∃ v,Lit P ops Sk ok v (a.put oj.dst u)∧K ((a.put oj.dst u).put ok.dst v) w:=by
 obtain ⟨h1,h2,h3⟩:=Oper.apart_spec hap
 obtain ⟨v,hv,u,hu,hk⟩:=h
 exact ⟨u,(Lit.put hsj h1).1 hu,v,(Lit.put hsk h3).2 hv,by rw [← Act.put_comm a v u h2]; exact hk⟩
theorem light_heavy {Sk T:World→Prop} {ok oj:Oper} {K:Act→World→Prop} {a:Act} {w:World} (hap:ok.apart ops oj=true) (hsk:∀ cs b,ok.op≠.select cs b) (hsj:∀ cs b,oj.op≠.select cs b)
  (h:∃ v,Lit P ops Sk ok v a∧heavyOp P ops T oj K (a.put ok.dst v) w) :
  heavyOp P ops T oj (fun a' w'=>∃ v,Lit P ops Sk ok v a'∧K (a'.put ok.dst v) w') a w:=by
 obtain ⟨h1,h2,h3⟩:=Oper.apart_spec hap
 obtain ⟨v,hv,h⟩:=h
 have keep:∀ u,Lit P ops Sk ok v (a.put oj.dst u):=fun u=>(Lit.put hsk h3).2 hv
 unfold heavyOp at *
 rw [wanted_put oj a ok.dst v h1] at h
 split
 ·rename_i hg
  rw [if_pos hg] at h
  unfold Oper.wp at *
  rw [execOp_put oj hsj a ok.dst v h1] at h
  generalize (execOp a.eval oj).run P w=r at *
  cases r with
  | ok n w'=>
   cases n <;> simp only [Oper.upon] at h ⊢
   case value u=>exact ⟨put_defers _ _ _,h.2.1,v,keep u,by rw [← Act.put_comm a v u h2]; exact h.2.2⟩
   case skip=>exact ⟨put_defers _ _ _,h.2.1,v,keep _,by rw [← Act.put_comm a v undef h2]; exact h.2.2⟩
   case defer d=>
    have h':=h.1
    rw [put_defers,put_defers] at h'
    have:=congrArg List.length h'
    simp [put_defers] at this
   case enter f args=>
    refine Calls.mono h fun e w'' he=>?_
    cases e with
    | returned u=>exact ⟨put_defers _ _ _,he.2.1,v,keep u,by rw [← Act.put_comm a v u h2]; exact he.2.2⟩
    | panicked ch=>exact he.elim
    | outgrown=>exact he
   case row row args=>
    refine Rows.mono h fun u w'' he=>?_
    exact ⟨put_defers _ _ _,he.2.1,v,keep u,by rw [← Act.put_comm a v u h2]; exact he.2.2⟩
  | halt x w'=>cases x <;> simp only [Oper.upon] at h ⊢ <;> exact h
 ·rename_i hg
  rw [if_neg hg] at h
  exact ⟨v,keep _,by rw [← Act.put_comm a v undef h2]; exact h⟩
theorem heavy_light {Sj T:World→Prop} {ok oj:Oper} {K:Act→World→Prop} {a:Act} {w:World} (hw:Sj w) (hap:ok.apart ops oj=true) (hsk:∀ cs b,ok.op≠.select cs b) (hsj:∀ cs b,oj.op≠.select cs b)
  (h:heavyOp P ops T ok (fun a' w'=>∃ u,Lit P ops Sj oj u a'∧K (a'.put oj.dst u) w') a w) :
  ∃ u,Lit P ops Sj oj u a∧heavyOp P ops T ok K (a.put oj.dst u) w:=by
 obtain ⟨h1,h2,h3⟩:=Oper.apart_spec hap
 obtain ⟨x,w1,u,hu,_⟩:=heavy_ex h
 have hu':Lit P ops Sj oj u a:=(Lit.put hsj h1).1 hu
 refine ⟨u,hu',?_⟩
 have same:∀ y u',Lit P ops Sj oj u' (a.put ok.dst y)→u'=u:=fun y u' h'=>Lit.unique hw ((Lit.put hsj h1).1 h') hu'
 have go:∀ y w',(∃ u',Lit P ops Sj oj u' (a.put ok.dst y)∧K ((a.put ok.dst y).put oj.dst u') w')→K ((a.put oj.dst u).put ok.dst y) w':=by
  rintro y w' ⟨u',hl,hk⟩
  obtain rfl:=same y u' hl
  rw [← Act.put_comm a y u' h2]; exact hk
 unfold heavyOp at *
 rw [wanted_put ok a oj.dst u h3]
 split
 ·rename_i hg
  rw [if_pos hg] at h
  unfold Oper.wp at *
  rw [execOp_put ok hsk a oj.dst u h3]
  generalize (execOp a.eval ok).run P w=r at *
  cases r with
  | ok n w'=>
   cases n <;> simp only [Oper.upon] at h ⊢
   case value y=>exact ⟨put_defers _ _ _,h.2.1,go y _ h.2.2⟩
   case skip=>exact ⟨put_defers _ _ _,h.2.1,go _ _ h.2.2⟩
   case defer d=>
    have h':=h.1
    rw [put_defers] at h'
    have:=congrArg List.length h'
    simp at this
   case enter f args=>
    refine Calls.mono h fun e w'' he=>?_
    cases e with
    | returned y=>exact ⟨put_defers _ _ _,he.2.1,go y _ he.2.2⟩
    | panicked ch=>exact he.elim
    | outgrown=>exact he
   case row row args=>
    refine Rows.mono h fun y w'' he=>?_
    exact ⟨put_defers _ _ _,he.2.1,go y _ he.2.2⟩
  | halt x w'=>cases x <;> simp only [Oper.upon] at h ⊢ <;> exact h
 ·rename_i hg
  rw [if_neg hg] at h
  exact go _ _ h
theorem stepX_swap {c d:Nat} {ok oj:Oper} {K:Act→World→Prop} {a:Act} {w:World} (hw:d=3→S w) (hc:compat c d=true) (hap:ok.apart ops oj=true) (hsk:∀ cs b,ok.op≠.select cs b) (hsj:∀ cs b,oj.op≠.select cs b)
  (h:stepX P ops S c ok (fun a' w'=>stepX P ops S d oj K a' w') a w):stepX P ops S d oj (fun a' w'=>stepX P ops S c ok K a' w') a w:=by
 match c,d,hw,hc,h with
 | 0,0,_,_,h=>exact light_light hap hsk hsj h
 | 0,1,_,_,h=>exact light_light hap hsk hsj h
 | 0,3,_,_,h=>exact light_light hap hsk hsj h
 | 1,0,_,_,h=>exact light_light hap hsk hsj h
 | 1,1,_,_,h=>exact light_light hap hsk hsj h
 | 1,3,_,_,h=>exact light_light hap hsk hsj h
 | 3,0,_,_,h=>exact light_light hap hsk hsj h
 | 3,1,_,_,h=>exact light_light hap hsk hsj h
 | 3,3,_,_,h=>exact light_light hap hsk hsj h
 | 0,2,_,_,h=>exact light_heavy hap hsk hsj h
 | 0,_+4,_,_,h=>exact light_heavy hap hsk hsj h
 | 3,2,_,_,h=>exact light_heavy hap hsk hsj h
 | 2,0,_,_,h=>exact heavy_light (Sj:=Any) trivial hap hsk hsj h
 | _+4,0,_,_,h=>exact heavy_light (Sj:=Any) trivial hap hsk hsj h
 | 2,3,hw,_,h=>exact heavy_light (hw rfl) hap hsk hsj h
 | 1,2,_,hc,h=>simp [compat] at hc
 | 1,_+4,_,hc,h=>simp [compat] at hc
 | 2,1,_,hc,h=>simp [compat] at hc
 | _+4,1,_,hc,h=>simp [compat] at hc
 | 2,2,_,hc,h=>simp [compat] at hc
 | 2,_+4,_,hc,h=>simp [compat] at hc
 | _+4,2,_,hc,h=>simp [compat] at hc
 | _+4,_+4,_,hc,h=>simp [compat] at hc
 | 3,_+4,_,hc,h=>simp [compat] at hc
 | _+4,3,_,hc,h=>simp [compat] at hc
/-- Whatever order is picked from here on. -/
def wpAnyX (P:Program) (md:Region.Mode) (ops:Array Oper) (S:World→Prop) (cls:Nat→Nat) (Q':Act→World→Prop):Nat→Array Bool→Act→World→Prop
 | 0,listed,a,w=>Region.ready md ops listed=[]∧Q' a w
 | fuel+1,listed,a,w=>
  (Region.ready md ops listed=[]→Q' a w) ∧
  ∀ i∈Region.ready md ops listed,∀ o,ops[i]?=some o→stepX P ops S (cls i) o (wpAnyX P md ops S cls Q' fuel (listed.setIfInBounds i true)) a w
theorem wpOp_of_stepX {c i:Nat} {o:Oper} {K K':Act→World→Prop} {Q:Exit→Act→World→Prop} {a:Act} {w:World} (hi:ops[i]?=some o) (hw:c=3→S w) (h:∀ a w',behind S c w w'→K a w'→K' a w')
  (hh:stepX P ops S c o K a w):wpOp P ops Q i K' a w:=by
 have light:∀ {T:World→Prop},T w→(∀ a,K a w→K' a w)→(∃ v,Lit P ops T o v a∧K (a.put o.dst v) w)→wpOp P ops Q i K' a w:=by
  rintro T hT h ⟨v,hv,hk⟩
  unfold wpOp
  simp only [hi]
  rcases hv with ⟨hg,hl⟩ | ⟨hg,rfl⟩
  ·rw [if_pos hg]
   left
   unfold Oper.wp
   have:=hl w hT
   generalize (execOp a.eval o).run P w=r at *
   cases r with
   | ok n w'=>
    cases n <;> simp only [lightUpon] at this <;> simp only [Oper.upon]
    case value u=>obtain ⟨rfl,rfl⟩:=this; exact h _ hk
    case skip=>obtain ⟨rfl,rfl⟩:=this; exact h _ hk
   | halt x w'=>simp only [lightUpon] at this
  ·rw [if_neg (by simp [hg])]
   exact h _ hk
 have heavy:∀ {T:World→Prop},(∀ a w',T w'∨w'=w→K a w'→K' a w')→heavyOp P ops T o K a w→wpOp P ops Q i K' a w:=by
  intro T h hh
  simp only [heavyOp] at hh
  unfold wpOp
  simp only [hi]
  split
  ·rename_i hg
   rw [if_pos hg] at hh
   left
   unfold Oper.wp at *
   generalize (execOp a.eval o).run P w=r at *
   cases r with
   | ok n w'=>
    cases n <;> simp only [Oper.upon] at hh ⊢
    case enter f args=>
     refine Calls.mono hh fun e w'' he=>?_
     cases e with
     | returned y=>exact h _ _ (.inl he.2.1) he.2.2
     | panicked ch=>exact he.elim
     | outgrown=>obtain ⟨_,_,h⟩:=he; exact h.elim
    case row row args=>exact Rows.mono hh fun y w'' he=>h _ _ (.inl he.2.1) he.2.2
    all_goals exact h _ _ (.inl hh.2.1) hh.2.2
   | halt x w'=>cases x <;> simp only [Oper.upon] at hh ⊢ <;> exact hh.elim
  ·rename_i hg
   rw [if_neg hg] at hh
   exact h _ _ (.inr rfl) hh
 match c,hw,h,hh with
 | 0,_,h,hh=>exact light (T:=Any) trivial (fun a hk=>h a w rfl hk) hh
 | 1,_,h,hh=>exact light (T:=(·=w)) rfl (fun a hk=>h a w rfl hk) hh
 | 3,hw,h,hh=>exact light (hw rfl) (fun a hk=>h a w rfl hk) hh
 | 2,_,h,hh=>exact heavy h hh
 | _+4,_,h,hh=>exact heavy (T:=Any) (fun a w' _ hk=>h a w' trivial hk) hh
/-- j comes behind k in every order. -/
inductive Anc (md:Region.Mode) (ops:Array Oper):Nat→Nat→Prop
 | direct {j:Nat} {o:Oper} {e:Edge}:ops[j]?=some o→e∈o.after→Region.binds md e=true→Anc md ops j e.on
 | step {j k:Nat} {o:Oper} {e:Edge}:ops[j]?=some o→e∈o.after→Region.binds md e=true→Anc md ops e.on k→Anc md ops j k
def Shut (md:Region.Mode) (ops:Array Oper) (listed:Array Bool):Prop :=
 ∀ j oj,ops[j]?=some oj→listed.getD j false=true→∀ e∈oj.after,Region.binds md e=true→listed.getD e.on false=true
theorem Shut.anc {listed:Array Bool} (hs:Shut md ops listed) {j k:Nat} (h:Anc md ops j k):(∀ oj,ops[j]?=some oj→∀ e∈oj.after,Region.binds md e=true→listed.getD e.on false=true)→listed.getD k false=true:=by
 induction h with
 | direct ho he hb=>exact fun hp=>hp _ ho _ he hb
 | step ho he hb _ ih=>exact fun hp=>ih fun oj hj e' he' hb'=>hs _ oj hj (hp _ ho _ he hb) e' he' hb'
theorem Shut.set {listed:Array Bool} (hs:Shut md ops listed) {i:Nat} (hi:i∈Region.ready md ops listed):Shut md ops (listed.setIfInBounds i true):=by
 obtain ⟨_,oi,hoi,hall⟩:=mem_ready.1 hi
 intro j oj hj hl e he hb
 by_cases hij:i=j
 ·subst hij
  have:oj=oi:=Option.some.inj (hj.symm.trans hoi)
  subst this
  exact getD_set_true (hall e he hb)
 ·rw [getD_set_ne false hij] at hl
  exact getD_set_true (hs j oj hj hl e he hb)
theorem getD_both' {listed:Array Bool} {i:Nat} (h:listed.getD i true=false):listed.getD i false=false:=by
 rcases Nat.lt_or_ge i listed.size with h' | h'
 ·simp [h'] at h ⊢; exact h
 ·simp [Array.getElem?_eq_none h'] at h
/-- While one that floats is to come, S holds. -/
def Floats (S:World→Prop) (cls:Nat→Nat) (ops:Array Oper) (listed:Array Bool) (w:World):Prop:=(∃ f,f < ops.size∧cls f=3∧listed.getD f false=false)→S w
/-- What no operation of S leaves comes behind all that float. -/
def Late (md:Region.Mode) (cls:Nat→Nat) (ops:Array Oper):Prop:=∀ j,j < ops.size→4≤cls j→∀ f,f < ops.size→cls f=3→Anc md ops j f
theorem Floats.behind {cls:Nat→Nat} {listed:Array Bool} {w w':World} {j:Nat} (hl:Late md cls ops) (hs:Shut md ops listed) (hj:j∈Region.ready md ops listed) (hf:Floats S cls ops listed w) (hb:behind S (cls j) w w'):Floats S cls ops (listed.setIfInBounds j true) w':=by
 rintro ⟨f,hlt,hc,hu⟩
 obtain ⟨hun,oj,hoj,hall⟩:=mem_ready.1 hj
 have hjlt:=(Array.getElem?_eq_some_iff.1 hoj).1
 have hu':listed.getD f false=false:=by
  by_cases e:j=f
  ·subst e
   cases h:listed.getD j false with
   | false=>rfl
   | true=>rw [getD_set_true h] at hu; cases hu
  ·rwa [getD_set_ne false e] at hu
 have hS:S w:=hf ⟨f,hlt,hc,hu'⟩
 by_cases h4:4≤cls j
 ·have:=hs.anc (hl j hjlt h4 f hlt hc) (fun o ho e he hbb=>by
   have:o=oj:=Option.some.inj (ho.symm.trans hoj)
   subst this
   exact hall e he hbb)
  rw [this] at hu'
  cases hu'
 ·generalize cls j=c at *
  match c,hb with
  | 0,hb=>exact hb ▸ hS
  | 1,hb=>exact hb ▸ hS
  | 3,hb=>exact hb ▸ hS
  | 2,hb=>exact hb.elim id (fun e=>e ▸ hS)
  | c+4,_=>omega
theorem wpAny_of_X {cls:Nat→Nat} {Q:Exit→Act→World→Prop} (hQ:∀ a w,Q' a w→Q .normal a w) (hl:Late md cls ops):∀ (fuel:Nat) (listed:Array Bool) (a:Act) (w:World),Shut md ops listed→Floats S cls ops listed w →
  wpAnyX P md ops S cls Q' fuel listed a w→wpAny P md ops Q fuel listed a w
 | 0,_,_,_,_,_,h=>⟨h.1,hQ _ _ h.2⟩
 | fuel+1,listed,a,w,hs,hf,h=>⟨fun h0=>hQ _ _ (h.1 h0),fun i hi=>by
   obtain ⟨hun,o,ho,_⟩:=mem_ready.1 hi
   exact wpOp_of_stepX ho (fun hc=>hf ⟨i,(Array.getElem?_eq_some_iff.1 ho).1,hc,getD_both' hun⟩)
    (fun a w' hb h=>wpAny_of_X hQ hl fuel _ a w' (hs.set hi) (hf.behind hl hs hi hb) h) (h.2 i hi o ho)⟩
theorem firstX {cls:Nat→Nat} {k:Nat} {ok:Oper} (hl:Late md cls ops) (hk:ops[k]?=some ok) (hsel:∀ (j:Nat) (o:Oper) cs b,ops[j]?=some o→o.op≠.select cs b) :
  ∀ (fuel:Nat) (listed:Array Bool) (a:Act) (w:World),Shut md ops listed→Floats S cls ops listed w →
   (∀ j oj,ops[j]?=some oj→j≠k→listed.getD j true=false→¬ Anc md ops j k→ok.apart ops oj=true∧compat (cls k) (cls j)=true) →
   k∈Region.ready md ops listed →
   stepX P ops S (cls k) ok (wpAnyX P md ops S cls Q' fuel (listed.setIfInBounds k true)) a w→wpAnyX P md ops S cls Q' (fuel+1) listed a w:=by
 intro fuel
 induction fuel with
 | zero=>
  intro listed a w hsh hw hfree hr H
  refine ⟨fun h=>(by rw [h] at hr; cases hr),fun j hj oj hoj=>?_⟩
  by_cases hjk:j=k
  ·subst hjk
   have:oj=ok:=Option.some.inj (hoj.symm.trans hk)
   subst this
   exact H
  ·obtain ⟨x,w',h,_⟩:=stepX_ex H
   have:=ready_mono hj hjk
   rw [h] at this
   cases this
 | succ fuel ih=>
  intro listed a w hsh hw hfree hr H
  refine ⟨fun h=>(by rw [h] at hr; cases hr),fun j hj oj hoj=>?_⟩
  by_cases hjk:j=k
  ·subst hjk
   have:oj=ok:=Option.some.inj (hoj.symm.trans hk)
   subst this
   exact H
  ·obtain ⟨hjun,oj',hoj',hall⟩:=mem_ready.1 hj
   have:oj'=oj:=Option.some.inj (hoj'.symm.trans hoj)
   subst this
   have hkun:=(mem_ready.1 hr).1
   have hnot:¬ Anc md ops j k:=fun han=>by
    have h1:=hsh.anc han (fun o ho e he hb=>by
     have:o=oj':=Option.some.inj (ho.symm.trans hoj)
     subst this
     exact hall e he hb)
    rw [getD_both' hkun] at h1
    cases h1
   obtain ⟨hap,hc⟩:=hfree j oj' hoj hjk hjun hnot
   have H1:stepX P ops S (cls k) ok (fun a' w'=>stepX P ops S (cls j) oj' (wpAnyX P md ops S cls Q' fuel ((listed.setIfInBounds k true).setIfInBounds j true)) a' w') a w :=
    stepX_mono (fun a' w' _ h=>h.2 j (ready_mono hj hjk) oj' hoj) H
   have H2:=stepX_swap (fun h3=>hw ⟨j,(Array.getElem?_eq_some_iff.1 hoj).1,h3,getD_both' hjun⟩) hc hap (fun cs b=>hsel k ok cs b hk) (fun cs b=>hsel j oj' cs b hoj) H1
   refine stepX_mono (fun a' w' hb h=>ih (listed.setIfInBounds j true) a' w' (hsh.set hj) (hw.behind hl hsh hj hb) ?_ (ready_mono hr (Ne.symm hjk)) ?_) H2
   ·intro i oi hoi hik hun hno
    refine hfree i oi hoi hik ?_ hno
    by_cases hji:j=i
    ·subst hji; exact hjun
    ·rw [getD_set_ne true hji] at hun; exact hun
   ·rw [Array.setIfInBounds_comm _ _ hjk]
    exact h
/-- THE WALK IN THE TEXT's ORDER. -/
def wpX (P:Program) (ops:Array Oper) (S:World→Prop) (Q':Act→World→Prop):List (Nat×Oper)→Act→World→Prop
 | [],a,w=>Q' a w
 | (c,o) :: rest,a,w=>stepX P ops S c o (wpX P ops S Q' rest) a w
/-- The ancestors of each operation. -/
def ancs (md:Region.Mode):List Oper→List (List Nat)→List (List Nat)
 | [],acc=>acc
 | o :: r,acc=>ancs md r (acc ++ [((o.after.toList.filter (Region.binds md)).flatMap fun e=>e.on :: acc.getD e.on []).eraseDups])
def AccOk (md:Region.Mode) (ops:Array Oper) (acc:List (List Nat)):Prop:=∀ (j:Nat) (l:List Nat),acc[j]?=some l→∀ k∈l,Anc md ops j k
theorem mem_eraseDups' {l:List Nat} {k:Nat} (h:k∈l.eraseDups):k∈l:=by simpa using h
theorem ancs_ok:∀ (l:List Oper) (acc:List (List Nat)),(∀ j,l[j]?=ops[acc.length+j]?)→AccOk md ops acc→AccOk md ops (ancs md l acc)
 | [],acc,_,h=>h
 | o :: r,acc,hl,h=>by
  refine ancs_ok r _ (fun j=>?_) ?_
  ·have:=hl (j+1)
   simpa [Nat.add_assoc,Nat.add_comm 1 j] using this
  ·intro j l hj k hk
   rcases Nat.lt_or_ge j acc.length with hlt | hge
   ·rw [List.getElem?_append_left hlt] at hj
    exact h j l hj k hk
   ·rw [List.getElem?_append_right hge] at hj
    have hj0:j - acc.length=0:=by
     rcases Nat.eq_zero_or_pos (j - acc.length) with h0 | h0
     ·exact h0
     ·rw [List.getElem?_eq_none (by simp only [List.length_cons,List.length_nil]; omega)] at hj; cases hj
    have hje:j=acc.length:=by omega
    subst hje
    simp only [Nat.sub_self,List.getElem?_cons_zero,Option.some.injEq] at hj
    subst hj
    have ho:ops[acc.length]?=some o:=by have:=hl 0; simpa using this.symm
    have hk':=mem_eraseDups' hk
    obtain ⟨e,he,hke⟩:=List.mem_flatMap.1 hk'
    obtain ⟨he1,he2⟩:=List.mem_filter.1 he
    have he1':e∈o.after:=by simpa using he1
    rcases List.mem_cons.1 hke with rfl | hke
    ·exact .direct ho he1' he2
    ·cases ha:acc[e.on]? with
     | none=>rw [List.getD,ha] at hke; cases hke
     | some l'=>
      rw [List.getD,ha] at hke
      exact .step ho he1' he2 (h _ _ ha _ hke)
def noSelect:Op→Bool
 | .select ..=>false
 | _=>true
def pairsB (A:List (List Nat)) (ops:Array Oper) (cls:List Nat) (k:Nat) (ok:Oper):Nat→List Oper→Bool
 | _,[]=>true
 | j,o :: r=>((A.getD j []).contains k || (ok.apart ops o && compat (cls.getD k 2) (cls.getD j 2))) && pairsB A ops cls k ok (j+1) r
def lexB (md:Region.Mode) (A:List (List Nat)) (ops:Array Oper) (cls:List Nat):Nat→List Oper→Bool
 | _,[]=>true
 | k,o :: r=>noSelect o.op && (o.after.all fun e=>!Region.binds md e || decide (e.on < k)) && pairsB A ops cls k o (k+1) r && lexB md A ops cls (k+1) r
/-- What leaves S comes behind all that float. -/
def lateB (A:List (List Nat)) (cls:List Nat):Bool :=
 (List.range cls.length).all fun j=>decide (cls.getD j 2 < 4) || (List.range cls.length).all fun f=>cls.getD f 2 != 3 || (A.getD j []).contains f
theorem lateB_spec {A:List (List Nat)} {cls:List Nat} (hA:AccOk md ops A) (hl:cls.length=ops.size) (h:lateB A cls=true):Late md (fun i=>cls.getD i 2) ops:=by
 intro j hj h4 f hf h3
 have h1:=List.all_eq_true.1 h j (List.mem_range.2 (by omega))
 simp only [Bool.or_eq_true,decide_eq_true_eq] at h1
 rcases h1 with h1 | h1
 ·simp only at h4; omega
 ·have h2:=List.all_eq_true.1 h1 f (List.mem_range.2 (by omega))
  simp only [Bool.or_eq_true,bne_iff_ne,ne_eq] at h2
  rcases h2 with h2 | h2
  ·exact absurd h3 h2
  ·cases hAj:A[j]? with
   | none=>simp [List.getD,hAj] at h2
   | some lj=>
    rw [List.getD,hAj] at h2
    exact hA j lj hAj f (by simpa using h2)
theorem pairsB_spec {A:List (List Nat)} {cls:List Nat} {k:Nat} {ok:Oper}:∀ (l:List Oper) (j0:Nat),(∀ j,l[j]?=ops[j0+j]?)→pairsB A ops cls k ok j0 l=true →
  ∀ j oj,j0≤j→ops[j]?=some oj→(A.getD j []).contains k=true∨(ok.apart ops oj=true∧compat (cls.getD k 2) (cls.getD j 2)=true)
 | [],j0,hl,_,j,oj,hj,ho=>by
  have:=hl (j - j0)
  rw [show j0+(j - j0)=j by omega,ho] at this
  cases this
 | o :: r,j0,hl,h,j,oj,hj,ho=>by
  simp only [pairsB,Bool.and_eq_true,Bool.or_eq_true] at h
  by_cases e:j=j0
  ·subst e
   have h0:=hl 0
   simp only [List.getElem?_cons_zero,Nat.add_zero,ho,Option.some.injEq] at h0
   subst h0
   exact h.1
  ·exact pairsB_spec r (j0+1) (fun i=>by have:=hl (i+1); simpa [Nat.add_assoc,Nat.add_comm 1 i] using this) h.2 j oj (by omega) ho
theorem lexB_spec {A:List (List Nat)} {cls:List Nat}:∀ (l:List Oper) (k0:Nat),(∀ j,l[j]?=ops[k0+j]?)→lexB md A ops cls k0 l=true →
  ∀ k ok,k0≤k→ops[k]?=some ok→(∀ cs b,ok.op≠.select cs b)∧(∀ e∈ok.after,Region.binds md e=true→e.on < k) ∧
   ∀ j oj,k < j→ops[j]?=some oj→(A.getD j []).contains k=true∨(ok.apart ops oj=true∧compat (cls.getD k 2) (cls.getD j 2)=true)
 | [],k0,hl,_,k,ok,hk,ho=>by
  have:=hl (k - k0)
  rw [show k0+(k - k0)=k by omega,ho] at this
  cases this
 | o :: r,k0,hl,h,k,ok,hk,ho=>by
  simp only [lexB,Bool.and_eq_true] at h
  have hl':∀ i,r[i]?=ops[k0+1+i]?:=fun i=>by have:=hl (i+1); simpa [Nat.add_assoc,Nat.add_comm 1 i] using this
  by_cases e:k=k0
  ·subst e
   have h0:=hl 0
   simp only [List.getElem?_cons_zero,Nat.add_zero,ho,Option.some.injEq] at h0
   subst h0
   refine ⟨fun cs b hs=>?_,fun e he hb=>?_,fun j oj hj hoj=>pairsB_spec r (k+1) hl' h.1.2 j oj (by omega) hoj⟩
   ·have:=h.1.1.1
    rw [hs] at this
    cases this
   ·have:=Array.all_eq_true'.1 h.1.1.2 e he
    simpa [hb] using this
  ·exact lexB_spec r (k0+1) hl' h.2 k ok (by omega) ho
theorem anyX_of_lex {A:List (List Nat)} {cls:List Nat} (hA:AccOk md ops A) (hL:Late md (fun i=>cls.getD i 2) ops) (hB:lexB md A ops cls 0 ops.toList=true) :
  ∀ (n k:Nat) (listed:Array Bool) (l:List Oper) (cl:List Nat) (a:Act) (w:World),l.length=n→k+n=ops.size→(∀ j,l[j]?=ops[k+j]?)→(∀ j,cl[j]?=cls[k+j]?)→cl.length=n →
   listed.size=ops.size→(∀ j,j < ops.size→listed.getD j false=decide (j < k))→Floats S (fun i=>cls.getD i 2) ops listed w →
   wpX P ops S Q' (cl.zip l) a w→wpAnyX P md ops S (fun i=>cls.getD i 2) Q' n listed a w:=by
 have spec:=lexB_spec (ops:=ops) ops.toList 0 (by simp) hB
 intro n
 induction n with
 | zero=>
  intro k listed l cl a w hn hk hl hcl hcn hsz hlist hw h
  have hl0:l=[]:=List.eq_nil_of_length_eq_zero hn
  have hc0:cl=[]:=List.eq_nil_of_length_eq_zero hcn
  subst hl0; subst hc0
  refine ⟨?_,h⟩
  cases hr:Region.ready md ops listed with
  | nil=>rfl
  | cons i r=>
   have hi:i∈Region.ready md ops listed:=by rw [hr]; exact List.mem_cons_self
   obtain ⟨hun,o,ho,_⟩:=mem_ready.1 hi
   have hlt:=(Array.getElem?_eq_some_iff.1 ho).1
   have:=getD_both' hun
   rw [hlist i hlt] at this
   simp at this
   omega
 | succ n ih=>
  intro k listed l cl a w hn hk hl hcl hcn hsz hlist hw h
  obtain ⟨o,r,rfl⟩:=List.exists_cons_of_length_eq_add_one hn
  obtain ⟨c,cr,rfl⟩:=List.exists_cons_of_length_eq_add_one hcn
  have ho:ops[k]?=some o:=by have:=hl 0; simpa using this.symm
  have hc:cls.getD k 2=c:=by have:=hcl 0; simp at this; simp [List.getD,← this]
  have hklt:k < ops.size:=by omega
  obtain ⟨hsel,hedge,hpair⟩:=spec k o (Nat.zero_le _) ho
  have hshut:Shut md ops listed:=fun j oj hj hlj e he hb=>by
   have hjlt:=(Array.getElem?_eq_some_iff.1 hj).1
   rw [hlist j hjlt] at hlj
   have:=(spec j oj (Nat.zero_le _) hj).2.1 e he hb
   simp at hlj
   rw [hlist e.on (by omega)]
   simp
   omega
  have hun:listed.getD k true=false:=by
   have h1:=hlist k hklt
   simp [hsz,hklt] at h1 ⊢
   exact h1
  have hready:k∈Region.ready md ops listed:=mem_ready.2 ⟨hun,o,ho,fun e he hb=>by
   have:=hedge e he hb
   rw [hlist e.on (by omega)]
   simp
   exact this⟩
  refine firstX (cls:=fun i=>cls.getD i 2) hL ho (fun j oj cs b hj=>(spec j oj (Nat.zero_le _) hj).1 cs b) n listed a w hshut hw ?_ hready ?_
  ·intro j oj hj hne hjun hno
   have hjlt:=(Array.getElem?_eq_some_iff.1 hj).1
   have h1:=getD_both' hjun
   rw [hlist j hjlt] at h1
   simp at h1
   rcases hpair j oj (by omega) hj with h2 | h2
   ·exfalso
    cases hAj:A[j]? with
    | none=>simp [List.getD,hAj] at h2
    | some lj=>
     rw [List.getD,hAj] at h2
     exact hno (hA j lj hAj k (by simpa using h2))
   ·exact h2
  ·rw [hc]
   simp only [List.zip_cons_cons,wpX] at h
   refine stepX_mono (fun a' w' hb' h'=>ih (k+1) _ r cr a' w' (by simpa using hn) (by omega) (fun j=>by have:=hl (j+1); simpa [Nat.add_assoc,Nat.add_comm 1 j] using this)
    (fun j=>by have:=hcl (j+1); simpa [Nat.add_assoc,Nat.add_comm 1 j] using this) (by simpa using hcn) (by simpa using hsz) ?_ (hw.behind hL hshut hready (by rw [hc]; exact hb')) h') h
   intro j hj
   by_cases e:k=j
   ·subst e
    simp [hsz,hklt]
   ·rw [getD_set_ne false e,hlist j hj]
    simp
    omega
/-- A REGION THAT DRAWS ITS ORDER, walked in the text's order. -/
theorem wp_region_lex {id:Nat} {l:List Oper} {Q:Exit→Act→World→Prop} {a:Act} {w:World} (S:World→Prop) (cls:List Nat) (hm:P.follows .mixedOrders=true) (hlen:cls.length=l.length)
  (hB:(lateB (ancs .any l []) cls && lexB .any (ancs .any l []) l.toArray cls 0 l)=true) (hS:S w.drew)
  (h:∀ Q':Act→World→Prop,(∀ a w,Q .normal a w→Q' a w)→wpX P l.toArray S Q' (cls.zip l) a w.drew):(Code.region id l.toArray true).wp P Q a w:=by
 simp only [Bool.and_eq_true] at hB
 refine wp_region_any hm ?_
 have hA:AccOk .any l.toArray (ancs .any l []):=ancs_ok l [] (by simp) (fun j l h=>by cases h)
 have hL:Late .any (fun i=>cls.getD i 2) l.toArray:=lateB_spec hA (by simpa using hlen) hB.1
 have hsh:Shut .any l.toArray (Array.replicate l.toArray.size false):=fun j oj hj hl=>by
  have h0:(Array.replicate l.toArray.size false).getD j false=false:=by
   rw [Array.getD_eq_getD_getElem?,Array.getElem?_replicate]
   split <;> rfl
  rw [h0] at hl
  cases hl
 refine wpAny_of_X (S:=S) (Q':=fun a w=>Q .normal a w) (cls:=fun i=>cls.getD i 2) (fun _ _ h=>h) hL _ _ a _ hsh (fun _=>hS) ?_
 have:=anyX_of_lex (P:=P) (S:=S) (Q':=fun a w=>Q .normal a w) hA hL hB.2 l.toArray.size 0 (Array.replicate l.toArray.size false) l cls a w.drew (by simp) (by simp) (by simp) (by simp) (by simpa using hlen) (by simp)
  (fun j hj=>by simp at hj; simp [hj]) (fun _=>hS) (h _ (fun _ _ h=>h))
 exact this
end
end Go.Proofs.YtogkkfdkeefjnaaGreatDoorLex2
namespace Go.Proofs.YtogkkfdkeefjnaaGreatDoorLex2
section
variable {P : Program} {ops : Array Oper} {S : World → Prop} {Q' : Act → World → Prop} {a : Act} {w : World} {o : Oper} {rest : List (Nat × Oper)}
theorem wpX_nil (h:Q' a w):wpX P ops S Q' [] a w:=h
section
variable {c : Nat}
theorem wpX_silent (hg:Region.wanted o (yielded ops a.tmps)=true)
  (h:∀ K:Act→World→Prop,(∀ a w,wpX P ops S Q' rest a w→K a w)→∃ v,(∀ w',lightUpon w' v ((execOp a.eval o).run P w'))∧K (a.put o.dst v) w):wpX P ops S Q' ((0,o) :: rest) a w:=by
 obtain ⟨v,h1,h2⟩:=h _ (fun _ _ h=>h)
 exact ⟨v,.inl ⟨hg,fun w' _=>h1 w'⟩,h2⟩
theorem wpX_read (hg:Region.wanted o (yielded ops a.tmps)=true)
  (h:∀ K:Act→World→Prop,(∀ a w,wpX P ops S Q' rest a w→K a w)→∃ v,lightUpon w v ((execOp a.eval o).run P w)∧K (a.put o.dst v) w):wpX P ops S Q' ((1,o) :: rest) a w:=by
 obtain ⟨v,h1,h2⟩:=h _ (fun _ _ h=>h)
 exact ⟨v,.inl ⟨hg,fun w' hw'=>by cases hw'; exact h1⟩,h2⟩
theorem wpX_float (hg:Region.wanted o (yielded ops a.tmps)=true)
  (h:∀ K:Act→World→Prop,(∀ a w,wpX P ops S Q' rest a w→K a w)→∃ v,(∀ w',S w'→lightUpon w' v ((execOp a.eval o).run P w'))∧K (a.put o.dst v) w):wpX P ops S Q' ((3,o) :: rest) a w:=by
 obtain ⟨v,h1,h2⟩:=h _ (fun _ _ h=>h)
 exact ⟨v,.inl ⟨hg,h1⟩,h2⟩
theorem wpX_keeps (hg:Region.wanted o (yielded ops a.tmps)=true)
  (h:∀ K:Act→World→Prop,(∀ a' w',(a'.defers=a.defers∧S w'∧wpX P ops S Q' rest a' w')→K a' w')→o.wp P a w K NoWay):wpX P ops S Q' ((2,o) :: rest) a w:=by
 show heavyOp P ops S o _ a w
 unfold heavyOp
 rw [if_pos hg]
 exact h _ (fun _ _ h=>h)
theorem wpX_heavy (hg:Region.wanted o (yielded ops a.tmps)=true)
  (h:∀ K:Act→World→Prop,(∀ a' w',(a'.defers=a.defers∧wpX P ops S Q' rest a' w')→K a' w')→o.wp P a w K NoWay):wpX P ops S Q' ((4,o) :: rest) a w:=by
 show heavyOp P ops Any o _ a w
 unfold heavyOp
 rw [if_pos hg]
 exact Oper.wp_mono (fun a' w' ⟨h1,h2⟩=>⟨h1,trivial,h2⟩) (h _ (fun _ _ h=>h))
/-- A guarded operation that isn't wanted. -/
theorem wpX_not (hg:Region.wanted o (yielded ops a.tmps)=false)
  (h:∀ K:Act→World→Prop,(∀ a w,wpX P ops S Q' rest a w→K a w)→K (a.put o.dst undef) w):wpX P ops S Q' ((c,o) :: rest) a w:=by
 have h:=h _ (fun _ _ h=>h)
 have heavy:∀ T:World→Prop,heavyOp P ops T o (wpX P ops S Q' rest) a w:=fun T=>by
  unfold heavyOp
  rw [if_neg (by simp [hg])]
  exact h
 match c with
 | 0=>exact ⟨undef,.inr ⟨hg,rfl⟩,h⟩
 | 1=>exact ⟨undef,.inr ⟨hg,rfl⟩,h⟩
 | 3=>exact ⟨undef,.inr ⟨hg,rfl⟩,h⟩
 | 2=>exact heavy S
 | _+4=>exact heavy Any
end
end
end Go.Proofs.YtogkkfdkeefjnaaGreatDoorLex2
namespace Go.Proofs.YtogkkfdkeefjnaaGreatDoorLex2
set_option linter.unusedVariables false
set_option maxRecDepth 100000
set_option linter.unusedSimpArgs false
/-- The operations of a list of places, with their classes. -/
def pick (zl:List (Nat×Oper)) (idx:List Nat):List (Nat×Oper):=idx.filterMap (zl[·]?)
section
variable {P : Program} {md : Region.Mode} {S : World → Prop} {Q' : Act → World → Prop}
/-- k may come first: what it needs is done, and it commutes with all that is to come and doesn't need it. -/
def headB (md:Region.Mode) (A:List (List Nat)) (ops:Array Oper) (cls:List Nat) (done:List Nat) (k:Nat) (rest:List Nat):Bool :=
 match ops[k]? with
 | none=>false
 | some o=>noSelect o.op && !(done.contains k) && (o.after.all fun e=>!Region.binds md e || (done.contains e.on && decide (e.on < ops.size))) &&
   rest.all fun j=>j != k && ((A.getD j []).contains k || (match ops[j]? with | none=>false | some oj=>noSelect oj.op && o.apart ops oj && compat (cls.getD k 2) (cls.getD j 2)))
/-- Just what is in 'done' is listed. -/
def Done (ops:Array Oper) (done:List Nat) (listed:Array Bool):Prop:=listed.size=ops.size∧∀ j,j < ops.size→listed.getD j false=decide (j∈done)
def Covers (ops:Array Oper) (done idx:List Nat):Prop:=(∀ j,j < ops.size→j∈done∨j∈idx)∧∀ j∈idx,j < ops.size
theorem Done.add {ops:Array Oper} {done:List Nat} {listed:Array Bool} (h:Done ops done listed) {k:Nat} (hk:k < ops.size):Done ops (k :: done) (listed.setIfInBounds k true):=by
 refine ⟨by simpa using h.1,fun j hj=>?_⟩
 by_cases e:k=j
 ·subst e
  simp [h.1,hk]
 ·rw [getD_set_ne false e,h.2 j hj]
  simp [Ne.symm e]
variable {ops : Array Oper} {A : List (List Nat)} {cls : List Nat}
theorem run_head (hA:AccOk md ops A) (hL:Late md (fun i=>cls.getD i 2) ops) (hns:∀ (j:Nat) (o:Oper) cs b,ops[j]?=some o→o.op≠.select cs b) {done rest:List Nat} {k:Nat} {listed:Array Bool} {o:Oper} {n:Nat} {a:Act} {w:World} (hk:ops[k]?=some o) (hB:headB md A ops cls done k rest=true) (hd:Done ops done listed) (hc:Covers ops done (k :: rest)) (hsh:Shut md ops listed)
  (hw:Floats S (fun i=>cls.getD i 2) ops listed w) (H:stepX P ops S (cls.getD k 2) o (wpAnyX P md ops S (fun i=>cls.getD i 2) Q' n (listed.setIfInBounds k true)) a w) :
  wpAnyX P md ops S (fun i=>cls.getD i 2) Q' (n+1) listed a w:=by
 have hklt:=(Array.getElem?_eq_some_iff.1 hk).1
 unfold headB at hB
 rw [hk] at hB
 simp only [Bool.and_eq_true] at hB
 obtain ⟨⟨⟨_,hnd⟩,hedge⟩,hpair⟩:=hB
 have hlk:listed.getD k false=false:=by
  rw [hd.2 k hklt]
  simpa using hnd
 have hun:listed.getD k true=false:=by
  have:=hd.1
  simp [this,hklt] at hlk ⊢
  exact hlk
 have hready:k∈Region.ready md ops listed:=mem_ready.2 ⟨hun,o,hk,fun e he hb=>by
  have h1:=Array.all_eq_true'.1 hedge e he
  simp only [hb,Bool.not_true,Bool.false_or,Bool.and_eq_true,decide_eq_true_eq] at h1
  rw [hd.2 e.on h1.2]
  simpa using h1.1⟩
 refine firstX (cls:=fun i=>cls.getD i 2) hL hk hns n listed a w hsh hw ?_ hready H
 intro j oj hj hne hjun hno
 have hjlt:=(Array.getElem?_eq_some_iff.1 hj).1
 have h1:=getD_both' hjun
 rw [hd.2 j hjlt] at h1
 have hj2:j∈rest:=by
  rcases hc.1 j hjlt with h | h
  ·simp [h] at h1
  ·exact (List.mem_cons.1 h).resolve_left hne
 have h2:=List.all_eq_true.1 hpair j hj2
 simp only [Bool.and_eq_true,Bool.or_eq_true] at h2
 rcases h2.2 with h3 | h3
 ·exfalso
  cases hAj:A[j]? with
  | none=>simp [List.getD,hAj] at h3
  | some lj=>
   rw [List.getD,hAj] at h3
   exact hno (hA j lj hAj k (by simpa using h3))
 ·rw [hj] at h3
  simp only [Bool.and_eq_true] at h3
  exact ⟨h3.1.2,h3.2⟩
theorem shut_add {done rest:List Nat} {k:Nat} {listed:Array Bool} {o:Oper} (hk:ops[k]?=some o) (hB:headB md A ops cls done k rest=true) (hd:Done ops done listed) (hsh:Shut md ops listed):Shut md ops (listed.setIfInBounds k true):=by
 have hklt:=(Array.getElem?_eq_some_iff.1 hk).1
 refine hsh.set ?_
 unfold headB at hB
 rw [hk] at hB
 simp only [Bool.and_eq_true] at hB
 obtain ⟨⟨⟨_,hnd⟩,hedge⟩,_⟩:=hB
 have hlk:listed.getD k false=false:=by
  rw [hd.2 k hklt]
  simpa using hnd
 have hun:listed.getD k true=false:=by
  have:=hd.1
  simp [this,hklt] at hlk ⊢
  exact hlk
 exact mem_ready.2 ⟨hun,o,hk,fun e he hb=>by
  have h1:=Array.all_eq_true'.1 hedge e he
  simp only [hb,Bool.not_true,Bool.false_or,Bool.and_eq_true,decide_eq_true_eq] at h1
  rw [hd.2 e.on h1.2]
  simpa using h1.1⟩
theorem ready_of_head {done rest:List Nat} {k:Nat} {listed:Array Bool} {o:Oper} (hk:ops[k]?=some o) (hB:headB md A ops cls done k rest=true) (hd:Done ops done listed):k∈Region.ready md ops listed:=by
 have hklt:=(Array.getElem?_eq_some_iff.1 hk).1
 unfold headB at hB
 rw [hk] at hB
 simp only [Bool.and_eq_true] at hB
 obtain ⟨⟨⟨_,hnd⟩,hedge⟩,_⟩:=hB
 have hlk:listed.getD k false=false:=by
  rw [hd.2 k hklt]
  simpa using hnd
 have hun:listed.getD k true=false:=by
  have:=hd.1
  simp [this,hklt] at hlk ⊢
  exact hlk
 exact mem_ready.2 ⟨hun,o,hk,fun e he hb=>by
  have h1:=Array.all_eq_true'.1 hedge e he
  simp only [hb,Bool.not_true,Bool.false_or,Bool.and_eq_true,decide_eq_true_eq] at h1
  rw [hd.2 e.on h1.2]
  simpa using h1.1⟩
theorem pick_cons {l:List Oper} (hl:cls.length=l.length) {k:Nat} {o:Oper} (hk:l[k]?=some o) (idx:List Nat):pick (cls.zip l) (k :: idx)=(cls.getD k 2,o) :: pick (cls.zip l) idx:=by
 have hlt:=(List.getElem?_eq_some_iff.1 hk).1
 have e:(cls.zip l)[k]?=some (cls.getD k 2,o):=by
  rw [List.getElem?_zip_eq_some]
  refine ⟨?_,hk⟩
  rw [List.getD_eq_getElem?_getD,List.getElem?_eq_getElem (by omega)]
  rfl
 simp [pick,e]
theorem listed_not_ready {i k:Nat} {listed:Array Bool} (hA:AccOk md ops A) (hsh:Shut md ops listed) (hi:i∈Region.ready md ops listed) (hk:(A.getD i []).contains k=true):listed.getD k false=true:=by
 obtain ⟨_,oi,hoi,hall⟩:=mem_ready.1 hi
 cases hAi:A[i]? with
 | none=>simp [List.getD,hAi] at hk
 | some li=>
  rw [List.getD,hAi] at hk
  exact hsh.anc (hA i li hAi k (by simpa using hk)) (fun oj hj e he hb=>by
   have:oj=oi:=Option.some.inj (hj.symm.trans hoi)
   subst this
   exact hall e he hb)
end
section
variable {P : Program}
end
end Go.Proofs.YtogkkfdkeefjnaaGreatDoorLex2
namespace Go.Proofs.YtogkkfdkeefjnaaGreatDoor.Term
open Go.RowKit Go.Proofs.YtogkkfdkeefjnaaGreatDoorBase Go.Proofs.YtogkkfdkeefjnaaGreatDoorLex2
set_option linter.unusedVariables false
set_option maxRecDepth 100000
set_option linter.unusedSimpArgs false
theorem Node.ext_iff' {x y:Node}:x=y ↔ x.kind=y.kind∧x.label=y.label∧x.a=y.a∧x.b=y.b:=⟨fun e=>by subst e; exact ⟨rfl,rfl,rfl,rfl⟩,fun h=>Node.ext' h.1 h.2.1 h.2.2.1 h.2.2.2⟩
def nodeC (n:Node):List Value:=[.int .i64 n.kind,.string n.label,.int .i64 n.a,.int .i64 n.b]
def nodeV (n:Node):Value:=.agg #[.int .i64 n.kind,.string n.label,.int .i64 n.a,.int .i64 n.b]
def entryOf (n:Node) (i:Nat):MapEntry:=⟨nodeV n,.int .i64 ((i:Int)+1),i⟩
def entries (l:List Node):List MapEntry:=l.mapIdx fun i n=>entryOf n i
theorem run_checkKey_n (em:Bool) (n:Node) (k:Nat) (w:World):(Instr.checkKey em (k+1+1) 101 (nodeV n)).run Tryz.prog w=.ok () w:=by
 have hi:=@run_part_plain Tryz.prog w 3 (by kernel_rfl)
 have hs:=@run_part_plain Tryz.prog w 9 (by kernel_rfl)
 have h0:=hi (xs:=#[.int .i64 n.kind,.string n.label,.int .i64 n.a,.int .i64 n.b]) (off:=0) rfl
 have h1:=hs (xs:=#[.int .i64 n.kind,.string n.label,.int .i64 n.a,.int .i64 n.b]) (off:=1) rfl
 have h2:=hi (xs:=#[.int .i64 n.kind,.string n.label,.int .i64 n.a,.int .i64 n.b]) (off:=2) rfl
 have h3:=hi (xs:=#[.int .i64 n.kind,.string n.label,.int .i64 n.a,.int .i64 n.b]) (off:=3) rfl
 clear hi hs
 simp [Instr.checkKey,nodeV,run_underlying Tryz.underlying101,run_underlying Tryz.underlying3,run_underlying Tryz.underlying9,h0,h1,h2,h3,Result.andThen]
theorem run_checkKey_node (em:Bool) (n:Node) (w:World):(Instr.checkKey em 10000 101 (nodeV n)).run Tryz.prog w=.ok () w:=run_checkKey_n em n 9998 w
theorem run_equal_n (x y:Node) (k:Nat) (w:World):(Op.equalIn (k+1+1) 101 (nodeV x) (nodeV y)).run Tryz.prog w=.ok (decide (x=y)) w:=by
 have hi:=fun w=>@run_part_plain Tryz.prog w 3 (by kernel_rfl)
 have hs:=fun w=>@run_part_plain Tryz.prog w 9 (by kernel_rfl)
 have hu:=Tryz.underlying101
 unfold nodeV
 rw [run_equalIn_struct w _ _ _ _ (by simp only [Program.fieldsOf,hu]) (by kernel_rfl)]
 have e1:=fun w a b=>run_equalIn_int (P:=Tryz.prog) w k 3 .i64 .i64 a b Tryz.underlying3
 have e2:=fun w a b=>run_equalIn_string (P:=Tryz.prog) w k 9 a b Tryz.underlying9
 have p0:=fun (w:World) (n:Node)=>hi w (xs:=#[.int .i64 n.kind,.string n.label,.int .i64 n.a,.int .i64 n.b]) (off:=0) rfl
 have p1:=fun (w:World) (n:Node)=>hs w (xs:=#[.int .i64 n.kind,.string n.label,.int .i64 n.a,.int .i64 n.b]) (off:=1) rfl
 have p2:=fun (w:World) (n:Node)=>hi w (xs:=#[.int .i64 n.kind,.string n.label,.int .i64 n.a,.int .i64 n.b]) (off:=2) rfl
 have p3:=fun (w:World) (n:Node)=>hi w (xs:=#[.int .i64 n.kind,.string n.label,.int .i64 n.a,.int .i64 n.b]) (off:=3) rfl
 clear hi hs
 have x4:(x.label.toList == y.label.toList)=decide (x.label=y.label):=by
  rw [ByteArray.toList_eq,ByteArray.toList_eq,Bool.eq_iff_iff]
  simp only [beq_iff_eq,decide_eq_true_eq]
  refine ⟨fun e=>?_,fun e=>by rw [e]⟩
  have h1:=mk_data x.label
  rw [e,mk_data] at h1
  exact h1.symm
 simp only [Program.fieldsOf,hu]
 clear hu
 simp only [Op.eqFields,Sem.run_bind,Sem.run_ite,Sem.run_pure,Result.andThen_ok,p0,p1,p2,p3,e1,e2,x4]
 simp only [Node.ext_iff']
 by_cases h0:x.kind=y.kind <;> by_cases h1:x.label=y.label <;> by_cases h2:x.a=y.a <;> by_cases h3:x.b=y.b <;> simp [h0,h1,h2,h3,e1,e2,x4,p0,p1,p2,p3,Result.andThen]
theorem run_equal_node (x y:Node) (w:World):(Op.equal 101 (nodeV x) (nodeV y)).run Tryz.prog w=.ok (decide (x=y)) w:=run_equal_n x y 9998 w
/-- Asked for a key: its place, or none. -/
theorem run_findAsking (n:Node) (w:World):∀ (l:List Node) (j:Nat) (i:Nat),(Instr.findAsking 101 (nodeV n) (l.mapIdx fun i n=>entryOf n (i+j)) i).run Tryz.prog w=.ok (match l.findIdx? (fun x=>decide (x=n)) with | some k=>some (i+k,.int .i64 ((k+j:Nat)+1)) | none=>none) w
 | [],j,i=>by simp [Instr.findAsking]
 | x :: l,j,i=>by
  have h:=run_equal_node n x w
  have ih:=run_findAsking n w l (j+1) (i+1)
  rw [List.mapIdx_cons,List.findIdx?_cons]
  simp only [Instr.findAsking,entryOf,Nat.zero_add,Sem.run_bind,h,Result.andThen_ok,Sem.run_ite,Sem.run_pure]
  by_cases e:x=n
  ·subst e
   simp
  ·have e':¬ n=x:=fun h=>e h.symm
   rw [if_neg (by simpa using e'),if_neg (by simpa using e)]
   have e2:(fun (i:Nat) (n:Node)=>(⟨nodeV n,.int .i64 (((i+1+j:Nat):Int)+1),i+1+j⟩:MapEntry))=fun i n=>entryOf n (i+(j+1)):=by
    funext i n
    unfold entryOf
    have:i+1+j=i+(j+1):=by omega
    rw [this]
   rw [e2,ih]
   cases l.findIdx? (fun x=>decide (x=n)) with
   | none=>rfl
   | some k=>
    simp only [Option.map_some,Result.ok.injEq,Option.some.injEq,Prod.mk.injEq,and_true]
    refine ⟨by omega,?_⟩
    rw [show k+(j+1)=k+1+j from by omega]
set_option maxRecDepth 20000 in
theorem run_findKey_node (n:Node) (l:List Node) (w:World):(Instr.findKey 101 (nodeV n) (entries l)).run Tryz.prog w=.ok (if idx l n=0 then none else some (idx l n - 1,.int .i64 (idx l n))) w:=by
 have h0:=run_findKey_eq (P:=Tryz.prog) (k:=101) w (by kernel_rfl) (nodeV n) (entries l)
 have h:=run_findAsking n w l 0 0
 rw [h0]
 have e:(l.mapIdx fun i n=>entryOf n (i+0))=entries l:=rfl
 rw [e] at h
 rw [h]
 unfold idx
 cases l.findIdx? (fun x=>decide (x=n)) with
 | none=>rfl
 | some k=>simp
set_option maxRecDepth 20000 in
theorem run_lookup_node (n:Node) (l:List Node) (c m:Nat) (w:World) (hb:w.heap[m]?=some (.map (entries l).toArray c)) :
  (Instr.lookup 95 (.map (some m)) (nodeV n) true).run Tryz.prog w=.ok (.tuple #[.int .i64 (idx l n),.bool (decide (idx l n≠0))]) w:=by
 have hz:(zeroValue 3).run Tryz.prog w=.ok (.int .i64 0) w:=by kernel_rfl
 have hk:=run_findKey_node n l w
 have hc:=run_checkKey_node (entries l).isEmpty n w
 by_cases h:idx l n=0
 ·rw [if_pos h] at hk
  simp [Instr.lookup,run_underlying Tryz.underlying95,MapKept.run_getObj_map hb,hc,hk,hz,h,Result.andThen]
 ·rw [if_neg h] at hk
  simp [Instr.lookup,run_underlying Tryz.underlying95,MapKept.run_getObj_map hb,hc,hk,hz,h,Result.andThen]
def setMap (w:World) (m:Nat) (o:Obj):World:={ w with heap:=w.heap.setIfInBounds m o }
set_option maxRecDepth 20000 in
theorem run_update_node (n:Node) (l:List Node) (m:Nat) (v:Value) (w:World) (hn:idx l n=0) (hb:w.heap[m]?=some (.map (entries l).toArray l.length)) :
  (Instr.mapUpdate 95 (.map (some m)) (nodeV n) v).run Tryz.prog w=.ok () (setMap w m (.map ((entries l).toArray.push ⟨nodeV n,v,l.length⟩) (l.length+1))):=by
 have hk:=run_findKey_node n l w
 have hc:=run_checkKey_node false n w
 rw [if_pos hn] at hk
 simp [Instr.mapUpdate,run_underlying Tryz.underlying95,MapKept.run_getObj_map hb,hc,hk,MapKept.run_setObj_map _ hb,Result.andThen,setMap]
theorem entries_snoc (l:List Node) (n:Node):(entries (l ++ [n])).toArray=(entries l).toArray.push ⟨nodeV n,.int .i64 ((l.length:Int)+1),l.length⟩:=by
 unfold entries
 rw [List.mapIdx_append]
 simp [entryOf]
end Go.Proofs.YtogkkfdkeefjnaaGreatDoor.Term
namespace Go.Proofs
open Go.Shelf
def Tryz.lays125_ren : Go.Shelf.Ren := ⟨fun | 125 => 366 | 128 => 395 | 129 => 396 | n => n, fun | 46 => 500 | 3 => 3 | 51 => 527 | 53 => 497 | 4 => 4 | 5 => 5 | 9 => 9 | n => n, fun | n => n⟩
theorem Tryz.lays125 : Go.Proofs.Lays.n125 Tryz.prog Tryz.lays125_ren := {
  mixed := by kernel_rfl
  f125 := Tryz.func366.trans (congrArg some (by kernel_rfl))
  f128 := Tryz.func395.trans (congrArg some (by kernel_rfl))
  f129 := Tryz.func396.trans (congrArg some (by kernel_rfl))
  t3 := Tryz.underlying3
  a3 := Tryz.isAgg3
  z3 := Tryz.sizeOf3
  v3 := Tryz.zeroValue3
  t4 := Tryz.underlying4
  a4 := Tryz.isAgg4
  z4 := Tryz.sizeOf4
  v4 := Tryz.zeroValue4
  t5 := Tryz.underlying5
  a5 := Tryz.isAgg5
  z5 := Tryz.sizeOf5
  v5 := Tryz.zeroValue5
  t9 := Tryz.underlying9
  a9 := Tryz.isAgg9
  z9 := Tryz.sizeOf9
  v9 := Tryz.zeroValue9
  t46 := Tryz.underlying500
  a46 := Tryz.isAgg500
  z46 := Tryz.sizeOf500
  v46 := Tryz.zeroValue500
  t51 := Tryz.underlying527
  a51 := Tryz.isAgg527
  z51 := Tryz.sizeOf527
  v51 := Tryz.zeroValue527
  t53 := Tryz.underlying497
  a53 := Tryz.isAgg497
  z53 := Tryz.sizeOf497
  v53 := Tryz.zeroValue497 }
theorem Tryz.bits_Len (x : Int) (w : World) (h0 : 0 ≤ x) (h1 : x ≤ 18446744073709551615) :
    Calls Tryz.prog 366 #[.int .u64 x] w fun e w' => e = .returned (.int .i64 (Lib.bitLen x.toNat)) ∧ w' = w := Any.bits_Len Tryz.lays125 x w h0 h1
def Tryz.laysM171_ren : Go.Shelf.Ren := ⟨fun | 171 => 158 | 243 => 296 | 246 => 363 | 283 => 389 | 284 => 390 | 285 => 391 | 286 => 392 | 129 => 396 | 317 => 397 | 318 => 398 | 319 => 399 | 320 => 364 | 337 => 393 | 338 => 394 | n => n, fun | 3 => 3 | 9 => 9 | 2 => 2 | 4 => 4 | 171 => 521 | 0 => 0 | 53 => 497 | 37 => 130 | 5 => 5 | 173 => 524 | 212 => 529 | 51 => 527 | 20 => 20 | 213 => 530 | 46 => 500 | 232 => 531 | 233 => 532 | n => n, fun | 17 => 0 | 18 => 1 | 19 => 2 | n => n⟩
theorem Tryz.laysM171 : Go.Proofs.LaysM.n171 Tryz.prog Tryz.laysM171_ren := {
  mixed := by kernel_rfl
  f129 := Tryz.func396.trans (congrArg some (by kernel_rfl))
  f171 := Tryz.func158.trans (congrArg some (by kernel_rfl))
  f243 := Tryz.func296.trans (congrArg some (by kernel_rfl))
  f246 := Tryz.func363.trans (congrArg some (by kernel_rfl))
  f283 := Tryz.func389.trans (congrArg some (by kernel_rfl))
  f284 := Tryz.func390.trans (congrArg some (by kernel_rfl))
  f285 := Tryz.func391.trans (congrArg some (by kernel_rfl))
  f286 := Tryz.func392.trans (congrArg some (by kernel_rfl))
  f317 := Tryz.func397.trans (congrArg some (by kernel_rfl))
  f318 := Tryz.func398.trans (congrArg some (by kernel_rfl))
  f319 := Tryz.func399.trans (congrArg some (by kernel_rfl))
  f320 := Tryz.func364.trans (congrArg some (by kernel_rfl))
  f337 := Tryz.func393.trans (congrArg some (by kernel_rfl))
  f338 := Tryz.func394.trans (congrArg some (by kernel_rfl))
  t0 := Tryz.underlying0
  a0 := Tryz.isAgg0
  z0 := Tryz.sizeOf0
  v0 := Tryz.zeroValue0
  t2 := Tryz.underlying2
  a2 := Tryz.isAgg2
  z2 := Tryz.sizeOf2
  v2 := Tryz.zeroValue2
  t3 := Tryz.underlying3
  a3 := Tryz.isAgg3
  z3 := Tryz.sizeOf3
  v3 := Tryz.zeroValue3
  t4 := Tryz.underlying4
  a4 := Tryz.isAgg4
  z4 := Tryz.sizeOf4
  v4 := Tryz.zeroValue4
  t5 := Tryz.underlying5
  a5 := Tryz.isAgg5
  z5 := Tryz.sizeOf5
  v5 := Tryz.zeroValue5
  t9 := Tryz.underlying9
  a9 := Tryz.isAgg9
  z9 := Tryz.sizeOf9
  v9 := Tryz.zeroValue9
  t20 := Tryz.underlying20
  a20 := Tryz.isAgg20
  z20 := Tryz.sizeOf20
  v20 := Tryz.zeroValue20
  t37 := Tryz.underlying130
  a37 := Tryz.isAgg130
  z37 := Tryz.sizeOf130
  v37 := Tryz.zeroValue130
  t46 := Tryz.underlying500
  a46 := Tryz.isAgg500
  z46 := Tryz.sizeOf500
  v46 := Tryz.zeroValue500
  t51 := Tryz.underlying527
  a51 := Tryz.isAgg527
  z51 := Tryz.sizeOf527
  v51 := Tryz.zeroValue527
  t53 := Tryz.underlying497
  a53 := Tryz.isAgg497
  z53 := Tryz.sizeOf497
  v53 := Tryz.zeroValue497
  t171 := Tryz.underlying521
  a171 := Tryz.isAgg521
  z171 := Tryz.sizeOf521
  v171 := Tryz.zeroValue521
  t173 := Tryz.underlying524
  a173 := Tryz.isAgg524
  z173 := Tryz.sizeOf524
  v173 := Tryz.zeroValue524
  t212 := Tryz.underlying529
  a212 := Tryz.isAgg529
  z212 := Tryz.sizeOf529
  v212 := Tryz.zeroValue529
  t213 := Tryz.underlying530
  a213 := Tryz.isAgg530
  z213 := Tryz.sizeOf530
  t232 := Tryz.underlying531
  a232 := Tryz.isAgg531
  z232 := Tryz.sizeOf531
  v232 := Tryz.zeroValue531
  t233 := Tryz.underlying532
  a233 := Tryz.isAgg532
  z233 := Tryz.sizeOf532
  v233 := Tryz.zeroValue532
  g17 := by kernel_rfl
  g18 := by kernel_rfl
  g19 := by kernel_rfl
  i0 := by kernel_rfl
  i2 := by kernel_rfl
  i3 := by kernel_rfl
  i4 := by kernel_rfl
  i5 := by kernel_rfl
  i9 := by kernel_rfl
  i20 := by kernel_rfl
  i37 := by kernel_rfl
  i46 := by kernel_rfl
  i51 := by kernel_rfl
  i53 := by kernel_rfl
  i171 := by kernel_rfl
  i173 := by kernel_rfl
  i212 := by kernel_rfl
  i232 := by kernel_rfl
  i233 := by kernel_rfl
  m17 := by kernel_rfl
  m18 := by kernel_rfl
  m19 := by kernel_rfl }
open Go.RowKit Go.Sort Go.Lib in
theorem Tryz.strconv_Itoa (n : Int) (h0 : -9223372036854775808 ≤ n) (h1 : n ≤ 9223372036854775807) (w : World) (htab : Lib.TabIs Tryz.prog w "internal/strconv.uint64pow10" .u64 Lib.pow10Tab) :
    Calls Tryz.prog 158 #[.int .i64 n] w fun e w' => e = .returned (.string ⟨(Lib.itoa n).toArray⟩) ∧ ∃ k os, w' = grow (w.drewN k) os := Any.strconv_Itoa Tryz.laysM171 n h0 h1 w htab
def Tryz.laysNm215_ren : Go.Shelf.Ren := ⟨fun | 15 => 32 | n => n, fun | 22 => 22 | 3 => 3 | 4 => 4 | n => n, fun | n => n⟩
theorem Tryz.laysNm215 : Go.Proofs.Lays2.n15 Tryz.prog Tryz.laysNm215_ren := {
  mixed := by kernel_rfl
  f15 := Tryz.func32.trans (congrArg some (by kernel_rfl))
  t3 := Tryz.underlying3
  a3 := Tryz.isAgg3
  z3 := Tryz.sizeOf3
  v3 := Tryz.zeroValue3
  t4 := Tryz.underlying4
  a4 := Tryz.isAgg4
  z4 := Tryz.sizeOf4
  v4 := Tryz.zeroValue4
  t22 := Tryz.underlying22
  a22 := Tryz.isAgg22
  z22 := Tryz.sizeOf22
  v22 := Tryz.zeroValue22
  i3 := by kernel_rfl }
open Go.RowKit Go.Lib in
theorem Tryz.slices_Clone_int (b off n c : Nat) (zs : List Int) (w : World) (hz : n ≤ zs.length) (hbig : n * 8 ≤ 140737488355328) (hc : ∀ j, j < zs.length → w.cell? ⟨b, off + j, none⟩ = some (.int .i64 (zs.getD j 0))) :
    Calls Tryz.prog 32 #[.slice (some ⟨b, off, none⟩) n c] w fun e w' => ∃ v', e = .returned v' ∧ w'.ownsRow w.heap.size 3 1 v' n ((zs.take n).map (Value.int .i64)) ∧ v' ≠ .slice none 0 0 ∧ Below w.heap.size w w' := Any.slices_Clone_int Tryz.laysNm215 b off n c zs w hz hbig hc
open Go.RowKit Go.Lib in
theorem Tryz.slices_Clone_int_nil (n c : Nat) (w : World) :
    Calls Tryz.prog 32 #[.slice none n c] w fun e w' => e = .returned (.slice none 0 0) ∧ w' = w := Any.slices_Clone_int_nil Tryz.laysNm215 n c w
open Go.RowKit Go.Lib in
theorem Tryz.slices_Clone_int_zero (a : Addr) (c : Nat) (w : World) :
    Calls Tryz.prog 32 #[.slice (some a) 0 c] w fun e w' => ∃ v', e = .returned v' ∧ w'.ownsRow w.heap.size 3 1 v' 0 [] ∧ v' ≠ .slice none 0 0 ∧ Below w.heap.size w w' := Any.slices_Clone_int_zero Tryz.laysNm215 a c w
end Go.Proofs
namespace Go.Proofs.YtogkkfdkeefjnaaGreatDoor.Term
open Go.RowKit Go.Proofs.YtogkkfdkeefjnaaGreatDoorBase Go.Proofs.YtogkkfdkeefjnaaGreatDoorLex2
set_option linter.unusedVariables false
set_option maxRecDepth 100000
set_option linter.unusedSimpArgs false
theorem infoNode:(Tryz.prog.info? 101).map (fun i=>(i.zero,i.size,i.bytes))=some (some (.agg #[.int .i64 0,.string ⟨#[]⟩,.int .i64 0,.int .i64 0]),4,40):=by kernel_rfl
theorem elemNode:Elem Tryz.prog 96 101 (.agg #[.int .i64 0,.string ⟨#[]⟩,.int .i64 0,.int .i64 0]) 4 40:=⟨by kernel_rfl,by obtain ⟨i,h1,h2,h3,h4⟩:=info_parts infoNode; exact ⟨i,h1,h2,h3,h4⟩,rfl,by decide,by decide⟩
def deB:List Int:=[0,1,56,2,57,49,28,3,61,58,42,50,38,29,17,4,62,47,59,36,45,43,51,22,53,39,33,30,24,18,12,5,63,55,48,27,60,41,37,16,46,35,44,21,52,32,23,11,54,26,40,15,34,20,31,10,25,14,19,9,13,8,7,6]
def Gl (w : World) : Prop := Lib.TabIs Tryz.prog w "internal/strconv.uint64pow10" .u64 Lib.pow10Tab ∧ Lib.TabIs Tryz.prog w "math/bits.deBruijn64tab" .u8 deB
theorem var_lt {P:Program} {w:World} {n:String} {cs:Array Value} (h:w.var? P n=some cs):∃ g,P.globalNamed n=some g∧g < w.heap.size:=by
 unfold World.var? at h
 cases hg:P.globalNamed n with
 | none=>rw [hg] at h; cases h
 | some g=>
  rw [hg] at h
  simp only [Option.bind_some] at h
  refine ⟨g,rfl,?_⟩
  rcases Nat.lt_or_ge g w.heap.size with h1 | h1
  ·exact h1
  ·rw [Array.getElem?_eq_none h1] at h
   cases h
theorem var_below {P:Program} {w w':World} {n:String} {cs:Array Value} (h:w.var? P n=some cs) (hb:Below w.heap.size w w'):w'.var? P n=some cs:=by
 obtain ⟨g,hg,hl⟩:=var_lt h
 exact Joins.var_stays hg h hb (Nat.le_refl _)
theorem Gl.below {w w':World} (h:Gl w) (hb:Below w.heap.size w w'):Gl w':=⟨var_below h.1 hb,var_below h.2 hb⟩
def StAt (base:Nat) (w:World) (p:Nat) (F:Nat→Prop) (s:TS):Prop :=
 ∃ nv m,w.heap[p]?=some (.cells #[nv,.map (some m),.int .i64 s.drawn] 98 (0,0))∧w.heap[m]?=some (.map (entries s.nodes).toArray s.nodes.length)∧base≤p∧base≤m∧base≤w.heap.size ∧
  w.ownsRow base 101 4 nv s.nodes.length (s.nodes.flatMap nodeC)∧(∀ k,F k ↔ k=p∨k=m∨nv.ownBlock=some k)
/-- A law's store: of the law's own memory; what was there before is as it was. -/
structure SAt (w0 w:World) (p:Nat) (F:Nat→Prop) (s:TS):Prop where
 at_:StAt w0.heap.size w p F s
 bel:Below w0.heap.size w0 w
 ok:TOk s
 gl:Gl w0
def TNext (w0 w w':World) (p:Nat) (F:Nat→Prop) (s:TS):Prop:=∃ F',SAt w0 w' p F' s∧(∀ k,F' k→F k∨w.heap.size≤k)∧Kept w w' F
section
variable {w0 w w' w1 w2 : World} {p base : Nat} {F F1 : Nat → Prop} {s s2 : TS}
theorem StAt.base_le (h:StAt base w p F s):∀ k,F k→base≤k:=by
 obtain ⟨nv,m,hp,hm,h1,h2,h3,ho,hF⟩:=h
 intro k hk
 rcases (hF k).1 hk with rfl | rfl | h
 ·exact h1
 ·exact h2
 ·exact (ho.lt k h).1
theorem StAt.lt (h:StAt base w p F s):∀ k,F k→k < w.heap.size:=by
 obtain ⟨nv,m,hp,hm,h1,h2,h3,ho,hF⟩:=h
 intro k hk
 rcases (hF k).1 hk with rfl | rfl | h
 ·exact blk_lt hp
 ·exact blk_lt hm
 ·exact (ho.lt k h).2
theorem StAt.kept (h:StAt base w p F s) (hk:Kept w w' (fun _=>False)):StAt base w' p F s:=by
 obtain ⟨nv,m,hp,hm,h1,h2,h3,ho,hF⟩:=h
 exact ⟨nv,m,hk.blk hp (fun h=>h),hk.blk hm (fun h=>h),h1,h2,Nat.le_trans h3 hk.size,own_keptF ho hk (fun _ _ h=>h),hF⟩
theorem StAt.keptG {G:Nat→Prop} (h:StAt base w p F s) (hk:Kept w w' G) (hG:∀ k,F k→¬ G k):StAt base w' p F s:=by
 obtain ⟨nv,m,hp,hm,h1,h2,h3,ho,hF⟩:=h
 exact ⟨nv,m,hk.blk hp (hG p ((hF p).2 (.inl rfl))),hk.blk hm (hG m ((hF m).2 (.inr (.inl rfl)))),h1,h2,Nat.le_trans h3 hk.size,own_keptF ho hk (fun k hk1=>hG k ((hF k).2 (.inr (.inr hk1)))),hF⟩
theorem SAt.kept (h:SAt w0 w p F s) (hk:Kept w w' (fun _=>False)):SAt w0 w' p F s :=
 ⟨h.at_.kept hk,h.bel.trans (hk.below (fun _ h=>h.elim) h.bel.size),h.ok,h.gl⟩
theorem SAt.keptG {G:Nat→Prop} (h:SAt w0 w p F s) (hk:Kept w w' G) (hG:∀ k,F k→¬ G k) (hB:∀ k,G k→w0.heap.size≤k):SAt w0 w' p F s :=
 ⟨h.at_.keptG hk hG,h.bel.trans (hk.below hB h.bel.size),h.ok,h.gl⟩
theorem SAt.glob (h:SAt w0 w p F s):Gl w:=h.gl.below h.bel
theorem TNext.refl (h:SAt w0 w p F s):TNext w0 w w p F s:=⟨F,h,fun k hk=>.inl hk,Kept.refl _ _⟩
theorem TNext.of_kept (h:SAt w0 w p F s) (hk:Kept w w' (fun _=>False)):TNext w0 w w' p F s:=⟨F,h.kept hk,fun k hk=>.inl hk,hk.mono fun _ h=>h.elim⟩
theorem TNext.trans (hF:∀ k,F1 k→F k∨w.heap.size≤k) (hk:Kept w w1 F) (h2:TNext w0 w1 w2 p F1 s2):TNext w0 w w2 p F s2:=by
 obtain ⟨F2,f2,b2,k2⟩:=h2
 exact ⟨F2,f2,fun k hk2=>(b2 k hk2).elim (hF k) (fun h=>.inr (Nat.le_trans hk.size h)),hk.trans k2 hF⟩
theorem TNext.after (hk:Kept w w1 (fun _=>False)) (h2:TNext w0 w1 w2 p F s2):TNext w0 w w2 p F s2:=TNext.trans (fun k h=>.inl h) (hk.mono fun _ h=>h.elim) h2
theorem TNext.then (h1:TNext w0 w w1 p F s) (hk:Kept w1 w2 (fun _=>False)):TNext w0 w w2 p F s:=by
 obtain ⟨F1,f1,b1,k1⟩:=h1
 exact ⟨F1,f1.kept hk,b1,k1.trans hk fun _ h=>h.elim⟩
end
theorem flat_get {l:List Node} {i:Nat} {n:Node} (h:l[i]?=some n) (j:Nat) (hj:j < 4):(l.flatMap nodeC)[i * 4+j]?=(nodeC n)[j]?:=by
 induction l generalizing i with
 | nil=>cases h
 | cons x l ih=>
  cases i with
  | zero=>
   simp only [List.getElem?_cons_zero,Option.some.injEq] at h
   subst h
   rw [List.flatMap_cons,List.getElem?_append_left (by simp [nodeC]; omega)]
   simp
  | succ i=>
   rw [List.getElem?_cons_succ] at h
   rw [List.flatMap_cons,List.getElem?_append_right (by simp [nodeC]; omega)]
   have:(i+1) * 4+j - (nodeC x).length=i * 4+j:=by simp [nodeC]; omega
   rw [this]
   exact ih h
/-- The cells of the nodes. -/
theorem StAt.node {base:Nat} {w:World} {p:Nat} {F:Nat→Prop} {s:TS} (h:StAt base w p F s):∃ A c,w.cell? ⟨p,0,none⟩=some (.slice A s.nodes.length c)∧s.nodes.length≤c∧c≤maxLen ∧
  (∀ i n,s.nodes[i]?=some n→∃ g,A=some ⟨g,0,none⟩∧w.cell? ⟨g,i * 4,none⟩=some (.int .i64 n.kind)∧w.cell? ⟨g,i * 4+1,none⟩=some (.string n.label)∧w.cell? ⟨g,i * 4+2,none⟩=some (.int .i64 n.a)∧w.cell? ⟨g,i * 4+3,none⟩=some (.int .i64 n.b)):=by
 obtain ⟨nv,m,hp,hm,h1,h2,h3,ho,hF⟩:=h
 obtain ⟨A,c,rfl,hc,hcm⟩:=own_slice ho
 refine ⟨A,c,by simpa using cellOf (j:=0) hp,hc,hcm,fun i n hn=>?_⟩
 have hi:=(List.getElem?_eq_some_iff.1 hn).1
 rcases ho.2 with ⟨hv,hx⟩ | ⟨g,cap,cur,hv,_⟩
 ·omega
 ·simp only [Value.slice.injEq] at hv
  obtain ⟨rfl,_,rfl⟩:=hv
  have hcell:=ho.cells (g:=g) rfl
  have e0:=hcell (i * 4+0) _ (flat_get hn 0 (by decide))
  have e1:=hcell (i * 4+1) _ (flat_get hn 1 (by decide))
  have e2:=hcell (i * 4+2) _ (flat_get hn 2 (by decide))
  have e3:=hcell (i * 4+3) _ (flat_get hn 3 (by decide))
  rw [Addr.add_lit,Nat.zero_add] at e0 e1 e2 e3
  rw [Nat.add_zero] at e0
  exact ⟨g,rfl,e0,e1,e2,e3⟩
theorem known_any (w0 w:World) (p:Nat) (F:Nat→Prop) (s:TS) (t:Int) (h:SAt w0 w p F s) :
  Calls Tryz.prog 156 #[.pointer (some ⟨p,0,none⟩),.int .i64 t] w fun e w'=>e=.returned (.bool (knownB s.nodes t))∧w'=w:=by
 obtain ⟨A,c,hc,hle,hcm,_⟩:=h.at_.node
 have hl:=h.ok.len
 clear h
 have e:knownB s.nodes t=(decide (1≤t) && decide (t≤(s.nodes.length:Int))):=rfl
 rw [e]
 by_cases h1:1≤t
 ·by_cases h2:t≤(s.nodes.length:Int)
  ·go_enter Tryz.func156,Tryz.ntmps156
   go_wp2
   go_ret
   exact ⟨by simp [h1,h2] <;> omega,rfl⟩
  ·go_enter Tryz.func156,Tryz.ntmps156
   go_wp2
   go_ret
   exact ⟨by simp <;> omega,rfl⟩
 ·go_enter Tryz.func156,Tryz.ntmps156
  go_wp2
  go_ret
  exact ⟨by simp; intro h; omega,rfl⟩
theorem parts_any (k:Int) (w:World):Calls Tryz.prog 292 #[.int .i64 k] w fun e w'=>e=.returned (.tuple #[.int .i64 (labelMax k),.int .i64 (arity k)])∧w'=w:=by
 by_cases h2:k=2
 ·subst h2
  go_enter Tryz.func292,Tryz.ntmps292
  go_wp2
  go_ret2
  exact ⟨rfl,rfl⟩
 have q2:(k == 2)=false:=by simpa using h2
 by_cases h3:k=3
 ·subst h3
  go_enter Tryz.func292,Tryz.ntmps292
  go_wp2
  go_ret2
  exact ⟨rfl,rfl⟩
 have q3:(k == 3)=false:=by simpa using h3
 by_cases h7:k=7
 ·subst h7
  go_enter Tryz.func292,Tryz.ntmps292
  go_wp2
  go_ret2
  exact ⟨rfl,rfl⟩
 have q7:(k == 7)=false:=by simpa using h7
 by_cases h8:k=8
 ·subst h8
  go_enter Tryz.func292,Tryz.ntmps292
  go_wp2
  go_ret2
  exact ⟨rfl,rfl⟩
 have q8:(k == 8)=false:=by simpa using h8
 by_cases h9:k=9
 ·subst h9
  go_enter Tryz.func292,Tryz.ntmps292
  go_wp2
  go_ret2
  exact ⟨rfl,rfl⟩
 have q9:(k == 9)=false:=by simpa using h9
 by_cases h4:k=4
 ·subst h4
  go_enter Tryz.func292,Tryz.ntmps292
  go_wp2
  go_ret2
  exact ⟨rfl,rfl⟩
 have q4:(k == 4)=false:=by simpa using h4
 by_cases h5:k=5
 ·subst h5
  go_enter Tryz.func292,Tryz.ntmps292
  go_wp2
  go_ret2
  exact ⟨rfl,rfl⟩
 have q5:(k == 5)=false:=by simpa using h5
 by_cases h6:k=6
 ·subst h6
  go_enter Tryz.func292,Tryz.ntmps292
  go_wp2
  go_ret2
  exact ⟨rfl,rfl⟩
 have q6:(k == 6)=false:=by simpa using h6
 have e1:labelMax k=-1:=by unfold labelMax; simp [h2,h3,h4,h5,h6,h7,h8,h9]
 have e2:arity k=0:=by unfold arity; simp [h2,h3,h4,h5,h6,h7,h8,h9]
 rw [e1,e2]
 clear e1 e2
 go_enter Tryz.func292,Tryz.ntmps292
 go_wp2
 go_ret2
 exact ⟨rfl,rfl⟩
end Go.Proofs.YtogkkfdkeefjnaaGreatDoor.Term
