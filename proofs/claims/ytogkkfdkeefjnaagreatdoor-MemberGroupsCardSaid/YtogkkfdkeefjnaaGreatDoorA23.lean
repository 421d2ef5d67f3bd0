/-
  The codec of ratchets, made.
-/
import Derived.Test.YtogkkfdkeefjnaaGreatDoorA22
namespace Go.Proofs.YtogkkfdkeefjnaaGreatDoor.Codec
open Go.RowKit Go.Proofs.YtogkkfdkeefjnaaGreatDoorBase Go.Proofs.YtogkkfdkeefjnaaGreatDoorLex2 Go.Proofs.YtogkkfdkeefjnaaGreatDoorNum
set_option linter.unusedVariables false
set_option maxRecDepth 100000
set_option linter.unusedSimpArgs false
theorem carry {b:Nat} {w1 w2:World} {F:World→Prop} (h:∀ W',From b w1 W'→F W') (hk:Kept w1 w2 (fun _=>False)):∀ W',From b w2 W'→F W':=fun W' hW=>h W' (hW.pre (hk.mono (fun _ h=>h.elim)) (Nat.le_refl _))
theorem fresh_from {b s:Nat} {w1:World} {F:World→Prop} (hs:b≤s) (h:∀ W',From s w1 W'→F W'):∀ W',From b w1 W'→F W':=fun W' hW=>h W' ⟨hW.1,fun k h1 h2=>hW.2 k (by omega) h2⟩
def FromE (b q:Nat) (w W':World):Prop:=w.heap.size≤W'.heap.size∧∀ k,b≤k→k < w.heap.size→k≠q→W'.heap[k]?=w.heap[k]?
theorem carryA {b:Nat} {w1 w2:World} {F:World→Prop} (h:∀ W',From b w1 W'→F W') (hk:Kept w1 w2 (fun _=>False)):∀ W',FromE b w1.heap.size w2 W'→F W':=fun W' hW=>h W' ⟨Nat.le_trans hk.size hW.1,fun k h1 h2=>(hW.2 k h1 (Nat.lt_of_lt_of_le h2 hk.size) (by omega)).trans (hk.block k h2 (fun h=>h))⟩
theorem carryE {b q:Nat} {w1 w2:World} {F:World→Prop} (h:∀ W',FromE b q w1 W'→F W') (hk:Kept w1 w2 (fun _=>False)):∀ W',FromE b q w2 W'→F W':=fun W' hW=>h W' ⟨Nat.le_trans hk.size hW.1,fun k h1 h2 h3=>(hW.2 k h1 (Nat.lt_of_lt_of_le h2 hk.size) h3).trans (hk.block k h2 (fun h=>h))⟩
theorem cy {b:Nat} {w1 w2:World} {F:World→Prop} (h:Hid (∀ W',From b w1 W'→F W')) (hk:Kept w1 w2 (fun _=>False)):Hid (∀ W',From b w2 W'→F W'):=lh (fun W1 hW1=>carry h.out hk W1 hW1)
theorem cyE {b q:Nat} {w1 w2:World} {F:World→Prop} (h:Hid (∀ W',FromE b q w1 W'→F W')) (hk:Kept w1 w2 (fun _=>False)):Hid (∀ W',FromE b q w2 W'→F W'):=lh (fun W1 hW1=>carryE h.out hk W1 hW1)
theorem fresh_fromE {b q:Nat} {w0 w1:World} {F:World→Prop} (hs:b≤w0.heap.size) (hq:q < w0.heap.size) (h:∀ W',From w0.heap.size w1 W'→F W'):∀ W',FromE b q w1 W'→F W':=fun W' hW=>h W' ⟨hW.1,fun k h1 h2=>hW.2 k (by omega) h2 (by omega)⟩
/-- What the second region leaves. -/
def RatInv (w w2 w3 w4:World) (a1 b1 a2 b2 a3 b3:Value) (a:Act) (w':World):Prop :=
 ∃ a7 b7 a8 b8 a9 b9 a11 b11 a12 b12 a14 b14 pa q,a=⟨#[.pointer (some ⟨w.heap.size,0,none⟩),.pointer (some ⟨w3.heap.size,0,none⟩),.pointer (some ⟨q,0,none⟩),.agg #[a1,b1],.agg #[a2,b2],.slice (some ⟨w2.heap.size,0,none⟩) 2 2,.agg #[a3,b3],.agg #[a7,b7],.agg #[a8,b8],.agg #[a9,b9],.agg #[a3,b3],.agg #[a11,b11],.agg #[a12,b12],.slice (some ⟨pa,0,none⟩) 4 4,.agg #[a14,b14],undef,undef,undef,undef,undef,undef,undef,undef,undef],[]⟩∧Kept w4 w' (fun _=>False)∧w4.heap.size≤q∧w'.heap[q]?=some (.cells #[a14,b14] 442 (0,0))∧a14.oneCell'=true∧b14.oneCell'=true∧∀ W',From w4.heap.size w' W'→IsCodec W' (.agg #[a3,b3]) rkeyC→IsCodec W' (.agg #[a14,b14]) chaiC
set_option maxHeartbeats 1600000 in
theorem rat_end {w4 wc:World} {a3 b3 a7 b7 a8 b8 a9 b9 a11 b11 a12 b12 a14 b14:Value} {pa q:Nat} (SZ:w4.heap.size≤wc.heap.size) (KK:Kept w4 wc (fun _=>False)) (Lq:w4.heap.size≤q) (Lpa:w4.heap.size≤pa)
  (HQ:wc.heap[q]?=some (.cells #[.nilFunc,.nilFunc] 442 (0,0))) (HP:wc.heap[pa]?=some (.cells #[a7,b7,a8,b8,a9,b9,a12,b12] 450 (0,0))) (A14:a14.oneCell'=true) (B14:b14.oneCell'=true)
  (D7:∀ W',FromE w4.heap.size q wc W'→∀ {α:Type} (o N:Nat),o < N→∀ (fld:α→Int) (set:Int→α→α),GetterOk 446 N (.func (.func 249) #[] #[]) o→PPut W' 446 N a7 (oneP sgnC o fld set)∧PGet W' 446 N b7 (oneP sgnC o fld set))
  (D8:∀ W',FromE w4.heap.size q wc W'→∀ {α:Type} (o N:Nat),o < N→∀ (fld:α→Int) (set:Int→α→α),GetterOk 446 N (.func (.func 250) #[] #[]) o→PPut W' 446 N a8 (oneP sgnC o fld set)∧PGet W' 446 N b8 (oneP sgnC o fld set))
  (D9:∀ W',FromE w4.heap.size q wc W'→∀ {α:Type} (o N:Nat),o < N→∀ (fld:α→Int) (set:Int→α→α),GetterOk 446 N (.func (.func 251) #[] #[]) o→PPut W' 446 N a9 (oneP sgnC o fld set)∧PGet W' 446 N b9 (oneP sgnC o fld set))
  (D11:∀ W',FromE w4.heap.size q wc W'→∀ {α:Type} (c:Cod α),Fair c→Many c 2→IsCodec W' (.agg #[a3,b3]) c→IsCodec W' (.agg #[a11,b11]) (listN c 2 65536))
  (D12:∀ W',FromE w4.heap.size q wc W'→∀ {α β:Type} (c:Cod β),Fair c→One c→∀ (o N:Nat),o < N→∀ (fld:α→β) (set:β→α→α),IsCodec W' (.agg #[a11,b11]) c→GetterOk 446 N (.func (.func 253) #[] #[]) o→PPut W' 446 N a12 (oneP c o fld set)∧PGet W' 446 N b12 (oneP c o fld set))
  (D14:∀ W',FromE w4.heap.size q wc W'→∀ {α:Type} (ps:List (Prt α)),ps.length=4→(∀ p∈ps,PFair 4 p)→ps.Pairwise (fun p p'=>Off 4 p p')→∀ (x0:α),4≤1000→PartsAt W' 446 4 pa ps→IsCodec W' (.agg #[a14,b14]) (recC 4 ps x0)) :
  Kept w4 (wc.setRow q #[a14,b14]) (fun _=>False)∧w4.heap.size≤q∧(wc.setRow q #[a14,b14]).heap[q]?=some (.cells #[a14,b14] 442 (0,0))∧a14.oneCell'=true∧b14.oneCell'=true∧∀ W',From w4.heap.size (wc.setRow q #[a14,b14]) W'→IsCodec W' (.agg #[a3,b3]) rkeyC→IsCodec W' (.agg #[a14,b14]) chaiC:=by
 have hsr:=setRow_heap wc q _ #[a14,b14] 442 (0,0) HQ
 have kr:Kept wc (wc.setRow q #[a14,b14]) (fun j=>j=q):=⟨rfl,rfl,rfl,by simp,fun j _ hj=>setRow_other wc q j _ hj⟩
 refine ⟨KK.trans kr (fun j h=>.inr (by omega)),Lq,hsr,A14,B14,fun W' hW hk=>?_⟩
 have hE:FromE w4.heap.size q wc W':=⟨Nat.le_trans kr.size hW.1,fun k h1 h2 h3=>(hW.2 k h1 (Nat.lt_of_lt_of_le h2 kr.size)).trans (kr.block k h2 h3)⟩
 have hne:pa≠q:=by
  rintro rfl
  rw [HP] at HQ
  simp at HQ
 have hpa:W'.heap[pa]?=_:=hW.blk Lpa (kr.blk HP hne)
 have P7:=D7 W' hE 0 4 (by decide) (fun x:ChaiD=>x.leaf) (fun y x=>{ x with leaf:=y }) get_chai_leaf
 have P8:=D8 W' hE 1 4 (by decide) (fun x:ChaiD=>x.next) (fun y x=>{ x with next:=y }) get_chai_next
 have P9:=D9 W' hE 2 4 (by decide) (fun x:ChaiD=>x.secret) (fun y x=>{ x with secret:=y }) get_chai_secret
 have P12:=D12 W' hE (listN rkeyC 2 65536) (listN_fair rkeyC_fair 2 65536) (listN_one rkeyC 2 65536) 3 4 (by decide) (fun x:ChaiD=>x.kept) (fun y x=>{ x with kept:=y }) (D11 W' hE rkeyC rkeyC_fair rkeyC_many hk) get_chai_kept
 refine D14 W' hE chaiP rfl chaiP_fair chaiP_off ChaiZ (by decide) ⟨blk_lt hpa,fun k p hp=>?_⟩
 match k,hp with
 | 0,hp=>obtain rfl:=Option.some.inj hp; exact ⟨a7,b7,cellOf hpa,cellOf hpa,P7.1,P7.2⟩
 | 1,hp=>obtain rfl:=Option.some.inj hp; exact ⟨a8,b8,cellOf hpa,cellOf hpa,P8.1,P8.2⟩
 | 2,hp=>obtain rfl:=Option.some.inj hp; exact ⟨a9,b9,cellOf hpa,cellOf hpa,P9.1,P9.2⟩
 | 3,hp=>obtain rfl:=Option.some.inj hp; exact ⟨a12,b12,cellOf hpa,cellOf hpa,P12.1,P12.2⟩
 | k+4,hp=>simp [chaiP] at hp
set_option maxHeartbeats 6400000 in
theorem ratss_new (w:World):Calls Tryz.prog 135 #[] w fun r w'=>∃ a b,r=.returned (.agg #[a,b])∧a.oneCell'=true∧b.oneCell'=true∧Kept w w' (fun _=>False)∧∀ W',From w.heap.size w' W'→IsCodec W' (.agg #[a,b]) ratsC:=by
 go_enter Tryz.func135,Tryz.ntmps135
 go_wp2_with (fail)
 refine (numberN_ratchetKey 245 (Proofs.enters_of Tryz.func245 (by kernel_rfl) rfl) _).mono ?_
 rintro e w1 ⟨a1,b1,rfl,-,-,hk,hc⟩
 have C1:=lh hc
 have K1:=lh hk
 clear hk hc
 go_wp2_with (fail)
 refine (numberN_ratchetKey 246 (Proofs.enters_of Tryz.func246 (by kernel_rfl) rfl) _).mono ?_
 rintro e w2 ⟨a2,b2,rfl,-,-,hk,hc⟩
 have C2:=lh hc
 have K2:=lh hk
 clear hk hc
 go_wp2_with (fail)
 refine (recordN_ratchetKey w2.heap.size 2 2 (by decide) (by decide) _).mono ?_
 rintro e w3 ⟨a3,b3,rfl,ha,hb,hk,hc⟩
 have C3:=lh hc
 have K3:=lh hk
 have A3:=lh ha
 have B3:=lh hb
 have HZ3:=lh (heap_alloc_new w3 (.cells #[.nilFunc,.nilFunc] 428))
 obtain ⟨K9,H9⟩:=setRow_new (w:=w3) (Z:=#[.nilFunc,.nilFunc]) (cs:=#[a3,b3]) (T:=428)
 have K4:=lh K9
 have H4:=lh H9
 clear hk hc ha hb K9 H9
 go_wp2_with (first | refine wpList_store_row rfl 428 (.tmp 1) (.tmp 6) rfl w3.heap.size #[a3,b3] rfl rfl _ _ HZ3.out (by kernel_rfl) rfl (by simp [A3.out,B3.out]) ?_)
 obtain ⟨w4,hw4⟩:∃ w4,(w3.alloc (.cells #[.nilFunc,.nilFunc] 428)).setRow w3.heap.size #[a3,b3]=w4:=⟨_,rfl⟩
 rw [hw4] at K4 H4 ⊢
 clear hw4
 have c0:=cellOf (j:=0) H4.out
 have c1:=cellOf (j:=1) H4.out
 simp at c0 c1
 refine Code.wp_mono (Q:=fun e a w'=>e=.normal∧RatInv w w2 w3 w4 a1 b1 a2 b2 a3 b3 a w') (fun e a w' h=>?post) ?region
 case region=>
  clear C1 C2 C3 K1 K2 K3 HZ3 A3 B3 K4
  refine wp_region_tree (fun w'=>w'.cell? ⟨w3.heap.size,0,none⟩=some a3∧w'.cell? ⟨w3.heap.size,1,none⟩=some b3) [2,2,2,3,4,4,4,4,2,4] (ones [3] (.two 0 8 (ones [] (.two 1 8 (ones [] (.two 2 8 (ones [] (.two 4 8 (ones [] (.two 5 8 (ones [] (.two 6 8 (ones [] (.two 7 8 (ones [] (ones [8,9] .nil)) (ones [7,9] .nil))) (ones [6,7,9] .nil))) (ones [5,6,7,9] .nil))) (ones [4,5,6,7,9] .nil))) (ones [2,4,5,6,7,9] .nil))) (ones [1,2,4,5,6,7,9] .nil))) (ones [0,1,2,4,5,6,7,9] .nil))) (by kernel_rfl) (by kernel_rfl) (by kernel_rfl) ⟨c0,c1⟩ (fun Q' hQ'=>?_)
  have KK:=lh ((Kept.refl w4 (fun _=>False)).drew)
  have SZ:=lh (show w4.heap.size≤w4.drew.heap.size from Nat.le_refl _)
  have H4:Hid (w4.drew.heap[w3.heap.size]?=_):=lh H4.out
  have c0:w4.drew.cell? ⟨w3.heap.size,0,none⟩=some a3:=c0
  have c1:w4.drew.cell? ⟨w3.heap.size,1,none⟩=some b3:=c1
  obtain ⟨v0,hv0⟩:∃ v0,w4.drew=v0:=⟨_,rfl⟩
  rw [hv0] at KK SZ H4 c0 c1 ⊢
  clear hv0
  refine wpT_ones rfl [3] _ _ (by rfl) ?_
  simp only [pick,List.zip_cons_cons,List.zip_nil_right,List.filterMap_cons,List.filterMap_nil,List.getElem?_cons_zero,List.getElem?_cons_succ]
  repeat((first|(refine wpX_silent ?_ fun K hK=>?_;rfl;apply Exists.intro;refine ⟨fun w'=>?_,?_⟩;go_simp;exact⟨rfl,rfl⟩)|(refine wpX_read ?_ fun K hK=>?_;rfl;apply Exists.intro;refine ⟨?_,?_⟩;go_simp;exact⟨rfl,rfl⟩)|(refine wpX_float ?_ fun K hK=>?_;rfl;apply Exists.intro;refine ⟨fun w' hw'=>?_,?_⟩;(try dsimp only at hw');go_simp;exact⟨rfl,rfl⟩)|(refine wpX_not ?_ fun K hK=>?_;rfl));go_simp;refine hK _ _ ?_;clear hK K)
  refine wpX_nil ?_
  refine wpT_two rfl (by rfl) (by rfl) ?_ ?_
  rotate_left
  ·simp only [pick,List.zip_cons_cons,List.zip_nil_right,List.filterMap_cons,List.filterMap_nil,List.getElem?_cons_zero,List.getElem?_cons_succ]
   refine wpX_keeps ?_ (fun K hK=>?_)
   ·rfl
   have hk:=(Kept.refl v0 (fun _=>False)).alloc (.cells #[.nilFunc,.nilFunc] 442)
   have hx:=heap_alloc_new v0 (.cells #[.nilFunc,.nilFunc] 442)
   have hq0:=SZ.out
   have KK:=kt KK hk
   have H4:=kb hk H4
   have SZ:=szk SZ hk
   have HQ:=lh hx
   clear c0 c1
   have c0:=cellOf (j:=0) H4.out
   have c1:=cellOf (j:=1) H4.out
   simp at c0 c1
   go_wp2
   have Lq:Hid (w4.heap.size≤v0.heap.size):=lh hq0
   obtain ⟨q,hq⟩:∃ q,v0.heap.size=q:=⟨_,rfl⟩
   obtain ⟨v50,hwn⟩:∃ v50,v0.alloc (.cells #[.nilFunc,.nilFunc] 442)=v50:=⟨_,rfl⟩
   rw [hwn] at KK H4 SZ HQ c0 c1 hx hk ⊢
   rw [hq] at HQ Lq  ⊢
   clear hx hk hq0 hwn hq
   refine wpX_keeps ?_ (fun K hK=>?_)
   ·rfl
   go_wp2_with (fail)
   refine (numberN_ratchetChain 249 (Proofs.enters_of Tryz.func249 (by kernel_rfl) rfl) _).mono ?_
   rintro e v51 ⟨a7,b7,rfl,-,-,hk,hc⟩
   have D7:=lh (fresh_fromE SZ.out (blk_lt HQ.out) hc)
   have KK:=kt KK hk
   have H4:=kb hk H4
   have SZ:=szk SZ hk
   have HQ:=kb hk HQ
   clear hk hc c0 c1
   have c0:=cellOf (j:=0) H4.out
   have c1:=cellOf (j:=1) H4.out
   simp at c0 c1
   go_simp
   refine hK _ _ ⟨rfl,⟨c0,c1⟩,?_⟩
   clear hK K
   refine wpX_keeps ?_ (fun K hK=>?_)
   ·rfl
   go_wp2_with (fail)
   refine (numberN_ratchetChain 250 (Proofs.enters_of Tryz.func250 (by kernel_rfl) rfl) _).mono ?_
   rintro e v52 ⟨a8,b8,rfl,-,-,hk,hc⟩
   have D8:=lh (fresh_fromE SZ.out (blk_lt HQ.out) hc)
   have KK:=kt KK hk
   have H4:=kb hk H4
   have SZ:=szk SZ hk
   have HQ:=kb hk HQ
   have D7:=cyE D7 hk
   clear hk hc c0 c1
   have c0:=cellOf (j:=0) H4.out
   have c1:=cellOf (j:=1) H4.out
   simp at c0 c1
   go_simp
   refine hK _ _ ⟨rfl,⟨c0,c1⟩,?_⟩
   clear hK K
   refine wpX_keeps ?_ (fun K hK=>?_)
   ·rfl
   go_wp2_with (fail)
   refine (numberN_ratchetChain 251 (Proofs.enters_of Tryz.func251 (by kernel_rfl) rfl) _).mono ?_
   rintro e v53 ⟨a9,b9,rfl,-,-,hk,hc⟩
   have D9:=lh (fresh_fromE SZ.out (blk_lt HQ.out) hc)
   have KK:=kt KK hk
   have H4:=kb hk H4
   have SZ:=szk SZ hk
   have HQ:=kb hk HQ
   have D7:=cyE D7 hk
   have D8:=cyE D8 hk
   clear hk hc c0 c1
   have c0:=cellOf (j:=0) H4.out
   have c1:=cellOf (j:=1) H4.out
   simp at c0 c1
   go_simp
   refine hK _ _ ⟨rfl,⟨c0,c1⟩,?_⟩
   clear hK K
   refine wpX_heavy ?_ (fun K hK=>?_)
   ·rfl
   go_wp2_with (fail)
   refine (listN_ratchetKey a3 b3 _).mono ?_
   rintro e v54 ⟨a11,b11,rfl,-,-,hk,hc⟩
   have D11:=lh (fresh_fromE SZ.out (blk_lt HQ.out) hc)
   have KK:=kt KK hk
   have H4:=kb hk H4
   have SZ:=szk SZ hk
   have HQ:=kb hk HQ
   have D7:=cyE D7 hk
   have D8:=cyE D8 hk
   have D9:=cyE D9 hk
   clear hk hc c0 c1
   have c0:=cellOf (j:=0) H4.out
   have c1:=cellOf (j:=1) H4.out
   simp at c0 c1
   go_simp
   refine hK _ _ ⟨rfl,?_⟩
   clear hK K
   refine wpX_heavy ?_ (fun K hK=>?_)
   ·rfl
   go_wp2_with (fail)
   refine (fieldN_lratchetKey_ratchetChain 253 (Proofs.enters_of Tryz.func253 (by kernel_rfl) rfl) a11 b11 _).mono ?_
   rintro e v55 ⟨a12,b12,rfl,-,-,hk,hc⟩
   have D12:=lh (fresh_fromE SZ.out (blk_lt HQ.out) hc)
   have KK:=kt KK hk
   have H4:=kb hk H4
   have SZ:=szk SZ hk
   have HQ:=kb hk HQ
   have D7:=cyE D7 hk
   have D8:=cyE D8 hk
   have D9:=cyE D9 hk
   have D11:=cyE D11 hk
   clear hk hc c0 c1
   have c0:=cellOf (j:=0) H4.out
   have c1:=cellOf (j:=1) H4.out
   simp at c0 c1
   go_simp
   refine hK _ _ ⟨rfl,?_⟩
   clear hK K
   refine wpX_heavy ?_ (fun K hK=>?_)
   ·rfl
   have hk:=(Kept.refl v55 (fun _=>False)).alloc (.cells #[a7,b7,a8,b8,a9,b9,a12,b12] 450)
   have hx:=heap_alloc_new v55 (.cells #[a7,b7,a8,b8,a9,b9,a12,b12] 450)
   have hq0:=SZ.out
   have KK:=kt KK hk
   have H4:=kb hk H4
   have SZ:=szk SZ hk
   have HQ:=kb hk HQ
   have D7:=cyE D7 hk
   have D8:=cyE D8 hk
   have D9:=cyE D9 hk
   have D11:=cyE D11 hk
   have D12:=cyE D12 hk
   have HP:=lh hx
   clear c0 c1
   have c0:=cellOf (j:=0) H4.out
   have c1:=cellOf (j:=1) H4.out
   simp at c0 c1
   go_wp2
   have Lpa:Hid (w4.heap.size≤v55.heap.size):=lh hq0
   obtain ⟨pa,hpa⟩:∃ pa,v55.heap.size=pa:=⟨_,rfl⟩
   obtain ⟨v56,hwn⟩:∃ v56,v55.alloc (.cells #[a7,b7,a8,b8,a9,b9,a12,b12] 450)=v56:=⟨_,rfl⟩
   rw [hwn] at KK H4 SZ HQ D7 D8 D9 D11 D12 HP c0 c1 hx hk ⊢
   rw [hpa] at HP Lpa  ⊢
   clear hx hk hq0 hwn hpa
   refine wpX_heavy ?_ (fun K hK=>?_)
   ·rfl
   go_wp2_with (fail)
   refine (recordN_ratchetChain pa 4 4 (by decide) (by decide) _).mono ?_
   rintro e v57 ⟨a14,b14,rfl,ha14,hb14,hk,hc⟩
   have D14:=lh (fresh_fromE SZ.out (blk_lt HQ.out) hc)
   have A14:=lh ha14
   have B14:=lh hb14
   have KK:=kt KK hk
   have H4:=kb hk H4
   have SZ:=szk SZ hk
   have HQ:=kb hk HQ
   have D7:=cyE D7 hk
   have D8:=cyE D8 hk
   have D9:=cyE D9 hk
   have D11:=cyE D11 hk
   have D12:=cyE D12 hk
   have HP:=kb hk HP
   clear hk hc ha14 hb14 c0 c1
   have c0:=cellOf (j:=0) H4.out
   have c1:=cellOf (j:=1) H4.out
   simp at c0 c1
   go_simp
   refine hK _ _ ⟨rfl,?_⟩
   clear hK K
   refine wpX_heavy ?_ (fun K hK=>?_)
   ·rfl
   refine wp_store_row 442 (.tmp 2) (.tmp 14) rfl q #[a14,b14] rfl rfl _ _ HQ.out (by kernel_rfl) rfl (by simp [A14.out,B14.out]) ?_
   go_simp
   refine hK _ _ ⟨rfl,?_⟩
   clear hK K
   refine wpX_nil ?_
   exact hQ' _ _ ⟨trivial,a7,b7,a8,b8,a9,b9,a11,b11,a12,b12,a14,b14,pa,q,rfl,rat_end SZ.out KK.out Lq.out Lpa.out HQ.out HP.out A14.out B14.out D7.out D8.out D9.out D11.out D12.out D14.out⟩
  simp only [pick,List.zip_cons_cons,List.zip_nil_right,List.filterMap_cons,List.filterMap_nil,List.getElem?_cons_zero,List.getElem?_cons_succ]
  refine wpX_keeps ?_ (fun K hK=>?_)
  ·rfl
  go_wp2_with (fail)
  refine (numberN_ratchetChain 249 (Proofs.enters_of Tryz.func249 (by kernel_rfl) rfl) _).mono ?_
  rintro e v1 ⟨a7,b7,rfl,-,-,hk,hc⟩
  have D7:=lh (fresh_from SZ.out hc)
  have KK:=kt KK hk
  have H4:=kb hk H4
  have SZ:=szk SZ hk
  clear hk hc c0 c1
  have c0:=cellOf (j:=0) H4.out
  have c1:=cellOf (j:=1) H4.out
  simp at c0 c1
  go_simp
  refine hK _ _ ⟨rfl,⟨c0,c1⟩,?_⟩
  clear hK K
  refine wpX_nil ?_
  refine wpT_two rfl (by rfl) (by rfl) ?_ ?_
  rotate_left
  ·simp only [pick,List.zip_cons_cons,List.zip_nil_right,List.filterMap_cons,List.filterMap_nil,List.getElem?_cons_zero,List.getElem?_cons_succ]
   refine wpX_keeps ?_ (fun K hK=>?_)
   ·rfl
   have hk:=(Kept.refl v1 (fun _=>False)).alloc (.cells #[.nilFunc,.nilFunc] 442)
   have hx:=heap_alloc_new v1 (.cells #[.nilFunc,.nilFunc] 442)
   have hq0:=SZ.out
   have KK:=kt KK hk
   have H4:=kb hk H4
   have SZ:=szk SZ hk
   have D7:=lh (carryA D7.out hk)
   have HQ:=lh hx
   clear c0 c1
   have c0:=cellOf (j:=0) H4.out
   have c1:=cellOf (j:=1) H4.out
   simp at c0 c1
   go_wp2
   have Lq:Hid (w4.heap.size≤v1.heap.size):=lh hq0
   obtain ⟨q,hq⟩:∃ q,v1.heap.size=q:=⟨_,rfl⟩
   obtain ⟨v50,hwn⟩:∃ v50,v1.alloc (.cells #[.nilFunc,.nilFunc] 442)=v50:=⟨_,rfl⟩
   rw [hwn] at KK H4 SZ D7 HQ c0 c1 hx hk ⊢
   rw [hq] at HQ Lq D7 ⊢
   clear hx hk hq0 hwn hq
   refine wpX_keeps ?_ (fun K hK=>?_)
   ·rfl
   go_wp2_with (fail)
   refine (numberN_ratchetChain 250 (Proofs.enters_of Tryz.func250 (by kernel_rfl) rfl) _).mono ?_
   rintro e v51 ⟨a8,b8,rfl,-,-,hk,hc⟩
   have D8:=lh (fresh_fromE SZ.out (blk_lt HQ.out) hc)
   have KK:=kt KK hk
   have H4:=kb hk H4
   have SZ:=szk SZ hk
   have D7:=cyE D7 hk
   have HQ:=kb hk HQ
   clear hk hc c0 c1
   have c0:=cellOf (j:=0) H4.out
   have c1:=cellOf (j:=1) H4.out
   simp at c0 c1
   go_simp
   refine hK _ _ ⟨rfl,⟨c0,c1⟩,?_⟩
   clear hK K
   refine wpX_keeps ?_ (fun K hK=>?_)
   ·rfl
   go_wp2_with (fail)
   refine (numberN_ratchetChain 251 (Proofs.enters_of Tryz.func251 (by kernel_rfl) rfl) _).mono ?_
   rintro e v52 ⟨a9,b9,rfl,-,-,hk,hc⟩
   have D9:=lh (fresh_fromE SZ.out (blk_lt HQ.out) hc)
   have KK:=kt KK hk
   have H4:=kb hk H4
   have SZ:=szk SZ hk
   have D7:=cyE D7 hk
   have HQ:=kb hk HQ
   have D8:=cyE D8 hk
   clear hk hc c0 c1
   have c0:=cellOf (j:=0) H4.out
   have c1:=cellOf (j:=1) H4.out
   simp at c0 c1
   go_simp
   refine hK _ _ ⟨rfl,⟨c0,c1⟩,?_⟩
   clear hK K
   refine wpX_heavy ?_ (fun K hK=>?_)
   ·rfl
   go_wp2_with (fail)
   refine (listN_ratchetKey a3 b3 _).mono ?_
   rintro e v53 ⟨a11,b11,rfl,-,-,hk,hc⟩
   have D11:=lh (fresh_fromE SZ.out (blk_lt HQ.out) hc)
   have KK:=kt KK hk
   have H4:=kb hk H4
   have SZ:=szk SZ hk
   have D7:=cyE D7 hk
   have HQ:=kb hk HQ
   have D8:=cyE D8 hk
   have D9:=cyE D9 hk
   clear hk hc c0 c1
   have c0:=cellOf (j:=0) H4.out
   have c1:=cellOf (j:=1) H4.out
   simp at c0 c1
   go_simp
   refine hK _ _ ⟨rfl,?_⟩
   clear hK K
   refine wpX_heavy ?_ (fun K hK=>?_)
   ·rfl
   go_wp2_with (fail)
   refine (fieldN_lratchetKey_ratchetChain 253 (Proofs.enters_of Tryz.func253 (by kernel_rfl) rfl) a11 b11 _).mono ?_
   rintro e v54 ⟨a12,b12,rfl,-,-,hk,hc⟩
   have D12:=lh (fresh_fromE SZ.out (blk_lt HQ.out) hc)
   have KK:=kt KK hk
   have H4:=kb hk H4
   have SZ:=szk SZ hk
   have D7:=cyE D7 hk
   have HQ:=kb hk HQ
   have D8:=cyE D8 hk
   have D9:=cyE D9 hk
   have D11:=cyE D11 hk
   clear hk hc c0 c1
   have c0:=cellOf (j:=0) H4.out
   have c1:=cellOf (j:=1) H4.out
   simp at c0 c1
   go_simp
   refine hK _ _ ⟨rfl,?_⟩
   clear hK K
   refine wpX_heavy ?_ (fun K hK=>?_)
   ·rfl
   have hk:=(Kept.refl v54 (fun _=>False)).alloc (.cells #[a7,b7,a8,b8,a9,b9,a12,b12] 450)
   have hx:=heap_alloc_new v54 (.cells #[a7,b7,a8,b8,a9,b9,a12,b12] 450)
   have hq0:=SZ.out
   have KK:=kt KK hk
   have H4:=kb hk H4
   have SZ:=szk SZ hk
   have D7:=cyE D7 hk
   have HQ:=kb hk HQ
   have D8:=cyE D8 hk
   have D9:=cyE D9 hk
   have D11:=cyE D11 hk
   have D12:=cyE D12 hk
   have HP:=lh hx
   clear c0 c1
   have c0:=cellOf (j:=0) H4.out
   have c1:=cellOf (j:=1) H4.out
   simp at c0 c1
   go_wp2
   have Lpa:Hid (w4.heap.size≤v54.heap.size):=lh hq0
   obtain ⟨pa,hpa⟩:∃ pa,v54.heap.size=pa:=⟨_,rfl⟩
   obtain ⟨v55,hwn⟩:∃ v55,v54.alloc (.cells #[a7,b7,a8,b8,a9,b9,a12,b12] 450)=v55:=⟨_,rfl⟩
   rw [hwn] at KK H4 SZ D7 HQ D8 D9 D11 D12 HP c0 c1 hx hk ⊢
   rw [hpa] at HP Lpa  ⊢
   clear hx hk hq0 hwn hpa
   refine wpX_heavy ?_ (fun K hK=>?_)
   ·rfl
   go_wp2_with (fail)
   refine (recordN_ratchetChain pa 4 4 (by decide) (by decide) _).mono ?_
   rintro e v56 ⟨a14,b14,rfl,ha14,hb14,hk,hc⟩
   have D14:=lh (fresh_fromE SZ.out (blk_lt HQ.out) hc)
   have A14:=lh ha14
   have B14:=lh hb14
   have KK:=kt KK hk
   have H4:=kb hk H4
   have SZ:=szk SZ hk
   have D7:=cyE D7 hk
   have HQ:=kb hk HQ
   have D8:=cyE D8 hk
   have D9:=cyE D9 hk
   have D11:=cyE D11 hk
   have D12:=cyE D12 hk
   have HP:=kb hk HP
   clear hk hc ha14 hb14 c0 c1
   have c0:=cellOf (j:=0) H4.out
   have c1:=cellOf (j:=1) H4.out
   simp at c0 c1
   go_simp
   refine hK _ _ ⟨rfl,?_⟩
   clear hK K
   refine wpX_heavy ?_ (fun K hK=>?_)
   ·rfl
   refine wp_store_row 442 (.tmp 2) (.tmp 14) rfl q #[a14,b14] rfl rfl _ _ HQ.out (by kernel_rfl) rfl (by simp [A14.out,B14.out]) ?_
   go_simp
   refine hK _ _ ⟨rfl,?_⟩
   clear hK K
   refine wpX_nil ?_
   exact hQ' _ _ ⟨trivial,a7,b7,a8,b8,a9,b9,a11,b11,a12,b12,a14,b14,pa,q,rfl,rat_end SZ.out KK.out Lq.out Lpa.out HQ.out HP.out A14.out B14.out D7.out D8.out D9.out D11.out D12.out D14.out⟩
  simp only [pick,List.zip_cons_cons,List.zip_nil_right,List.filterMap_cons,List.filterMap_nil,List.getElem?_cons_zero,List.getElem?_cons_succ]
  refine wpX_keeps ?_ (fun K hK=>?_)
  ·rfl
  go_wp2_with (fail)
  refine (numberN_ratchetChain 250 (Proofs.enters_of Tryz.func250 (by kernel_rfl) rfl) _).mono ?_
  rintro e v2 ⟨a8,b8,rfl,-,-,hk,hc⟩
  have D8:=lh (fresh_from SZ.out hc)
  have KK:=kt KK hk
  have H4:=kb hk H4
  have SZ:=szk SZ hk
  have D7:=cy D7 hk
  clear hk hc c0 c1
  have c0:=cellOf (j:=0) H4.out
  have c1:=cellOf (j:=1) H4.out
  simp at c0 c1
  go_simp
  refine hK _ _ ⟨rfl,⟨c0,c1⟩,?_⟩
  clear hK K
  refine wpX_nil ?_
  refine wpT_two rfl (by rfl) (by rfl) ?_ ?_
  rotate_left
  ·simp only [pick,List.zip_cons_cons,List.zip_nil_right,List.filterMap_cons,List.filterMap_nil,List.getElem?_cons_zero,List.getElem?_cons_succ]
   refine wpX_keeps ?_ (fun K hK=>?_)
   ·rfl
   have hk:=(Kept.refl v2 (fun _=>False)).alloc (.cells #[.nilFunc,.nilFunc] 442)
   have hx:=heap_alloc_new v2 (.cells #[.nilFunc,.nilFunc] 442)
   have hq0:=SZ.out
   have KK:=kt KK hk
   have H4:=kb hk H4
   have SZ:=szk SZ hk
   have D7:=lh (carryA D7.out hk)
   have D8:=lh (carryA D8.out hk)
   have HQ:=lh hx
   clear c0 c1
   have c0:=cellOf (j:=0) H4.out
   have c1:=cellOf (j:=1) H4.out
   simp at c0 c1
   go_wp2
   have Lq:Hid (w4.heap.size≤v2.heap.size):=lh hq0
   obtain ⟨q,hq⟩:∃ q,v2.heap.size=q:=⟨_,rfl⟩
   obtain ⟨v50,hwn⟩:∃ v50,v2.alloc (.cells #[.nilFunc,.nilFunc] 442)=v50:=⟨_,rfl⟩
   rw [hwn] at KK H4 SZ D7 D8 HQ c0 c1 hx hk ⊢
   rw [hq] at HQ Lq D7 D8 ⊢
   clear hx hk hq0 hwn hq
   refine wpX_keeps ?_ (fun K hK=>?_)
   ·rfl
   go_wp2_with (fail)
   refine (numberN_ratchetChain 251 (Proofs.enters_of Tryz.func251 (by kernel_rfl) rfl) _).mono ?_
   rintro e v51 ⟨a9,b9,rfl,-,-,hk,hc⟩
   have D9:=lh (fresh_fromE SZ.out (blk_lt HQ.out) hc)
   have KK:=kt KK hk
   have H4:=kb hk H4
   have SZ:=szk SZ hk
   have D7:=cyE D7 hk
   have D8:=cyE D8 hk
   have HQ:=kb hk HQ
   clear hk hc c0 c1
   have c0:=cellOf (j:=0) H4.out
   have c1:=cellOf (j:=1) H4.out
   simp at c0 c1
   go_simp
   refine hK _ _ ⟨rfl,⟨c0,c1⟩,?_⟩
   clear hK K
   refine wpX_heavy ?_ (fun K hK=>?_)
   ·rfl
   go_wp2_with (fail)
   refine (listN_ratchetKey a3 b3 _).mono ?_
   rintro e v52 ⟨a11,b11,rfl,-,-,hk,hc⟩
   have D11:=lh (fresh_fromE SZ.out (blk_lt HQ.out) hc)
   have KK:=kt KK hk
   have H4:=kb hk H4
   have SZ:=szk SZ hk
   have D7:=cyE D7 hk
   have D8:=cyE D8 hk
   have HQ:=kb hk HQ
   have D9:=cyE D9 hk
   clear hk hc c0 c1
   have c0:=cellOf (j:=0) H4.out
   have c1:=cellOf (j:=1) H4.out
   simp at c0 c1
   go_simp
   refine hK _ _ ⟨rfl,?_⟩
   clear hK K
   refine wpX_heavy ?_ (fun K hK=>?_)
   ·rfl
   go_wp2_with (fail)
   refine (fieldN_lratchetKey_ratchetChain 253 (Proofs.enters_of Tryz.func253 (by kernel_rfl) rfl) a11 b11 _).mono ?_
   rintro e v53 ⟨a12,b12,rfl,-,-,hk,hc⟩
   have D12:=lh (fresh_fromE SZ.out (blk_lt HQ.out) hc)
   have KK:=kt KK hk
   have H4:=kb hk H4
   have SZ:=szk SZ hk
   have D7:=cyE D7 hk
   have D8:=cyE D8 hk
   have HQ:=kb hk HQ
   have D9:=cyE D9 hk
   have D11:=cyE D11 hk
   clear hk hc c0 c1
   have c0:=cellOf (j:=0) H4.out
   have c1:=cellOf (j:=1) H4.out
   simp at c0 c1
   go_simp
   refine hK _ _ ⟨rfl,?_⟩
   clear hK K
   refine wpX_heavy ?_ (fun K hK=>?_)
   ·rfl
   have hk:=(Kept.refl v53 (fun _=>False)).alloc (.cells #[a7,b7,a8,b8,a9,b9,a12,b12] 450)
   have hx:=heap_alloc_new v53 (.cells #[a7,b7,a8,b8,a9,b9,a12,b12] 450)
   have hq0:=SZ.out
   have KK:=kt KK hk
   have H4:=kb hk H4
   have SZ:=szk SZ hk
   have D7:=cyE D7 hk
   have D8:=cyE D8 hk
   have HQ:=kb hk HQ
   have D9:=cyE D9 hk
   have D11:=cyE D11 hk
   have D12:=cyE D12 hk
   have HP:=lh hx
   clear c0 c1
   have c0:=cellOf (j:=0) H4.out
   have c1:=cellOf (j:=1) H4.out
   simp at c0 c1
   go_wp2
   have Lpa:Hid (w4.heap.size≤v53.heap.size):=lh hq0
   obtain ⟨pa,hpa⟩:∃ pa,v53.heap.size=pa:=⟨_,rfl⟩
   obtain ⟨v54,hwn⟩:∃ v54,v53.alloc (.cells #[a7,b7,a8,b8,a9,b9,a12,b12] 450)=v54:=⟨_,rfl⟩
   rw [hwn] at KK H4 SZ D7 D8 HQ D9 D11 D12 HP c0 c1 hx hk ⊢
   rw [hpa] at HP Lpa  ⊢
   clear hx hk hq0 hwn hpa
   refine wpX_heavy ?_ (fun K hK=>?_)
   ·rfl
   go_wp2_with (fail)
   refine (recordN_ratchetChain pa 4 4 (by decide) (by decide) _).mono ?_
   rintro e v55 ⟨a14,b14,rfl,ha14,hb14,hk,hc⟩
   have D14:=lh (fresh_fromE SZ.out (blk_lt HQ.out) hc)
   have A14:=lh ha14
   have B14:=lh hb14
   have KK:=kt KK hk
   have H4:=kb hk H4
   have SZ:=szk SZ hk
   have D7:=cyE D7 hk
   have D8:=cyE D8 hk
   have HQ:=kb hk HQ
   have D9:=cyE D9 hk
   have D11:=cyE D11 hk
   have D12:=cyE D12 hk
   have HP:=kb hk HP
   clear hk hc ha14 hb14 c0 c1
   have c0:=cellOf (j:=0) H4.out
   have c1:=cellOf (j:=1) H4.out
   simp at c0 c1
   go_simp
   refine hK _ _ ⟨rfl,?_⟩
   clear hK K
   refine wpX_heavy ?_ (fun K hK=>?_)
   ·rfl
   refine wp_store_row 442 (.tmp 2) (.tmp 14) rfl q #[a14,b14] rfl rfl _ _ HQ.out (by kernel_rfl) rfl (by simp [A14.out,B14.out]) ?_
   go_simp
   refine hK _ _ ⟨rfl,?_⟩
   clear hK K
   refine wpX_nil ?_
   exact hQ' _ _ ⟨trivial,a7,b7,a8,b8,a9,b9,a11,b11,a12,b12,a14,b14,pa,q,rfl,rat_end SZ.out KK.out Lq.out Lpa.out HQ.out HP.out A14.out B14.out D7.out D8.out D9.out D11.out D12.out D14.out⟩
  simp only [pick,List.zip_cons_cons,List.zip_nil_right,List.filterMap_cons,List.filterMap_nil,List.getElem?_cons_zero,List.getElem?_cons_succ]
  refine wpX_keeps ?_ (fun K hK=>?_)
  ·rfl
  go_wp2_with (fail)
  refine (numberN_ratchetChain 251 (Proofs.enters_of Tryz.func251 (by kernel_rfl) rfl) _).mono ?_
  rintro e v3 ⟨a9,b9,rfl,-,-,hk,hc⟩
  have D9:=lh (fresh_from SZ.out hc)
  have KK:=kt KK hk
  have H4:=kb hk H4
  have SZ:=szk SZ hk
  have D7:=cy D7 hk
  have D8:=cy D8 hk
  clear hk hc c0 c1
  have c0:=cellOf (j:=0) H4.out
  have c1:=cellOf (j:=1) H4.out
  simp at c0 c1
  go_simp
  refine hK _ _ ⟨rfl,⟨c0,c1⟩,?_⟩
  clear hK K
  refine wpX_nil ?_
  refine wpT_two rfl (by rfl) (by rfl) ?_ ?_
  rotate_left
  ·simp only [pick,List.zip_cons_cons,List.zip_nil_right,List.filterMap_cons,List.filterMap_nil,List.getElem?_cons_zero,List.getElem?_cons_succ]
   refine wpX_keeps ?_ (fun K hK=>?_)
   ·rfl
   have hk:=(Kept.refl v3 (fun _=>False)).alloc (.cells #[.nilFunc,.nilFunc] 442)
   have hx:=heap_alloc_new v3 (.cells #[.nilFunc,.nilFunc] 442)
   have hq0:=SZ.out
   have KK:=kt KK hk
   have H4:=kb hk H4
   have SZ:=szk SZ hk
   have D7:=lh (carryA D7.out hk)
   have D8:=lh (carryA D8.out hk)
   have D9:=lh (carryA D9.out hk)
   have HQ:=lh hx
   clear c0 c1
   have c0:=cellOf (j:=0) H4.out
   have c1:=cellOf (j:=1) H4.out
   simp at c0 c1
   go_wp2
   have Lq:Hid (w4.heap.size≤v3.heap.size):=lh hq0
   obtain ⟨q,hq⟩:∃ q,v3.heap.size=q:=⟨_,rfl⟩
   obtain ⟨v50,hwn⟩:∃ v50,v3.alloc (.cells #[.nilFunc,.nilFunc] 442)=v50:=⟨_,rfl⟩
   rw [hwn] at KK H4 SZ D7 D8 D9 HQ c0 c1 hx hk ⊢
   rw [hq] at HQ Lq D7 D8 D9 ⊢
   clear hx hk hq0 hwn hq
   refine wpX_heavy ?_ (fun K hK=>?_)
   ·rfl
   go_wp2_with (fail)
   refine (listN_ratchetKey a3 b3 _).mono ?_
   rintro e v51 ⟨a11,b11,rfl,-,-,hk,hc⟩
   have D11:=lh (fresh_fromE SZ.out (blk_lt HQ.out) hc)
   have KK:=kt KK hk
   have H4:=kb hk H4
   have SZ:=szk SZ hk
   have D7:=cyE D7 hk
   have D8:=cyE D8 hk
   have D9:=cyE D9 hk
   have HQ:=kb hk HQ
   clear hk hc c0 c1
   have c0:=cellOf (j:=0) H4.out
   have c1:=cellOf (j:=1) H4.out
   simp at c0 c1
   go_simp
   refine hK _ _ ⟨rfl,?_⟩
   clear hK K
   refine wpX_heavy ?_ (fun K hK=>?_)
   ·rfl
   go_wp2_with (fail)
   refine (fieldN_lratchetKey_ratchetChain 253 (Proofs.enters_of Tryz.func253 (by kernel_rfl) rfl) a11 b11 _).mono ?_
   rintro e v52 ⟨a12,b12,rfl,-,-,hk,hc⟩
   have D12:=lh (fresh_fromE SZ.out (blk_lt HQ.out) hc)
   have KK:=kt KK hk
   have H4:=kb hk H4
   have SZ:=szk SZ hk
   have D7:=cyE D7 hk
   have D8:=cyE D8 hk
   have D9:=cyE D9 hk
   have HQ:=kb hk HQ
   have D11:=cyE D11 hk
   clear hk hc c0 c1
   have c0:=cellOf (j:=0) H4.out
   have c1:=cellOf (j:=1) H4.out
   simp at c0 c1
   go_simp
   refine hK _ _ ⟨rfl,?_⟩
   clear hK K
   refine wpX_heavy ?_ (fun K hK=>?_)
   ·rfl
   have hk:=(Kept.refl v52 (fun _=>False)).alloc (.cells #[a7,b7,a8,b8,a9,b9,a12,b12] 450)
   have hx:=heap_alloc_new v52 (.cells #[a7,b7,a8,b8,a9,b9,a12,b12] 450)
   have hq0:=SZ.out
   have KK:=kt KK hk
   have H4:=kb hk H4
   have SZ:=szk SZ hk
   have D7:=cyE D7 hk
   have D8:=cyE D8 hk
   have D9:=cyE D9 hk
   have HQ:=kb hk HQ
   have D11:=cyE D11 hk
   have D12:=cyE D12 hk
   have HP:=lh hx
   clear c0 c1
   have c0:=cellOf (j:=0) H4.out
   have c1:=cellOf (j:=1) H4.out
   simp at c0 c1
   go_wp2
   have Lpa:Hid (w4.heap.size≤v52.heap.size):=lh hq0
   obtain ⟨pa,hpa⟩:∃ pa,v52.heap.size=pa:=⟨_,rfl⟩
   obtain ⟨v53,hwn⟩:∃ v53,v52.alloc (.cells #[a7,b7,a8,b8,a9,b9,a12,b12] 450)=v53:=⟨_,rfl⟩
   rw [hwn] at KK H4 SZ D7 D8 D9 HQ D11 D12 HP c0 c1 hx hk ⊢
   rw [hpa] at HP Lpa  ⊢
   clear hx hk hq0 hwn hpa
   refine wpX_heavy ?_ (fun K hK=>?_)
   ·rfl
   go_wp2_with (fail)
   refine (recordN_ratchetChain pa 4 4 (by decide) (by decide) _).mono ?_
   rintro e v54 ⟨a14,b14,rfl,ha14,hb14,hk,hc⟩
   have D14:=lh (fresh_fromE SZ.out (blk_lt HQ.out) hc)
   have A14:=lh ha14
   have B14:=lh hb14
   have KK:=kt KK hk
   have H4:=kb hk H4
   have SZ:=szk SZ hk
   have D7:=cyE D7 hk
   have D8:=cyE D8 hk
   have D9:=cyE D9 hk
   have HQ:=kb hk HQ
   have D11:=cyE D11 hk
   have D12:=cyE D12 hk
   have HP:=kb hk HP
   clear hk hc ha14 hb14 c0 c1
   have c0:=cellOf (j:=0) H4.out
   have c1:=cellOf (j:=1) H4.out
   simp at c0 c1
   go_simp
   refine hK _ _ ⟨rfl,?_⟩
   clear hK K
   refine wpX_heavy ?_ (fun K hK=>?_)
   ·rfl
   refine wp_store_row 442 (.tmp 2) (.tmp 14) rfl q #[a14,b14] rfl rfl _ _ HQ.out (by kernel_rfl) rfl (by simp [A14.out,B14.out]) ?_
   go_simp
   refine hK _ _ ⟨rfl,?_⟩
   clear hK K
   refine wpX_nil ?_
   exact hQ' _ _ ⟨trivial,a7,b7,a8,b8,a9,b9,a11,b11,a12,b12,a14,b14,pa,q,rfl,rat_end SZ.out KK.out Lq.out Lpa.out HQ.out HP.out A14.out B14.out D7.out D8.out D9.out D11.out D12.out D14.out⟩
  simp only [pick,List.zip_cons_cons,List.zip_nil_right,List.filterMap_cons,List.filterMap_nil,List.getElem?_cons_zero,List.getElem?_cons_succ]
  refine wpX_heavy ?_ (fun K hK=>?_)
  ·rfl
  go_wp2_with (fail)
  refine (listN_ratchetKey a3 b3 _).mono ?_
  rintro e v4 ⟨a11,b11,rfl,-,-,hk,hc⟩
  have D11:=lh (fresh_from SZ.out hc)
  have KK:=kt KK hk
  have H4:=kb hk H4
  have SZ:=szk SZ hk
  have D7:=cy D7 hk
  have D8:=cy D8 hk
  have D9:=cy D9 hk
  clear hk hc c0 c1
  have c0:=cellOf (j:=0) H4.out
  have c1:=cellOf (j:=1) H4.out
  simp at c0 c1
  go_simp
  refine hK _ _ ⟨rfl,?_⟩
  clear hK K
  refine wpX_nil ?_
  refine wpT_two rfl (by rfl) (by rfl) ?_ ?_
  rotate_left
  ·simp only [pick,List.zip_cons_cons,List.zip_nil_right,List.filterMap_cons,List.filterMap_nil,List.getElem?_cons_zero,List.getElem?_cons_succ]
   refine wpX_keeps ?_ (fun K hK=>?_)
   ·rfl
   have hk:=(Kept.refl v4 (fun _=>False)).alloc (.cells #[.nilFunc,.nilFunc] 442)
   have hx:=heap_alloc_new v4 (.cells #[.nilFunc,.nilFunc] 442)
   have hq0:=SZ.out
   have KK:=kt KK hk
   have H4:=kb hk H4
   have SZ:=szk SZ hk
   have D7:=lh (carryA D7.out hk)
   have D8:=lh (carryA D8.out hk)
   have D9:=lh (carryA D9.out hk)
   have D11:=lh (carryA D11.out hk)
   have HQ:=lh hx
   clear c0 c1
   have c0:=cellOf (j:=0) H4.out
   have c1:=cellOf (j:=1) H4.out
   simp at c0 c1
   go_wp2
   have Lq:Hid (w4.heap.size≤v4.heap.size):=lh hq0
   obtain ⟨q,hq⟩:∃ q,v4.heap.size=q:=⟨_,rfl⟩
   obtain ⟨v50,hwn⟩:∃ v50,v4.alloc (.cells #[.nilFunc,.nilFunc] 442)=v50:=⟨_,rfl⟩
   rw [hwn] at KK H4 SZ D7 D8 D9 D11 HQ c0 c1 hx hk ⊢
   rw [hq] at HQ Lq D7 D8 D9 D11 ⊢
   clear hx hk hq0 hwn hq
   refine wpX_heavy ?_ (fun K hK=>?_)
   ·rfl
   go_wp2_with (fail)
   refine (fieldN_lratchetKey_ratchetChain 253 (Proofs.enters_of Tryz.func253 (by kernel_rfl) rfl) a11 b11 _).mono ?_
   rintro e v51 ⟨a12,b12,rfl,-,-,hk,hc⟩
   have D12:=lh (fresh_fromE SZ.out (blk_lt HQ.out) hc)
   have KK:=kt KK hk
   have H4:=kb hk H4
   have SZ:=szk SZ hk
   have D7:=cyE D7 hk
   have D8:=cyE D8 hk
   have D9:=cyE D9 hk
   have D11:=cyE D11 hk
   have HQ:=kb hk HQ
   clear hk hc c0 c1
   have c0:=cellOf (j:=0) H4.out
   have c1:=cellOf (j:=1) H4.out
   simp at c0 c1
   go_simp
   refine hK _ _ ⟨rfl,?_⟩
   clear hK K
   refine wpX_heavy ?_ (fun K hK=>?_)
   ·rfl
   have hk:=(Kept.refl v51 (fun _=>False)).alloc (.cells #[a7,b7,a8,b8,a9,b9,a12,b12] 450)
   have hx:=heap_alloc_new v51 (.cells #[a7,b7,a8,b8,a9,b9,a12,b12] 450)
   have hq0:=SZ.out
   have KK:=kt KK hk
   have H4:=kb hk H4
   have SZ:=szk SZ hk
   have D7:=cyE D7 hk
   have D8:=cyE D8 hk
   have D9:=cyE D9 hk
   have D11:=cyE D11 hk
   have HQ:=kb hk HQ
   have D12:=cyE D12 hk
   have HP:=lh hx
   clear c0 c1
   have c0:=cellOf (j:=0) H4.out
   have c1:=cellOf (j:=1) H4.out
   simp at c0 c1
   go_wp2
   have Lpa:Hid (w4.heap.size≤v51.heap.size):=lh hq0
   obtain ⟨pa,hpa⟩:∃ pa,v51.heap.size=pa:=⟨_,rfl⟩
   obtain ⟨v52,hwn⟩:∃ v52,v51.alloc (.cells #[a7,b7,a8,b8,a9,b9,a12,b12] 450)=v52:=⟨_,rfl⟩
   rw [hwn] at KK H4 SZ D7 D8 D9 D11 HQ D12 HP c0 c1 hx hk ⊢
   rw [hpa] at HP Lpa  ⊢
   clear hx hk hq0 hwn hpa
   refine wpX_heavy ?_ (fun K hK=>?_)
   ·rfl
   go_wp2_with (fail)
   refine (recordN_ratchetChain pa 4 4 (by decide) (by decide) _).mono ?_
   rintro e v53 ⟨a14,b14,rfl,ha14,hb14,hk,hc⟩
   have D14:=lh (fresh_fromE SZ.out (blk_lt HQ.out) hc)
   have A14:=lh ha14
   have B14:=lh hb14
   have KK:=kt KK hk
   have H4:=kb hk H4
   have SZ:=szk SZ hk
   have D7:=cyE D7 hk
   have D8:=cyE D8 hk
   have D9:=cyE D9 hk
   have D11:=cyE D11 hk
   have HQ:=kb hk HQ
   have D12:=cyE D12 hk
   have HP:=kb hk HP
   clear hk hc ha14 hb14 c0 c1
   have c0:=cellOf (j:=0) H4.out
   have c1:=cellOf (j:=1) H4.out
   simp at c0 c1
   go_simp
   refine hK _ _ ⟨rfl,?_⟩
   clear hK K
   refine wpX_heavy ?_ (fun K hK=>?_)
   ·rfl
   refine wp_store_row 442 (.tmp 2) (.tmp 14) rfl q #[a14,b14] rfl rfl _ _ HQ.out (by kernel_rfl) rfl (by simp [A14.out,B14.out]) ?_
   go_simp
   refine hK _ _ ⟨rfl,?_⟩
   clear hK K
   refine wpX_nil ?_
   exact hQ' _ _ ⟨trivial,a7,b7,a8,b8,a9,b9,a11,b11,a12,b12,a14,b14,pa,q,rfl,rat_end SZ.out KK.out Lq.out Lpa.out HQ.out HP.out A14.out B14.out D7.out D8.out D9.out D11.out D12.out D14.out⟩
  simp only [pick,List.zip_cons_cons,List.zip_nil_right,List.filterMap_cons,List.filterMap_nil,List.getElem?_cons_zero,List.getElem?_cons_succ]
  refine wpX_heavy ?_ (fun K hK=>?_)
  ·rfl
  go_wp2_with (fail)
  refine (fieldN_lratchetKey_ratchetChain 253 (Proofs.enters_of Tryz.func253 (by kernel_rfl) rfl) a11 b11 _).mono ?_
  rintro e v5 ⟨a12,b12,rfl,-,-,hk,hc⟩
  have D12:=lh (fresh_from SZ.out hc)
  have KK:=kt KK hk
  have H4:=kb hk H4
  have SZ:=szk SZ hk
  have D7:=cy D7 hk
  have D8:=cy D8 hk
  have D9:=cy D9 hk
  have D11:=cy D11 hk
  clear hk hc c0 c1
  have c0:=cellOf (j:=0) H4.out
  have c1:=cellOf (j:=1) H4.out
  simp at c0 c1
  go_simp
  refine hK _ _ ⟨rfl,?_⟩
  clear hK K
  refine wpX_nil ?_
  refine wpT_two rfl (by rfl) (by rfl) ?_ ?_
  rotate_left
  ·simp only [pick,List.zip_cons_cons,List.zip_nil_right,List.filterMap_cons,List.filterMap_nil,List.getElem?_cons_zero,List.getElem?_cons_succ]
   refine wpX_keeps ?_ (fun K hK=>?_)
   ·rfl
   have hk:=(Kept.refl v5 (fun _=>False)).alloc (.cells #[.nilFunc,.nilFunc] 442)
   have hx:=heap_alloc_new v5 (.cells #[.nilFunc,.nilFunc] 442)
   have hq0:=SZ.out
   have KK:=kt KK hk
   have H4:=kb hk H4
   have SZ:=szk SZ hk
   have D7:=lh (carryA D7.out hk)
   have D8:=lh (carryA D8.out hk)
   have D9:=lh (carryA D9.out hk)
   have D11:=lh (carryA D11.out hk)
   have D12:=lh (carryA D12.out hk)
   have HQ:=lh hx
   clear c0 c1
   have c0:=cellOf (j:=0) H4.out
   have c1:=cellOf (j:=1) H4.out
   simp at c0 c1
   go_wp2
   have Lq:Hid (w4.heap.size≤v5.heap.size):=lh hq0
   obtain ⟨q,hq⟩:∃ q,v5.heap.size=q:=⟨_,rfl⟩
   obtain ⟨v50,hwn⟩:∃ v50,v5.alloc (.cells #[.nilFunc,.nilFunc] 442)=v50:=⟨_,rfl⟩
   rw [hwn] at KK H4 SZ D7 D8 D9 D11 D12 HQ c0 c1 hx hk ⊢
   rw [hq] at HQ Lq D7 D8 D9 D11 D12 ⊢
   clear hx hk hq0 hwn hq
   refine wpX_heavy ?_ (fun K hK=>?_)
   ·rfl
   have hk:=(Kept.refl v50 (fun _=>False)).alloc (.cells #[a7,b7,a8,b8,a9,b9,a12,b12] 450)
   have hx:=heap_alloc_new v50 (.cells #[a7,b7,a8,b8,a9,b9,a12,b12] 450)
   have hq0:=SZ.out
   have KK:=kt KK hk
   have H4:=kb hk H4
   have SZ:=szk SZ hk
   have D7:=cyE D7 hk
   have D8:=cyE D8 hk
   have D9:=cyE D9 hk
   have D11:=cyE D11 hk
   have D12:=cyE D12 hk
   have HQ:=kb hk HQ
   have HP:=lh hx
   clear c0 c1
   have c0:=cellOf (j:=0) H4.out
   have c1:=cellOf (j:=1) H4.out
   simp at c0 c1
   go_wp2
   have Lpa:Hid (w4.heap.size≤v50.heap.size):=lh hq0
   obtain ⟨pa,hpa⟩:∃ pa,v50.heap.size=pa:=⟨_,rfl⟩
   obtain ⟨v51,hwn⟩:∃ v51,v50.alloc (.cells #[a7,b7,a8,b8,a9,b9,a12,b12] 450)=v51:=⟨_,rfl⟩
   rw [hwn] at KK H4 SZ D7 D8 D9 D11 D12 HQ HP c0 c1 hx hk ⊢
   rw [hpa] at HP Lpa  ⊢
   clear hx hk hq0 hwn hpa
   refine wpX_heavy ?_ (fun K hK=>?_)
   ·rfl
   go_wp2_with (fail)
   refine (recordN_ratchetChain pa 4 4 (by decide) (by decide) _).mono ?_
   rintro e v52 ⟨a14,b14,rfl,ha14,hb14,hk,hc⟩
   have D14:=lh (fresh_fromE SZ.out (blk_lt HQ.out) hc)
   have A14:=lh ha14
   have B14:=lh hb14
   have KK:=kt KK hk
   have H4:=kb hk H4
   have SZ:=szk SZ hk
   have D7:=cyE D7 hk
   have D8:=cyE D8 hk
   have D9:=cyE D9 hk
   have D11:=cyE D11 hk
   have D12:=cyE D12 hk
   have HQ:=kb hk HQ
   have HP:=kb hk HP
   clear hk hc ha14 hb14 c0 c1
   have c0:=cellOf (j:=0) H4.out
   have c1:=cellOf (j:=1) H4.out
   simp at c0 c1
   go_simp
   refine hK _ _ ⟨rfl,?_⟩
   clear hK K
   refine wpX_heavy ?_ (fun K hK=>?_)
   ·rfl
   refine wp_store_row 442 (.tmp 2) (.tmp 14) rfl q #[a14,b14] rfl rfl _ _ HQ.out (by kernel_rfl) rfl (by simp [A14.out,B14.out]) ?_
   go_simp
   refine hK _ _ ⟨rfl,?_⟩
   clear hK K
   refine wpX_nil ?_
   exact hQ' _ _ ⟨trivial,a7,b7,a8,b8,a9,b9,a11,b11,a12,b12,a14,b14,pa,q,rfl,rat_end SZ.out KK.out Lq.out Lpa.out HQ.out HP.out A14.out B14.out D7.out D8.out D9.out D11.out D12.out D14.out⟩
  simp only [pick,List.zip_cons_cons,List.zip_nil_right,List.filterMap_cons,List.filterMap_nil,List.getElem?_cons_zero,List.getElem?_cons_succ]
  refine wpX_heavy ?_ (fun K hK=>?_)
  ·rfl
  have hk:=(Kept.refl v5 (fun _=>False)).alloc (.cells #[a7,b7,a8,b8,a9,b9,a12,b12] 450)
  have hx:=heap_alloc_new v5 (.cells #[a7,b7,a8,b8,a9,b9,a12,b12] 450)
  have hq0:=SZ.out
  have KK:=kt KK hk
  have H4:=kb hk H4
  have SZ:=szk SZ hk
  have D7:=cy D7 hk
  have D8:=cy D8 hk
  have D9:=cy D9 hk
  have D11:=cy D11 hk
  have D12:=cy D12 hk
  have HP:=lh hx
  clear c0 c1
  have c0:=cellOf (j:=0) H4.out
  have c1:=cellOf (j:=1) H4.out
  simp at c0 c1
  go_wp2
  have Lpa:Hid (w4.heap.size≤v5.heap.size):=lh hq0
  obtain ⟨pa,hpa⟩:∃ pa,v5.heap.size=pa:=⟨_,rfl⟩
  obtain ⟨v6,hwn⟩:∃ v6,v5.alloc (.cells #[a7,b7,a8,b8,a9,b9,a12,b12] 450)=v6:=⟨_,rfl⟩
  rw [hwn] at KK H4 SZ D7 D8 D9 D11 D12 HP c0 c1 hx hk ⊢
  rw [hpa] at HP Lpa  ⊢
  clear hx hk hq0 hwn hpa
  refine wpX_nil ?_
  refine wpT_two rfl (by rfl) (by rfl) ?_ ?_
  rotate_left
  ·simp only [pick,List.zip_cons_cons,List.zip_nil_right,List.filterMap_cons,List.filterMap_nil,List.getElem?_cons_zero,List.getElem?_cons_succ]
   refine wpX_keeps ?_ (fun K hK=>?_)
   ·rfl
   have hk:=(Kept.refl v6 (fun _=>False)).alloc (.cells #[.nilFunc,.nilFunc] 442)
   have hx:=heap_alloc_new v6 (.cells #[.nilFunc,.nilFunc] 442)
   have hq0:=SZ.out
   have KK:=kt KK hk
   have H4:=kb hk H4
   have SZ:=szk SZ hk
   have D7:=lh (carryA D7.out hk)
   have D8:=lh (carryA D8.out hk)
   have D9:=lh (carryA D9.out hk)
   have D11:=lh (carryA D11.out hk)
   have D12:=lh (carryA D12.out hk)
   have HP:=kb hk HP
   have HQ:=lh hx
   clear c0 c1
   have c0:=cellOf (j:=0) H4.out
   have c1:=cellOf (j:=1) H4.out
   simp at c0 c1
   go_wp2
   have Lq:Hid (w4.heap.size≤v6.heap.size):=lh hq0
   obtain ⟨q,hq⟩:∃ q,v6.heap.size=q:=⟨_,rfl⟩
   obtain ⟨v50,hwn⟩:∃ v50,v6.alloc (.cells #[.nilFunc,.nilFunc] 442)=v50:=⟨_,rfl⟩
   rw [hwn] at KK H4 SZ D7 D8 D9 D11 D12 HP HQ c0 c1 hx hk ⊢
   rw [hq] at HQ Lq D7 D8 D9 D11 D12 ⊢
   clear hx hk hq0 hwn hq
   refine wpX_heavy ?_ (fun K hK=>?_)
   ·rfl
   go_wp2_with (fail)
   refine (recordN_ratchetChain pa 4 4 (by decide) (by decide) _).mono ?_
   rintro e v51 ⟨a14,b14,rfl,ha14,hb14,hk,hc⟩
   have D14:=lh (fresh_fromE SZ.out (blk_lt HQ.out) hc)
   have A14:=lh ha14
   have B14:=lh hb14
   have KK:=kt KK hk
   have H4:=kb hk H4
   have SZ:=szk SZ hk
   have D7:=cyE D7 hk
   have D8:=cyE D8 hk
   have D9:=cyE D9 hk
   have D11:=cyE D11 hk
   have D12:=cyE D12 hk
   have HP:=kb hk HP
   have HQ:=kb hk HQ
   clear hk hc ha14 hb14 c0 c1
   have c0:=cellOf (j:=0) H4.out
   have c1:=cellOf (j:=1) H4.out
   simp at c0 c1
   go_simp
   refine hK _ _ ⟨rfl,?_⟩
   clear hK K
   refine wpX_heavy ?_ (fun K hK=>?_)
   ·rfl
   refine wp_store_row 442 (.tmp 2) (.tmp 14) rfl q #[a14,b14] rfl rfl _ _ HQ.out (by kernel_rfl) rfl (by simp [A14.out,B14.out]) ?_
   go_simp
   refine hK _ _ ⟨rfl,?_⟩
   clear hK K
   refine wpX_nil ?_
   exact hQ' _ _ ⟨trivial,a7,b7,a8,b8,a9,b9,a11,b11,a12,b12,a14,b14,pa,q,rfl,rat_end SZ.out KK.out Lq.out Lpa.out HQ.out HP.out A14.out B14.out D7.out D8.out D9.out D11.out D12.out D14.out⟩
  simp only [pick,List.zip_cons_cons,List.zip_nil_right,List.filterMap_cons,List.filterMap_nil,List.getElem?_cons_zero,List.getElem?_cons_succ]
  refine wpX_heavy ?_ (fun K hK=>?_)
  ·rfl
  go_wp2_with (fail)
  refine (recordN_ratchetChain pa 4 4 (by decide) (by decide) _).mono ?_
  rintro e v7 ⟨a14,b14,rfl,ha14,hb14,hk,hc⟩
  have D14:=lh (fresh_from SZ.out hc)
  have A14:=lh ha14
  have B14:=lh hb14
  have KK:=kt KK hk
  have H4:=kb hk H4
  have SZ:=szk SZ hk
  have D7:=cy D7 hk
  have D8:=cy D8 hk
  have D9:=cy D9 hk
  have D11:=cy D11 hk
  have D12:=cy D12 hk
  have HP:=kb hk HP
  clear hk hc ha14 hb14 c0 c1
  have c0:=cellOf (j:=0) H4.out
  have c1:=cellOf (j:=1) H4.out
  simp at c0 c1
  go_simp
  refine hK _ _ ⟨rfl,?_⟩
  clear hK K
  refine wpX_nil ?_
  refine wpT_ones rfl [8,9] _ _ (by rfl) ?_
  simp only [pick,List.zip_cons_cons,List.zip_nil_right,List.filterMap_cons,List.filterMap_nil,List.getElem?_cons_zero,List.getElem?_cons_succ]
  refine wpX_keeps ?_ (fun K hK=>?_)
  ·rfl
  have hk:=(Kept.refl v7 (fun _=>False)).alloc (.cells #[.nilFunc,.nilFunc] 442)
  have hx:=heap_alloc_new v7 (.cells #[.nilFunc,.nilFunc] 442)
  have hq0:=SZ.out
  have KK:=kt KK hk
  have H4:=kb hk H4
  have SZ:=szk SZ hk
  have D7:=lh (carryA D7.out hk)
  have D8:=lh (carryA D8.out hk)
  have D9:=lh (carryA D9.out hk)
  have D11:=lh (carryA D11.out hk)
  have D12:=lh (carryA D12.out hk)
  have HP:=kb hk HP
  have D14:=lh (carryA D14.out hk)
  have HQ:=lh hx
  clear c0 c1
  have c0:=cellOf (j:=0) H4.out
  have c1:=cellOf (j:=1) H4.out
  simp at c0 c1
  go_wp2
  have Lq:Hid (w4.heap.size≤v7.heap.size):=lh hq0
  obtain ⟨q,hq⟩:∃ q,v7.heap.size=q:=⟨_,rfl⟩
  obtain ⟨v8,hwn⟩:∃ v8,v7.alloc (.cells #[.nilFunc,.nilFunc] 442)=v8:=⟨_,rfl⟩
  rw [hwn] at KK H4 SZ D7 D8 D9 D11 D12 HP D14 HQ c0 c1 hx hk ⊢
  rw [hq] at HQ Lq D7 D8 D9 D11 D12 D14 ⊢
  clear hx hk hq0 hwn hq
  refine wpX_heavy ?_ (fun K hK=>?_)
  ·rfl
  refine wp_store_row 442 (.tmp 2) (.tmp 14) rfl q #[a14,b14] rfl rfl _ _ HQ.out (by kernel_rfl) rfl (by simp [A14.out,B14.out]) ?_
  go_simp
  refine hK _ _ ⟨rfl,?_⟩
  clear hK K
  refine wpX_nil ?_
  exact hQ' _ _ ⟨trivial,a7,b7,a8,b8,a9,b9,a11,b11,a12,b12,a14,b14,pa,q,rfl,rat_end SZ.out KK.out Lq.out Lpa.out HQ.out HP.out A14.out B14.out D7.out D8.out D9.out D11.out D12.out D14.out⟩
 case post=>
  obtain ⟨rfl,a7,b7,a8,b8,a9,b9,a11,b11,a12,b12,a14,b14,pa,q,rfl,hk,hq,hb,ha14,hb14,hc⟩:=h
  have sz1:(w.alloc (.cells #[.nilFunc,.nilFunc] 307)).heap.size=w.heap.size+1:=by simp
  have kp:=(Kept.refl w2 (fun _=>False)).alloc (.cells #[a1,b1,a2,b2] 435)
  have E1:=C1.out
  have E2:=fresh_from K1.out.size C2.out
  have E1:=carry E1 K2.out
  have E1:=carry E1 kp
  have E2:=carry E2 kp
  have E3:=fresh_from (Nat.le_trans K1.out.size (Nat.le_trans K2.out.size kp.size)) C3.out
  have hp:=(K3.out.blk (heap_alloc_new w2 (.cells #[a1,b1,a2,b2] 435)) (fun h=>h))
  have E1:=carry E1 K3.out
  have E2:=carry E2 K3.out
  have k34:=K4.out.trans hk (fun _ h=>h.elim)
  have E1:=carry E1 k34
  have E2:=carry E2 k34
  have E3:=carry E3 k34
  have hp:=k34.blk hp (fun h=>h)
  have kA:=((((K1.out.trans K2.out (fun _ h=>h.elim)).alloc (.cells #[a1,b1,a2,b2] 435)).trans K3.out (fun _ h=>h.elim)).trans k34 (fun _ h=>h.elim))
  have hr:=kA.blk (heap_alloc_new w (.cells #[.nilFunc,.nilFunc] 307)) (fun h=>h)
  have kW:=((Kept.refl w (fun _=>False)).alloc (.cells #[.nilFunc,.nilFunc] 307)).trans kA (fun _ h=>h.elim)
  have lb4:(w.alloc (.cells #[.nilFunc,.nilFunc] 307)).heap.size≤w4.heap.size:=Nat.le_trans (Nat.le_trans K1.out.size (Nat.le_trans K2.out.size (Nat.le_trans kp.size K3.out.size))) K4.out.size
  have lw2:(w.alloc (.cells #[.nilFunc,.nilFunc] 307)).heap.size≤w2.heap.size:=Nat.le_trans K1.out.size K2.out.size
  have CH:∀ W',From (w.alloc (.cells #[.nilFunc,.nilFunc] 307)).heap.size w' W'→IsCodec W' (.agg #[a14,b14]) chaiC:=fun W' hW=>by
   refine hc W' ⟨hW.1,fun k h1 h2=>hW.2 k (by omega) h2⟩ ?_
   have hpa:W'.heap[w2.heap.size]?=_:=hW.blk lw2 hp
   have P1:=E1 W' hW 0 2 (by decide) (fun x:RkeyD=>x.gen) (fun y x=>{ x with gen:=y }) get_rkey_gen
   have P2:=E2 W' hW 1 2 (by decide) (fun x:RkeyD=>x.term) (fun y x=>{ x with term:=y }) get_rkey_term
   refine E3 W' hW rkeyP rfl rkeyP_fair rkeyP_off RkeyZ (by decide) ⟨blk_lt hpa,fun k p hp=>?_⟩
   match k,hp with
   | 0,hp=>obtain rfl:=Option.some.inj hp; exact ⟨a1,b1,cellOf hpa,cellOf hpa,P1.1,P1.2⟩
   | 1,hp=>obtain rfl:=Option.some.inj hp; exact ⟨a2,b2,cellOf hpa,cellOf hpa,P2.1,P2.2⟩
   | k+2,hp=>simp [rkeyP] at hp
  obtain ⟨b0,hb0⟩:∃ b0,(w.alloc (.cells #[.nilFunc,.nilFunc] 307)).heap.size=b0:=⟨_,rfl⟩
  have SZ:=lh (show b0≤w'.heap.size by rw [← hb0]; exact Nat.le_trans lb4 hk.size)
  rw [hb0] at CH sz1
  have CH:=lh CH
  have HR:=lh hr
  have KW:=lh kW
  have HQ:=lh hb
  have B0:=lh (show w.heap.size < b0 by omega)
  clear E1 E2 E3 hp kp k34 kA hr kW lb4 lw2 hb0 sz1 hk hq hb hc ha14 hb14 C1 C2 C3 K1 K2 K3 K4 H4 HZ3 A3 B3 c0 c1
  have c0:=cellOf (j:=0) HQ.out
  have c1:=cellOf (j:=1) HQ.out
  simp at c0 c1
  go_wp2
  refine wp_region_lex (fun w'=>w'.cell? ⟨q,0,none⟩=some a14∧w'.cell? ⟨q,1,none⟩=some b14) [2,2,2,2,3,4,4,4,4,4] (by kernel_rfl) (by kernel_rfl) (by kernel_rfl) (⟨c0,c1⟩) (fun Q' hQ'=>?_)
  simp only [List.zip_cons_cons,List.zip_nil_right]
  obtain ⟨v0,hv0⟩:∃ v0,w'.drew=v0:=⟨_,rfl⟩
  have SZ:Hid (b0≤w'.drew.heap.size):=lh SZ.out
  have HQ:Hid (w'.drew.heap[q]?=_):=lh HQ.out
  have HR:Hid (w'.drew.heap[w.heap.size]?=_):=lh HR.out
  have KW:=lh KW.out.drew
  have CH:=lh (carry CH.out ((Kept.refl w' (fun _=>False)).drew))
  have c0:w'.drew.cell? ⟨q,0,none⟩=some a14:=c0
  have c1:w'.drew.cell? ⟨q,1,none⟩=some b14:=c1
  rw [hv0] at SZ HQ HR KW CH c0 c1 ⊢
  clear hv0
  repeat((first|(refine wpX_silent ?_ fun K hK=>?_;rfl;apply Exists.intro;refine ⟨fun w'=>?_,?_⟩;go_simp;exact⟨rfl,rfl⟩)|(refine wpX_read ?_ fun K hK=>?_;rfl;apply Exists.intro;refine ⟨?_,?_⟩;go_simp;exact⟨rfl,rfl⟩)|(refine wpX_float ?_ fun K hK=>?_;rfl;apply Exists.intro;refine ⟨fun w' hw'=>?_,?_⟩;(try dsimp only at hw');go_simp;exact⟨rfl,rfl⟩)|(refine wpX_not ?_ fun K hK=>?_;rfl));go_simp;refine hK _ _ ?_;clear hK K)
  refine wpX_keeps ?_ (fun K hK=>?_)
  ·rfl
  go_wp2_with (fail)
  refine (numberN_ratchetState 257 (Proofs.enters_of Tryz.func257 (by kernel_rfl) rfl) _).mono ?_
  rintro e v1 ⟨a15,b15,rfl,-,-,hk,hc⟩
  have D15:=lh (fresh_from SZ.out hc)
  have SZ:=szk SZ hk
  have CH:=cy CH hk
  have HQ:=kb hk HQ
  have HR:=kb hk HR
  have KW:=kt KW hk
  clear hk hc c0 c1
  have c0:=cellOf (j:=0) HQ.out
  have c1:=cellOf (j:=1) HQ.out
  simp at c0 c1
  go_simp
  refine hK _ _ ⟨rfl,⟨c0,c1⟩,?_⟩
  clear hK K
  repeat((first|(refine wpX_silent ?_ fun K hK=>?_;rfl;apply Exists.intro;refine ⟨fun w'=>?_,?_⟩;go_simp;exact⟨rfl,rfl⟩)|(refine wpX_read ?_ fun K hK=>?_;rfl;apply Exists.intro;refine ⟨?_,?_⟩;go_simp;exact⟨rfl,rfl⟩)|(refine wpX_float ?_ fun K hK=>?_;rfl;apply Exists.intro;refine ⟨fun w' hw'=>?_,?_⟩;(try dsimp only at hw');go_simp;exact⟨rfl,rfl⟩)|(refine wpX_not ?_ fun K hK=>?_;rfl));go_simp;refine hK _ _ ?_;clear hK K)
  refine wpX_keeps ?_ (fun K hK=>?_)
  ·rfl
  go_wp2_with (fail)
  refine (signed_made _).mono ?_
  rintro e v2 ⟨a16,b16,rfl,-,-,hk,hc⟩
  have D16:=lh (fresh_from SZ.out hc)
  have SZ:=szk SZ hk
  have D15:=cy D15 hk
  have CH:=cy CH hk
  have HQ:=kb hk HQ
  have HR:=kb hk HR
  have KW:=kt KW hk
  clear hk hc c0 c1
  have c0:=cellOf (j:=0) HQ.out
  have c1:=cellOf (j:=1) HQ.out
  simp at c0 c1
  go_simp
  refine hK _ _ ⟨rfl,⟨c0,c1⟩,?_⟩
  clear hK K
  repeat((first|(refine wpX_silent ?_ fun K hK=>?_;rfl;apply Exists.intro;refine ⟨fun w'=>?_,?_⟩;go_simp;exact⟨rfl,rfl⟩)|(refine wpX_read ?_ fun K hK=>?_;rfl;apply Exists.intro;refine ⟨?_,?_⟩;go_simp;exact⟨rfl,rfl⟩)|(refine wpX_float ?_ fun K hK=>?_;rfl;apply Exists.intro;refine ⟨fun w' hw'=>?_,?_⟩;(try dsimp only at hw');go_simp;exact⟨rfl,rfl⟩)|(refine wpX_not ?_ fun K hK=>?_;rfl));go_simp;refine hK _ _ ?_;clear hK K)
  refine wpX_keeps ?_ (fun K hK=>?_)
  ·rfl
  go_wp2_with (fail)
  refine (listN_int a16 b16 _).mono ?_
  rintro e v3 ⟨a17,b17,rfl,-,-,hk,hc⟩
  have D17:=lh (fresh_from SZ.out hc)
  have SZ:=szk SZ hk
  have D15:=cy D15 hk
  have D16:=cy D16 hk
  have CH:=cy CH hk
  have HQ:=kb hk HQ
  have HR:=kb hk HR
  have KW:=kt KW hk
  clear hk hc c0 c1
  have c0:=cellOf (j:=0) HQ.out
  have c1:=cellOf (j:=1) HQ.out
  simp at c0 c1
  go_simp
  refine hK _ _ ⟨rfl,⟨c0,c1⟩,?_⟩
  clear hK K
  repeat((first|(refine wpX_silent ?_ fun K hK=>?_;rfl;apply Exists.intro;refine ⟨fun w'=>?_,?_⟩;go_simp;exact⟨rfl,rfl⟩)|(refine wpX_read ?_ fun K hK=>?_;rfl;apply Exists.intro;refine ⟨?_,?_⟩;go_simp;exact⟨rfl,rfl⟩)|(refine wpX_float ?_ fun K hK=>?_;rfl;apply Exists.intro;refine ⟨fun w' hw'=>?_,?_⟩;(try dsimp only at hw');go_simp;exact⟨rfl,rfl⟩)|(refine wpX_not ?_ fun K hK=>?_;rfl));go_simp;refine hK _ _ ?_;clear hK K)
  refine wpX_keeps ?_ (fun K hK=>?_)
  ·rfl
  go_wp2_with (fail)
  refine (fieldN_lint_ratchetState 259 (Proofs.enters_of Tryz.func259 (by kernel_rfl) rfl) a17 b17 _).mono ?_
  rintro e v4 ⟨a18,b18,rfl,-,-,hk,hc⟩
  have D18:=lh (fresh_from SZ.out hc)
  have SZ:=szk SZ hk
  have D15:=cy D15 hk
  have D16:=cy D16 hk
  have D17:=cy D17 hk
  have CH:=cy CH hk
  have HQ:=kb hk HQ
  have HR:=kb hk HR
  have KW:=kt KW hk
  clear hk hc c0 c1
  have c0:=cellOf (j:=0) HQ.out
  have c1:=cellOf (j:=1) HQ.out
  simp at c0 c1
  go_simp
  refine hK _ _ ⟨rfl,⟨c0,c1⟩,?_⟩
  clear hK K
  repeat((first|(refine wpX_silent ?_ fun K hK=>?_;rfl;apply Exists.intro;refine ⟨fun w'=>?_,?_⟩;go_simp;exact⟨rfl,rfl⟩)|(refine wpX_read ?_ fun K hK=>?_;rfl;apply Exists.intro;refine ⟨?_,?_⟩;go_simp;exact⟨rfl,rfl⟩)|(refine wpX_float ?_ fun K hK=>?_;rfl;apply Exists.intro;refine ⟨fun w' hw'=>?_,?_⟩;(try dsimp only at hw');go_simp;exact⟨rfl,rfl⟩)|(refine wpX_not ?_ fun K hK=>?_;rfl));go_simp;refine hK _ _ ?_;clear hK K)
  refine wpX_heavy ?_ (fun K hK=>?_)
  ·rfl
  go_wp2_with (fail)
  refine (listN_ratchetChain a14 b14 _).mono ?_
  rintro e v5 ⟨a20,b20,rfl,-,-,hk,hc⟩
  have D20:=lh (fresh_from SZ.out hc)
  have SZ:=szk SZ hk
  have D15:=cy D15 hk
  have D16:=cy D16 hk
  have D17:=cy D17 hk
  have D18:=cy D18 hk
  have CH:=cy CH hk
  have HQ:=kb hk HQ
  have HR:=kb hk HR
  have KW:=kt KW hk
  clear hk hc c0 c1
  have c0:=cellOf (j:=0) HQ.out
  have c1:=cellOf (j:=1) HQ.out
  simp at c0 c1
  go_simp
  refine hK _ _ ⟨rfl,?_⟩
  clear hK K
  repeat((first|(refine wpX_silent ?_ fun K hK=>?_;rfl;apply Exists.intro;refine ⟨fun w'=>?_,?_⟩;go_simp;exact⟨rfl,rfl⟩)|(refine wpX_read ?_ fun K hK=>?_;rfl;apply Exists.intro;refine ⟨?_,?_⟩;go_simp;exact⟨rfl,rfl⟩)|(refine wpX_float ?_ fun K hK=>?_;rfl;apply Exists.intro;refine ⟨fun w' hw'=>?_,?_⟩;(try dsimp only at hw');go_simp;exact⟨rfl,rfl⟩)|(refine wpX_not ?_ fun K hK=>?_;rfl));go_simp;refine hK _ _ ?_;clear hK K)
  refine wpX_heavy ?_ (fun K hK=>?_)
  ·rfl
  go_wp2_with (fail)
  refine (fieldN_lratchetChain_ratchetState 261 (Proofs.enters_of Tryz.func261 (by kernel_rfl) rfl) a20 b20 _).mono ?_
  rintro e v6 ⟨a21,b21,rfl,-,-,hk,hc⟩
  have D21:=lh (fresh_from SZ.out hc)
  have SZ:=szk SZ hk
  have D15:=cy D15 hk
  have D16:=cy D16 hk
  have D17:=cy D17 hk
  have D18:=cy D18 hk
  have D20:=cy D20 hk
  have CH:=cy CH hk
  have HQ:=kb hk HQ
  have HR:=kb hk HR
  have KW:=kt KW hk
  clear hk hc c0 c1
  have c0:=cellOf (j:=0) HQ.out
  have c1:=cellOf (j:=1) HQ.out
  simp at c0 c1
  go_simp
  refine hK _ _ ⟨rfl,?_⟩
  clear hK K
  repeat((first|(refine wpX_silent ?_ fun K hK=>?_;rfl;apply Exists.intro;refine ⟨fun w'=>?_,?_⟩;go_simp;exact⟨rfl,rfl⟩)|(refine wpX_read ?_ fun K hK=>?_;rfl;apply Exists.intro;refine ⟨?_,?_⟩;go_simp;exact⟨rfl,rfl⟩)|(refine wpX_float ?_ fun K hK=>?_;rfl;apply Exists.intro;refine ⟨fun w' hw'=>?_,?_⟩;(try dsimp only at hw');go_simp;exact⟨rfl,rfl⟩)|(refine wpX_not ?_ fun K hK=>?_;rfl));go_simp;refine hK _ _ ?_;clear hK K)
  refine wpX_heavy ?_ (fun K hK=>?_)
  ·rfl
  have hk:=(Kept.refl v6 (fun _=>False)).alloc (.cells #[a15,b15,a18,b18,a21,b21] 466)
  have hx:=heap_alloc_new v6 (.cells #[a15,b15,a18,b18,a21,b21] 466)
  have LP:=lh SZ.out
  have D15:=cy D15 hk
  have D16:=cy D16 hk
  have D17:=cy D17 hk
  have D18:=cy D18 hk
  have D20:=cy D20 hk
  have D21:=cy D21 hk
  have CH:=cy CH hk
  have HR:=kb hk HR
  have KW:=kt KW hk
  have SZ:=szk SZ hk
  have HP:=lh hx
  clear c0 c1 HQ
  go_wp2
  obtain ⟨pb,hpb⟩:∃ pb,v6.heap.size=pb:=⟨_,rfl⟩
  obtain ⟨v7,hv7⟩:∃ v7,v6.alloc (.cells #[a15,b15,a18,b18,a21,b21] 466)=v7:=⟨_,rfl⟩
  rw [hv7] at D15 D16 D17 D18 D20 D21 CH HR KW SZ HP hk hx ⊢
  rw [hpb] at HP LP ⊢
  clear hk hx hv7 hpb
  repeat((first|(refine wpX_silent ?_ fun K hK=>?_;rfl;apply Exists.intro;refine ⟨fun w'=>?_,?_⟩;go_simp;exact⟨rfl,rfl⟩)|(refine wpX_read ?_ fun K hK=>?_;rfl;apply Exists.intro;refine ⟨?_,?_⟩;go_simp;exact⟨rfl,rfl⟩)|(refine wpX_float ?_ fun K hK=>?_;rfl;apply Exists.intro;refine ⟨fun w' hw'=>?_,?_⟩;(try dsimp only at hw');go_simp;exact⟨rfl,rfl⟩)|(refine wpX_not ?_ fun K hK=>?_;rfl));go_simp;refine hK _ _ ?_;clear hK K)
  refine wpX_heavy ?_ (fun K hK=>?_)
  ·rfl
  go_wp2_with (fail)
  refine (recordN_ratchetState pb 3 3 (by decide) (by decide) _).mono ?_
  rintro e v8 ⟨a,b,rfl,ha,hb,hk,hc⟩
  have D23:=lh (fresh_from SZ.out hc)
  have HA:=lh ha
  have HBB:=lh hb
  have D15:=cy D15 hk
  have D16:=cy D16 hk
  have D17:=cy D17 hk
  have D18:=cy D18 hk
  have D20:=cy D20 hk
  have D21:=cy D21 hk
  have CH:=cy CH hk
  have HR:=kb hk HR
  have KW:=kt KW hk
  have SZ:=szk SZ hk
  have HP:=kb hk HP
  clear hk hc ha hb
  go_simp
  refine hK _ _ ⟨rfl,?_⟩
  clear hK K
  repeat((first|(refine wpX_silent ?_ fun K hK=>?_;rfl;apply Exists.intro;refine ⟨fun w'=>?_,?_⟩;go_simp;exact⟨rfl,rfl⟩)|(refine wpX_read ?_ fun K hK=>?_;rfl;apply Exists.intro;refine ⟨?_,?_⟩;go_simp;exact⟨rfl,rfl⟩)|(refine wpX_float ?_ fun K hK=>?_;rfl;apply Exists.intro;refine ⟨fun w' hw'=>?_,?_⟩;(try dsimp only at hw');go_simp;exact⟨rfl,rfl⟩)|(refine wpX_not ?_ fun K hK=>?_;rfl));go_simp;refine hK _ _ ?_;clear hK K)
  refine wpX_heavy ?_ (fun K hK=>?_)
  ·rfl
  refine wp_store_row 307 (.tmp 0) (.tmp 23) rfl w.heap.size #[a,b] rfl rfl _ _ HR.out (by kernel_rfl) rfl (by simp [HA.out,HBB.out]) ?_
  go_simp
  refine hK _ _ ⟨rfl,?_⟩
  clear hK K
  refine wpX_nil (hQ' _ _ ?_)
  go_wp2
  have hsr:=setRow_heap v8 w.heap.size _ #[a,b] 307 (0,0) HR.out
  have kr:Kept v8 (v8.setRow w.heap.size #[a,b]) (fun j=>j=w.heap.size):=⟨rfl,rfl,rfl,by simp,fun j _ hj=>setRow_other v8 w.heap.size j _ hj⟩
  refine bodyPost_ret (results_cell_row rfl _ _ _ _ _ _ _ rfl hsr Tryz.underlying307 rfl (by kernel_rfl)) rfl ?_
  refine ⟨a,b,rfl,HA.out,HBB.out,KW.out.trans kr (fun j h=>.inr (by omega)),fun W' hW=>?_⟩
  have hb0:=B0.out
  have hF:From b0 v8 W':=hW.pre (kr.mono (fun k h=>by omega)) (by omega)
  have hpa:W'.heap[pb]?=_:=hF.blk LP.out HP.out
  have P15:=D15.out W' hF 0 3 (by decide) (fun x:RatsD=>x.leaves) (fun y x=>{ x with leaves:=y }) get_rats_leaves
  have P18:=D18.out W' hF (listC sgnC 65536) (listC_fair sgnC_fair 65536) (listC_one sgnC 65536) 1 3 (by decide) (fun x:RatsD=>x.nodes) (fun y x=>{ x with nodes:=y }) (D17.out W' hF sgnC sgnC_fair sgnC_one (D16.out W' hF)) get_rats_nodes
  have P21:=D21.out W' hF (listN chaiC 4 65536) (listN_fair chaiC_fair 4 65536) (listN_one chaiC 4 65536) 2 3 (by decide) (fun x:RatsD=>x.chains) (fun y x=>{ x with chains:=y }) (D20.out W' hF chaiC chaiC_fair chaiC_many (CH.out W' hF)) get_rats_chains
  refine D23.out W' hF ratsP rfl ratsP_fair ratsP_off RatsZ (by decide) ⟨blk_lt hpa,fun k p hp=>?_⟩
  match k,hp with
  | 0,hp=>obtain rfl:=Option.some.inj hp; exact ⟨a15,b15,cellOf hpa,cellOf hpa,P15.1,P15.2⟩
  | 1,hp=>obtain rfl:=Option.some.inj hp; exact ⟨a18,b18,cellOf hpa,cellOf hpa,P18.1,P18.2⟩
  | 2,hp=>obtain rfl:=Option.some.inj hp; exact ⟨a21,b21,cellOf hpa,cellOf hpa,P21.1,P21.2⟩
  | k+3,hp=>simp [ratsP] at hp
end Go.Proofs.YtogkkfdkeefjnaaGreatDoor.Codec
