/-
  The member's records: cards, what is kept, secrets, proposals. The member's records: vertices, epochs. The member's records: ratchets, what is cached, updates; plainly, and their parts. A region that draws its order and holds an operation that may come at any place among others: walked along a tree of orders. No program's text is in it.
-/
import Derived.Test.YtogkkfdkeefjnaaGreatDoorA21
import Derived.Test.YtogkkfdkeefjnaaGreatDoorA01
namespace Go.Proofs.YtogkkfdkeefjnaaGreatDoor.Codec
open Go.RowKit Go.Proofs.YtogkkfdkeefjnaaGreatDoorBase Go.Proofs.YtogkkfdkeefjnaaGreatDoorLex2 Go.Proofs.YtogkkfdkeefjnaaGreatDoorNum
set_option linter.unusedVariables false
set_option maxRecDepth 100000
set_option linter.unusedSimpArgs false
structure CardD where
 client:Int
 init:Int
 leaf:Int
 sig:Int
 till:Int
 mark:Int
def CardZ:CardD:=⟨0,0,0,0,0,0⟩
def card_client:Prt CardD:=oneP sgnC 0 (·.client) (fun y x=>{ x with client:=y })
def card_init:Prt CardD:=oneP sgnC 1 (·.init) (fun y x=>{ x with init:=y })
def card_leaf:Prt CardD:=oneP sgnC 2 (·.leaf) (fun y x=>{ x with leaf:=y })
def card_sig:Prt CardD:=oneP sgnC 3 (·.sig) (fun y x=>{ x with sig:=y })
def card_till:Prt CardD:=oneP sgnC 4 (·.till) (fun y x=>{ x with till:=y })
def card_mark:Prt CardD:=oneP sgnC 5 (·.mark) (fun y x=>{ x with mark:=y })
def cardP:List (Prt CardD):=[card_client,card_init,card_leaf,card_sig,card_till,card_mark]
def cardC:Cod CardD:=recC 6 cardP CardZ
theorem cardP_fair:∀ p∈cardP,PFair 6 p:=by
 intro p hp
 simp only [cardP,List.mem_cons,List.not_mem_nil,or_false] at hp
 rcases hp with rfl | rfl | rfl | rfl | rfl | rfl
 ·exact oneP_fair sgnC_fair sgnC_one (by decide) (fun _ _=>rfl)
 ·exact oneP_fair sgnC_fair sgnC_one (by decide) (fun _ _=>rfl)
 ·exact oneP_fair sgnC_fair sgnC_one (by decide) (fun _ _=>rfl)
 ·exact oneP_fair sgnC_fair sgnC_one (by decide) (fun _ _=>rfl)
 ·exact oneP_fair sgnC_fair sgnC_one (by decide) (fun _ _=>rfl)
 ·exact oneP_fair sgnC_fair sgnC_one (by decide) (fun _ _=>rfl)
theorem cardP_off:cardP.Pairwise (fun p p'=>Off 6 p p'):=by
 unfold cardP
 refine List.Pairwise.cons ?_ ?_
 ·intro q hq
  simp only [List.mem_cons,List.not_mem_nil,or_false] at hq
  rcases hq with rfl | rfl | rfl | rfl | rfl
  ·exact off_rng (oneP_rng sgnC 0 6 _ _) (oneP_rng sgnC 1 6 _ _) (by decide) (fun _ _=>rfl)
  ·exact off_rng (oneP_rng sgnC 0 6 _ _) (oneP_rng sgnC 2 6 _ _) (by decide) (fun _ _=>rfl)
  ·exact off_rng (oneP_rng sgnC 0 6 _ _) (oneP_rng sgnC 3 6 _ _) (by decide) (fun _ _=>rfl)
  ·exact off_rng (oneP_rng sgnC 0 6 _ _) (oneP_rng sgnC 4 6 _ _) (by decide) (fun _ _=>rfl)
  ·exact off_rng (oneP_rng sgnC 0 6 _ _) (oneP_rng sgnC 5 6 _ _) (by decide) (fun _ _=>rfl)
 refine List.Pairwise.cons ?_ ?_
 ·intro q hq
  simp only [List.mem_cons,List.not_mem_nil,or_false] at hq
  rcases hq with rfl | rfl | rfl | rfl
  ·exact off_rng (oneP_rng sgnC 1 6 _ _) (oneP_rng sgnC 2 6 _ _) (by decide) (fun _ _=>rfl)
  ·exact off_rng (oneP_rng sgnC 1 6 _ _) (oneP_rng sgnC 3 6 _ _) (by decide) (fun _ _=>rfl)
  ·exact off_rng (oneP_rng sgnC 1 6 _ _) (oneP_rng sgnC 4 6 _ _) (by decide) (fun _ _=>rfl)
  ·exact off_rng (oneP_rng sgnC 1 6 _ _) (oneP_rng sgnC 5 6 _ _) (by decide) (fun _ _=>rfl)
 refine List.Pairwise.cons ?_ ?_
 ·intro q hq
  simp only [List.mem_cons,List.not_mem_nil,or_false] at hq
  rcases hq with rfl | rfl | rfl
  ·exact off_rng (oneP_rng sgnC 2 6 _ _) (oneP_rng sgnC 3 6 _ _) (by decide) (fun _ _=>rfl)
  ·exact off_rng (oneP_rng sgnC 2 6 _ _) (oneP_rng sgnC 4 6 _ _) (by decide) (fun _ _=>rfl)
  ·exact off_rng (oneP_rng sgnC 2 6 _ _) (oneP_rng sgnC 5 6 _ _) (by decide) (fun _ _=>rfl)
 refine List.Pairwise.cons ?_ ?_
 ·intro q hq
  simp only [List.mem_cons,List.not_mem_nil,or_false] at hq
  rcases hq with rfl | rfl
  ·exact off_rng (oneP_rng sgnC 3 6 _ _) (oneP_rng sgnC 4 6 _ _) (by decide) (fun _ _=>rfl)
  ·exact off_rng (oneP_rng sgnC 3 6 _ _) (oneP_rng sgnC 5 6 _ _) (by decide) (fun _ _=>rfl)
 refine List.Pairwise.cons ?_ ?_
 ·intro q hq
  simp only [List.mem_cons,List.not_mem_nil,or_false] at hq
  rcases hq with rfl
  ·exact off_rng (oneP_rng sgnC 4 6 _ _) (oneP_rng sgnC 5 6 _ _) (by decide) (fun _ _=>rfl)
 refine List.Pairwise.cons ?_ ?_
 ·intro q hq
  cases hq
 exact List.Pairwise.nil
theorem cardC_fair:Fair cardC:=recC_fair (fun p hp=>(cardP_fair p hp).fair) _
theorem cardC_many:Many cardC 6:=recC_many _ _ _
theorem get_card_client:GetterOk 33 6 (.func (.func 174) #[] #[]) 0:=by
 refine ⟨_,rfl,Proofs.enters_of Tryz.func174 (by kernel_rfl) rfl,?_⟩
 intro b cs w hb hs
 clear hb hs
 go_enter Tryz.func174,Tryz.ntmps174
 go_wp2
 go_ret
 exact ⟨rfl,rfl⟩
theorem get_card_init:GetterOk 33 6 (.func (.func 175) #[] #[]) 1:=by
 refine ⟨_,rfl,Proofs.enters_of Tryz.func175 (by kernel_rfl) rfl,?_⟩
 intro b cs w hb hs
 clear hb hs
 go_enter Tryz.func175,Tryz.ntmps175
 go_wp2
 go_ret
 exact ⟨rfl,rfl⟩
theorem get_card_leaf:GetterOk 33 6 (.func (.func 176) #[] #[]) 2:=by
 refine ⟨_,rfl,Proofs.enters_of Tryz.func176 (by kernel_rfl) rfl,?_⟩
 intro b cs w hb hs
 clear hb hs
 go_enter Tryz.func176,Tryz.ntmps176
 go_wp2
 go_ret
 exact ⟨rfl,rfl⟩
theorem get_card_sig:GetterOk 33 6 (.func (.func 177) #[] #[]) 3:=by
 refine ⟨_,rfl,Proofs.enters_of Tryz.func177 (by kernel_rfl) rfl,?_⟩
 intro b cs w hb hs
 clear hb hs
 go_enter Tryz.func177,Tryz.ntmps177
 go_wp2
 go_ret
 exact ⟨rfl,rfl⟩
theorem get_card_till:GetterOk 33 6 (.func (.func 178) #[] #[]) 4:=by
 refine ⟨_,rfl,Proofs.enters_of Tryz.func178 (by kernel_rfl) rfl,?_⟩
 intro b cs w hb hs
 clear hb hs
 go_enter Tryz.func178,Tryz.ntmps178
 go_wp2
 go_ret
 exact ⟨rfl,rfl⟩
theorem get_card_mark:GetterOk 33 6 (.func (.func 179) #[] #[]) 5:=by
 refine ⟨_,rfl,Proofs.enters_of Tryz.func179 (by kernel_rfl) rfl,?_⟩
 intro b cs w hb hs
 clear hb hs
 go_enter Tryz.func179,Tryz.ntmps179
 go_wp2
 go_ret
 exact ⟨rfl,rfl⟩
set_option maxHeartbeats 6400000 in
theorem cards_new (w:World):Calls Tryz.prog 92 #[] w fun r w'=>∃ a b,r=.returned (.agg #[a,b])∧a.oneCell'=true∧b.oneCell'=true∧Kept w w' (fun _=>False)∧∀ W',From w.heap.size w' W'→IsCodec W' (.agg #[a,b]) cardC:=by
 go_enter Tryz.func92,Tryz.ntmps92
 go_wp2_with (fail)
 refine (numberN_cardCard 174 (Proofs.enters_of Tryz.func174 (by kernel_rfl) rfl) _).mono ?_
 rintro e w1 ⟨a1,b1,rfl,-,-,hk,hc⟩
 have C1:=lh hc
 have K1:=lh hk
 clear hk hc
 go_wp2_with (fail)
 refine (numberN_cardCard 175 (Proofs.enters_of Tryz.func175 (by kernel_rfl) rfl) _).mono ?_
 rintro e w2 ⟨a2,b2,rfl,-,-,hk,hc⟩
 have C2:=lh hc
 have K2:=lh hk
 clear hk hc
 go_wp2_with (fail)
 refine (numberN_cardCard 176 (Proofs.enters_of Tryz.func176 (by kernel_rfl) rfl) _).mono ?_
 rintro e w3 ⟨a3,b3,rfl,-,-,hk,hc⟩
 have C3:=lh hc
 have K3:=lh hk
 clear hk hc
 go_wp2_with (fail)
 refine (numberN_cardCard 177 (Proofs.enters_of Tryz.func177 (by kernel_rfl) rfl) _).mono ?_
 rintro e w4 ⟨a4,b4,rfl,-,-,hk,hc⟩
 have C4:=lh hc
 have K4:=lh hk
 clear hk hc
 go_wp2_with (fail)
 refine (numberN_cardCard 178 (Proofs.enters_of Tryz.func178 (by kernel_rfl) rfl) _).mono ?_
 rintro e w5 ⟨a5,b5,rfl,-,-,hk,hc⟩
 have C5:=lh hc
 have K5:=lh hk
 clear hk hc
 go_wp2_with (fail)
 refine (numberN_cardCard 179 (Proofs.enters_of Tryz.func179 (by kernel_rfl) rfl) _).mono ?_
 rintro e w6 ⟨a6,b6,rfl,-,-,hk,hc⟩
 have C6:=lh hc
 have K6:=lh hk
 clear hk hc
 go_wp2_with (fail)
 refine (recordN_cardCard w6.heap.size 6 6 (by decide) (by decide) _).mono ?_
 rintro e w0 ⟨a,b,rfl,ha,hb,hk,hc⟩
 have hb0:=heap_alloc_new w6 (.cells #[a1,b1,a2,b2,a3,b3,a4,b4,a5,b5,a6,b6] 378)
 have L6:Kept w6 w0 (fun _=>False):=((Kept.refl w6 (fun _=>False)).alloc _).trans hk (fun _ h=>h.elim)
 have L5:=K6.out.trans L6 (fun _ h=>h.elim)
 have L4:=K5.out.trans L5 (fun _ h=>h.elim)
 have L3:=K4.out.trans L4 (fun _ h=>h.elim)
 have L2:=K3.out.trans L3 (fun _ h=>h.elim)
 have L1:=K2.out.trans L2 (fun _ h=>h.elim)
 have L0:=K1.out.trans L1 (fun _ h=>h.elim)
 have hz:=L0.blk (heap_alloc_new w (.cells #[.nilFunc,.nilFunc] 218)) (fun h=>h)
 have hb1:=hk.blk hb0 (fun h=>h)
 have kw:Kept w w0 (fun _=>False):=((Kept.refl w (fun _=>False)).alloc (.cells #[.nilFunc,.nilFunc] 218)).trans L0 (fun _ h=>h.elim)
 have s0:w.heap.size < (w.alloc (.cells #[.nilFunc,.nilFunc] 218)).heap.size:=by simp
 have s1:w.heap.size < w1.heap.size:=Nat.lt_of_lt_of_le s0 K1.out.size
 have s2:w.heap.size < w2.heap.size:=Nat.lt_of_lt_of_le s1 K2.out.size
 have s3:w.heap.size < w3.heap.size:=Nat.lt_of_lt_of_le s2 K3.out.size
 have s4:w.heap.size < w4.heap.size:=Nat.lt_of_lt_of_le s3 K4.out.size
 have s5:w.heap.size < w5.heap.size:=Nat.lt_of_lt_of_le s4 K5.out.size
 have s6:w.heap.size < w6.heap.size:=Nat.lt_of_lt_of_le s5 K6.out.size
 have sb:w.heap.size < (w6.alloc (.cells #[a1,b1,a2,b2,a3,b3,a4,b4,a5,b5,a6,b6] 378)).heap.size:=by simp; omega
 have HZ:=lh hz
 have HB1:=lh hb1
 have HA:=lh ha
 have HBB:=lh hb
 have HC:=lh hc
 have KW:=lh kw
 have M1:=lh L1
 have M2:=lh L2
 have M3:=lh L3
 have M4:=lh L4
 have M5:=lh L5
 have M6:=lh L6
 have S0:=lh s0
 have S1:=lh s1
 have S2:=lh s2
 have S3:=lh s3
 have S4:=lh s4
 have S5:=lh s5
 have S6:=lh s6
 have SB:=lh sb
 clear hb0 hz hb1 hk hc ha hb kw sb L0 L1 L2 L3 L4 L5 L6 s0 s1 s2 s3 s4 s5 s6
 go_wp2_with (first | refine wpList_store_row rfl 218 (.tmp 0) (.tmp 8) rfl w.heap.size #[a,b] rfl rfl _ _ HZ.out (by kernel_rfl) rfl (by simp [HA.out,HBB.out]) ?_)
 have hsr:=setRow_heap w0 w.heap.size _ #[a,b] 218 (0,0) HZ.out
 have kr:Kept w0 (w0.setRow w.heap.size #[a,b]) (fun j=>j=w.heap.size):=⟨rfl,rfl,rfl,by simp,fun j _ hj=>setRow_other w0 w.heap.size j _ hj⟩
 refine bodyPost_ret (results_cell_row rfl _ _ _ _ _ _ _ rfl hsr Tryz.underlying218 rfl (by kernel_rfl)) rfl ?_
 refine ⟨a,b,rfl,HA.out,HBB.out,KW.out.trans kr (fun j h=>.inr (by omega)),fun W' hW=>?_⟩
 have hpa:W'.heap[w6.heap.size]?=_:=hW.blk (Nat.le_of_lt S6.out) (kr.blk HB1.out (by have:=S6.out; omega))
 have f1:=hW.call M1.out kr S0.out
 have f2:=hW.call M2.out kr S1.out
 have f3:=hW.call M3.out kr S2.out
 have f4:=hW.call M4.out kr S3.out
 have f5:=hW.call M5.out kr S4.out
 have f6:=hW.call M6.out kr S5.out
 have P1:=C1.out W' f1 0 6 (by decide) (fun x:CardD=>x.client) (fun y x=>{ x with client:=y }) get_card_client
 have P2:=C2.out W' f2 1 6 (by decide) (fun x:CardD=>x.init) (fun y x=>{ x with init:=y }) get_card_init
 have P3:=C3.out W' f3 2 6 (by decide) (fun x:CardD=>x.leaf) (fun y x=>{ x with leaf:=y }) get_card_leaf
 have P4:=C4.out W' f4 3 6 (by decide) (fun x:CardD=>x.sig) (fun y x=>{ x with sig:=y }) get_card_sig
 have P5:=C5.out W' f5 4 6 (by decide) (fun x:CardD=>x.till) (fun y x=>{ x with till:=y }) get_card_till
 have P6:=C6.out W' f6 5 6 (by decide) (fun x:CardD=>x.mark) (fun y x=>{ x with mark:=y }) get_card_mark
 refine HC.out W' (hW.call (Kept.refl w0 _) kr SB.out) cardP rfl cardP_fair cardP_off CardZ (by decide) ⟨blk_lt hpa,fun k p hp=>?_⟩
 match k,hp with
 | 0,hp=>obtain rfl:=Option.some.inj hp; exact ⟨a1,b1,cellOf hpa,cellOf hpa,P1.1,P1.2⟩
 | 1,hp=>obtain rfl:=Option.some.inj hp; exact ⟨a2,b2,cellOf hpa,cellOf hpa,P2.1,P2.2⟩
 | 2,hp=>obtain rfl:=Option.some.inj hp; exact ⟨a3,b3,cellOf hpa,cellOf hpa,P3.1,P3.2⟩
 | 3,hp=>obtain rfl:=Option.some.inj hp; exact ⟨a4,b4,cellOf hpa,cellOf hpa,P4.1,P4.2⟩
 | 4,hp=>obtain rfl:=Option.some.inj hp; exact ⟨a5,b5,cellOf hpa,cellOf hpa,P5.1,P5.2⟩
 | 5,hp=>obtain rfl:=Option.some.inj hp; exact ⟨a6,b6,cellOf hpa,cellOf hpa,P6.1,P6.2⟩
 | k+6,hp=>simp [cardP] at hp
structure KeptD where
 card:CardD
 init:Int
 leaf:Int
def KeptZ:KeptD:=⟨CardZ,0,0⟩
def kept_card:Prt KeptD:=aggP cardC 0 6 (·.card) (fun y x=>{ x with card:=y })
def kept_init:Prt KeptD:=oneP sgnC 6 (·.init) (fun y x=>{ x with init:=y })
def kept_leaf:Prt KeptD:=oneP sgnC 7 (·.leaf) (fun y x=>{ x with leaf:=y })
def keptP:List (Prt KeptD):=[kept_card,kept_init,kept_leaf]
def keptC:Cod KeptD:=recC 8 keptP KeptZ
theorem keptP_fair:∀ p∈keptP,PFair 8 p:=by
 intro p hp
 simp only [keptP,List.mem_cons,List.not_mem_nil,or_false] at hp
 rcases hp with rfl | rfl | rfl
 ·exact aggP_fair cardC_fair cardC_many (by decide) (fun _ _=>rfl)
 ·exact oneP_fair sgnC_fair sgnC_one (by decide) (fun _ _=>rfl)
 ·exact oneP_fair sgnC_fair sgnC_one (by decide) (fun _ _=>rfl)
theorem keptP_off:keptP.Pairwise (fun p p'=>Off 8 p p'):=by
 unfold keptP
 refine List.Pairwise.cons ?_ ?_
 ·intro q hq
  simp only [List.mem_cons,List.not_mem_nil,or_false] at hq
  rcases hq with rfl | rfl
  ·exact off_rng (aggP_rng cardC_many 0 8 _ _) (oneP_rng sgnC 6 8 _ _) (by decide) (fun _ _=>rfl)
  ·exact off_rng (aggP_rng cardC_many 0 8 _ _) (oneP_rng sgnC 7 8 _ _) (by decide) (fun _ _=>rfl)
 refine List.Pairwise.cons ?_ ?_
 ·intro q hq
  simp only [List.mem_cons,List.not_mem_nil,or_false] at hq
  rcases hq with rfl
  ·exact off_rng (oneP_rng sgnC 6 8 _ _) (oneP_rng sgnC 7 8 _ _) (by decide) (fun _ _=>rfl)
 refine List.Pairwise.cons ?_ ?_
 ·intro q hq
  cases hq
 exact List.Pairwise.nil
theorem keptC_fair:Fair keptC:=recC_fair (fun p hp=>(keptP_fair p hp).fair) _
theorem keptC_many:Many keptC 8:=recC_many _ _ _
theorem get_kept_card:GetterOk 113 8 (.func (.func 91) #[] #[]) 0:=by
 refine ⟨_,rfl,Proofs.enters_of Tryz.func91 (by kernel_rfl) rfl,?_⟩
 intro b cs w hb hs
 clear hb hs
 go_enter Tryz.func91,Tryz.ntmps91
 go_wp2
 go_ret
 exact ⟨rfl,rfl⟩
theorem get_kept_init:GetterOk 113 8 (.func (.func 94) #[] #[]) 6:=by
 refine ⟨_,rfl,Proofs.enters_of Tryz.func94 (by kernel_rfl) rfl,?_⟩
 intro b cs w hb hs
 clear hb hs
 go_enter Tryz.func94,Tryz.ntmps94
 go_wp2
 go_ret
 exact ⟨rfl,rfl⟩
theorem get_kept_leaf:GetterOk 113 8 (.func (.func 95) #[] #[]) 7:=by
 refine ⟨_,rfl,Proofs.enters_of Tryz.func95 (by kernel_rfl) rfl,?_⟩
 intro b cs w hb hs
 clear hb hs
 go_enter Tryz.func95,Tryz.ntmps95
 go_wp2
 go_ret
 exact ⟨rfl,rfl⟩
set_option maxHeartbeats 6400000 in
theorem kepts_new (w:World):Calls Tryz.prog 59 #[] w fun r w'=>∃ a b,r=.returned (.agg #[a,b])∧a.oneCell'=true∧b.oneCell'=true∧Kept w w' (fun _=>False)∧∀ W',From w.heap.size w' W'→IsCodec W' (.agg #[a,b]) keptC:=by
 go_enter Tryz.func59,Tryz.ntmps59
 go_wp2_with (fail)
 refine (cards_new _).mono ?_
 rintro e w1 ⟨a1,b1,rfl,-,-,hk,hc⟩
 have C1:=lh hc
 have K1:=lh hk
 clear hk hc
 go_wp2_with (fail)
 refine (fieldN_cardCard_entryKept 91 (Proofs.enters_of Tryz.func91 (by kernel_rfl) rfl) a1 b1 _).mono ?_
 rintro e w2 ⟨a2,b2,rfl,-,-,hk,hc⟩
 have C2:=lh hc
 have K2:=lh hk
 clear hk hc
 go_wp2_with (fail)
 refine (numberN_entryKept 94 (Proofs.enters_of Tryz.func94 (by kernel_rfl) rfl) _).mono ?_
 rintro e w3 ⟨a3,b3,rfl,-,-,hk,hc⟩
 have C3:=lh hc
 have K3:=lh hk
 clear hk hc
 go_wp2_with (fail)
 refine (numberN_entryKept 95 (Proofs.enters_of Tryz.func95 (by kernel_rfl) rfl) _).mono ?_
 rintro e w4 ⟨a4,b4,rfl,-,-,hk,hc⟩
 have C4:=lh hc
 have K4:=lh hk
 clear hk hc
 go_wp2_with (fail)
 refine (recordN_entryKept w4.heap.size 3 3 (by decide) (by decide) _).mono ?_
 rintro e w0 ⟨a,b,rfl,ha,hb,hk,hc⟩
 have hb0:=heap_alloc_new w4 (.cells #[a2,b2,a3,b3,a4,b4] 210)
 have L4:Kept w4 w0 (fun _=>False):=((Kept.refl w4 (fun _=>False)).alloc _).trans hk (fun _ h=>h.elim)
 have L3:=K4.out.trans L4 (fun _ h=>h.elim)
 have L2:=K3.out.trans L3 (fun _ h=>h.elim)
 have L1:=K2.out.trans L2 (fun _ h=>h.elim)
 have L0:=K1.out.trans L1 (fun _ h=>h.elim)
 have hz:=L0.blk (heap_alloc_new w (.cells #[.nilFunc,.nilFunc] 159)) (fun h=>h)
 have hb1:=hk.blk hb0 (fun h=>h)
 have kw:Kept w w0 (fun _=>False):=((Kept.refl w (fun _=>False)).alloc (.cells #[.nilFunc,.nilFunc] 159)).trans L0 (fun _ h=>h.elim)
 have s0:w.heap.size < (w.alloc (.cells #[.nilFunc,.nilFunc] 159)).heap.size:=by simp
 have s1:w.heap.size < w1.heap.size:=Nat.lt_of_lt_of_le s0 K1.out.size
 have s2:w.heap.size < w2.heap.size:=Nat.lt_of_lt_of_le s1 K2.out.size
 have s3:w.heap.size < w3.heap.size:=Nat.lt_of_lt_of_le s2 K3.out.size
 have s4:w.heap.size < w4.heap.size:=Nat.lt_of_lt_of_le s3 K4.out.size
 have sb:w.heap.size < (w4.alloc (.cells #[a2,b2,a3,b3,a4,b4] 210)).heap.size:=by simp; omega
 have HZ:=lh hz
 have HB1:=lh hb1
 have HA:=lh ha
 have HBB:=lh hb
 have HC:=lh hc
 have KW:=lh kw
 have M1:=lh L1
 have M2:=lh L2
 have M3:=lh L3
 have M4:=lh L4
 have S0:=lh s0
 have S1:=lh s1
 have S2:=lh s2
 have S3:=lh s3
 have S4:=lh s4
 have SB:=lh sb
 clear hb0 hz hb1 hk hc ha hb kw sb L0 L1 L2 L3 L4 s0 s1 s2 s3 s4
 go_wp2_with (first | refine wpList_store_row rfl 159 (.tmp 0) (.tmp 6) rfl w.heap.size #[a,b] rfl rfl _ _ HZ.out (by kernel_rfl) rfl (by simp [HA.out,HBB.out]) ?_)
 have hsr:=setRow_heap w0 w.heap.size _ #[a,b] 159 (0,0) HZ.out
 have kr:Kept w0 (w0.setRow w.heap.size #[a,b]) (fun j=>j=w.heap.size):=⟨rfl,rfl,rfl,by simp,fun j _ hj=>setRow_other w0 w.heap.size j _ hj⟩
 refine bodyPost_ret (results_cell_row rfl _ _ _ _ _ _ _ rfl hsr Tryz.underlying159 rfl (by kernel_rfl)) rfl ?_
 refine ⟨a,b,rfl,HA.out,HBB.out,KW.out.trans kr (fun j h=>.inr (by omega)),fun W' hW=>?_⟩
 have hpa:W'.heap[w4.heap.size]?=_:=hW.blk (Nat.le_of_lt S4.out) (kr.blk HB1.out (by have:=S4.out; omega))
 have f1:=hW.call M1.out kr S0.out
 have f2:=hW.call M2.out kr S1.out
 have f3:=hW.call M3.out kr S2.out
 have f4:=hW.call M4.out kr S3.out
 have P2:=C2.out W' f2 (cardC) cardC_fair cardC_many 0 8 (by decide) (fun x:KeptD=>x.card) (fun y x=>{ x with card:=y }) (C1.out W' f1) get_kept_card
 have P3:=C3.out W' f3 6 8 (by decide) (fun x:KeptD=>x.init) (fun y x=>{ x with init:=y }) get_kept_init
 have P4:=C4.out W' f4 7 8 (by decide) (fun x:KeptD=>x.leaf) (fun y x=>{ x with leaf:=y }) get_kept_leaf
 refine HC.out W' (hW.call (Kept.refl w0 _) kr SB.out) keptP rfl keptP_fair keptP_off KeptZ (by decide) ⟨blk_lt hpa,fun k p hp=>?_⟩
 match k,hp with
 | 0,hp=>obtain rfl:=Option.some.inj hp; exact ⟨a2,b2,cellOf hpa,cellOf hpa,P2.1,P2.2⟩
 | 1,hp=>obtain rfl:=Option.some.inj hp; exact ⟨a3,b3,cellOf hpa,cellOf hpa,P3.1,P3.2⟩
 | 2,hp=>obtain rfl:=Option.some.inj hp; exact ⟨a4,b4,cellOf hpa,cellOf hpa,P4.1,P4.2⟩
 | k+3,hp=>simp [keptP] at hp
structure SecrD where
 place:Int
 term:Int
def SecrZ:SecrD:=⟨0,0⟩
def secr_place:Prt SecrD:=oneP sgnC 0 (·.place) (fun y x=>{ x with place:=y })
def secr_term:Prt SecrD:=oneP sgnC 1 (·.term) (fun y x=>{ x with term:=y })
def secrP:List (Prt SecrD):=[secr_place,secr_term]
def secrC:Cod SecrD:=recC 2 secrP SecrZ
theorem secrP_fair:∀ p∈secrP,PFair 2 p:=by
 intro p hp
 simp only [secrP,List.mem_cons,List.not_mem_nil,or_false] at hp
 rcases hp with rfl | rfl
 ·exact oneP_fair sgnC_fair sgnC_one (by decide) (fun _ _=>rfl)
 ·exact oneP_fair sgnC_fair sgnC_one (by decide) (fun _ _=>rfl)
theorem secrP_off:secrP.Pairwise (fun p p'=>Off 2 p p'):=by
 unfold secrP
 refine List.Pairwise.cons ?_ ?_
 ·intro q hq
  simp only [List.mem_cons,List.not_mem_nil,or_false] at hq
  rcases hq with rfl
  ·exact off_rng (oneP_rng sgnC 0 2 _ _) (oneP_rng sgnC 1 2 _ _) (by decide) (fun _ _=>rfl)
 refine List.Pairwise.cons ?_ ?_
 ·intro q hq
  cases hq
 exact List.Pairwise.nil
theorem secrC_fair:Fair secrC:=recC_fair (fun p hp=>(secrP_fair p hp).fair) _
theorem secrC_many:Many secrC 2:=recC_many _ _ _
theorem get_secr_place:GetterOk 124 2 (.func (.func 222) #[] #[]) 0:=by
 refine ⟨_,rfl,Proofs.enters_of Tryz.func222 (by kernel_rfl) rfl,?_⟩
 intro b cs w hb hs
 clear hb hs
 go_enter Tryz.func222,Tryz.ntmps222
 go_wp2
 go_ret
 exact ⟨rfl,rfl⟩
theorem get_secr_term:GetterOk 124 2 (.func (.func 223) #[] #[]) 1:=by
 refine ⟨_,rfl,Proofs.enters_of Tryz.func223 (by kernel_rfl) rfl,?_⟩
 intro b cs w hb hs
 clear hb hs
 go_enter Tryz.func223,Tryz.ntmps223
 go_wp2
 go_ret
 exact ⟨rfl,rfl⟩
set_option maxHeartbeats 6400000 in
theorem secrs_new (w:World):Calls Tryz.prog 126 #[] w fun r w'=>∃ a b,r=.returned (.agg #[a,b])∧a.oneCell'=true∧b.oneCell'=true∧Kept w w' (fun _=>False)∧∀ W',From w.heap.size w' W'→IsCodec W' (.agg #[a,b]) secrC:=by
 go_enter Tryz.func126,Tryz.ntmps126
 go_wp2_with (fail)
 refine (numberN_kemSecret 222 (Proofs.enters_of Tryz.func222 (by kernel_rfl) rfl) _).mono ?_
 rintro e w1 ⟨a1,b1,rfl,-,-,hk,hc⟩
 have C1:=lh hc
 have K1:=lh hk
 clear hk hc
 go_wp2_with (fail)
 refine (numberN_kemSecret 223 (Proofs.enters_of Tryz.func223 (by kernel_rfl) rfl) _).mono ?_
 rintro e w2 ⟨a2,b2,rfl,-,-,hk,hc⟩
 have C2:=lh hc
 have K2:=lh hk
 clear hk hc
 go_wp2_with (fail)
 refine (recordN_kemSecret w2.heap.size 2 2 (by decide) (by decide) _).mono ?_
 rintro e w0 ⟨a,b,rfl,ha,hb,hk,hc⟩
 have hb0:=heap_alloc_new w2 (.cells #[a1,b1,a2,b2] 414)
 have L2:Kept w2 w0 (fun _=>False):=((Kept.refl w2 (fun _=>False)).alloc _).trans hk (fun _ h=>h.elim)
 have L1:=K2.out.trans L2 (fun _ h=>h.elim)
 have L0:=K1.out.trans L1 (fun _ h=>h.elim)
 have hz:=L0.blk (heap_alloc_new w (.cells #[.nilFunc,.nilFunc] 291)) (fun h=>h)
 have hb1:=hk.blk hb0 (fun h=>h)
 have kw:Kept w w0 (fun _=>False):=((Kept.refl w (fun _=>False)).alloc (.cells #[.nilFunc,.nilFunc] 291)).trans L0 (fun _ h=>h.elim)
 have s0:w.heap.size < (w.alloc (.cells #[.nilFunc,.nilFunc] 291)).heap.size:=by simp
 have s1:w.heap.size < w1.heap.size:=Nat.lt_of_lt_of_le s0 K1.out.size
 have s2:w.heap.size < w2.heap.size:=Nat.lt_of_lt_of_le s1 K2.out.size
 have sb:w.heap.size < (w2.alloc (.cells #[a1,b1,a2,b2] 414)).heap.size:=by simp; omega
 have HZ:=lh hz
 have HB1:=lh hb1
 have HA:=lh ha
 have HBB:=lh hb
 have HC:=lh hc
 have KW:=lh kw
 have M1:=lh L1
 have M2:=lh L2
 have S0:=lh s0
 have S1:=lh s1
 have S2:=lh s2
 have SB:=lh sb
 clear hb0 hz hb1 hk hc ha hb kw sb L0 L1 L2 s0 s1 s2
 go_wp2_with (first | refine wpList_store_row rfl 291 (.tmp 0) (.tmp 4) rfl w.heap.size #[a,b] rfl rfl _ _ HZ.out (by kernel_rfl) rfl (by simp [HA.out,HBB.out]) ?_)
 have hsr:=setRow_heap w0 w.heap.size _ #[a,b] 291 (0,0) HZ.out
 have kr:Kept w0 (w0.setRow w.heap.size #[a,b]) (fun j=>j=w.heap.size):=⟨rfl,rfl,rfl,by simp,fun j _ hj=>setRow_other w0 w.heap.size j _ hj⟩
 refine bodyPost_ret (results_cell_row rfl _ _ _ _ _ _ _ rfl hsr Tryz.underlying291 rfl (by kernel_rfl)) rfl ?_
 refine ⟨a,b,rfl,HA.out,HBB.out,KW.out.trans kr (fun j h=>.inr (by omega)),fun W' hW=>?_⟩
 have hpa:W'.heap[w2.heap.size]?=_:=hW.blk (Nat.le_of_lt S2.out) (kr.blk HB1.out (by have:=S2.out; omega))
 have f1:=hW.call M1.out kr S0.out
 have f2:=hW.call M2.out kr S1.out
 have P1:=C1.out W' f1 0 2 (by decide) (fun x:SecrD=>x.place) (fun y x=>{ x with place:=y }) get_secr_place
 have P2:=C2.out W' f2 1 2 (by decide) (fun x:SecrD=>x.term) (fun y x=>{ x with term:=y }) get_secr_term
 refine HC.out W' (hW.call (Kept.refl w0 _) kr SB.out) secrP rfl secrP_fair secrP_off SecrZ (by decide) ⟨blk_lt hpa,fun k p hp=>?_⟩
 match k,hp with
 | 0,hp=>obtain rfl:=Option.some.inj hp; exact ⟨a1,b1,cellOf hpa,cellOf hpa,P1.1,P1.2⟩
 | 1,hp=>obtain rfl:=Option.some.inj hp; exact ⟨a2,b2,cellOf hpa,cellOf hpa,P2.1,P2.2⟩
 | k+2,hp=>simp [secrP] at hp
structure PropD where
 kind:Int
 card:CardD
 key:Int
 index:Int
 psk:Int
 from_:Int
def PropZ:PropD:=⟨0,CardZ,0,0,0,0⟩
def prop_kind:Prt PropD:=oneP sgnC 0 (·.kind) (fun y x=>{ x with kind:=y })
def prop_card:Prt PropD:=aggP cardC 1 6 (·.card) (fun y x=>{ x with card:=y })
def prop_key:Prt PropD:=oneP sgnC 7 (·.key) (fun y x=>{ x with key:=y })
def prop_index:Prt PropD:=oneP sgnC 8 (·.index) (fun y x=>{ x with index:=y })
def prop_psk:Prt PropD:=oneP sgnC 9 (·.psk) (fun y x=>{ x with psk:=y })
def prop_from_:Prt PropD:=oneP sgnC 10 (·.from_) (fun y x=>{ x with from_:=y })
def propP:List (Prt PropD):=[prop_kind,prop_card,prop_key,prop_index,prop_psk,prop_from_]
def propC:Cod PropD:=recC 11 propP PropZ
theorem propP_fair:∀ p∈propP,PFair 11 p:=by
 intro p hp
 simp only [propP,List.mem_cons,List.not_mem_nil,or_false] at hp
 rcases hp with rfl | rfl | rfl | rfl | rfl | rfl
 ·exact oneP_fair sgnC_fair sgnC_one (by decide) (fun _ _=>rfl)
 ·exact aggP_fair cardC_fair cardC_many (by decide) (fun _ _=>rfl)
 ·exact oneP_fair sgnC_fair sgnC_one (by decide) (fun _ _=>rfl)
 ·exact oneP_fair sgnC_fair sgnC_one (by decide) (fun _ _=>rfl)
 ·exact oneP_fair sgnC_fair sgnC_one (by decide) (fun _ _=>rfl)
 ·exact oneP_fair sgnC_fair sgnC_one (by decide) (fun _ _=>rfl)
theorem propP_off:propP.Pairwise (fun p p'=>Off 11 p p'):=by
 unfold propP
 refine List.Pairwise.cons ?_ ?_
 ·intro q hq
  simp only [List.mem_cons,List.not_mem_nil,or_false] at hq
  rcases hq with rfl | rfl | rfl | rfl | rfl
  ·exact off_rng (oneP_rng sgnC 0 11 _ _) (aggP_rng cardC_many 1 11 _ _) (by decide) (fun _ _=>rfl)
  ·exact off_rng (oneP_rng sgnC 0 11 _ _) (oneP_rng sgnC 7 11 _ _) (by decide) (fun _ _=>rfl)
  ·exact off_rng (oneP_rng sgnC 0 11 _ _) (oneP_rng sgnC 8 11 _ _) (by decide) (fun _ _=>rfl)
  ·exact off_rng (oneP_rng sgnC 0 11 _ _) (oneP_rng sgnC 9 11 _ _) (by decide) (fun _ _=>rfl)
  ·exact off_rng (oneP_rng sgnC 0 11 _ _) (oneP_rng sgnC 10 11 _ _) (by decide) (fun _ _=>rfl)
 refine List.Pairwise.cons ?_ ?_
 ·intro q hq
  simp only [List.mem_cons,List.not_mem_nil,or_false] at hq
  rcases hq with rfl | rfl | rfl | rfl
  ·exact off_rng (aggP_rng cardC_many 1 11 _ _) (oneP_rng sgnC 7 11 _ _) (by decide) (fun _ _=>rfl)
  ·exact off_rng (aggP_rng cardC_many 1 11 _ _) (oneP_rng sgnC 8 11 _ _) (by decide) (fun _ _=>rfl)
  ·exact off_rng (aggP_rng cardC_many 1 11 _ _) (oneP_rng sgnC 9 11 _ _) (by decide) (fun _ _=>rfl)
  ·exact off_rng (aggP_rng cardC_many 1 11 _ _) (oneP_rng sgnC 10 11 _ _) (by decide) (fun _ _=>rfl)
 refine List.Pairwise.cons ?_ ?_
 ·intro q hq
  simp only [List.mem_cons,List.not_mem_nil,or_false] at hq
  rcases hq with rfl | rfl | rfl
  ·exact off_rng (oneP_rng sgnC 7 11 _ _) (oneP_rng sgnC 8 11 _ _) (by decide) (fun _ _=>rfl)
  ·exact off_rng (oneP_rng sgnC 7 11 _ _) (oneP_rng sgnC 9 11 _ _) (by decide) (fun _ _=>rfl)
  ·exact off_rng (oneP_rng sgnC 7 11 _ _) (oneP_rng sgnC 10 11 _ _) (by decide) (fun _ _=>rfl)
 refine List.Pairwise.cons ?_ ?_
 ·intro q hq
  simp only [List.mem_cons,List.not_mem_nil,or_false] at hq
  rcases hq with rfl | rfl
  ·exact off_rng (oneP_rng sgnC 8 11 _ _) (oneP_rng sgnC 9 11 _ _) (by decide) (fun _ _=>rfl)
  ·exact off_rng (oneP_rng sgnC 8 11 _ _) (oneP_rng sgnC 10 11 _ _) (by decide) (fun _ _=>rfl)
 refine List.Pairwise.cons ?_ ?_
 ·intro q hq
  simp only [List.mem_cons,List.not_mem_nil,or_false] at hq
  rcases hq with rfl
  ·exact off_rng (oneP_rng sgnC 9 11 _ _) (oneP_rng sgnC 10 11 _ _) (by decide) (fun _ _=>rfl)
 refine List.Pairwise.cons ?_ ?_
 ·intro q hq
  cases hq
 exact List.Pairwise.nil
theorem propC_fair:Fair propC:=recC_fair (fun p hp=>(propP_fair p hp).fair) _
theorem propC_many:Many propC 11:=recC_many _ _ _
theorem get_prop_kind:GetterOk 35 11 (.func (.func 192) #[] #[]) 0:=by
 refine ⟨_,rfl,Proofs.enters_of Tryz.func192 (by kernel_rfl) rfl,?_⟩
 intro b cs w hb hs
 clear hb hs
 go_enter Tryz.func192,Tryz.ntmps192
 go_wp2
 go_ret
 exact ⟨rfl,rfl⟩
theorem get_prop_card:GetterOk 35 11 (.func (.func 194) #[] #[]) 1:=by
 refine ⟨_,rfl,Proofs.enters_of Tryz.func194 (by kernel_rfl) rfl,?_⟩
 intro b cs w hb hs
 clear hb hs
 go_enter Tryz.func194,Tryz.ntmps194
 go_wp2
 go_ret
 exact ⟨rfl,rfl⟩
theorem get_prop_key:GetterOk 35 11 (.func (.func 195) #[] #[]) 7:=by
 refine ⟨_,rfl,Proofs.enters_of Tryz.func195 (by kernel_rfl) rfl,?_⟩
 intro b cs w hb hs
 clear hb hs
 go_enter Tryz.func195,Tryz.ntmps195
 go_wp2
 go_ret
 exact ⟨rfl,rfl⟩
theorem get_prop_index:GetterOk 35 11 (.func (.func 196) #[] #[]) 8:=by
 refine ⟨_,rfl,Proofs.enters_of Tryz.func196 (by kernel_rfl) rfl,?_⟩
 intro b cs w hb hs
 clear hb hs
 go_enter Tryz.func196,Tryz.ntmps196
 go_wp2
 go_ret
 exact ⟨rfl,rfl⟩
theorem get_prop_psk:GetterOk 35 11 (.func (.func 197) #[] #[]) 9:=by
 refine ⟨_,rfl,Proofs.enters_of Tryz.func197 (by kernel_rfl) rfl,?_⟩
 intro b cs w hb hs
 clear hb hs
 go_enter Tryz.func197,Tryz.ntmps197
 go_wp2
 go_ret
 exact ⟨rfl,rfl⟩
theorem get_prop_from_:GetterOk 35 11 (.func (.func 198) #[] #[]) 10:=by
 refine ⟨_,rfl,Proofs.enters_of Tryz.func198 (by kernel_rfl) rfl,?_⟩
 intro b cs w hb hs
 clear hb hs
 go_enter Tryz.func198,Tryz.ntmps198
 go_wp2
 go_ret
 exact ⟨rfl,rfl⟩
set_option maxHeartbeats 6400000 in
theorem props_new (w:World):Calls Tryz.prog 108 #[] w fun r w'=>∃ a b,r=.returned (.agg #[a,b])∧a.oneCell'=true∧b.oneCell'=true∧Kept w w' (fun _=>False)∧∀ W',From w.heap.size w' W'→IsCodec W' (.agg #[a,b]) propC:=by
 go_enter Tryz.func108,Tryz.ntmps108
 go_wp2_with (fail)
 refine (numberN_offerProp 192 (Proofs.enters_of Tryz.func192 (by kernel_rfl) rfl) _).mono ?_
 rintro e w1 ⟨a1,b1,rfl,-,-,hk,hc⟩
 have C1:=lh hc
 have K1:=lh hk
 clear hk hc
 go_wp2_with (fail)
 refine (cards_new _).mono ?_
 rintro e w2 ⟨a2,b2,rfl,-,-,hk,hc⟩
 have C2:=lh hc
 have K2:=lh hk
 clear hk hc
 go_wp2_with (fail)
 refine (fieldN_cardCard_offerProp 194 (Proofs.enters_of Tryz.func194 (by kernel_rfl) rfl) a2 b2 _).mono ?_
 rintro e w3 ⟨a3,b3,rfl,-,-,hk,hc⟩
 have C3:=lh hc
 have K3:=lh hk
 clear hk hc
 go_wp2_with (fail)
 refine (numberN_offerProp 195 (Proofs.enters_of Tryz.func195 (by kernel_rfl) rfl) _).mono ?_
 rintro e w4 ⟨a4,b4,rfl,-,-,hk,hc⟩
 have C4:=lh hc
 have K4:=lh hk
 clear hk hc
 go_wp2_with (fail)
 refine (numberN_offerProp 196 (Proofs.enters_of Tryz.func196 (by kernel_rfl) rfl) _).mono ?_
 rintro e w5 ⟨a5,b5,rfl,-,-,hk,hc⟩
 have C5:=lh hc
 have K5:=lh hk
 clear hk hc
 go_wp2_with (fail)
 refine (numberN_offerProp 197 (Proofs.enters_of Tryz.func197 (by kernel_rfl) rfl) _).mono ?_
 rintro e w6 ⟨a6,b6,rfl,-,-,hk,hc⟩
 have C6:=lh hc
 have K6:=lh hk
 clear hk hc
 go_wp2_with (fail)
 refine (numberN_offerProp 198 (Proofs.enters_of Tryz.func198 (by kernel_rfl) rfl) _).mono ?_
 rintro e w7 ⟨a7,b7,rfl,-,-,hk,hc⟩
 have C7:=lh hc
 have K7:=lh hk
 clear hk hc
 go_wp2_with (fail)
 refine (recordN_offerProp w7.heap.size 6 6 (by decide) (by decide) _).mono ?_
 rintro e w0 ⟨a,b,rfl,ha,hb,hk,hc⟩
 have hb0:=heap_alloc_new w7 (.cells #[a1,b1,a3,b3,a4,b4,a5,b5,a6,b6,a7,b7] 387)
 have L7:Kept w7 w0 (fun _=>False):=((Kept.refl w7 (fun _=>False)).alloc _).trans hk (fun _ h=>h.elim)
 have L6:=K7.out.trans L7 (fun _ h=>h.elim)
 have L5:=K6.out.trans L6 (fun _ h=>h.elim)
 have L4:=K5.out.trans L5 (fun _ h=>h.elim)
 have L3:=K4.out.trans L4 (fun _ h=>h.elim)
 have L2:=K3.out.trans L3 (fun _ h=>h.elim)
 have L1:=K2.out.trans L2 (fun _ h=>h.elim)
 have L0:=K1.out.trans L1 (fun _ h=>h.elim)
 have hz:=L0.blk (heap_alloc_new w (.cells #[.nilFunc,.nilFunc] 243)) (fun h=>h)
 have hb1:=hk.blk hb0 (fun h=>h)
 have kw:Kept w w0 (fun _=>False):=((Kept.refl w (fun _=>False)).alloc (.cells #[.nilFunc,.nilFunc] 243)).trans L0 (fun _ h=>h.elim)
 have s0:w.heap.size < (w.alloc (.cells #[.nilFunc,.nilFunc] 243)).heap.size:=by simp
 have s1:w.heap.size < w1.heap.size:=Nat.lt_of_lt_of_le s0 K1.out.size
 have s2:w.heap.size < w2.heap.size:=Nat.lt_of_lt_of_le s1 K2.out.size
 have s3:w.heap.size < w3.heap.size:=Nat.lt_of_lt_of_le s2 K3.out.size
 have s4:w.heap.size < w4.heap.size:=Nat.lt_of_lt_of_le s3 K4.out.size
 have s5:w.heap.size < w5.heap.size:=Nat.lt_of_lt_of_le s4 K5.out.size
 have s6:w.heap.size < w6.heap.size:=Nat.lt_of_lt_of_le s5 K6.out.size
 have s7:w.heap.size < w7.heap.size:=Nat.lt_of_lt_of_le s6 K7.out.size
 have sb:w.heap.size < (w7.alloc (.cells #[a1,b1,a3,b3,a4,b4,a5,b5,a6,b6,a7,b7] 387)).heap.size:=by simp; omega
 have HZ:=lh hz
 have HB1:=lh hb1
 have HA:=lh ha
 have HBB:=lh hb
 have HC:=lh hc
 have KW:=lh kw
 have M1:=lh L1
 have M2:=lh L2
 have M3:=lh L3
 have M4:=lh L4
 have M5:=lh L5
 have M6:=lh L6
 have M7:=lh L7
 have S0:=lh s0
 have S1:=lh s1
 have S2:=lh s2
 have S3:=lh s3
 have S4:=lh s4
 have S5:=lh s5
 have S6:=lh s6
 have S7:=lh s7
 have SB:=lh sb
 clear hb0 hz hb1 hk hc ha hb kw sb L0 L1 L2 L3 L4 L5 L6 L7 s0 s1 s2 s3 s4 s5 s6 s7
 go_wp2_with (first | refine wpList_store_row rfl 243 (.tmp 0) (.tmp 9) rfl w.heap.size #[a,b] rfl rfl _ _ HZ.out (by kernel_rfl) rfl (by simp [HA.out,HBB.out]) ?_)
 have hsr:=setRow_heap w0 w.heap.size _ #[a,b] 243 (0,0) HZ.out
 have kr:Kept w0 (w0.setRow w.heap.size #[a,b]) (fun j=>j=w.heap.size):=⟨rfl,rfl,rfl,by simp,fun j _ hj=>setRow_other w0 w.heap.size j _ hj⟩
 refine bodyPost_ret (results_cell_row rfl _ _ _ _ _ _ _ rfl hsr Tryz.underlying243 rfl (by kernel_rfl)) rfl ?_
 refine ⟨a,b,rfl,HA.out,HBB.out,KW.out.trans kr (fun j h=>.inr (by omega)),fun W' hW=>?_⟩
 have hpa:W'.heap[w7.heap.size]?=_:=hW.blk (Nat.le_of_lt S7.out) (kr.blk HB1.out (by have:=S7.out; omega))
 have f1:=hW.call M1.out kr S0.out
 have f2:=hW.call M2.out kr S1.out
 have f3:=hW.call M3.out kr S2.out
 have f4:=hW.call M4.out kr S3.out
 have f5:=hW.call M5.out kr S4.out
 have f6:=hW.call M6.out kr S5.out
 have f7:=hW.call M7.out kr S6.out
 have P1:=C1.out W' f1 0 11 (by decide) (fun x:PropD=>x.kind) (fun y x=>{ x with kind:=y }) get_prop_kind
 have P3:=C3.out W' f3 (cardC) cardC_fair cardC_many 1 11 (by decide) (fun x:PropD=>x.card) (fun y x=>{ x with card:=y }) (C2.out W' f2) get_prop_card
 have P4:=C4.out W' f4 7 11 (by decide) (fun x:PropD=>x.key) (fun y x=>{ x with key:=y }) get_prop_key
 have P5:=C5.out W' f5 8 11 (by decide) (fun x:PropD=>x.index) (fun y x=>{ x with index:=y }) get_prop_index
 have P6:=C6.out W' f6 9 11 (by decide) (fun x:PropD=>x.psk) (fun y x=>{ x with psk:=y }) get_prop_psk
 have P7:=C7.out W' f7 10 11 (by decide) (fun x:PropD=>x.from_) (fun y x=>{ x with from_:=y }) get_prop_from_
 refine HC.out W' (hW.call (Kept.refl w0 _) kr SB.out) propP rfl propP_fair propP_off PropZ (by decide) ⟨blk_lt hpa,fun k p hp=>?_⟩
 match k,hp with
 | 0,hp=>obtain rfl:=Option.some.inj hp; exact ⟨a1,b1,cellOf hpa,cellOf hpa,P1.1,P1.2⟩
 | 1,hp=>obtain rfl:=Option.some.inj hp; exact ⟨a3,b3,cellOf hpa,cellOf hpa,P3.1,P3.2⟩
 | 2,hp=>obtain rfl:=Option.some.inj hp; exact ⟨a4,b4,cellOf hpa,cellOf hpa,P4.1,P4.2⟩
 | 3,hp=>obtain rfl:=Option.some.inj hp; exact ⟨a5,b5,cellOf hpa,cellOf hpa,P5.1,P5.2⟩
 | 4,hp=>obtain rfl:=Option.some.inj hp; exact ⟨a6,b6,cellOf hpa,cellOf hpa,P6.1,P6.2⟩
 | 5,hp=>obtain rfl:=Option.some.inj hp; exact ⟨a7,b7,cellOf hpa,cellOf hpa,P7.1,P7.2⟩
 | k+6,hp=>simp [propP] at hp
end Go.Proofs.YtogkkfdkeefjnaaGreatDoor.Codec
namespace Go.Proofs.YtogkkfdkeefjnaaGreatDoor.Codec
open Go.RowKit Go.Proofs.YtogkkfdkeefjnaaGreatDoorBase Go.Proofs.YtogkkfdkeefjnaaGreatDoorLex2 Go.Proofs.YtogkkfdkeefjnaaGreatDoorNum
set_option linter.unusedVariables false
set_option maxRecDepth 100000
set_option linter.unusedSimpArgs false
structure VertD where
 full:Bool
 key:Int
 client:Int
 sig:Int
 hash:Int
 late:List Int
def VertZ:VertD:=⟨false,0,0,0,0,[]⟩
def vert_full:Prt VertD:=oneP (flagC) 0 (·.full) (fun y x=>{ x with full:=y })
def vert_key:Prt VertD:=oneP sgnC 1 (·.key) (fun y x=>{ x with key:=y })
def vert_client:Prt VertD:=oneP sgnC 2 (·.client) (fun y x=>{ x with client:=y })
def vert_sig:Prt VertD:=oneP sgnC 3 (·.sig) (fun y x=>{ x with sig:=y })
def vert_hash:Prt VertD:=oneP sgnC 4 (·.hash) (fun y x=>{ x with hash:=y })
def vert_late:Prt VertD:=oneP (listC sgnC 65536) 5 (·.late) (fun y x=>{ x with late:=y })
def vertP:List (Prt VertD):=[vert_full,vert_key,vert_client,vert_sig,vert_hash,vert_late]
def vertC:Cod VertD:=recC 6 vertP VertZ
theorem vertP_fair:∀ p∈vertP,PFair 6 p:=by
 intro p hp
 simp only [vertP,List.mem_cons,List.not_mem_nil,or_false] at hp
 rcases hp with rfl | rfl | rfl | rfl | rfl | rfl
 ·exact oneP_fair flagC_fair flagC_one (by decide) (fun _ _=>rfl)
 ·exact oneP_fair sgnC_fair sgnC_one (by decide) (fun _ _=>rfl)
 ·exact oneP_fair sgnC_fair sgnC_one (by decide) (fun _ _=>rfl)
 ·exact oneP_fair sgnC_fair sgnC_one (by decide) (fun _ _=>rfl)
 ·exact oneP_fair sgnC_fair sgnC_one (by decide) (fun _ _=>rfl)
 ·exact oneP_fair (listC_fair sgnC_fair 65536) (listC_one sgnC 65536) (by decide) (fun _ _=>rfl)
theorem vertP_off:vertP.Pairwise (fun p p'=>Off 6 p p'):=by
 unfold vertP
 refine List.Pairwise.cons ?_ ?_
 ·intro q hq
  simp only [List.mem_cons,List.not_mem_nil,or_false] at hq
  rcases hq with rfl | rfl | rfl | rfl | rfl
  ·exact off_rng (oneP_rng (flagC) 0 6 _ _) (oneP_rng sgnC 1 6 _ _) (by decide) (fun _ _=>rfl)
  ·exact off_rng (oneP_rng (flagC) 0 6 _ _) (oneP_rng sgnC 2 6 _ _) (by decide) (fun _ _=>rfl)
  ·exact off_rng (oneP_rng (flagC) 0 6 _ _) (oneP_rng sgnC 3 6 _ _) (by decide) (fun _ _=>rfl)
  ·exact off_rng (oneP_rng (flagC) 0 6 _ _) (oneP_rng sgnC 4 6 _ _) (by decide) (fun _ _=>rfl)
  ·exact off_rng (oneP_rng (flagC) 0 6 _ _) (oneP_rng (listC sgnC 65536) 5 6 _ _) (by decide) (fun _ _=>rfl)
 refine List.Pairwise.cons ?_ ?_
 ·intro q hq
  simp only [List.mem_cons,List.not_mem_nil,or_false] at hq
  rcases hq with rfl | rfl | rfl | rfl
  ·exact off_rng (oneP_rng sgnC 1 6 _ _) (oneP_rng sgnC 2 6 _ _) (by decide) (fun _ _=>rfl)
  ·exact off_rng (oneP_rng sgnC 1 6 _ _) (oneP_rng sgnC 3 6 _ _) (by decide) (fun _ _=>rfl)
  ·exact off_rng (oneP_rng sgnC 1 6 _ _) (oneP_rng sgnC 4 6 _ _) (by decide) (fun _ _=>rfl)
  ·exact off_rng (oneP_rng sgnC 1 6 _ _) (oneP_rng (listC sgnC 65536) 5 6 _ _) (by decide) (fun _ _=>rfl)
 refine List.Pairwise.cons ?_ ?_
 ·intro q hq
  simp only [List.mem_cons,List.not_mem_nil,or_false] at hq
  rcases hq with rfl | rfl | rfl
  ·exact off_rng (oneP_rng sgnC 2 6 _ _) (oneP_rng sgnC 3 6 _ _) (by decide) (fun _ _=>rfl)
  ·exact off_rng (oneP_rng sgnC 2 6 _ _) (oneP_rng sgnC 4 6 _ _) (by decide) (fun _ _=>rfl)
  ·exact off_rng (oneP_rng sgnC 2 6 _ _) (oneP_rng (listC sgnC 65536) 5 6 _ _) (by decide) (fun _ _=>rfl)
 refine List.Pairwise.cons ?_ ?_
 ·intro q hq
  simp only [List.mem_cons,List.not_mem_nil,or_false] at hq
  rcases hq with rfl | rfl
  ·exact off_rng (oneP_rng sgnC 3 6 _ _) (oneP_rng sgnC 4 6 _ _) (by decide) (fun _ _=>rfl)
  ·exact off_rng (oneP_rng sgnC 3 6 _ _) (oneP_rng (listC sgnC 65536) 5 6 _ _) (by decide) (fun _ _=>rfl)
 refine List.Pairwise.cons ?_ ?_
 ·intro q hq
  simp only [List.mem_cons,List.not_mem_nil,or_false] at hq
  rcases hq with rfl
  ·exact off_rng (oneP_rng sgnC 4 6 _ _) (oneP_rng (listC sgnC 65536) 5 6 _ _) (by decide) (fun _ _=>rfl)
 refine List.Pairwise.cons ?_ ?_
 ·intro q hq
  cases hq
 exact List.Pairwise.nil
theorem vertC_fair:Fair vertC:=recC_fair (fun p hp=>(vertP_fair p hp).fair) _
theorem vertC_many:Many vertC 6:=recC_many _ _ _
theorem get_vert_full:GetterOk 117 6 (.func (.func 209) #[] #[]) 0:=by
 refine ⟨_,rfl,Proofs.enters_of Tryz.func209 (by kernel_rfl) rfl,?_⟩
 intro b cs w hb hs
 clear hb hs
 go_enter Tryz.func209,Tryz.ntmps209
 go_wp2
 go_ret
 exact ⟨rfl,rfl⟩
theorem get_vert_key:GetterOk 117 6 (.func (.func 211) #[] #[]) 1:=by
 refine ⟨_,rfl,Proofs.enters_of Tryz.func211 (by kernel_rfl) rfl,?_⟩
 intro b cs w hb hs
 clear hb hs
 go_enter Tryz.func211,Tryz.ntmps211
 go_wp2
 go_ret
 exact ⟨rfl,rfl⟩
theorem get_vert_client:GetterOk 117 6 (.func (.func 212) #[] #[]) 2:=by
 refine ⟨_,rfl,Proofs.enters_of Tryz.func212 (by kernel_rfl) rfl,?_⟩
 intro b cs w hb hs
 clear hb hs
 go_enter Tryz.func212,Tryz.ntmps212
 go_wp2
 go_ret
 exact ⟨rfl,rfl⟩
theorem get_vert_sig:GetterOk 117 6 (.func (.func 213) #[] #[]) 3:=by
 refine ⟨_,rfl,Proofs.enters_of Tryz.func213 (by kernel_rfl) rfl,?_⟩
 intro b cs w hb hs
 clear hb hs
 go_enter Tryz.func213,Tryz.ntmps213
 go_wp2
 go_ret
 exact ⟨rfl,rfl⟩
theorem get_vert_hash:GetterOk 117 6 (.func (.func 214) #[] #[]) 4:=by
 refine ⟨_,rfl,Proofs.enters_of Tryz.func214 (by kernel_rfl) rfl,?_⟩
 intro b cs w hb hs
 clear hb hs
 go_enter Tryz.func214,Tryz.ntmps214
 go_wp2
 go_ret
 exact ⟨rfl,rfl⟩
theorem get_vert_late:GetterOk 117 6 (.func (.func 216) #[] #[]) 5:=by
 refine ⟨_,rfl,Proofs.enters_of Tryz.func216 (by kernel_rfl) rfl,?_⟩
 intro b cs w hb hs
 clear hb hs
 go_enter Tryz.func216,Tryz.ntmps216
 go_wp2
 go_ret
 exact ⟨rfl,rfl⟩
set_option maxHeartbeats 6400000 in
theorem verts_new (w:World):Calls Tryz.prog 122 #[] w fun r w'=>∃ a b,r=.returned (.agg #[a,b])∧a.oneCell'=true∧b.oneCell'=true∧Kept w w' (fun _=>False)∧∀ W',From w.heap.size w' W'→IsCodec W' (.agg #[a,b]) vertC:=by
 go_enter Tryz.func122,Tryz.ntmps122
 go_wp2_with (fail)
 refine (flag_new _).mono ?_
 rintro e w1 ⟨a1,b1,rfl,-,-,hk,hc⟩
 have C1:=lh hc
 have K1:=lh hk
 clear hk hc
 go_wp2_with (fail)
 refine (fieldN_bool_apiVertex 209 (Proofs.enters_of Tryz.func209 (by kernel_rfl) rfl) a1 b1 _).mono ?_
 rintro e w2 ⟨a2,b2,rfl,-,-,hk,hc⟩
 have C2:=lh hc
 have K2:=lh hk
 clear hk hc
 go_wp2_with (fail)
 refine (numberN_apiVertex 211 (Proofs.enters_of Tryz.func211 (by kernel_rfl) rfl) _).mono ?_
 rintro e w3 ⟨a3,b3,rfl,-,-,hk,hc⟩
 have C3:=lh hc
 have K3:=lh hk
 clear hk hc
 go_wp2_with (fail)
 refine (numberN_apiVertex 212 (Proofs.enters_of Tryz.func212 (by kernel_rfl) rfl) _).mono ?_
 rintro e w4 ⟨a4,b4,rfl,-,-,hk,hc⟩
 have C4:=lh hc
 have K4:=lh hk
 clear hk hc
 go_wp2_with (fail)
 refine (numberN_apiVertex 213 (Proofs.enters_of Tryz.func213 (by kernel_rfl) rfl) _).mono ?_
 rintro e w5 ⟨a5,b5,rfl,-,-,hk,hc⟩
 have C5:=lh hc
 have K5:=lh hk
 clear hk hc
 go_wp2_with (fail)
 refine (numberN_apiVertex 214 (Proofs.enters_of Tryz.func214 (by kernel_rfl) rfl) _).mono ?_
 rintro e w6 ⟨a6,b6,rfl,-,-,hk,hc⟩
 have C6:=lh hc
 have K6:=lh hk
 clear hk hc
 go_wp2_with (fail)
 refine (signed_made _).mono ?_
 rintro e w7 ⟨a7,b7,rfl,-,-,hk,hc⟩
 have C7:=lh hc
 have K7:=lh hk
 clear hk hc
 go_wp2_with (fail)
 refine (listN_int a7 b7 _).mono ?_
 rintro e w8 ⟨a8,b8,rfl,-,-,hk,hc⟩
 have C8:=lh hc
 have K8:=lh hk
 clear hk hc
 go_wp2_with (fail)
 refine (fieldN_lint_apiVertex 216 (Proofs.enters_of Tryz.func216 (by kernel_rfl) rfl) a8 b8 _).mono ?_
 rintro e w9 ⟨a9,b9,rfl,-,-,hk,hc⟩
 have C9:=lh hc
 have K9:=lh hk
 clear hk hc
 go_wp2_with (fail)
 refine (recordN_apiVertex w9.heap.size 6 6 (by decide) (by decide) _).mono ?_
 rintro e w0 ⟨a,b,rfl,ha,hb,hk,hc⟩
 have hb0:=heap_alloc_new w9 (.cells #[a2,b2,a3,b3,a4,b4,a5,b5,a6,b6,a9,b9] 401)
 have L9:Kept w9 w0 (fun _=>False):=((Kept.refl w9 (fun _=>False)).alloc _).trans hk (fun _ h=>h.elim)
 have L8:=K9.out.trans L9 (fun _ h=>h.elim)
 have L7:=K8.out.trans L8 (fun _ h=>h.elim)
 have L6:=K7.out.trans L7 (fun _ h=>h.elim)
 have L5:=K6.out.trans L6 (fun _ h=>h.elim)
 have L4:=K5.out.trans L5 (fun _ h=>h.elim)
 have L3:=K4.out.trans L4 (fun _ h=>h.elim)
 have L2:=K3.out.trans L3 (fun _ h=>h.elim)
 have L1:=K2.out.trans L2 (fun _ h=>h.elim)
 have L0:=K1.out.trans L1 (fun _ h=>h.elim)
 have hz:=L0.blk (heap_alloc_new w (.cells #[.nilFunc,.nilFunc] 278)) (fun h=>h)
 have hb1:=hk.blk hb0 (fun h=>h)
 have kw:Kept w w0 (fun _=>False):=((Kept.refl w (fun _=>False)).alloc (.cells #[.nilFunc,.nilFunc] 278)).trans L0 (fun _ h=>h.elim)
 have s0:w.heap.size < (w.alloc (.cells #[.nilFunc,.nilFunc] 278)).heap.size:=by simp
 have s1:w.heap.size < w1.heap.size:=Nat.lt_of_lt_of_le s0 K1.out.size
 have s2:w.heap.size < w2.heap.size:=Nat.lt_of_lt_of_le s1 K2.out.size
 have s3:w.heap.size < w3.heap.size:=Nat.lt_of_lt_of_le s2 K3.out.size
 have s4:w.heap.size < w4.heap.size:=Nat.lt_of_lt_of_le s3 K4.out.size
 have s5:w.heap.size < w5.heap.size:=Nat.lt_of_lt_of_le s4 K5.out.size
 have s6:w.heap.size < w6.heap.size:=Nat.lt_of_lt_of_le s5 K6.out.size
 have s7:w.heap.size < w7.heap.size:=Nat.lt_of_lt_of_le s6 K7.out.size
 have s8:w.heap.size < w8.heap.size:=Nat.lt_of_lt_of_le s7 K8.out.size
 have s9:w.heap.size < w9.heap.size:=Nat.lt_of_lt_of_le s8 K9.out.size
 have sb:w.heap.size < (w9.alloc (.cells #[a2,b2,a3,b3,a4,b4,a5,b5,a6,b6,a9,b9] 401)).heap.size:=by simp; omega
 have HZ:=lh hz
 have HB1:=lh hb1
 have HA:=lh ha
 have HBB:=lh hb
 have HC:=lh hc
 have KW:=lh kw
 have M1:=lh L1
 have M2:=lh L2
 have M3:=lh L3
 have M4:=lh L4
 have M5:=lh L5
 have M6:=lh L6
 have M7:=lh L7
 have M8:=lh L8
 have M9:=lh L9
 have S0:=lh s0
 have S1:=lh s1
 have S2:=lh s2
 have S3:=lh s3
 have S4:=lh s4
 have S5:=lh s5
 have S6:=lh s6
 have S7:=lh s7
 have S8:=lh s8
 have S9:=lh s9
 have SB:=lh sb
 clear hb0 hz hb1 hk hc ha hb kw sb L0 L1 L2 L3 L4 L5 L6 L7 L8 L9 s0 s1 s2 s3 s4 s5 s6 s7 s8 s9
 go_wp2_with (first | refine wpList_store_row rfl 278 (.tmp 0) (.tmp 11) rfl w.heap.size #[a,b] rfl rfl _ _ HZ.out (by kernel_rfl) rfl (by simp [HA.out,HBB.out]) ?_)
 have hsr:=setRow_heap w0 w.heap.size _ #[a,b] 278 (0,0) HZ.out
 have kr:Kept w0 (w0.setRow w.heap.size #[a,b]) (fun j=>j=w.heap.size):=⟨rfl,rfl,rfl,by simp,fun j _ hj=>setRow_other w0 w.heap.size j _ hj⟩
 refine bodyPost_ret (results_cell_row rfl _ _ _ _ _ _ _ rfl hsr Tryz.underlying278 rfl (by kernel_rfl)) rfl ?_
 refine ⟨a,b,rfl,HA.out,HBB.out,KW.out.trans kr (fun j h=>.inr (by omega)),fun W' hW=>?_⟩
 have hpa:W'.heap[w9.heap.size]?=_:=hW.blk (Nat.le_of_lt S9.out) (kr.blk HB1.out (by have:=S9.out; omega))
 have f1:=hW.call M1.out kr S0.out
 have f2:=hW.call M2.out kr S1.out
 have f3:=hW.call M3.out kr S2.out
 have f4:=hW.call M4.out kr S3.out
 have f5:=hW.call M5.out kr S4.out
 have f6:=hW.call M6.out kr S5.out
 have f7:=hW.call M7.out kr S6.out
 have f8:=hW.call M8.out kr S7.out
 have f9:=hW.call M9.out kr S8.out
 have P2:=C2.out W' f2 (flagC) flagC_fair flagC_one 0 6 (by decide) (fun x:VertD=>x.full) (fun y x=>{ x with full:=y }) (C1.out W' f1) get_vert_full
 have P3:=C3.out W' f3 1 6 (by decide) (fun x:VertD=>x.key) (fun y x=>{ x with key:=y }) get_vert_key
 have P4:=C4.out W' f4 2 6 (by decide) (fun x:VertD=>x.client) (fun y x=>{ x with client:=y }) get_vert_client
 have P5:=C5.out W' f5 3 6 (by decide) (fun x:VertD=>x.sig) (fun y x=>{ x with sig:=y }) get_vert_sig
 have P6:=C6.out W' f6 4 6 (by decide) (fun x:VertD=>x.hash) (fun y x=>{ x with hash:=y }) get_vert_hash
 have P9:=C9.out W' f9 (listC sgnC 65536) (listC_fair sgnC_fair 65536) (listC_one sgnC 65536) 5 6 (by decide) (fun x:VertD=>x.late) (fun y x=>{ x with late:=y }) (C8.out W' f8 sgnC sgnC_fair sgnC_one (C7.out W' f7)) get_vert_late
 refine HC.out W' (hW.call (Kept.refl w0 _) kr SB.out) vertP rfl vertP_fair vertP_off VertZ (by decide) ⟨blk_lt hpa,fun k p hp=>?_⟩
 match k,hp with
 | 0,hp=>obtain rfl:=Option.some.inj hp; exact ⟨a2,b2,cellOf hpa,cellOf hpa,P2.1,P2.2⟩
 | 1,hp=>obtain rfl:=Option.some.inj hp; exact ⟨a3,b3,cellOf hpa,cellOf hpa,P3.1,P3.2⟩
 | 2,hp=>obtain rfl:=Option.some.inj hp; exact ⟨a4,b4,cellOf hpa,cellOf hpa,P4.1,P4.2⟩
 | 3,hp=>obtain rfl:=Option.some.inj hp; exact ⟨a5,b5,cellOf hpa,cellOf hpa,P5.1,P5.2⟩
 | 4,hp=>obtain rfl:=Option.some.inj hp; exact ⟨a6,b6,cellOf hpa,cellOf hpa,P6.1,P6.2⟩
 | 5,hp=>obtain rfl:=Option.some.inj hp; exact ⟨a9,b9,cellOf hpa,cellOf hpa,P9.1,P9.2⟩
 | k+6,hp=>simp [vertP] at hp
structure EpocD where
 joiner:Int
 member:Int
 welcome:Int
 secret:Int
 init:Int
 data:Int
 ratchets:Int
 exporter:Int
 ext:Int
 confirm:Int
 membership:Int
 resumption:Int
 auth:Int
def EpocZ:EpocD:=⟨0,0,0,0,0,0,0,0,0,0,0,0,0⟩
def epoc_joiner:Prt EpocD:=oneP sgnC 0 (·.joiner) (fun y x=>{ x with joiner:=y })
def epoc_member:Prt EpocD:=oneP sgnC 1 (·.member) (fun y x=>{ x with member:=y })
def epoc_welcome:Prt EpocD:=oneP sgnC 2 (·.welcome) (fun y x=>{ x with welcome:=y })
def epoc_secret:Prt EpocD:=oneP sgnC 3 (·.secret) (fun y x=>{ x with secret:=y })
def epoc_init:Prt EpocD:=oneP sgnC 4 (·.init) (fun y x=>{ x with init:=y })
def epoc_data:Prt EpocD:=oneP sgnC 5 (·.data) (fun y x=>{ x with data:=y })
def epoc_ratchets:Prt EpocD:=oneP sgnC 6 (·.ratchets) (fun y x=>{ x with ratchets:=y })
def epoc_exporter:Prt EpocD:=oneP sgnC 7 (·.exporter) (fun y x=>{ x with exporter:=y })
def epoc_ext:Prt EpocD:=oneP sgnC 8 (·.ext) (fun y x=>{ x with ext:=y })
def epoc_confirm:Prt EpocD:=oneP sgnC 9 (·.confirm) (fun y x=>{ x with confirm:=y })
def epoc_membership:Prt EpocD:=oneP sgnC 10 (·.membership) (fun y x=>{ x with membership:=y })
def epoc_resumption:Prt EpocD:=oneP sgnC 11 (·.resumption) (fun y x=>{ x with resumption:=y })
def epoc_auth:Prt EpocD:=oneP sgnC 12 (·.auth) (fun y x=>{ x with auth:=y })
def epocP:List (Prt EpocD):=[epoc_joiner,epoc_member,epoc_welcome,epoc_secret,epoc_init,epoc_data,epoc_ratchets,epoc_exporter,epoc_ext,epoc_confirm,epoc_membership,epoc_resumption,epoc_auth]
def epocC:Cod EpocD:=recC 13 epocP EpocZ
theorem epocP_fair:∀ p∈epocP,PFair 13 p:=by
 intro p hp
 simp only [epocP,List.mem_cons,List.not_mem_nil,or_false] at hp
 rcases hp with rfl | rfl | rfl | rfl | rfl | rfl | rfl | rfl | rfl | rfl | rfl | rfl | rfl
 ·exact oneP_fair sgnC_fair sgnC_one (by decide) (fun _ _=>rfl)
 ·exact oneP_fair sgnC_fair sgnC_one (by decide) (fun _ _=>rfl)
 ·exact oneP_fair sgnC_fair sgnC_one (by decide) (fun _ _=>rfl)
 ·exact oneP_fair sgnC_fair sgnC_one (by decide) (fun _ _=>rfl)
 ·exact oneP_fair sgnC_fair sgnC_one (by decide) (fun _ _=>rfl)
 ·exact oneP_fair sgnC_fair sgnC_one (by decide) (fun _ _=>rfl)
 ·exact oneP_fair sgnC_fair sgnC_one (by decide) (fun _ _=>rfl)
 ·exact oneP_fair sgnC_fair sgnC_one (by decide) (fun _ _=>rfl)
 ·exact oneP_fair sgnC_fair sgnC_one (by decide) (fun _ _=>rfl)
 ·exact oneP_fair sgnC_fair sgnC_one (by decide) (fun _ _=>rfl)
 ·exact oneP_fair sgnC_fair sgnC_one (by decide) (fun _ _=>rfl)
 ·exact oneP_fair sgnC_fair sgnC_one (by decide) (fun _ _=>rfl)
 ·exact oneP_fair sgnC_fair sgnC_one (by decide) (fun _ _=>rfl)
theorem epocP_off:epocP.Pairwise (fun p p'=>Off 13 p p'):=by
 unfold epocP
 refine List.Pairwise.cons ?_ ?_
 ·intro q hq
  simp only [List.mem_cons,List.not_mem_nil,or_false] at hq
  rcases hq with rfl | rfl | rfl | rfl | rfl | rfl | rfl | rfl | rfl | rfl | rfl | rfl
  ·exact off_rng (oneP_rng sgnC 0 13 _ _) (oneP_rng sgnC 1 13 _ _) (by decide) (fun _ _=>rfl)
  ·exact off_rng (oneP_rng sgnC 0 13 _ _) (oneP_rng sgnC 2 13 _ _) (by decide) (fun _ _=>rfl)
  ·exact off_rng (oneP_rng sgnC 0 13 _ _) (oneP_rng sgnC 3 13 _ _) (by decide) (fun _ _=>rfl)
  ·exact off_rng (oneP_rng sgnC 0 13 _ _) (oneP_rng sgnC 4 13 _ _) (by decide) (fun _ _=>rfl)
  ·exact off_rng (oneP_rng sgnC 0 13 _ _) (oneP_rng sgnC 5 13 _ _) (by decide) (fun _ _=>rfl)
  ·exact off_rng (oneP_rng sgnC 0 13 _ _) (oneP_rng sgnC 6 13 _ _) (by decide) (fun _ _=>rfl)
  ·exact off_rng (oneP_rng sgnC 0 13 _ _) (oneP_rng sgnC 7 13 _ _) (by decide) (fun _ _=>rfl)
  ·exact off_rng (oneP_rng sgnC 0 13 _ _) (oneP_rng sgnC 8 13 _ _) (by decide) (fun _ _=>rfl)
  ·exact off_rng (oneP_rng sgnC 0 13 _ _) (oneP_rng sgnC 9 13 _ _) (by decide) (fun _ _=>rfl)
  ·exact off_rng (oneP_rng sgnC 0 13 _ _) (oneP_rng sgnC 10 13 _ _) (by decide) (fun _ _=>rfl)
  ·exact off_rng (oneP_rng sgnC 0 13 _ _) (oneP_rng sgnC 11 13 _ _) (by decide) (fun _ _=>rfl)
  ·exact off_rng (oneP_rng sgnC 0 13 _ _) (oneP_rng sgnC 12 13 _ _) (by decide) (fun _ _=>rfl)
 refine List.Pairwise.cons ?_ ?_
 ·intro q hq
  simp only [List.mem_cons,List.not_mem_nil,or_false] at hq
  rcases hq with rfl | rfl | rfl | rfl | rfl | rfl | rfl | rfl | rfl | rfl | rfl
  ·exact off_rng (oneP_rng sgnC 1 13 _ _) (oneP_rng sgnC 2 13 _ _) (by decide) (fun _ _=>rfl)
  ·exact off_rng (oneP_rng sgnC 1 13 _ _) (oneP_rng sgnC 3 13 _ _) (by decide) (fun _ _=>rfl)
  ·exact off_rng (oneP_rng sgnC 1 13 _ _) (oneP_rng sgnC 4 13 _ _) (by decide) (fun _ _=>rfl)
  ·exact off_rng (oneP_rng sgnC 1 13 _ _) (oneP_rng sgnC 5 13 _ _) (by decide) (fun _ _=>rfl)
  ·exact off_rng (oneP_rng sgnC 1 13 _ _) (oneP_rng sgnC 6 13 _ _) (by decide) (fun _ _=>rfl)
  ·exact off_rng (oneP_rng sgnC 1 13 _ _) (oneP_rng sgnC 7 13 _ _) (by decide) (fun _ _=>rfl)
  ·exact off_rng (oneP_rng sgnC 1 13 _ _) (oneP_rng sgnC 8 13 _ _) (by decide) (fun _ _=>rfl)
  ·exact off_rng (oneP_rng sgnC 1 13 _ _) (oneP_rng sgnC 9 13 _ _) (by decide) (fun _ _=>rfl)
  ·exact off_rng (oneP_rng sgnC 1 13 _ _) (oneP_rng sgnC 10 13 _ _) (by decide) (fun _ _=>rfl)
  ·exact off_rng (oneP_rng sgnC 1 13 _ _) (oneP_rng sgnC 11 13 _ _) (by decide) (fun _ _=>rfl)
  ·exact off_rng (oneP_rng sgnC 1 13 _ _) (oneP_rng sgnC 12 13 _ _) (by decide) (fun _ _=>rfl)
 refine List.Pairwise.cons ?_ ?_
 ·intro q hq
  simp only [List.mem_cons,List.not_mem_nil,or_false] at hq
  rcases hq with rfl | rfl | rfl | rfl | rfl | rfl | rfl | rfl | rfl | rfl
  ·exact off_rng (oneP_rng sgnC 2 13 _ _) (oneP_rng sgnC 3 13 _ _) (by decide) (fun _ _=>rfl)
  ·exact off_rng (oneP_rng sgnC 2 13 _ _) (oneP_rng sgnC 4 13 _ _) (by decide) (fun _ _=>rfl)
  ·exact off_rng (oneP_rng sgnC 2 13 _ _) (oneP_rng sgnC 5 13 _ _) (by decide) (fun _ _=>rfl)
  ·exact off_rng (oneP_rng sgnC 2 13 _ _) (oneP_rng sgnC 6 13 _ _) (by decide) (fun _ _=>rfl)
  ·exact off_rng (oneP_rng sgnC 2 13 _ _) (oneP_rng sgnC 7 13 _ _) (by decide) (fun _ _=>rfl)
  ·exact off_rng (oneP_rng sgnC 2 13 _ _) (oneP_rng sgnC 8 13 _ _) (by decide) (fun _ _=>rfl)
  ·exact off_rng (oneP_rng sgnC 2 13 _ _) (oneP_rng sgnC 9 13 _ _) (by decide) (fun _ _=>rfl)
  ·exact off_rng (oneP_rng sgnC 2 13 _ _) (oneP_rng sgnC 10 13 _ _) (by decide) (fun _ _=>rfl)
  ·exact off_rng (oneP_rng sgnC 2 13 _ _) (oneP_rng sgnC 11 13 _ _) (by decide) (fun _ _=>rfl)
  ·exact off_rng (oneP_rng sgnC 2 13 _ _) (oneP_rng sgnC 12 13 _ _) (by decide) (fun _ _=>rfl)
 refine List.Pairwise.cons ?_ ?_
 ·intro q hq
  simp only [List.mem_cons,List.not_mem_nil,or_false] at hq
  rcases hq with rfl | rfl | rfl | rfl | rfl | rfl | rfl | rfl | rfl
  ·exact off_rng (oneP_rng sgnC 3 13 _ _) (oneP_rng sgnC 4 13 _ _) (by decide) (fun _ _=>rfl)
  ·exact off_rng (oneP_rng sgnC 3 13 _ _) (oneP_rng sgnC 5 13 _ _) (by decide) (fun _ _=>rfl)
  ·exact off_rng (oneP_rng sgnC 3 13 _ _) (oneP_rng sgnC 6 13 _ _) (by decide) (fun _ _=>rfl)
  ·exact off_rng (oneP_rng sgnC 3 13 _ _) (oneP_rng sgnC 7 13 _ _) (by decide) (fun _ _=>rfl)
  ·exact off_rng (oneP_rng sgnC 3 13 _ _) (oneP_rng sgnC 8 13 _ _) (by decide) (fun _ _=>rfl)
  ·exact off_rng (oneP_rng sgnC 3 13 _ _) (oneP_rng sgnC 9 13 _ _) (by decide) (fun _ _=>rfl)
  ·exact off_rng (oneP_rng sgnC 3 13 _ _) (oneP_rng sgnC 10 13 _ _) (by decide) (fun _ _=>rfl)
  ·exact off_rng (oneP_rng sgnC 3 13 _ _) (oneP_rng sgnC 11 13 _ _) (by decide) (fun _ _=>rfl)
  ·exact off_rng (oneP_rng sgnC 3 13 _ _) (oneP_rng sgnC 12 13 _ _) (by decide) (fun _ _=>rfl)
 refine List.Pairwise.cons ?_ ?_
 ·intro q hq
  simp only [List.mem_cons,List.not_mem_nil,or_false] at hq
  rcases hq with rfl | rfl | rfl | rfl | rfl | rfl | rfl | rfl
  ·exact off_rng (oneP_rng sgnC 4 13 _ _) (oneP_rng sgnC 5 13 _ _) (by decide) (fun _ _=>rfl)
  ·exact off_rng (oneP_rng sgnC 4 13 _ _) (oneP_rng sgnC 6 13 _ _) (by decide) (fun _ _=>rfl)
  ·exact off_rng (oneP_rng sgnC 4 13 _ _) (oneP_rng sgnC 7 13 _ _) (by decide) (fun _ _=>rfl)
  ·exact off_rng (oneP_rng sgnC 4 13 _ _) (oneP_rng sgnC 8 13 _ _) (by decide) (fun _ _=>rfl)
  ·exact off_rng (oneP_rng sgnC 4 13 _ _) (oneP_rng sgnC 9 13 _ _) (by decide) (fun _ _=>rfl)
  ·exact off_rng (oneP_rng sgnC 4 13 _ _) (oneP_rng sgnC 10 13 _ _) (by decide) (fun _ _=>rfl)
  ·exact off_rng (oneP_rng sgnC 4 13 _ _) (oneP_rng sgnC 11 13 _ _) (by decide) (fun _ _=>rfl)
  ·exact off_rng (oneP_rng sgnC 4 13 _ _) (oneP_rng sgnC 12 13 _ _) (by decide) (fun _ _=>rfl)
 refine List.Pairwise.cons ?_ ?_
 ·intro q hq
  simp only [List.mem_cons,List.not_mem_nil,or_false] at hq
  rcases hq with rfl | rfl | rfl | rfl | rfl | rfl | rfl
  ·exact off_rng (oneP_rng sgnC 5 13 _ _) (oneP_rng sgnC 6 13 _ _) (by decide) (fun _ _=>rfl)
  ·exact off_rng (oneP_rng sgnC 5 13 _ _) (oneP_rng sgnC 7 13 _ _) (by decide) (fun _ _=>rfl)
  ·exact off_rng (oneP_rng sgnC 5 13 _ _) (oneP_rng sgnC 8 13 _ _) (by decide) (fun _ _=>rfl)
  ·exact off_rng (oneP_rng sgnC 5 13 _ _) (oneP_rng sgnC 9 13 _ _) (by decide) (fun _ _=>rfl)
  ·exact off_rng (oneP_rng sgnC 5 13 _ _) (oneP_rng sgnC 10 13 _ _) (by decide) (fun _ _=>rfl)
  ·exact off_rng (oneP_rng sgnC 5 13 _ _) (oneP_rng sgnC 11 13 _ _) (by decide) (fun _ _=>rfl)
  ·exact off_rng (oneP_rng sgnC 5 13 _ _) (oneP_rng sgnC 12 13 _ _) (by decide) (fun _ _=>rfl)
 refine List.Pairwise.cons ?_ ?_
 ·intro q hq
  simp only [List.mem_cons,List.not_mem_nil,or_false] at hq
  rcases hq with rfl | rfl | rfl | rfl | rfl | rfl
  ·exact off_rng (oneP_rng sgnC 6 13 _ _) (oneP_rng sgnC 7 13 _ _) (by decide) (fun _ _=>rfl)
  ·exact off_rng (oneP_rng sgnC 6 13 _ _) (oneP_rng sgnC 8 13 _ _) (by decide) (fun _ _=>rfl)
  ·exact off_rng (oneP_rng sgnC 6 13 _ _) (oneP_rng sgnC 9 13 _ _) (by decide) (fun _ _=>rfl)
  ·exact off_rng (oneP_rng sgnC 6 13 _ _) (oneP_rng sgnC 10 13 _ _) (by decide) (fun _ _=>rfl)
  ·exact off_rng (oneP_rng sgnC 6 13 _ _) (oneP_rng sgnC 11 13 _ _) (by decide) (fun _ _=>rfl)
  ·exact off_rng (oneP_rng sgnC 6 13 _ _) (oneP_rng sgnC 12 13 _ _) (by decide) (fun _ _=>rfl)
 refine List.Pairwise.cons ?_ ?_
 ·intro q hq
  simp only [List.mem_cons,List.not_mem_nil,or_false] at hq
  rcases hq with rfl | rfl | rfl | rfl | rfl
  ·exact off_rng (oneP_rng sgnC 7 13 _ _) (oneP_rng sgnC 8 13 _ _) (by decide) (fun _ _=>rfl)
  ·exact off_rng (oneP_rng sgnC 7 13 _ _) (oneP_rng sgnC 9 13 _ _) (by decide) (fun _ _=>rfl)
  ·exact off_rng (oneP_rng sgnC 7 13 _ _) (oneP_rng sgnC 10 13 _ _) (by decide) (fun _ _=>rfl)
  ·exact off_rng (oneP_rng sgnC 7 13 _ _) (oneP_rng sgnC 11 13 _ _) (by decide) (fun _ _=>rfl)
  ·exact off_rng (oneP_rng sgnC 7 13 _ _) (oneP_rng sgnC 12 13 _ _) (by decide) (fun _ _=>rfl)
 refine List.Pairwise.cons ?_ ?_
 ·intro q hq
  simp only [List.mem_cons,List.not_mem_nil,or_false] at hq
  rcases hq with rfl | rfl | rfl | rfl
  ·exact off_rng (oneP_rng sgnC 8 13 _ _) (oneP_rng sgnC 9 13 _ _) (by decide) (fun _ _=>rfl)
  ·exact off_rng (oneP_rng sgnC 8 13 _ _) (oneP_rng sgnC 10 13 _ _) (by decide) (fun _ _=>rfl)
  ·exact off_rng (oneP_rng sgnC 8 13 _ _) (oneP_rng sgnC 11 13 _ _) (by decide) (fun _ _=>rfl)
  ·exact off_rng (oneP_rng sgnC 8 13 _ _) (oneP_rng sgnC 12 13 _ _) (by decide) (fun _ _=>rfl)
 refine List.Pairwise.cons ?_ ?_
 ·intro q hq
  simp only [List.mem_cons,List.not_mem_nil,or_false] at hq
  rcases hq with rfl | rfl | rfl
  ·exact off_rng (oneP_rng sgnC 9 13 _ _) (oneP_rng sgnC 10 13 _ _) (by decide) (fun _ _=>rfl)
  ·exact off_rng (oneP_rng sgnC 9 13 _ _) (oneP_rng sgnC 11 13 _ _) (by decide) (fun _ _=>rfl)
  ·exact off_rng (oneP_rng sgnC 9 13 _ _) (oneP_rng sgnC 12 13 _ _) (by decide) (fun _ _=>rfl)
 refine List.Pairwise.cons ?_ ?_
 ·intro q hq
  simp only [List.mem_cons,List.not_mem_nil,or_false] at hq
  rcases hq with rfl | rfl
  ·exact off_rng (oneP_rng sgnC 10 13 _ _) (oneP_rng sgnC 11 13 _ _) (by decide) (fun _ _=>rfl)
  ·exact off_rng (oneP_rng sgnC 10 13 _ _) (oneP_rng sgnC 12 13 _ _) (by decide) (fun _ _=>rfl)
 refine List.Pairwise.cons ?_ ?_
 ·intro q hq
  simp only [List.mem_cons,List.not_mem_nil,or_false] at hq
  rcases hq with rfl
  ·exact off_rng (oneP_rng sgnC 11 13 _ _) (oneP_rng sgnC 12 13 _ _) (by decide) (fun _ _=>rfl)
 refine List.Pairwise.cons ?_ ?_
 ·intro q hq
  cases hq
 exact List.Pairwise.nil
theorem epocC_fair:Fair epocC:=recC_fair (fun p hp=>(epocP_fair p hp).fair) _
theorem epocC_many:Many epocC 13:=recC_many _ _ _
theorem get_epoc_joiner:GetterOk 66 13 (.func (.func 228) #[] #[]) 0:=by
 refine ⟨_,rfl,Proofs.enters_of Tryz.func228 (by kernel_rfl) rfl,?_⟩
 intro b cs w hb hs
 clear hb hs
 go_enter Tryz.func228,Tryz.ntmps228
 go_wp2
 go_ret
 exact ⟨rfl,rfl⟩
theorem get_epoc_member:GetterOk 66 13 (.func (.func 229) #[] #[]) 1:=by
 refine ⟨_,rfl,Proofs.enters_of Tryz.func229 (by kernel_rfl) rfl,?_⟩
 intro b cs w hb hs
 clear hb hs
 go_enter Tryz.func229,Tryz.ntmps229
 go_wp2
 go_ret
 exact ⟨rfl,rfl⟩
theorem get_epoc_welcome:GetterOk 66 13 (.func (.func 230) #[] #[]) 2:=by
 refine ⟨_,rfl,Proofs.enters_of Tryz.func230 (by kernel_rfl) rfl,?_⟩
 intro b cs w hb hs
 clear hb hs
 go_enter Tryz.func230,Tryz.ntmps230
 go_wp2
 go_ret
 exact ⟨rfl,rfl⟩
theorem get_epoc_secret:GetterOk 66 13 (.func (.func 231) #[] #[]) 3:=by
 refine ⟨_,rfl,Proofs.enters_of Tryz.func231 (by kernel_rfl) rfl,?_⟩
 intro b cs w hb hs
 clear hb hs
 go_enter Tryz.func231,Tryz.ntmps231
 go_wp2
 go_ret
 exact ⟨rfl,rfl⟩
theorem get_epoc_init:GetterOk 66 13 (.func (.func 232) #[] #[]) 4:=by
 refine ⟨_,rfl,Proofs.enters_of Tryz.func232 (by kernel_rfl) rfl,?_⟩
 intro b cs w hb hs
 clear hb hs
 go_enter Tryz.func232,Tryz.ntmps232
 go_wp2
 go_ret
 exact ⟨rfl,rfl⟩
theorem get_epoc_data:GetterOk 66 13 (.func (.func 233) #[] #[]) 5:=by
 refine ⟨_,rfl,Proofs.enters_of Tryz.func233 (by kernel_rfl) rfl,?_⟩
 intro b cs w hb hs
 clear hb hs
 go_enter Tryz.func233,Tryz.ntmps233
 go_wp2
 go_ret
 exact ⟨rfl,rfl⟩
theorem get_epoc_ratchets:GetterOk 66 13 (.func (.func 234) #[] #[]) 6:=by
 refine ⟨_,rfl,Proofs.enters_of Tryz.func234 (by kernel_rfl) rfl,?_⟩
 intro b cs w hb hs
 clear hb hs
 go_enter Tryz.func234,Tryz.ntmps234
 go_wp2
 go_ret
 exact ⟨rfl,rfl⟩
theorem get_epoc_exporter:GetterOk 66 13 (.func (.func 235) #[] #[]) 7:=by
 refine ⟨_,rfl,Proofs.enters_of Tryz.func235 (by kernel_rfl) rfl,?_⟩
 intro b cs w hb hs
 clear hb hs
 go_enter Tryz.func235,Tryz.ntmps235
 go_wp2
 go_ret
 exact ⟨rfl,rfl⟩
theorem get_epoc_ext:GetterOk 66 13 (.func (.func 236) #[] #[]) 8:=by
 refine ⟨_,rfl,Proofs.enters_of Tryz.func236 (by kernel_rfl) rfl,?_⟩
 intro b cs w hb hs
 clear hb hs
 go_enter Tryz.func236,Tryz.ntmps236
 go_wp2
 go_ret
 exact ⟨rfl,rfl⟩
theorem get_epoc_confirm:GetterOk 66 13 (.func (.func 237) #[] #[]) 9:=by
 refine ⟨_,rfl,Proofs.enters_of Tryz.func237 (by kernel_rfl) rfl,?_⟩
 intro b cs w hb hs
 clear hb hs
 go_enter Tryz.func237,Tryz.ntmps237
 go_wp2
 go_ret
 exact ⟨rfl,rfl⟩
theorem get_epoc_membership:GetterOk 66 13 (.func (.func 238) #[] #[]) 10:=by
 refine ⟨_,rfl,Proofs.enters_of Tryz.func238 (by kernel_rfl) rfl,?_⟩
 intro b cs w hb hs
 clear hb hs
 go_enter Tryz.func238,Tryz.ntmps238
 go_wp2
 go_ret
 exact ⟨rfl,rfl⟩
theorem get_epoc_resumption:GetterOk 66 13 (.func (.func 239) #[] #[]) 11:=by
 refine ⟨_,rfl,Proofs.enters_of Tryz.func239 (by kernel_rfl) rfl,?_⟩
 intro b cs w hb hs
 clear hb hs
 go_enter Tryz.func239,Tryz.ntmps239
 go_wp2
 go_ret
 exact ⟨rfl,rfl⟩
theorem get_epoc_auth:GetterOk 66 13 (.func (.func 240) #[] #[]) 12:=by
 refine ⟨_,rfl,Proofs.enters_of Tryz.func240 (by kernel_rfl) rfl,?_⟩
 intro b cs w hb hs
 clear hb hs
 go_enter Tryz.func240,Tryz.ntmps240
 go_wp2
 go_ret
 exact ⟨rfl,rfl⟩
set_option maxHeartbeats 6400000 in
theorem epocs_new (w:World):Calls Tryz.prog 129 #[] w fun r w'=>∃ a b,r=.returned (.agg #[a,b])∧a.oneCell'=true∧b.oneCell'=true∧Kept w w' (fun _=>False)∧∀ W',From w.heap.size w' W'→IsCodec W' (.agg #[a,b]) epocC:=by
 go_enter Tryz.func129,Tryz.ntmps129
 go_wp2_with (fail)
 refine (numberN_scheduleEpoch 228 (Proofs.enters_of Tryz.func228 (by kernel_rfl) rfl) _).mono ?_
 rintro e w1 ⟨a1,b1,rfl,-,-,hk,hc⟩
 have C1:=lh hc
 have K1:=lh hk
 clear hk hc
 go_wp2_with (fail)
 refine (numberN_scheduleEpoch 229 (Proofs.enters_of Tryz.func229 (by kernel_rfl) rfl) _).mono ?_
 rintro e w2 ⟨a2,b2,rfl,-,-,hk,hc⟩
 have C2:=lh hc
 have K2:=lh hk
 clear hk hc
 go_wp2_with (fail)
 refine (numberN_scheduleEpoch 230 (Proofs.enters_of Tryz.func230 (by kernel_rfl) rfl) _).mono ?_
 rintro e w3 ⟨a3,b3,rfl,-,-,hk,hc⟩
 have C3:=lh hc
 have K3:=lh hk
 clear hk hc
 go_wp2_with (fail)
 refine (numberN_scheduleEpoch 231 (Proofs.enters_of Tryz.func231 (by kernel_rfl) rfl) _).mono ?_
 rintro e w4 ⟨a4,b4,rfl,-,-,hk,hc⟩
 have C4:=lh hc
 have K4:=lh hk
 clear hk hc
 go_wp2_with (fail)
 refine (numberN_scheduleEpoch 232 (Proofs.enters_of Tryz.func232 (by kernel_rfl) rfl) _).mono ?_
 rintro e w5 ⟨a5,b5,rfl,-,-,hk,hc⟩
 have C5:=lh hc
 have K5:=lh hk
 clear hk hc
 go_wp2_with (fail)
 refine (numberN_scheduleEpoch 233 (Proofs.enters_of Tryz.func233 (by kernel_rfl) rfl) _).mono ?_
 rintro e w6 ⟨a6,b6,rfl,-,-,hk,hc⟩
 have C6:=lh hc
 have K6:=lh hk
 clear hk hc
 go_wp2_with (fail)
 refine (numberN_scheduleEpoch 234 (Proofs.enters_of Tryz.func234 (by kernel_rfl) rfl) _).mono ?_
 rintro e w7 ⟨a7,b7,rfl,-,-,hk,hc⟩
 have C7:=lh hc
 have K7:=lh hk
 clear hk hc
 go_wp2_with (fail)
 refine (numberN_scheduleEpoch 235 (Proofs.enters_of Tryz.func235 (by kernel_rfl) rfl) _).mono ?_
 rintro e w8 ⟨a8,b8,rfl,-,-,hk,hc⟩
 have C8:=lh hc
 have K8:=lh hk
 clear hk hc
 go_wp2_with (fail)
 refine (numberN_scheduleEpoch 236 (Proofs.enters_of Tryz.func236 (by kernel_rfl) rfl) _).mono ?_
 rintro e w9 ⟨a9,b9,rfl,-,-,hk,hc⟩
 have C9:=lh hc
 have K9:=lh hk
 clear hk hc
 go_wp2_with (fail)
 refine (numberN_scheduleEpoch 237 (Proofs.enters_of Tryz.func237 (by kernel_rfl) rfl) _).mono ?_
 rintro e w10 ⟨a10,b10,rfl,-,-,hk,hc⟩
 have C10:=lh hc
 have K10:=lh hk
 clear hk hc
 go_wp2_with (fail)
 refine (numberN_scheduleEpoch 238 (Proofs.enters_of Tryz.func238 (by kernel_rfl) rfl) _).mono ?_
 rintro e w11 ⟨a11,b11,rfl,-,-,hk,hc⟩
 have C11:=lh hc
 have K11:=lh hk
 clear hk hc
 go_wp2_with (fail)
 refine (numberN_scheduleEpoch 239 (Proofs.enters_of Tryz.func239 (by kernel_rfl) rfl) _).mono ?_
 rintro e w12 ⟨a12,b12,rfl,-,-,hk,hc⟩
 have C12:=lh hc
 have K12:=lh hk
 clear hk hc
 go_wp2_with (fail)
 refine (numberN_scheduleEpoch 240 (Proofs.enters_of Tryz.func240 (by kernel_rfl) rfl) _).mono ?_
 rintro e w13 ⟨a13,b13,rfl,-,-,hk,hc⟩
 have C13:=lh hc
 have K13:=lh hk
 clear hk hc
 go_wp2_with (fail)
 refine (recordN_scheduleEpoch w13.heap.size 13 13 (by decide) (by decide) _).mono ?_
 rintro e w0 ⟨a,b,rfl,ha,hb,hk,hc⟩
 have hb0:=heap_alloc_new w13 (.cells #[a1,b1,a2,b2,a3,b3,a4,b4,a5,b5,a6,b6,a7,b7,a8,b8,a9,b9,a10,b10,a11,b11,a12,b12,a13,b13] 422)
 have L13:Kept w13 w0 (fun _=>False):=((Kept.refl w13 (fun _=>False)).alloc _).trans hk (fun _ h=>h.elim)
 have L12:=K13.out.trans L13 (fun _ h=>h.elim)
 have L11:=K12.out.trans L12 (fun _ h=>h.elim)
 have L10:=K11.out.trans L11 (fun _ h=>h.elim)
 have L9:=K10.out.trans L10 (fun _ h=>h.elim)
 have L8:=K9.out.trans L9 (fun _ h=>h.elim)
 have L7:=K8.out.trans L8 (fun _ h=>h.elim)
 have L6:=K7.out.trans L7 (fun _ h=>h.elim)
 have L5:=K6.out.trans L6 (fun _ h=>h.elim)
 have L4:=K5.out.trans L5 (fun _ h=>h.elim)
 have L3:=K4.out.trans L4 (fun _ h=>h.elim)
 have L2:=K3.out.trans L3 (fun _ h=>h.elim)
 have L1:=K2.out.trans L2 (fun _ h=>h.elim)
 have L0:=K1.out.trans L1 (fun _ h=>h.elim)
 have hz:=L0.blk (heap_alloc_new w (.cells #[.nilFunc,.nilFunc] 299)) (fun h=>h)
 have hb1:=hk.blk hb0 (fun h=>h)
 have kw:Kept w w0 (fun _=>False):=((Kept.refl w (fun _=>False)).alloc (.cells #[.nilFunc,.nilFunc] 299)).trans L0 (fun _ h=>h.elim)
 have s0:w.heap.size < (w.alloc (.cells #[.nilFunc,.nilFunc] 299)).heap.size:=by simp
 have s1:w.heap.size < w1.heap.size:=Nat.lt_of_lt_of_le s0 K1.out.size
 have s2:w.heap.size < w2.heap.size:=Nat.lt_of_lt_of_le s1 K2.out.size
 have s3:w.heap.size < w3.heap.size:=Nat.lt_of_lt_of_le s2 K3.out.size
 have s4:w.heap.size < w4.heap.size:=Nat.lt_of_lt_of_le s3 K4.out.size
 have s5:w.heap.size < w5.heap.size:=Nat.lt_of_lt_of_le s4 K5.out.size
 have s6:w.heap.size < w6.heap.size:=Nat.lt_of_lt_of_le s5 K6.out.size
 have s7:w.heap.size < w7.heap.size:=Nat.lt_of_lt_of_le s6 K7.out.size
 have s8:w.heap.size < w8.heap.size:=Nat.lt_of_lt_of_le s7 K8.out.size
 have s9:w.heap.size < w9.heap.size:=Nat.lt_of_lt_of_le s8 K9.out.size
 have s10:w.heap.size < w10.heap.size:=Nat.lt_of_lt_of_le s9 K10.out.size
 have s11:w.heap.size < w11.heap.size:=Nat.lt_of_lt_of_le s10 K11.out.size
 have s12:w.heap.size < w12.heap.size:=Nat.lt_of_lt_of_le s11 K12.out.size
 have s13:w.heap.size < w13.heap.size:=Nat.lt_of_lt_of_le s12 K13.out.size
 have sb:w.heap.size < (w13.alloc (.cells #[a1,b1,a2,b2,a3,b3,a4,b4,a5,b5,a6,b6,a7,b7,a8,b8,a9,b9,a10,b10,a11,b11,a12,b12,a13,b13] 422)).heap.size:=by simp; omega
 have HZ:=lh hz
 have HB1:=lh hb1
 have HA:=lh ha
 have HBB:=lh hb
 have HC:=lh hc
 have KW:=lh kw
 have M1:=lh L1
 have M2:=lh L2
 have M3:=lh L3
 have M4:=lh L4
 have M5:=lh L5
 have M6:=lh L6
 have M7:=lh L7
 have M8:=lh L8
 have M9:=lh L9
 have M10:=lh L10
 have M11:=lh L11
 have M12:=lh L12
 have M13:=lh L13
 have S0:=lh s0
 have S1:=lh s1
 have S2:=lh s2
 have S3:=lh s3
 have S4:=lh s4
 have S5:=lh s5
 have S6:=lh s6
 have S7:=lh s7
 have S8:=lh s8
 have S9:=lh s9
 have S10:=lh s10
 have S11:=lh s11
 have S12:=lh s12
 have S13:=lh s13
 have SB:=lh sb
 clear hb0 hz hb1 hk hc ha hb kw sb L0 L1 L2 L3 L4 L5 L6 L7 L8 L9 L10 L11 L12 L13 s0 s1 s2 s3 s4 s5 s6 s7 s8 s9 s10 s11 s12 s13
 go_wp2_with (first | refine wpList_store_row rfl 299 (.tmp 0) (.tmp 15) rfl w.heap.size #[a,b] rfl rfl _ _ HZ.out (by kernel_rfl) rfl (by simp [HA.out,HBB.out]) ?_)
 have hsr:=setRow_heap w0 w.heap.size _ #[a,b] 299 (0,0) HZ.out
 have kr:Kept w0 (w0.setRow w.heap.size #[a,b]) (fun j=>j=w.heap.size):=⟨rfl,rfl,rfl,by simp,fun j _ hj=>setRow_other w0 w.heap.size j _ hj⟩
 refine bodyPost_ret (results_cell_row rfl _ _ _ _ _ _ _ rfl hsr Tryz.underlying299 rfl (by kernel_rfl)) rfl ?_
 refine ⟨a,b,rfl,HA.out,HBB.out,KW.out.trans kr (fun j h=>.inr (by omega)),fun W' hW=>?_⟩
 have hpa:W'.heap[w13.heap.size]?=_:=hW.blk (Nat.le_of_lt S13.out) (kr.blk HB1.out (by have:=S13.out; omega))
 have f1:=hW.call M1.out kr S0.out
 have f2:=hW.call M2.out kr S1.out
 have f3:=hW.call M3.out kr S2.out
 have f4:=hW.call M4.out kr S3.out
 have f5:=hW.call M5.out kr S4.out
 have f6:=hW.call M6.out kr S5.out
 have f7:=hW.call M7.out kr S6.out
 have f8:=hW.call M8.out kr S7.out
 have f9:=hW.call M9.out kr S8.out
 have f10:=hW.call M10.out kr S9.out
 have f11:=hW.call M11.out kr S10.out
 have f12:=hW.call M12.out kr S11.out
 have f13:=hW.call M13.out kr S12.out
 have P1:=C1.out W' f1 0 13 (by decide) (fun x:EpocD=>x.joiner) (fun y x=>{ x with joiner:=y }) get_epoc_joiner
 have P2:=C2.out W' f2 1 13 (by decide) (fun x:EpocD=>x.member) (fun y x=>{ x with member:=y }) get_epoc_member
 have P3:=C3.out W' f3 2 13 (by decide) (fun x:EpocD=>x.welcome) (fun y x=>{ x with welcome:=y }) get_epoc_welcome
 have P4:=C4.out W' f4 3 13 (by decide) (fun x:EpocD=>x.secret) (fun y x=>{ x with secret:=y }) get_epoc_secret
 have P5:=C5.out W' f5 4 13 (by decide) (fun x:EpocD=>x.init) (fun y x=>{ x with init:=y }) get_epoc_init
 have P6:=C6.out W' f6 5 13 (by decide) (fun x:EpocD=>x.data) (fun y x=>{ x with data:=y }) get_epoc_data
 have P7:=C7.out W' f7 6 13 (by decide) (fun x:EpocD=>x.ratchets) (fun y x=>{ x with ratchets:=y }) get_epoc_ratchets
 have P8:=C8.out W' f8 7 13 (by decide) (fun x:EpocD=>x.exporter) (fun y x=>{ x with exporter:=y }) get_epoc_exporter
 have P9:=C9.out W' f9 8 13 (by decide) (fun x:EpocD=>x.ext) (fun y x=>{ x with ext:=y }) get_epoc_ext
 have P10:=C10.out W' f10 9 13 (by decide) (fun x:EpocD=>x.confirm) (fun y x=>{ x with confirm:=y }) get_epoc_confirm
 have P11:=C11.out W' f11 10 13 (by decide) (fun x:EpocD=>x.membership) (fun y x=>{ x with membership:=y }) get_epoc_membership
 have P12:=C12.out W' f12 11 13 (by decide) (fun x:EpocD=>x.resumption) (fun y x=>{ x with resumption:=y }) get_epoc_resumption
 have P13:=C13.out W' f13 12 13 (by decide) (fun x:EpocD=>x.auth) (fun y x=>{ x with auth:=y }) get_epoc_auth
 refine HC.out W' (hW.call (Kept.refl w0 _) kr SB.out) epocP rfl epocP_fair epocP_off EpocZ (by decide) ⟨blk_lt hpa,fun k p hp=>?_⟩
 match k,hp with
 | 0,hp=>obtain rfl:=Option.some.inj hp; exact ⟨a1,b1,cellOf hpa,cellOf hpa,P1.1,P1.2⟩
 | 1,hp=>obtain rfl:=Option.some.inj hp; exact ⟨a2,b2,cellOf hpa,cellOf hpa,P2.1,P2.2⟩
 | 2,hp=>obtain rfl:=Option.some.inj hp; exact ⟨a3,b3,cellOf hpa,cellOf hpa,P3.1,P3.2⟩
 | 3,hp=>obtain rfl:=Option.some.inj hp; exact ⟨a4,b4,cellOf hpa,cellOf hpa,P4.1,P4.2⟩
 | 4,hp=>obtain rfl:=Option.some.inj hp; exact ⟨a5,b5,cellOf hpa,cellOf hpa,P5.1,P5.2⟩
 | 5,hp=>obtain rfl:=Option.some.inj hp; exact ⟨a6,b6,cellOf hpa,cellOf hpa,P6.1,P6.2⟩
 | 6,hp=>obtain rfl:=Option.some.inj hp; exact ⟨a7,b7,cellOf hpa,cellOf hpa,P7.1,P7.2⟩
 | 7,hp=>obtain rfl:=Option.some.inj hp; exact ⟨a8,b8,cellOf hpa,cellOf hpa,P8.1,P8.2⟩
 | 8,hp=>obtain rfl:=Option.some.inj hp; exact ⟨a9,b9,cellOf hpa,cellOf hpa,P9.1,P9.2⟩
 | 9,hp=>obtain rfl:=Option.some.inj hp; exact ⟨a10,b10,cellOf hpa,cellOf hpa,P10.1,P10.2⟩
 | 10,hp=>obtain rfl:=Option.some.inj hp; exact ⟨a11,b11,cellOf hpa,cellOf hpa,P11.1,P11.2⟩
 | 11,hp=>obtain rfl:=Option.some.inj hp; exact ⟨a12,b12,cellOf hpa,cellOf hpa,P12.1,P12.2⟩
 | 12,hp=>obtain rfl:=Option.some.inj hp; exact ⟨a13,b13,cellOf hpa,cellOf hpa,P13.1,P13.2⟩
 | k+13,hp=>simp [epocP] at hp
end Go.Proofs.YtogkkfdkeefjnaaGreatDoor.Codec
namespace Go.Proofs.YtogkkfdkeefjnaaGreatDoor.Codec
open Go.RowKit Go.Proofs.YtogkkfdkeefjnaaGreatDoorBase Go.Proofs.YtogkkfdkeefjnaaGreatDoorLex2 Go.Proofs.YtogkkfdkeefjnaaGreatDoorNum
set_option linter.unusedVariables false
set_option maxRecDepth 100000
set_option linter.unusedSimpArgs false
structure RkeyD where
 gen:Int
 term:Int
def RkeyZ:RkeyD:=⟨0,0⟩
def rkey_gen:Prt RkeyD:=oneP sgnC 0 (·.gen) (fun y x=>{ x with gen:=y })
def rkey_term:Prt RkeyD:=oneP sgnC 1 (·.term) (fun y x=>{ x with term:=y })
def rkeyP:List (Prt RkeyD):=[rkey_gen,rkey_term]
def rkeyC:Cod RkeyD:=recC 2 rkeyP RkeyZ
theorem rkeyP_fair:∀ p∈rkeyP,PFair 2 p:=by
 intro p hp
 simp only [rkeyP,List.mem_cons,List.not_mem_nil,or_false] at hp
 rcases hp with rfl | rfl
 ·exact oneP_fair sgnC_fair sgnC_one (by decide) (fun _ _=>rfl)
 ·exact oneP_fair sgnC_fair sgnC_one (by decide) (fun _ _=>rfl)
theorem rkeyP_off:rkeyP.Pairwise (fun p p'=>Off 2 p p'):=by
 unfold rkeyP
 refine List.Pairwise.cons ?_ ?_
 ·intro q hq
  simp only [List.mem_cons,List.not_mem_nil,or_false] at hq
  rcases hq with rfl
  ·exact off_rng (oneP_rng sgnC 0 2 _ _) (oneP_rng sgnC 1 2 _ _) (by decide) (fun _ _=>rfl)
 refine List.Pairwise.cons ?_ ?_
 ·intro q hq
  cases hq
 exact List.Pairwise.nil
theorem rkeyC_fair:Fair rkeyC:=recC_fair (fun p hp=>(rkeyP_fair p hp).fair) _
theorem rkeyC_many:Many rkeyC 2:=recC_many _ _ _
theorem get_rkey_gen:GetterOk 431 2 (.func (.func 245) #[] #[]) 0:=by
 refine ⟨_,rfl,Proofs.enters_of Tryz.func245 (by kernel_rfl) rfl,?_⟩
 intro b cs w hb hs
 clear hb hs
 go_enter Tryz.func245,Tryz.ntmps245
 go_wp2
 go_ret
 exact ⟨rfl,rfl⟩
theorem get_rkey_term:GetterOk 431 2 (.func (.func 246) #[] #[]) 1:=by
 refine ⟨_,rfl,Proofs.enters_of Tryz.func246 (by kernel_rfl) rfl,?_⟩
 intro b cs w hb hs
 clear hb hs
 go_enter Tryz.func246,Tryz.ntmps246
 go_wp2
 go_ret
 exact ⟨rfl,rfl⟩
structure ChaiD where
 leaf:Int
 next:Int
 secret:Int
 kept:List RkeyD
def ChaiZ:ChaiD:=⟨0,0,0,[]⟩
def chai_leaf:Prt ChaiD:=oneP sgnC 0 (·.leaf) (fun y x=>{ x with leaf:=y })
def chai_next:Prt ChaiD:=oneP sgnC 1 (·.next) (fun y x=>{ x with next:=y })
def chai_secret:Prt ChaiD:=oneP sgnC 2 (·.secret) (fun y x=>{ x with secret:=y })
def chai_kept:Prt ChaiD:=oneP (listN rkeyC 2 65536) 3 (·.kept) (fun y x=>{ x with kept:=y })
def chaiP:List (Prt ChaiD):=[chai_leaf,chai_next,chai_secret,chai_kept]
def chaiC:Cod ChaiD:=recC 4 chaiP ChaiZ
theorem chaiP_fair:∀ p∈chaiP,PFair 4 p:=by
 intro p hp
 simp only [chaiP,List.mem_cons,List.not_mem_nil,or_false] at hp
 rcases hp with rfl | rfl | rfl | rfl
 ·exact oneP_fair sgnC_fair sgnC_one (by decide) (fun _ _=>rfl)
 ·exact oneP_fair sgnC_fair sgnC_one (by decide) (fun _ _=>rfl)
 ·exact oneP_fair sgnC_fair sgnC_one (by decide) (fun _ _=>rfl)
 ·exact oneP_fair (listN_fair rkeyC_fair 2 65536) (listN_one rkeyC 2 65536) (by decide) (fun _ _=>rfl)
theorem chaiP_off:chaiP.Pairwise (fun p p'=>Off 4 p p'):=by
 unfold chaiP
 refine List.Pairwise.cons ?_ ?_
 ·intro q hq
  simp only [List.mem_cons,List.not_mem_nil,or_false] at hq
  rcases hq with rfl | rfl | rfl
  ·exact off_rng (oneP_rng sgnC 0 4 _ _) (oneP_rng sgnC 1 4 _ _) (by decide) (fun _ _=>rfl)
  ·exact off_rng (oneP_rng sgnC 0 4 _ _) (oneP_rng sgnC 2 4 _ _) (by decide) (fun _ _=>rfl)
  ·exact off_rng (oneP_rng sgnC 0 4 _ _) (oneP_rng (listN rkeyC 2 65536) 3 4 _ _) (by decide) (fun _ _=>rfl)
 refine List.Pairwise.cons ?_ ?_
 ·intro q hq
  simp only [List.mem_cons,List.not_mem_nil,or_false] at hq
  rcases hq with rfl | rfl
  ·exact off_rng (oneP_rng sgnC 1 4 _ _) (oneP_rng sgnC 2 4 _ _) (by decide) (fun _ _=>rfl)
  ·exact off_rng (oneP_rng sgnC 1 4 _ _) (oneP_rng (listN rkeyC 2 65536) 3 4 _ _) (by decide) (fun _ _=>rfl)
 refine List.Pairwise.cons ?_ ?_
 ·intro q hq
  simp only [List.mem_cons,List.not_mem_nil,or_false] at hq
  rcases hq with rfl
  ·exact off_rng (oneP_rng sgnC 2 4 _ _) (oneP_rng (listN rkeyC 2 65536) 3 4 _ _) (by decide) (fun _ _=>rfl)
 refine List.Pairwise.cons ?_ ?_
 ·intro q hq
  cases hq
 exact List.Pairwise.nil
theorem chaiC_fair:Fair chaiC:=recC_fair (fun p hp=>(chaiP_fair p hp).fair) _
theorem chaiC_many:Many chaiC 4:=recC_many _ _ _
theorem get_chai_leaf:GetterOk 446 4 (.func (.func 249) #[] #[]) 0:=by
 refine ⟨_,rfl,Proofs.enters_of Tryz.func249 (by kernel_rfl) rfl,?_⟩
 intro b cs w hb hs
 clear hb hs
 go_enter Tryz.func249,Tryz.ntmps249
 go_wp2
 go_ret
 exact ⟨rfl,rfl⟩
theorem get_chai_next:GetterOk 446 4 (.func (.func 250) #[] #[]) 1:=by
 refine ⟨_,rfl,Proofs.enters_of Tryz.func250 (by kernel_rfl) rfl,?_⟩
 intro b cs w hb hs
 clear hb hs
 go_enter Tryz.func250,Tryz.ntmps250
 go_wp2
 go_ret
 exact ⟨rfl,rfl⟩
theorem get_chai_secret:GetterOk 446 4 (.func (.func 251) #[] #[]) 2:=by
 refine ⟨_,rfl,Proofs.enters_of Tryz.func251 (by kernel_rfl) rfl,?_⟩
 intro b cs w hb hs
 clear hb hs
 go_enter Tryz.func251,Tryz.ntmps251
 go_wp2
 go_ret
 exact ⟨rfl,rfl⟩
theorem get_chai_kept:GetterOk 446 4 (.func (.func 253) #[] #[]) 3:=by
 refine ⟨_,rfl,Proofs.enters_of Tryz.func253 (by kernel_rfl) rfl,?_⟩
 intro b cs w hb hs
 clear hb hs
 go_enter Tryz.func253,Tryz.ntmps253
 go_wp2
 go_ret
 exact ⟨rfl,rfl⟩
structure RatsD where
 leaves:Int
 nodes:List Int
 chains:List ChaiD
def RatsZ:RatsD:=⟨0,[],[]⟩
def rats_leaves:Prt RatsD:=oneP sgnC 0 (·.leaves) (fun y x=>{ x with leaves:=y })
def rats_nodes:Prt RatsD:=oneP (listC sgnC 65536) 1 (·.nodes) (fun y x=>{ x with nodes:=y })
def rats_chains:Prt RatsD:=oneP (listN chaiC 4 65536) 2 (·.chains) (fun y x=>{ x with chains:=y })
def ratsP:List (Prt RatsD):=[rats_leaves,rats_nodes,rats_chains]
def ratsC:Cod RatsD:=recC 3 ratsP RatsZ
theorem ratsP_fair:∀ p∈ratsP,PFair 3 p:=by
 intro p hp
 simp only [ratsP,List.mem_cons,List.not_mem_nil,or_false] at hp
 rcases hp with rfl | rfl | rfl
 ·exact oneP_fair sgnC_fair sgnC_one (by decide) (fun _ _=>rfl)
 ·exact oneP_fair (listC_fair sgnC_fair 65536) (listC_one sgnC 65536) (by decide) (fun _ _=>rfl)
 ·exact oneP_fair (listN_fair chaiC_fair 4 65536) (listN_one chaiC 4 65536) (by decide) (fun _ _=>rfl)
theorem ratsP_off:ratsP.Pairwise (fun p p'=>Off 3 p p'):=by
 unfold ratsP
 refine List.Pairwise.cons ?_ ?_
 ·intro q hq
  simp only [List.mem_cons,List.not_mem_nil,or_false] at hq
  rcases hq with rfl | rfl
  ·exact off_rng (oneP_rng sgnC 0 3 _ _) (oneP_rng (listC sgnC 65536) 1 3 _ _) (by decide) (fun _ _=>rfl)
  ·exact off_rng (oneP_rng sgnC 0 3 _ _) (oneP_rng (listN chaiC 4 65536) 2 3 _ _) (by decide) (fun _ _=>rfl)
 refine List.Pairwise.cons ?_ ?_
 ·intro q hq
  simp only [List.mem_cons,List.not_mem_nil,or_false] at hq
  rcases hq with rfl
  ·exact off_rng (oneP_rng (listC sgnC 65536) 1 3 _ _) (oneP_rng (listN chaiC 4 65536) 2 3 _ _) (by decide) (fun _ _=>rfl)
 refine List.Pairwise.cons ?_ ?_
 ·intro q hq
  cases hq
 exact List.Pairwise.nil
theorem ratsC_fair:Fair ratsC:=recC_fair (fun p hp=>(ratsP_fair p hp).fair) _
theorem ratsC_many:Many ratsC 3:=recC_many _ _ _
theorem get_rats_leaves:GetterOk 69 3 (.func (.func 257) #[] #[]) 0:=by
 refine ⟨_,rfl,Proofs.enters_of Tryz.func257 (by kernel_rfl) rfl,?_⟩
 intro b cs w hb hs
 clear hb hs
 go_enter Tryz.func257,Tryz.ntmps257
 go_wp2
 go_ret
 exact ⟨rfl,rfl⟩
theorem get_rats_nodes:GetterOk 69 3 (.func (.func 259) #[] #[]) 1:=by
 refine ⟨_,rfl,Proofs.enters_of Tryz.func259 (by kernel_rfl) rfl,?_⟩
 intro b cs w hb hs
 clear hb hs
 go_enter Tryz.func259,Tryz.ntmps259
 go_wp2
 go_ret
 exact ⟨rfl,rfl⟩
theorem get_rats_chains:GetterOk 69 3 (.func (.func 261) #[] #[]) 2:=by
 refine ⟨_,rfl,Proofs.enters_of Tryz.func261 (by kernel_rfl) rfl,?_⟩
 intro b cs w hb hs
 clear hb hs
 go_enter Tryz.func261,Tryz.ntmps261
 go_wp2
 go_ret
 exact ⟨rfl,rfl⟩
structure CachD where
 prop:PropD
 ref:Int
def CachZ:CachD:=⟨PropZ,0⟩
def cach_prop:Prt CachD:=aggP propC 0 11 (·.prop) (fun y x=>{ x with prop:=y })
def cach_ref:Prt CachD:=oneP sgnC 11 (·.ref) (fun y x=>{ x with ref:=y })
def cachP:List (Prt CachD):=[cach_prop,cach_ref]
def cachC:Cod CachD:=recC 12 cachP CachZ
theorem cachP_fair:∀ p∈cachP,PFair 12 p:=by
 intro p hp
 simp only [cachP,List.mem_cons,List.not_mem_nil,or_false] at hp
 rcases hp with rfl | rfl
 ·exact aggP_fair propC_fair propC_many (by decide) (fun _ _=>rfl)
 ·exact oneP_fair sgnC_fair sgnC_one (by decide) (fun _ _=>rfl)
theorem cachP_off:cachP.Pairwise (fun p p'=>Off 12 p p'):=by
 unfold cachP
 refine List.Pairwise.cons ?_ ?_
 ·intro q hq
  simp only [List.mem_cons,List.not_mem_nil,or_false] at hq
  rcases hq with rfl
  ·exact off_rng (aggP_rng propC_many 0 12 _ _) (oneP_rng sgnC 11 12 _ _) (by decide) (fun _ _=>rfl)
 refine List.Pairwise.cons ?_ ?_
 ·intro q hq
  cases hq
 exact List.Pairwise.nil
theorem cachC_fair:Fair cachC:=recC_fair (fun p hp=>(cachP_fair p hp).fair) _
theorem cachC_many:Many cachC 12:=recC_many _ _ _
theorem get_cach_prop:GetterOk 231 12 (.func (.func 107) #[] #[]) 0:=by
 refine ⟨_,rfl,Proofs.enters_of Tryz.func107 (by kernel_rfl) rfl,?_⟩
 intro b cs w hb hs
 clear hb hs
 go_enter Tryz.func107,Tryz.ntmps107
 go_wp2
 go_ret
 exact ⟨rfl,rfl⟩
theorem get_cach_ref:GetterOk 231 12 (.func (.func 110) #[] #[]) 11:=by
 refine ⟨_,rfl,Proofs.enters_of Tryz.func110 (by kernel_rfl) rfl,?_⟩
 intro b cs w hb hs
 clear hb hs
 go_enter Tryz.func110,Tryz.ntmps110
 go_wp2
 go_ret
 exact ⟨rfl,rfl⟩
structure UpdtD where
 key:Int
 secret:Int
def UpdtZ:UpdtD:=⟨0,0⟩
def updt_key:Prt UpdtD:=oneP sgnC 0 (·.key) (fun y x=>{ x with key:=y })
def updt_secret:Prt UpdtD:=oneP sgnC 1 (·.secret) (fun y x=>{ x with secret:=y })
def updtP:List (Prt UpdtD):=[updt_key,updt_secret]
def updtC:Cod UpdtD:=recC 2 updtP UpdtZ
theorem updtP_fair:∀ p∈updtP,PFair 2 p:=by
 intro p hp
 simp only [updtP,List.mem_cons,List.not_mem_nil,or_false] at hp
 rcases hp with rfl | rfl
 ·exact oneP_fair sgnC_fair sgnC_one (by decide) (fun _ _=>rfl)
 ·exact oneP_fair sgnC_fair sgnC_one (by decide) (fun _ _=>rfl)
theorem updtP_off:updtP.Pairwise (fun p p'=>Off 2 p p'):=by
 unfold updtP
 refine List.Pairwise.cons ?_ ?_
 ·intro q hq
  simp only [List.mem_cons,List.not_mem_nil,or_false] at hq
  rcases hq with rfl
  ·exact off_rng (oneP_rng sgnC 0 2 _ _) (oneP_rng sgnC 1 2 _ _) (by decide) (fun _ _=>rfl)
 refine List.Pairwise.cons ?_ ?_
 ·intro q hq
  cases hq
 exact List.Pairwise.nil
theorem updtC_fair:Fair updtC:=recC_fair (fun p hp=>(updtP_fair p hp).fair) _
theorem updtC_many:Many updtC 2:=recC_many _ _ _
theorem get_updt_key:GetterOk 253 2 (.func (.func 113) #[] #[]) 0:=by
 refine ⟨_,rfl,Proofs.enters_of Tryz.func113 (by kernel_rfl) rfl,?_⟩
 intro b cs w hb hs
 clear hb hs
 go_enter Tryz.func113,Tryz.ntmps113
 go_wp2
 go_ret
 exact ⟨rfl,rfl⟩
theorem get_updt_secret:GetterOk 253 2 (.func (.func 114) #[] #[]) 1:=by
 refine ⟨_,rfl,Proofs.enters_of Tryz.func114 (by kernel_rfl) rfl,?_⟩
 intro b cs w hb hs
 clear hb hs
 go_enter Tryz.func114,Tryz.ntmps114
 go_wp2
 go_ret
 exact ⟨rfl,rfl⟩
end Go.Proofs.YtogkkfdkeefjnaaGreatDoor.Codec
namespace Go.Proofs.YtogkkfdkeefjnaaGreatDoorLex2
set_option linter.unusedVariables false
set_option maxRecDepth 100000
set_option linter.unusedSimpArgs false
/-- A tree of orders: at each point one operation is next, or either of two. -/
inductive Tr where
 | nil:Tr
 | one:Nat→Tr→Tr
 | two:Nat→Nat→Tr→Tr→Tr
def Tr.dep:Tr→Nat
 | .nil=>0
 | .one _ t=>t.dep+1
 | .two _ _ t _=>t.dep+1
def rem (n:Nat) (done:List Nat):List Nat:=(List.range n).filter fun j=>!done.contains j
def treeB (md:Region.Mode) (A:List (List Nat)) (ops:Array Oper) (cls:List Nat):List Nat→Tr→Bool
 | done,.nil=>(List.range ops.size).all fun j=>done.contains j
 | done,.one k t=>decide (k < ops.size) && headB md A ops cls done k (rem ops.size (k :: done)) && treeB md A ops cls (k :: done) t
 | done,.two k m t u=>decide (k < ops.size) && decide (m < ops.size) && headB md A ops cls done k [] && headB md A ops cls done m [] && ((rem ops.size (k :: m :: done)).all fun i=>(A.getD i []).contains k || (A.getD i []).contains m) && decide (t.dep=u.dep) && treeB md A ops cls (k :: done) t && treeB md A ops cls (m :: done) u
section
variable {P : Program} {md : Region.Mode} {S : World → Prop} {Q' : Act → World → Prop} {ops : Array Oper} {A : List (List Nat)} {cls : List Nat}
def wpT (P:Program) (ops:Array Oper) (S:World→Prop) (cls:List Nat) (Q':Act→World→Prop):Tr→Act→World→Prop
 | .nil,a,w=>Q' a w
 | .one k t,a,w=>∀ o,ops[k]?=some o→stepX P ops S (cls.getD k 2) o (wpT P ops S cls Q' t) a w
 | .two k m t u,a,w=>(∀ o,ops[k]?=some o→stepX P ops S (cls.getD k 2) o (wpT P ops S cls Q' t) a w)∧(∀ o,ops[m]?=some o→stepX P ops S (cls.getD m 2) o (wpT P ops S cls Q' u) a w)
theorem rem_mem {n:Nat} {done:List Nat} {j:Nat}:j∈rem n done ↔ j < n∧j ∉ done:=by
 simp [rem]
theorem anyX_of_tree (hA:AccOk md ops A) (hL:Late md (fun i=>cls.getD i 2) ops) (hns:∀ (j:Nat) (o:Oper) cs b,ops[j]?=some o→o.op≠.select cs b) :
  ∀ (t:Tr) (done:List Nat) (listed:Array Bool) (a:Act) (w:World),treeB md A ops cls done t=true→Done ops done listed→Shut md ops listed→Floats S (fun i=>cls.getD i 2) ops listed w→wpT P ops S cls Q' t a w→wpAnyX P md ops S (fun i=>cls.getD i 2) Q' t.dep listed a w
 | .nil,done,listed,a,w,hB,hd,hsh,hw,h=>by
  refine ⟨?_,h⟩
  cases hr:Region.ready md ops listed with
  | nil=>rfl
  | cons j r=>
   have hj:j∈Region.ready md ops listed:=by rw [hr]; exact List.mem_cons_self
   obtain ⟨hju,oj,hoj,_⟩:=mem_ready.1 hj
   have hjlt:=(Array.getElem?_eq_some_iff.1 hoj).1
   have h1:=getD_both' hju
   rw [hd.2 j hjlt] at h1
   have h2:=List.all_eq_true.1 hB j (List.mem_range.2 hjlt)
   simp at h1 h2
   exact absurd h2 h1
 | .one k t,done,listed,a,w,hB,hd,hsh,hw,h=>by
  simp only [treeB,Bool.and_eq_true,decide_eq_true_eq] at hB
  obtain ⟨⟨hk,hh⟩,ht⟩:=hB
  have ho:ops[k]?=some ops[k]:=Array.getElem?_eq_getElem hk
  have hc:Covers ops done (k :: rem ops.size (k :: done)):=by
   refine ⟨fun j hj=>?_,fun j hj=>?_⟩
   ·by_cases e:j=k
    ·subst e; exact .inr List.mem_cons_self
    ·by_cases hjd:j∈done
     ·exact .inl hjd
     ·exact .inr (List.mem_cons_of_mem _ (rem_mem.2 ⟨hj,by simp [e,hjd]⟩))
   ·rcases List.mem_cons.1 hj with rfl | hj
    ·exact hk
    ·exact (rem_mem.1 hj).1
  refine run_head hA hL hns ho hh hd hc hsh hw ?_
  refine stepX_mono (fun a' w' hb' h'=>?_) (h _ ho)
  exact anyX_of_tree hA hL hns t (k :: done) _ a' w' ht (hd.add hk) (shut_add ho hh hd hsh) (hw.behind hL hsh (ready_of_head ho hh hd) hb') h'
 | .two k m t u,done,listed,a,w,hB,hd,hsh,hw,h=>by
  simp only [treeB,Bool.and_eq_true,decide_eq_true_eq] at hB
  obtain ⟨⟨⟨⟨⟨⟨⟨hk,hm⟩,hhk⟩,hhm⟩,hall⟩,hdep⟩,ht⟩,hu⟩:=hB
  have hok:ops[k]?=some ops[k]:=Array.getElem?_eq_getElem hk
  have hom:ops[m]?=some ops[m]:=Array.getElem?_eq_getElem hm
  have hkr:=ready_of_head hok hhk hd
  have hmr:=ready_of_head hom hhm hd
  have hun:∀ k,k∈Region.ready md ops listed→listed.getD k false=false:=fun k hk=>getD_both' (mem_ready.1 hk).1
  refine ⟨fun h=>(by rw [h] at hkr; cases hkr),fun i hi o ho=>?_⟩
  by_cases hik:i=k
  ·subst hik
   refine stepX_mono (fun a' w' hb' h'=>?_) (h.1 o ho)
   exact anyX_of_tree hA hL hns t (i :: done) _ a' w' ht (hd.add hk) (shut_add hok hhk hd hsh) (hw.behind hL hsh hkr (by have:o=ops[i]:=Option.some.inj (ho.symm.trans hok); subst this; exact hb')) h'
  ·by_cases him:i=m
   ·subst him
    refine stepX_mono (fun a' w' hb' h'=>?_) (h.2 o ho)
    have:=anyX_of_tree hA hL hns u (i :: done) _ a' w' hu (hd.add hm) (shut_add hom hhm hd hsh) (hw.behind hL hsh hmr (by have:o=ops[i]:=Option.some.inj (ho.symm.trans hom); subst this; exact hb')) h'
    rw [← hdep] at this
    exact this
   ·exfalso
    have hi0:=hun i hi
    have hilt:=(Array.getElem?_eq_some_iff.1 ho).1
    rw [hd.2 i hilt] at hi0
    have hid:i ∉ done:=by simpa using hi0
    have h6:=List.all_eq_true.1 hall i (rem_mem.2 ⟨hilt,by simp [hik,him,hid]⟩)
    simp only [Bool.or_eq_true] at h6
    rcases h6 with h | h
    ·have:=listed_not_ready hA hsh hi h
     rw [hun k hkr] at this
     cases this
    ·have:=listed_not_ready hA hsh hi h
     rw [hun m hmr] at this
     cases this
end
def ones:List Nat→Tr→Tr
 | [],t=>t
 | k :: r,t=>.one k (ones r t)
section
variable {P : Program} {S : World → Prop} {Q' : Act → World → Prop} {cls : List Nat} {l : List Oper}
theorem wpT_ones (hl:cls.length=l.length) {t:Tr}:∀ (idx:List Nat) (a:Act) (w:World),(idx.all fun j=>decide (j < l.length))=true→wpX P l.toArray S (wpT P l.toArray S cls Q' t) (pick (cls.zip l) idx) a w→wpT P l.toArray S cls Q' (ones idx t) a w
 | [],a,w,hi,h=>h
 | k :: r,a,w,hi,h=>by
  simp only [List.all_cons,Bool.and_eq_true,decide_eq_true_eq] at hi
  intro o ho
  rw [pick_cons hl (by simpa using ho)] at h
  simp only [wpX] at h
  exact stepX_mono (fun a' w' _ h'=>wpT_ones hl r a' w' hi.2 h') h
theorem wpT_two (hl:cls.length=l.length) {k m:Nat} {i j:List Nat} {t u:Tr} {a:Act} {w:World} (hi:((k :: i).all fun j=>decide (j < l.length))=true) (hj:((m :: j).all fun j=>decide (j < l.length))=true)
  (h1:wpX P l.toArray S (wpT P l.toArray S cls Q' t) (pick (cls.zip l) (k :: i)) a w) (h2:wpX P l.toArray S (wpT P l.toArray S cls Q' u) (pick (cls.zip l) (m :: j)) a w):wpT P l.toArray S cls Q' (.two k m (ones i t) (ones j u)) a w :=
 ⟨(wpT_ones hl (k :: i) a w hi h1:wpT P l.toArray S cls Q' (.one k (ones i t)) a w),(wpT_ones hl (m :: j) a w hj h2:wpT P l.toArray S cls Q' (.one m (ones j u)) a w)⟩
end
section
variable {P : Program}
/-- A REGION THAT DRAWS ITS ORDER, along a tree of orders. -/
theorem wp_region_tree {id:Nat} {l:List Oper} {Q:Exit→Act→World→Prop} {a:Act} {w:World} (S:World→Prop) (cls:List Nat) (t:Tr) (hm:P.follows .mixedOrders=true) (hlen:cls.length=l.length)
  (hB:(lateB (ancs .any l []) cls && treeB .any (ancs .any l []) l.toArray cls [] t && (l.toArray.all fun o=>noSelect o.op) && decide (t.dep=l.toArray.size))=true) (hS:S w.drew)
  (h:∀ Q':Act→World→Prop,(∀ a w,Q .normal a w→Q' a w)→wpT P l.toArray S cls Q' t a w.drew):(Code.region id l.toArray true).wp P Q a w:=by
 simp only [Bool.and_eq_true,decide_eq_true_eq] at hB
 obtain ⟨⟨⟨h1,h2⟩,h8⟩,h10⟩:=hB
 refine wp_region_any hm ?_
 have hA:AccOk .any l.toArray (ancs .any l []):=ancs_ok l [] (by simp) (fun j l h=>by cases h)
 have hL:Late .any (fun i=>cls.getD i 2) l.toArray:=lateB_spec hA (by simpa using hlen) h1
 have hns:∀ (j:Nat) (o:Oper) cs b,l.toArray[j]?=some o→o.op≠.select cs b:=fun j o cs b hj hs=>by
  have:=Array.all_eq_true'.1 h8 o (Array.mem_of_getElem? hj)
  rw [hs] at this
  cases this
 have hsh:Shut .any l.toArray (Array.replicate l.toArray.size false):=fun j oj hj hl=>by
  have h0:(Array.replicate l.toArray.size false).getD j false=false:=by
   rw [Array.getD_eq_getD_getElem?,Array.getElem?_replicate]
   split <;> rfl
  rw [h0] at hl
  cases hl
 refine wpAny_of_X (S:=S) (Q':=fun a w=>Q .normal a w) (cls:=fun i=>cls.getD i 2) (fun _ _ h=>h) hL _ _ a _ hsh (fun _=>hS) ?_
 have:=anyX_of_tree (P:=P) (S:=S) (Q':=fun a w=>Q .normal a w) (md:=.any) hA hL hns t [] (Array.replicate l.toArray.size false) a w.drew h2 ⟨by simp,fun j hj=>by simp at hj; simp [hj]⟩ hsh (fun _=>hS) (h _ (fun _ _ h=>h))
 rw [h10] at this
 exact this
end
end Go.Proofs.YtogkkfdkeefjnaaGreatDoorLex2
