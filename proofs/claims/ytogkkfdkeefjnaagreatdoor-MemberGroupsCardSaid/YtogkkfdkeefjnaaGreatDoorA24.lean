/-
  The member's records: what is kept of an epoch. The member's records: a group's state without a pending one, plainly, and its parts. What is written is read as itself: of the member's records, plainly. States with a pending one, and snapshots, plainly. Rows of records, their cells one behind the other; no program's text. The codec of states, made.
-/
import Derived.Test.YtogkkfdkeefjnaaGreatDoorA23
import Derived.Test.YtogkkfdkeefjnaaGreatDoorA08
namespace Go.Proofs.YtogkkfdkeefjnaaGreatDoor.Codec
open Go.RowKit Go.Proofs.YtogkkfdkeefjnaaGreatDoorBase Go.Proofs.YtogkkfdkeefjnaaGreatDoorLex2 Go.Proofs.YtogkkfdkeefjnaaGreatDoorNum
set_option linter.unusedVariables false
set_option maxRecDepth 100000
set_option linter.unusedSimpArgs false
structure PastD where
 epoch:Int
 me:Int
 tree:List VertD
 context:Int
 data:Int
 rat:RatsD
def PastZ:PastD:=⟨0,0,[],0,0,RatsZ⟩
def past_epoch:Prt PastD:=oneP sgnC 0 (·.epoch) (fun y x=>{ x with epoch:=y })
def past_me:Prt PastD:=oneP sgnC 1 (·.me) (fun y x=>{ x with me:=y })
def past_tree:Prt PastD:=oneP (listN vertC 6 65536) 2 (·.tree) (fun y x=>{ x with tree:=y })
def past_context:Prt PastD:=oneP sgnC 3 (·.context) (fun y x=>{ x with context:=y })
def past_data:Prt PastD:=oneP sgnC 4 (·.data) (fun y x=>{ x with data:=y })
def past_rat:Prt PastD:=aggP ratsC 5 3 (·.rat) (fun y x=>{ x with rat:=y })
def pastP:List (Prt PastD):=[past_epoch,past_me,past_tree,past_context,past_data,past_rat]
def pastC:Cod PastD:=recC 8 pastP PastZ
theorem pastP_fair:∀ p∈pastP,PFair 8 p:=by
 intro p hp
 simp only [pastP,List.mem_cons,List.not_mem_nil,or_false] at hp
 rcases hp with rfl | rfl | rfl | rfl | rfl | rfl
 ·exact oneP_fair sgnC_fair sgnC_one (by decide) (fun _ _=>rfl)
 ·exact oneP_fair sgnC_fair sgnC_one (by decide) (fun _ _=>rfl)
 ·exact oneP_fair (listN_fair vertC_fair 6 65536) (listN_one vertC 6 65536) (by decide) (fun _ _=>rfl)
 ·exact oneP_fair sgnC_fair sgnC_one (by decide) (fun _ _=>rfl)
 ·exact oneP_fair sgnC_fair sgnC_one (by decide) (fun _ _=>rfl)
 ·exact aggP_fair ratsC_fair ratsC_many (by decide) (fun _ _=>rfl)
theorem pastP_off:pastP.Pairwise (fun p p'=>Off 8 p p'):=by
 unfold pastP
 refine List.Pairwise.cons ?_ ?_
 ·intro q hq
  simp only [List.mem_cons,List.not_mem_nil,or_false] at hq
  rcases hq with rfl | rfl | rfl | rfl | rfl
  ·exact off_rng (oneP_rng sgnC 0 8 _ _) (oneP_rng sgnC 1 8 _ _) (by decide) (fun _ _=>rfl)
  ·exact off_rng (oneP_rng sgnC 0 8 _ _) (oneP_rng (listN vertC 6 65536) 2 8 _ _) (by decide) (fun _ _=>rfl)
  ·exact off_rng (oneP_rng sgnC 0 8 _ _) (oneP_rng sgnC 3 8 _ _) (by decide) (fun _ _=>rfl)
  ·exact off_rng (oneP_rng sgnC 0 8 _ _) (oneP_rng sgnC 4 8 _ _) (by decide) (fun _ _=>rfl)
  ·exact off_rng (oneP_rng sgnC 0 8 _ _) (aggP_rng ratsC_many 5 8 _ _) (by decide) (fun _ _=>rfl)
 refine List.Pairwise.cons ?_ ?_
 ·intro q hq
  simp only [List.mem_cons,List.not_mem_nil,or_false] at hq
  rcases hq with rfl | rfl | rfl | rfl
  ·exact off_rng (oneP_rng sgnC 1 8 _ _) (oneP_rng (listN vertC 6 65536) 2 8 _ _) (by decide) (fun _ _=>rfl)
  ·exact off_rng (oneP_rng sgnC 1 8 _ _) (oneP_rng sgnC 3 8 _ _) (by decide) (fun _ _=>rfl)
  ·exact off_rng (oneP_rng sgnC 1 8 _ _) (oneP_rng sgnC 4 8 _ _) (by decide) (fun _ _=>rfl)
  ·exact off_rng (oneP_rng sgnC 1 8 _ _) (aggP_rng ratsC_many 5 8 _ _) (by decide) (fun _ _=>rfl)
 refine List.Pairwise.cons ?_ ?_
 ·intro q hq
  simp only [List.mem_cons,List.not_mem_nil,or_false] at hq
  rcases hq with rfl | rfl | rfl
  ·exact off_rng (oneP_rng (listN vertC 6 65536) 2 8 _ _) (oneP_rng sgnC 3 8 _ _) (by decide) (fun _ _=>rfl)
  ·exact off_rng (oneP_rng (listN vertC 6 65536) 2 8 _ _) (oneP_rng sgnC 4 8 _ _) (by decide) (fun _ _=>rfl)
  ·exact off_rng (oneP_rng (listN vertC 6 65536) 2 8 _ _) (aggP_rng ratsC_many 5 8 _ _) (by decide) (fun _ _=>rfl)
 refine List.Pairwise.cons ?_ ?_
 ·intro q hq
  simp only [List.mem_cons,List.not_mem_nil,or_false] at hq
  rcases hq with rfl | rfl
  ·exact off_rng (oneP_rng sgnC 3 8 _ _) (oneP_rng sgnC 4 8 _ _) (by decide) (fun _ _=>rfl)
  ·exact off_rng (oneP_rng sgnC 3 8 _ _) (aggP_rng ratsC_many 5 8 _ _) (by decide) (fun _ _=>rfl)
 refine List.Pairwise.cons ?_ ?_
 ·intro q hq
  simp only [List.mem_cons,List.not_mem_nil,or_false] at hq
  rcases hq with rfl
  ·exact off_rng (oneP_rng sgnC 4 8 _ _) (aggP_rng ratsC_many 5 8 _ _) (by decide) (fun _ _=>rfl)
 refine List.Pairwise.cons ?_ ?_
 ·intro q hq
  cases hq
 exact List.Pairwise.nil
theorem pastC_fair:Fair pastC:=recC_fair (fun p hp=>(pastP_fair p hp).fair) _
theorem pastC_many:Many pastC 8:=recC_many _ _ _
theorem get_past_epoch:GetterOk 342 8 (.func (.func 278) #[] #[]) 0:=by
 refine ⟨_,rfl,Proofs.enters_of Tryz.func278 (by kernel_rfl) rfl,?_⟩
 intro b cs w hb hs
 clear hb hs
 go_enter Tryz.func278,Tryz.ntmps278
 go_wp2
 go_ret
 exact ⟨rfl,rfl⟩
theorem get_past_me:GetterOk 342 8 (.func (.func 279) #[] #[]) 1:=by
 refine ⟨_,rfl,Proofs.enters_of Tryz.func279 (by kernel_rfl) rfl,?_⟩
 intro b cs w hb hs
 clear hb hs
 go_enter Tryz.func279,Tryz.ntmps279
 go_wp2
 go_ret
 exact ⟨rfl,rfl⟩
theorem get_past_tree:GetterOk 342 8 (.func (.func 281) #[] #[]) 2:=by
 refine ⟨_,rfl,Proofs.enters_of Tryz.func281 (by kernel_rfl) rfl,?_⟩
 intro b cs w hb hs
 clear hb hs
 go_enter Tryz.func281,Tryz.ntmps281
 go_wp2
 go_ret
 exact ⟨rfl,rfl⟩
theorem get_past_context:GetterOk 342 8 (.func (.func 282) #[] #[]) 3:=by
 refine ⟨_,rfl,Proofs.enters_of Tryz.func282 (by kernel_rfl) rfl,?_⟩
 intro b cs w hb hs
 clear hb hs
 go_enter Tryz.func282,Tryz.ntmps282
 go_wp2
 go_ret
 exact ⟨rfl,rfl⟩
theorem get_past_data:GetterOk 342 8 (.func (.func 283) #[] #[]) 4:=by
 refine ⟨_,rfl,Proofs.enters_of Tryz.func283 (by kernel_rfl) rfl,?_⟩
 intro b cs w hb hs
 clear hb hs
 go_enter Tryz.func283,Tryz.ntmps283
 go_wp2
 go_ret
 exact ⟨rfl,rfl⟩
theorem get_past_rat:GetterOk 342 8 (.func (.func 285) #[] #[]) 5:=by
 refine ⟨_,rfl,Proofs.enters_of Tryz.func285 (by kernel_rfl) rfl,?_⟩
 intro b cs w hb hs
 clear hb hs
 go_enter Tryz.func285,Tryz.ntmps285
 go_wp2
 go_ret
 exact ⟨rfl,rfl⟩
set_option maxHeartbeats 6400000 in
theorem pasts_new (w:World):Calls Tryz.prog 148 #[] w fun r w'=>∃ a b,r=.returned (.agg #[a,b])∧a.oneCell'=true∧b.oneCell'=true∧Kept w w' (fun _=>False)∧∀ W',From w.heap.size w' W'→IsCodec W' (.agg #[a,b]) pastC:=by
 go_enter Tryz.func148,Tryz.ntmps148
 go_wp2_with (fail)
 refine (numberN_groupPast 278 (Proofs.enters_of Tryz.func278 (by kernel_rfl) rfl) _).mono ?_
 rintro e w1 ⟨a1,b1,rfl,-,-,hk,hc⟩
 have C1:=lh hc
 have K1:=lh hk
 clear hk hc
 go_wp2_with (fail)
 refine (numberN_groupPast 279 (Proofs.enters_of Tryz.func279 (by kernel_rfl) rfl) _).mono ?_
 rintro e w2 ⟨a2,b2,rfl,-,-,hk,hc⟩
 have C2:=lh hc
 have K2:=lh hk
 clear hk hc
 go_wp2_with (fail)
 refine (verts_new _).mono ?_
 rintro e w3 ⟨a3,b3,rfl,-,-,hk,hc⟩
 have C3:=lh hc
 have K3:=lh hk
 clear hk hc
 go_wp2_with (fail)
 refine (listN_apiVertex a3 b3 _).mono ?_
 rintro e w4 ⟨a4,b4,rfl,-,-,hk,hc⟩
 have C4:=lh hc
 have K4:=lh hk
 clear hk hc
 go_wp2_with (fail)
 refine (fieldN_lapiVertex_groupPast 281 (Proofs.enters_of Tryz.func281 (by kernel_rfl) rfl) a4 b4 _).mono ?_
 rintro e w5 ⟨a5,b5,rfl,-,-,hk,hc⟩
 have C5:=lh hc
 have K5:=lh hk
 clear hk hc
 go_wp2_with (fail)
 refine (numberN_groupPast 282 (Proofs.enters_of Tryz.func282 (by kernel_rfl) rfl) _).mono ?_
 rintro e w6 ⟨a6,b6,rfl,-,-,hk,hc⟩
 have C6:=lh hc
 have K6:=lh hk
 clear hk hc
 go_wp2_with (fail)
 refine (numberN_groupPast 283 (Proofs.enters_of Tryz.func283 (by kernel_rfl) rfl) _).mono ?_
 rintro e w7 ⟨a7,b7,rfl,-,-,hk,hc⟩
 have C7:=lh hc
 have K7:=lh hk
 clear hk hc
 go_wp2_with (fail)
 refine (ratss_new _).mono ?_
 rintro e w8 ⟨a8,b8,rfl,-,-,hk,hc⟩
 have C8:=lh hc
 have K8:=lh hk
 clear hk hc
 go_wp2_with (fail)
 refine (fieldN_ratchetState_groupPast 285 (Proofs.enters_of Tryz.func285 (by kernel_rfl) rfl) a8 b8 _).mono ?_
 rintro e w9 ⟨a9,b9,rfl,-,-,hk,hc⟩
 have C9:=lh hc
 have K9:=lh hk
 clear hk hc
 go_wp2_with (fail)
 refine (recordN_groupPast w9.heap.size 6 6 (by decide) (by decide) _).mono ?_
 rintro e w0 ⟨a,b,rfl,ha,hb,hk,hc⟩
 have hb0:=heap_alloc_new w9 (.cells #[a1,b1,a2,b2,a5,b5,a6,b6,a7,b7,a9,b9] 486)
 have L9:Kept w9 w0 (fun _=>False):=((Kept.refl w9 (fun _=>False)).alloc _).trans hk (fun _ h=>h.elim)
 have L8:=K9.out.trans L9 (fun _ h=>h.elim)
 have L7:=K8.out.trans L8 (fun _ h=>h.elim)
 have L6:=K7.out.trans L7 (fun _ h=>h.elim)
 have L5:=K6.out.trans L6 (fun _ h=>h.elim)
 have L4:=K5.out.trans L5 (fun _ h=>h.elim)
 have L3:=K4.out.trans L4 (fun _ h=>h.elim)
 have L2:=K3.out.trans L3 (fun _ h=>h.elim)
 have L1:=K2.out.trans L2 (fun _ h=>h.elim)
 have L0:=K1.out.trans L1 (fun _ h=>h.elim)
 have hz:=L0.blk (heap_alloc_new w (.cells #[.nilFunc,.nilFunc] 346)) (fun h=>h)
 have hb1:=hk.blk hb0 (fun h=>h)
 have kw:Kept w w0 (fun _=>False):=((Kept.refl w (fun _=>False)).alloc (.cells #[.nilFunc,.nilFunc] 346)).trans L0 (fun _ h=>h.elim)
 have s0:w.heap.size < (w.alloc (.cells #[.nilFunc,.nilFunc] 346)).heap.size:=by simp
 have s1:w.heap.size < w1.heap.size:=Nat.lt_of_lt_of_le s0 K1.out.size
 have s2:w.heap.size < w2.heap.size:=Nat.lt_of_lt_of_le s1 K2.out.size
 have s3:w.heap.size < w3.heap.size:=Nat.lt_of_lt_of_le s2 K3.out.size
 have s4:w.heap.size < w4.heap.size:=Nat.lt_of_lt_of_le s3 K4.out.size
 have s5:w.heap.size < w5.heap.size:=Nat.lt_of_lt_of_le s4 K5.out.size
 have s6:w.heap.size < w6.heap.size:=Nat.lt_of_lt_of_le s5 K6.out.size
 have s7:w.heap.size < w7.heap.size:=Nat.lt_of_lt_of_le s6 K7.out.size
 have s8:w.heap.size < w8.heap.size:=Nat.lt_of_lt_of_le s7 K8.out.size
 have s9:w.heap.size < w9.heap.size:=Nat.lt_of_lt_of_le s8 K9.out.size
 have sb:w.heap.size < (w9.alloc (.cells #[a1,b1,a2,b2,a5,b5,a6,b6,a7,b7,a9,b9] 486)).heap.size:=by simp; omega
 have HZ:=lh hz
 have HB1:=lh hb1
 have HA:=lh ha
 have HBB:=lh hb
 have HC:=lh hc
 have KW:=lh kw
 have M1:=lh L1
 have M2:=lh L2
 have M3:=lh L3
 have M4:=lh L4
 have M5:=lh L5
 have M6:=lh L6
 have M7:=lh L7
 have M8:=lh L8
 have M9:=lh L9
 have S0:=lh s0
 have S1:=lh s1
 have S2:=lh s2
 have S3:=lh s3
 have S4:=lh s4
 have S5:=lh s5
 have S6:=lh s6
 have S7:=lh s7
 have S8:=lh s8
 have S9:=lh s9
 have SB:=lh sb
 clear hb0 hz hb1 hk hc ha hb kw sb L0 L1 L2 L3 L4 L5 L6 L7 L8 L9 s0 s1 s2 s3 s4 s5 s6 s7 s8 s9
 go_wp2_with (first | refine wpList_store_row rfl 346 (.tmp 0) (.tmp 11) rfl w.heap.size #[a,b] rfl rfl _ _ HZ.out (by kernel_rfl) rfl (by simp [HA.out,HBB.out]) ?_)
 have hsr:=setRow_heap w0 w.heap.size _ #[a,b] 346 (0,0) HZ.out
 have kr:Kept w0 (w0.setRow w.heap.size #[a,b]) (fun j=>j=w.heap.size):=⟨rfl,rfl,rfl,by simp,fun j _ hj=>setRow_other w0 w.heap.size j _ hj⟩
 refine bodyPost_ret (results_cell_row rfl _ _ _ _ _ _ _ rfl hsr Tryz.underlying346 rfl (by kernel_rfl)) rfl ?_
 refine ⟨a,b,rfl,HA.out,HBB.out,KW.out.trans kr (fun j h=>.inr (by omega)),fun W' hW=>?_⟩
 have hpa:W'.heap[w9.heap.size]?=_:=hW.blk (Nat.le_of_lt S9.out) (kr.blk HB1.out (by have:=S9.out; omega))
 have f1:=hW.call M1.out kr S0.out
 have f2:=hW.call M2.out kr S1.out
 have f3:=hW.call M3.out kr S2.out
 have f4:=hW.call M4.out kr S3.out
 have f5:=hW.call M5.out kr S4.out
 have f6:=hW.call M6.out kr S5.out
 have f7:=hW.call M7.out kr S6.out
 have f8:=hW.call M8.out kr S7.out
 have f9:=hW.call M9.out kr S8.out
 have P1:=C1.out W' f1 0 8 (by decide) (fun x:PastD=>x.epoch) (fun y x=>{ x with epoch:=y }) get_past_epoch
 have P2:=C2.out W' f2 1 8 (by decide) (fun x:PastD=>x.me) (fun y x=>{ x with me:=y }) get_past_me
 have P5:=C5.out W' f5 (listN vertC 6 65536) (listN_fair vertC_fair 6 65536) (listN_one vertC 6 65536) 2 8 (by decide) (fun x:PastD=>x.tree) (fun y x=>{ x with tree:=y }) (C4.out W' f4 vertC vertC_fair vertC_many (C3.out W' f3)) get_past_tree
 have P6:=C6.out W' f6 3 8 (by decide) (fun x:PastD=>x.context) (fun y x=>{ x with context:=y }) get_past_context
 have P7:=C7.out W' f7 4 8 (by decide) (fun x:PastD=>x.data) (fun y x=>{ x with data:=y }) get_past_data
 have P9:=C9.out W' f9 (ratsC) ratsC_fair ratsC_many 5 8 (by decide) (fun x:PastD=>x.rat) (fun y x=>{ x with rat:=y }) (C8.out W' f8) get_past_rat
 refine HC.out W' (hW.call (Kept.refl w0 _) kr SB.out) pastP rfl pastP_fair pastP_off PastZ (by decide) ⟨blk_lt hpa,fun k p hp=>?_⟩
 match k,hp with
 | 0,hp=>obtain rfl:=Option.some.inj hp; exact ⟨a1,b1,cellOf hpa,cellOf hpa,P1.1,P1.2⟩
 | 1,hp=>obtain rfl:=Option.some.inj hp; exact ⟨a2,b2,cellOf hpa,cellOf hpa,P2.1,P2.2⟩
 | 2,hp=>obtain rfl:=Option.some.inj hp; exact ⟨a5,b5,cellOf hpa,cellOf hpa,P5.1,P5.2⟩
 | 3,hp=>obtain rfl:=Option.some.inj hp; exact ⟨a6,b6,cellOf hpa,cellOf hpa,P6.1,P6.2⟩
 | 4,hp=>obtain rfl:=Option.some.inj hp; exact ⟨a7,b7,cellOf hpa,cellOf hpa,P7.1,P7.2⟩
 | 5,hp=>obtain rfl:=Option.some.inj hp; exact ⟨a9,b9,cellOf hpa,cellOf hpa,P9.1,P9.2⟩
 | k+6,hp=>simp [pastP] at hp
end Go.Proofs.YtogkkfdkeefjnaaGreatDoor.Codec
namespace Go.Proofs.YtogkkfdkeefjnaaGreatDoor.Codec
open Go.RowKit Go.Proofs.YtogkkfdkeefjnaaGreatDoorBase Go.Proofs.YtogkkfdkeefjnaaGreatDoorLex2 Go.Proofs.YtogkkfdkeefjnaaGreatDoorNum
set_option linter.unusedVariables false
set_option maxRecDepth 100000
set_option linter.unusedSimpArgs false
structure StatD where
 id:Int
 epoch:Int
 me:Int
 tree:List VertD
 secrets:List SecrD
 e:EpocD
 confirmed:Int
 interim:Int
 context:Int
 rat:RatsD
 cached:List CachD
 updates:List UpdtD
 closed:Bool
 past:List PastD
def StatZ:StatD:=⟨0,0,0,[],[],EpocZ,0,0,0,RatsZ,[],[],false,[]⟩
def stat_id:Prt StatD:=oneP sgnC 0 (·.id) (fun y x=>{ x with id:=y })
def stat_epoch:Prt StatD:=oneP sgnC 1 (·.epoch) (fun y x=>{ x with epoch:=y })
def stat_me:Prt StatD:=oneP sgnC 2 (·.me) (fun y x=>{ x with me:=y })
def stat_tree:Prt StatD:=oneP (listN vertC 6 65536) 3 (·.tree) (fun y x=>{ x with tree:=y })
def stat_secrets:Prt StatD:=oneP (listN secrC 2 65536) 4 (·.secrets) (fun y x=>{ x with secrets:=y })
def stat_e:Prt StatD:=aggP epocC 5 13 (·.e) (fun y x=>{ x with e:=y })
def stat_confirmed:Prt StatD:=oneP sgnC 18 (·.confirmed) (fun y x=>{ x with confirmed:=y })
def stat_interim:Prt StatD:=oneP sgnC 19 (·.interim) (fun y x=>{ x with interim:=y })
def stat_context:Prt StatD:=oneP sgnC 20 (·.context) (fun y x=>{ x with context:=y })
def stat_rat:Prt StatD:=aggP ratsC 21 3 (·.rat) (fun y x=>{ x with rat:=y })
def stat_cached:Prt StatD:=oneP (listN cachC 12 65536) 24 (·.cached) (fun y x=>{ x with cached:=y })
def stat_updates:Prt StatD:=oneP (listN updtC 2 65536) 25 (·.updates) (fun y x=>{ x with updates:=y })
def stat_closed:Prt StatD:=oneP (flagC) 26 (·.closed) (fun y x=>{ x with closed:=y })
def stat_past:Prt StatD:=oneP (listN pastC 8 65536) 27 (·.past) (fun y x=>{ x with past:=y })
def statP:List (Prt StatD):=[stat_id,stat_epoch,stat_me,stat_tree,stat_secrets,stat_e,stat_confirmed,stat_interim,stat_context,stat_rat,stat_cached,stat_updates,stat_closed,stat_past]
def statC:Cod StatD:=recC 29 statP StatZ
theorem statP_fair:∀ p∈statP,PFair 29 p:=by
 intro p hp
 simp only [statP,List.mem_cons,List.not_mem_nil,or_false] at hp
 rcases hp with rfl | rfl | rfl | rfl | rfl | rfl | rfl | rfl | rfl | rfl | rfl | rfl | rfl | rfl
 ·exact oneP_fair sgnC_fair sgnC_one (by decide) (fun _ _=>rfl)
 ·exact oneP_fair sgnC_fair sgnC_one (by decide) (fun _ _=>rfl)
 ·exact oneP_fair sgnC_fair sgnC_one (by decide) (fun _ _=>rfl)
 ·exact oneP_fair (listN_fair vertC_fair 6 65536) (listN_one vertC 6 65536) (by decide) (fun _ _=>rfl)
 ·exact oneP_fair (listN_fair secrC_fair 2 65536) (listN_one secrC 2 65536) (by decide) (fun _ _=>rfl)
 ·exact aggP_fair epocC_fair epocC_many (by decide) (fun _ _=>rfl)
 ·exact oneP_fair sgnC_fair sgnC_one (by decide) (fun _ _=>rfl)
 ·exact oneP_fair sgnC_fair sgnC_one (by decide) (fun _ _=>rfl)
 ·exact oneP_fair sgnC_fair sgnC_one (by decide) (fun _ _=>rfl)
 ·exact aggP_fair ratsC_fair ratsC_many (by decide) (fun _ _=>rfl)
 ·exact oneP_fair (listN_fair cachC_fair 12 65536) (listN_one cachC 12 65536) (by decide) (fun _ _=>rfl)
 ·exact oneP_fair (listN_fair updtC_fair 2 65536) (listN_one updtC 2 65536) (by decide) (fun _ _=>rfl)
 ·exact oneP_fair flagC_fair flagC_one (by decide) (fun _ _=>rfl)
 ·exact oneP_fair (listN_fair pastC_fair 8 65536) (listN_one pastC 8 65536) (by decide) (fun _ _=>rfl)
theorem statP_off:statP.Pairwise (fun p p'=>Off 29 p p'):=by
 unfold statP
 refine List.Pairwise.cons ?_ ?_
 ·intro q hq
  simp only [List.mem_cons,List.not_mem_nil,or_false] at hq
  rcases hq with rfl | rfl | rfl | rfl | rfl | rfl | rfl | rfl | rfl | rfl | rfl | rfl | rfl
  ·exact off_rng (oneP_rng sgnC 0 29 _ _) (oneP_rng sgnC 1 29 _ _) (by decide) (fun _ _=>rfl)
  ·exact off_rng (oneP_rng sgnC 0 29 _ _) (oneP_rng sgnC 2 29 _ _) (by decide) (fun _ _=>rfl)
  ·exact off_rng (oneP_rng sgnC 0 29 _ _) (oneP_rng (listN vertC 6 65536) 3 29 _ _) (by decide) (fun _ _=>rfl)
  ·exact off_rng (oneP_rng sgnC 0 29 _ _) (oneP_rng (listN secrC 2 65536) 4 29 _ _) (by decide) (fun _ _=>rfl)
  ·exact off_rng (oneP_rng sgnC 0 29 _ _) (aggP_rng epocC_many 5 29 _ _) (by decide) (fun _ _=>rfl)
  ·exact off_rng (oneP_rng sgnC 0 29 _ _) (oneP_rng sgnC 18 29 _ _) (by decide) (fun _ _=>rfl)
  ·exact off_rng (oneP_rng sgnC 0 29 _ _) (oneP_rng sgnC 19 29 _ _) (by decide) (fun _ _=>rfl)
  ·exact off_rng (oneP_rng sgnC 0 29 _ _) (oneP_rng sgnC 20 29 _ _) (by decide) (fun _ _=>rfl)
  ·exact off_rng (oneP_rng sgnC 0 29 _ _) (aggP_rng ratsC_many 21 29 _ _) (by decide) (fun _ _=>rfl)
  ·exact off_rng (oneP_rng sgnC 0 29 _ _) (oneP_rng (listN cachC 12 65536) 24 29 _ _) (by decide) (fun _ _=>rfl)
  ·exact off_rng (oneP_rng sgnC 0 29 _ _) (oneP_rng (listN updtC 2 65536) 25 29 _ _) (by decide) (fun _ _=>rfl)
  ·exact off_rng (oneP_rng sgnC 0 29 _ _) (oneP_rng (flagC) 26 29 _ _) (by decide) (fun _ _=>rfl)
  ·exact off_rng (oneP_rng sgnC 0 29 _ _) (oneP_rng (listN pastC 8 65536) 27 29 _ _) (by decide) (fun _ _=>rfl)
 refine List.Pairwise.cons ?_ ?_
 ·intro q hq
  simp only [List.mem_cons,List.not_mem_nil,or_false] at hq
  rcases hq with rfl | rfl | rfl | rfl | rfl | rfl | rfl | rfl | rfl | rfl | rfl | rfl
  ·exact off_rng (oneP_rng sgnC 1 29 _ _) (oneP_rng sgnC 2 29 _ _) (by decide) (fun _ _=>rfl)
  ·exact off_rng (oneP_rng sgnC 1 29 _ _) (oneP_rng (listN vertC 6 65536) 3 29 _ _) (by decide) (fun _ _=>rfl)
  ·exact off_rng (oneP_rng sgnC 1 29 _ _) (oneP_rng (listN secrC 2 65536) 4 29 _ _) (by decide) (fun _ _=>rfl)
  ·exact off_rng (oneP_rng sgnC 1 29 _ _) (aggP_rng epocC_many 5 29 _ _) (by decide) (fun _ _=>rfl)
  ·exact off_rng (oneP_rng sgnC 1 29 _ _) (oneP_rng sgnC 18 29 _ _) (by decide) (fun _ _=>rfl)
  ·exact off_rng (oneP_rng sgnC 1 29 _ _) (oneP_rng sgnC 19 29 _ _) (by decide) (fun _ _=>rfl)
  ·exact off_rng (oneP_rng sgnC 1 29 _ _) (oneP_rng sgnC 20 29 _ _) (by decide) (fun _ _=>rfl)
  ·exact off_rng (oneP_rng sgnC 1 29 _ _) (aggP_rng ratsC_many 21 29 _ _) (by decide) (fun _ _=>rfl)
  ·exact off_rng (oneP_rng sgnC 1 29 _ _) (oneP_rng (listN cachC 12 65536) 24 29 _ _) (by decide) (fun _ _=>rfl)
  ·exact off_rng (oneP_rng sgnC 1 29 _ _) (oneP_rng (listN updtC 2 65536) 25 29 _ _) (by decide) (fun _ _=>rfl)
  ·exact off_rng (oneP_rng sgnC 1 29 _ _) (oneP_rng (flagC) 26 29 _ _) (by decide) (fun _ _=>rfl)
  ·exact off_rng (oneP_rng sgnC 1 29 _ _) (oneP_rng (listN pastC 8 65536) 27 29 _ _) (by decide) (fun _ _=>rfl)
 refine List.Pairwise.cons ?_ ?_
 ·intro q hq
  simp only [List.mem_cons,List.not_mem_nil,or_false] at hq
  rcases hq with rfl | rfl | rfl | rfl | rfl | rfl | rfl | rfl | rfl | rfl | rfl
  ·exact off_rng (oneP_rng sgnC 2 29 _ _) (oneP_rng (listN vertC 6 65536) 3 29 _ _) (by decide) (fun _ _=>rfl)
  ·exact off_rng (oneP_rng sgnC 2 29 _ _) (oneP_rng (listN secrC 2 65536) 4 29 _ _) (by decide) (fun _ _=>rfl)
  ·exact off_rng (oneP_rng sgnC 2 29 _ _) (aggP_rng epocC_many 5 29 _ _) (by decide) (fun _ _=>rfl)
  ·exact off_rng (oneP_rng sgnC 2 29 _ _) (oneP_rng sgnC 18 29 _ _) (by decide) (fun _ _=>rfl)
  ·exact off_rng (oneP_rng sgnC 2 29 _ _) (oneP_rng sgnC 19 29 _ _) (by decide) (fun _ _=>rfl)
  ·exact off_rng (oneP_rng sgnC 2 29 _ _) (oneP_rng sgnC 20 29 _ _) (by decide) (fun _ _=>rfl)
  ·exact off_rng (oneP_rng sgnC 2 29 _ _) (aggP_rng ratsC_many 21 29 _ _) (by decide) (fun _ _=>rfl)
  ·exact off_rng (oneP_rng sgnC 2 29 _ _) (oneP_rng (listN cachC 12 65536) 24 29 _ _) (by decide) (fun _ _=>rfl)
  ·exact off_rng (oneP_rng sgnC 2 29 _ _) (oneP_rng (listN updtC 2 65536) 25 29 _ _) (by decide) (fun _ _=>rfl)
  ·exact off_rng (oneP_rng sgnC 2 29 _ _) (oneP_rng (flagC) 26 29 _ _) (by decide) (fun _ _=>rfl)
  ·exact off_rng (oneP_rng sgnC 2 29 _ _) (oneP_rng (listN pastC 8 65536) 27 29 _ _) (by decide) (fun _ _=>rfl)
 refine List.Pairwise.cons ?_ ?_
 ·intro q hq
  simp only [List.mem_cons,List.not_mem_nil,or_false] at hq
  rcases hq with rfl | rfl | rfl | rfl | rfl | rfl | rfl | rfl | rfl | rfl
  ·exact off_rng (oneP_rng (listN vertC 6 65536) 3 29 _ _) (oneP_rng (listN secrC 2 65536) 4 29 _ _) (by decide) (fun _ _=>rfl)
  ·exact off_rng (oneP_rng (listN vertC 6 65536) 3 29 _ _) (aggP_rng epocC_many 5 29 _ _) (by decide) (fun _ _=>rfl)
  ·exact off_rng (oneP_rng (listN vertC 6 65536) 3 29 _ _) (oneP_rng sgnC 18 29 _ _) (by decide) (fun _ _=>rfl)
  ·exact off_rng (oneP_rng (listN vertC 6 65536) 3 29 _ _) (oneP_rng sgnC 19 29 _ _) (by decide) (fun _ _=>rfl)
  ·exact off_rng (oneP_rng (listN vertC 6 65536) 3 29 _ _) (oneP_rng sgnC 20 29 _ _) (by decide) (fun _ _=>rfl)
  ·exact off_rng (oneP_rng (listN vertC 6 65536) 3 29 _ _) (aggP_rng ratsC_many 21 29 _ _) (by decide) (fun _ _=>rfl)
  ·exact off_rng (oneP_rng (listN vertC 6 65536) 3 29 _ _) (oneP_rng (listN cachC 12 65536) 24 29 _ _) (by decide) (fun _ _=>rfl)
  ·exact off_rng (oneP_rng (listN vertC 6 65536) 3 29 _ _) (oneP_rng (listN updtC 2 65536) 25 29 _ _) (by decide) (fun _ _=>rfl)
  ·exact off_rng (oneP_rng (listN vertC 6 65536) 3 29 _ _) (oneP_rng (flagC) 26 29 _ _) (by decide) (fun _ _=>rfl)
  ·exact off_rng (oneP_rng (listN vertC 6 65536) 3 29 _ _) (oneP_rng (listN pastC 8 65536) 27 29 _ _) (by decide) (fun _ _=>rfl)
 refine List.Pairwise.cons ?_ ?_
 ·intro q hq
  simp only [List.mem_cons,List.not_mem_nil,or_false] at hq
  rcases hq with rfl | rfl | rfl | rfl | rfl | rfl | rfl | rfl | rfl
  ·exact off_rng (oneP_rng (listN secrC 2 65536) 4 29 _ _) (aggP_rng epocC_many 5 29 _ _) (by decide) (fun _ _=>rfl)
  ·exact off_rng (oneP_rng (listN secrC 2 65536) 4 29 _ _) (oneP_rng sgnC 18 29 _ _) (by decide) (fun _ _=>rfl)
  ·exact off_rng (oneP_rng (listN secrC 2 65536) 4 29 _ _) (oneP_rng sgnC 19 29 _ _) (by decide) (fun _ _=>rfl)
  ·exact off_rng (oneP_rng (listN secrC 2 65536) 4 29 _ _) (oneP_rng sgnC 20 29 _ _) (by decide) (fun _ _=>rfl)
  ·exact off_rng (oneP_rng (listN secrC 2 65536) 4 29 _ _) (aggP_rng ratsC_many 21 29 _ _) (by decide) (fun _ _=>rfl)
  ·exact off_rng (oneP_rng (listN secrC 2 65536) 4 29 _ _) (oneP_rng (listN cachC 12 65536) 24 29 _ _) (by decide) (fun _ _=>rfl)
  ·exact off_rng (oneP_rng (listN secrC 2 65536) 4 29 _ _) (oneP_rng (listN updtC 2 65536) 25 29 _ _) (by decide) (fun _ _=>rfl)
  ·exact off_rng (oneP_rng (listN secrC 2 65536) 4 29 _ _) (oneP_rng (flagC) 26 29 _ _) (by decide) (fun _ _=>rfl)
  ·exact off_rng (oneP_rng (listN secrC 2 65536) 4 29 _ _) (oneP_rng (listN pastC 8 65536) 27 29 _ _) (by decide) (fun _ _=>rfl)
 refine List.Pairwise.cons ?_ ?_
 ·intro q hq
  simp only [List.mem_cons,List.not_mem_nil,or_false] at hq
  rcases hq with rfl | rfl | rfl | rfl | rfl | rfl | rfl | rfl
  ·exact off_rng (aggP_rng epocC_many 5 29 _ _) (oneP_rng sgnC 18 29 _ _) (by decide) (fun _ _=>rfl)
  ·exact off_rng (aggP_rng epocC_many 5 29 _ _) (oneP_rng sgnC 19 29 _ _) (by decide) (fun _ _=>rfl)
  ·exact off_rng (aggP_rng epocC_many 5 29 _ _) (oneP_rng sgnC 20 29 _ _) (by decide) (fun _ _=>rfl)
  ·exact off_rng (aggP_rng epocC_many 5 29 _ _) (aggP_rng ratsC_many 21 29 _ _) (by decide) (fun _ _=>rfl)
  ·exact off_rng (aggP_rng epocC_many 5 29 _ _) (oneP_rng (listN cachC 12 65536) 24 29 _ _) (by decide) (fun _ _=>rfl)
  ·exact off_rng (aggP_rng epocC_many 5 29 _ _) (oneP_rng (listN updtC 2 65536) 25 29 _ _) (by decide) (fun _ _=>rfl)
  ·exact off_rng (aggP_rng epocC_many 5 29 _ _) (oneP_rng (flagC) 26 29 _ _) (by decide) (fun _ _=>rfl)
  ·exact off_rng (aggP_rng epocC_many 5 29 _ _) (oneP_rng (listN pastC 8 65536) 27 29 _ _) (by decide) (fun _ _=>rfl)
 refine List.Pairwise.cons ?_ ?_
 ·intro q hq
  simp only [List.mem_cons,List.not_mem_nil,or_false] at hq
  rcases hq with rfl | rfl | rfl | rfl | rfl | rfl | rfl
  ·exact off_rng (oneP_rng sgnC 18 29 _ _) (oneP_rng sgnC 19 29 _ _) (by decide) (fun _ _=>rfl)
  ·exact off_rng (oneP_rng sgnC 18 29 _ _) (oneP_rng sgnC 20 29 _ _) (by decide) (fun _ _=>rfl)
  ·exact off_rng (oneP_rng sgnC 18 29 _ _) (aggP_rng ratsC_many 21 29 _ _) (by decide) (fun _ _=>rfl)
  ·exact off_rng (oneP_rng sgnC 18 29 _ _) (oneP_rng (listN cachC 12 65536) 24 29 _ _) (by decide) (fun _ _=>rfl)
  ·exact off_rng (oneP_rng sgnC 18 29 _ _) (oneP_rng (listN updtC 2 65536) 25 29 _ _) (by decide) (fun _ _=>rfl)
  ·exact off_rng (oneP_rng sgnC 18 29 _ _) (oneP_rng (flagC) 26 29 _ _) (by decide) (fun _ _=>rfl)
  ·exact off_rng (oneP_rng sgnC 18 29 _ _) (oneP_rng (listN pastC 8 65536) 27 29 _ _) (by decide) (fun _ _=>rfl)
 refine List.Pairwise.cons ?_ ?_
 ·intro q hq
  simp only [List.mem_cons,List.not_mem_nil,or_false] at hq
  rcases hq with rfl | rfl | rfl | rfl | rfl | rfl
  ·exact off_rng (oneP_rng sgnC 19 29 _ _) (oneP_rng sgnC 20 29 _ _) (by decide) (fun _ _=>rfl)
  ·exact off_rng (oneP_rng sgnC 19 29 _ _) (aggP_rng ratsC_many 21 29 _ _) (by decide) (fun _ _=>rfl)
  ·exact off_rng (oneP_rng sgnC 19 29 _ _) (oneP_rng (listN cachC 12 65536) 24 29 _ _) (by decide) (fun _ _=>rfl)
  ·exact off_rng (oneP_rng sgnC 19 29 _ _) (oneP_rng (listN updtC 2 65536) 25 29 _ _) (by decide) (fun _ _=>rfl)
  ·exact off_rng (oneP_rng sgnC 19 29 _ _) (oneP_rng (flagC) 26 29 _ _) (by decide) (fun _ _=>rfl)
  ·exact off_rng (oneP_rng sgnC 19 29 _ _) (oneP_rng (listN pastC 8 65536) 27 29 _ _) (by decide) (fun _ _=>rfl)
 refine List.Pairwise.cons ?_ ?_
 ·intro q hq
  simp only [List.mem_cons,List.not_mem_nil,or_false] at hq
  rcases hq with rfl | rfl | rfl | rfl | rfl
  ·exact off_rng (oneP_rng sgnC 20 29 _ _) (aggP_rng ratsC_many 21 29 _ _) (by decide) (fun _ _=>rfl)
  ·exact off_rng (oneP_rng sgnC 20 29 _ _) (oneP_rng (listN cachC 12 65536) 24 29 _ _) (by decide) (fun _ _=>rfl)
  ·exact off_rng (oneP_rng sgnC 20 29 _ _) (oneP_rng (listN updtC 2 65536) 25 29 _ _) (by decide) (fun _ _=>rfl)
  ·exact off_rng (oneP_rng sgnC 20 29 _ _) (oneP_rng (flagC) 26 29 _ _) (by decide) (fun _ _=>rfl)
  ·exact off_rng (oneP_rng sgnC 20 29 _ _) (oneP_rng (listN pastC 8 65536) 27 29 _ _) (by decide) (fun _ _=>rfl)
 refine List.Pairwise.cons ?_ ?_
 ·intro q hq
  simp only [List.mem_cons,List.not_mem_nil,or_false] at hq
  rcases hq with rfl | rfl | rfl | rfl
  ·exact off_rng (aggP_rng ratsC_many 21 29 _ _) (oneP_rng (listN cachC 12 65536) 24 29 _ _) (by decide) (fun _ _=>rfl)
  ·exact off_rng (aggP_rng ratsC_many 21 29 _ _) (oneP_rng (listN updtC 2 65536) 25 29 _ _) (by decide) (fun _ _=>rfl)
  ·exact off_rng (aggP_rng ratsC_many 21 29 _ _) (oneP_rng (flagC) 26 29 _ _) (by decide) (fun _ _=>rfl)
  ·exact off_rng (aggP_rng ratsC_many 21 29 _ _) (oneP_rng (listN pastC 8 65536) 27 29 _ _) (by decide) (fun _ _=>rfl)
 refine List.Pairwise.cons ?_ ?_
 ·intro q hq
  simp only [List.mem_cons,List.not_mem_nil,or_false] at hq
  rcases hq with rfl | rfl | rfl
  ·exact off_rng (oneP_rng (listN cachC 12 65536) 24 29 _ _) (oneP_rng (listN updtC 2 65536) 25 29 _ _) (by decide) (fun _ _=>rfl)
  ·exact off_rng (oneP_rng (listN cachC 12 65536) 24 29 _ _) (oneP_rng (flagC) 26 29 _ _) (by decide) (fun _ _=>rfl)
  ·exact off_rng (oneP_rng (listN cachC 12 65536) 24 29 _ _) (oneP_rng (listN pastC 8 65536) 27 29 _ _) (by decide) (fun _ _=>rfl)
 refine List.Pairwise.cons ?_ ?_
 ·intro q hq
  simp only [List.mem_cons,List.not_mem_nil,or_false] at hq
  rcases hq with rfl | rfl
  ·exact off_rng (oneP_rng (listN updtC 2 65536) 25 29 _ _) (oneP_rng (flagC) 26 29 _ _) (by decide) (fun _ _=>rfl)
  ·exact off_rng (oneP_rng (listN updtC 2 65536) 25 29 _ _) (oneP_rng (listN pastC 8 65536) 27 29 _ _) (by decide) (fun _ _=>rfl)
 refine List.Pairwise.cons ?_ ?_
 ·intro q hq
  simp only [List.mem_cons,List.not_mem_nil,or_false] at hq
  rcases hq with rfl
  ·exact off_rng (oneP_rng (flagC) 26 29 _ _) (oneP_rng (listN pastC 8 65536) 27 29 _ _) (by decide) (fun _ _=>rfl)
 refine List.Pairwise.cons ?_ ?_
 ·intro q hq
  cases hq
 exact List.Pairwise.nil
theorem statC_fair:Fair statC:=recC_fair (fun p hp=>(statP_fair p hp).fair) _
theorem statC_many:Many statC 29:=recC_many _ _ _
theorem get_stat_id:GetterOk 75 29 (.func (.func 116) #[] #[]) 0:=by
 refine ⟨_,rfl,Proofs.enters_of Tryz.func116 (by kernel_rfl) rfl,?_⟩
 intro b cs w hb hs
 clear hb hs
 go_enter Tryz.func116,Tryz.ntmps116
 go_wp2
 go_ret
 exact ⟨rfl,rfl⟩
theorem get_stat_epoch:GetterOk 75 29 (.func (.func 117) #[] #[]) 1:=by
 refine ⟨_,rfl,Proofs.enters_of Tryz.func117 (by kernel_rfl) rfl,?_⟩
 intro b cs w hb hs
 clear hb hs
 go_enter Tryz.func117,Tryz.ntmps117
 go_wp2
 go_ret
 exact ⟨rfl,rfl⟩
theorem get_stat_me:GetterOk 75 29 (.func (.func 118) #[] #[]) 2:=by
 refine ⟨_,rfl,Proofs.enters_of Tryz.func118 (by kernel_rfl) rfl,?_⟩
 intro b cs w hb hs
 clear hb hs
 go_enter Tryz.func118,Tryz.ntmps118
 go_wp2
 go_ret
 exact ⟨rfl,rfl⟩
theorem get_stat_tree:GetterOk 75 29 (.func (.func 120) #[] #[]) 3:=by
 refine ⟨_,rfl,Proofs.enters_of Tryz.func120 (by kernel_rfl) rfl,?_⟩
 intro b cs w hb hs
 clear hb hs
 go_enter Tryz.func120,Tryz.ntmps120
 go_wp2
 go_ret
 exact ⟨rfl,rfl⟩
theorem get_stat_secrets:GetterOk 75 29 (.func (.func 124) #[] #[]) 4:=by
 refine ⟨_,rfl,Proofs.enters_of Tryz.func124 (by kernel_rfl) rfl,?_⟩
 intro b cs w hb hs
 clear hb hs
 go_enter Tryz.func124,Tryz.ntmps124
 go_wp2
 go_ret
 exact ⟨rfl,rfl⟩
theorem get_stat_e:GetterOk 75 29 (.func (.func 128) #[] #[]) 5:=by
 refine ⟨_,rfl,Proofs.enters_of Tryz.func128 (by kernel_rfl) rfl,?_⟩
 intro b cs w hb hs
 clear hb hs
 go_enter Tryz.func128,Tryz.ntmps128
 go_wp2
 go_ret
 exact ⟨rfl,rfl⟩
theorem get_stat_confirmed:GetterOk 75 29 (.func (.func 130) #[] #[]) 18:=by
 refine ⟨_,rfl,Proofs.enters_of Tryz.func130 (by kernel_rfl) rfl,?_⟩
 intro b cs w hb hs
 clear hb hs
 go_enter Tryz.func130,Tryz.ntmps130
 go_wp2
 go_ret
 exact ⟨rfl,rfl⟩
theorem get_stat_interim:GetterOk 75 29 (.func (.func 131) #[] #[]) 19:=by
 refine ⟨_,rfl,Proofs.enters_of Tryz.func131 (by kernel_rfl) rfl,?_⟩
 intro b cs w hb hs
 clear hb hs
 go_enter Tryz.func131,Tryz.ntmps131
 go_wp2
 go_ret
 exact ⟨rfl,rfl⟩
theorem get_stat_context:GetterOk 75 29 (.func (.func 132) #[] #[]) 20:=by
 refine ⟨_,rfl,Proofs.enters_of Tryz.func132 (by kernel_rfl) rfl,?_⟩
 intro b cs w hb hs
 clear hb hs
 go_enter Tryz.func132,Tryz.ntmps132
 go_wp2
 go_ret
 exact ⟨rfl,rfl⟩
theorem get_stat_rat:GetterOk 75 29 (.func (.func 134) #[] #[]) 21:=by
 refine ⟨_,rfl,Proofs.enters_of Tryz.func134 (by kernel_rfl) rfl,?_⟩
 intro b cs w hb hs
 clear hb hs
 go_enter Tryz.func134,Tryz.ntmps134
 go_wp2
 go_ret
 exact ⟨rfl,rfl⟩
theorem get_stat_cached:GetterOk 75 29 (.func (.func 137) #[] #[]) 24:=by
 refine ⟨_,rfl,Proofs.enters_of Tryz.func137 (by kernel_rfl) rfl,?_⟩
 intro b cs w hb hs
 clear hb hs
 go_enter Tryz.func137,Tryz.ntmps137
 go_wp2
 go_ret
 exact ⟨rfl,rfl⟩
theorem get_stat_updates:GetterOk 75 29 (.func (.func 140) #[] #[]) 25:=by
 refine ⟨_,rfl,Proofs.enters_of Tryz.func140 (by kernel_rfl) rfl,?_⟩
 intro b cs w hb hs
 clear hb hs
 go_enter Tryz.func140,Tryz.ntmps140
 go_wp2
 go_ret
 exact ⟨rfl,rfl⟩
theorem get_stat_closed:GetterOk 75 29 (.func (.func 143) #[] #[]) 26:=by
 refine ⟨_,rfl,Proofs.enters_of Tryz.func143 (by kernel_rfl) rfl,?_⟩
 intro b cs w hb hs
 clear hb hs
 go_enter Tryz.func143,Tryz.ntmps143
 go_wp2
 go_ret
 exact ⟨rfl,rfl⟩
theorem get_stat_past:GetterOk 75 29 (.func (.func 146) #[] #[]) 27:=by
 refine ⟨_,rfl,Proofs.enters_of Tryz.func146 (by kernel_rfl) rfl,?_⟩
 intro b cs w hb hs
 clear hb hs
 go_enter Tryz.func146,Tryz.ntmps146
 go_wp2
 go_ret
 exact ⟨rfl,rfl⟩
end Go.Proofs.YtogkkfdkeefjnaaGreatDoor.Codec
namespace Go.Proofs.YtogkkfdkeefjnaaGreatDoor.Codec
open Go.RowKit Go.Proofs.YtogkkfdkeefjnaaGreatDoorBase Go.Proofs.YtogkkfdkeefjnaaGreatDoorLex2 Go.Proofs.YtogkkfdkeefjnaaGreatDoorNum
set_option linter.unusedVariables false
set_option maxRecDepth 100000
set_option linter.unusedSimpArgs false
/-- What is written is read as itself. -/
structure RT {α:Type} (c:Cod α) (ok:α→Prop) (bs:α→List UInt8):Prop where
 put:∀ x o,ok x→c.put x ⟨o,0⟩=⟨o ++ bs x,0⟩
 get:∀ x l,ok x→c.get ⟨bs x ++ l,0⟩=(x,⟨l,0⟩)
def okS (x:Int):Prop:=-2305843009213693952≤x∧x < 2305843009213693952
def bsS (x:Int):List UInt8:=encN (zig x)
theorem sgn_rt:RT sgnC okS bsS where
 put:=fun x o _=>rfl
 get:=fun x l h=>by
  show (zag (getN ⟨encN (zig x) ++ l,0⟩).1,(getN ⟨encN (zig x) ++ l,0⟩).2)=_
  rw [getN_enc _ _ (zig_lt h.1 h.2),zag_zig]
theorem flag_rt:RT flagC (fun _=>True) bsF:=⟨fun x o h=>flagC_good.put_ok x o h,fun x l h=>flagC_good.get_ok x l h⟩
section
variable {α : Type} {c : Cod α} {ok : α → Prop} {bs : α → List UInt8}
theorem rt_puts (g:RT c ok bs):∀ (l:List α) (o:List UInt8),(∀ x∈l,ok x)→puts c l ⟨o,0⟩=⟨o ++ l.flatMap bs,0⟩
 | [],o,h=>by simp [puts]
 | x :: l,o,h=>by
  rw [puts_cons,g.put x o (h x List.mem_cons_self),rt_puts g l _ (fun y hy=>h y (List.mem_cons_of_mem _ hy))]
  simp
theorem rt_getL (g:RT c ok bs):∀ (xs:List α) (l:List UInt8),(∀ x∈xs,ok x)→getL c.get xs.length ⟨xs.flatMap bs ++ l,0⟩=(xs,⟨l,0⟩)
 | [],l,h=>by simp [getL]
 | x :: xs,l,h=>by
  have h1:=g.get x (xs.flatMap bs ++ l) (h x List.mem_cons_self)
  have h2:=rt_getL g xs l (fun y hy=>h y (List.mem_cons_of_mem _ hy))
  simp only [List.length_cons,getL]
  rw [if_neg (by simp),List.flatMap_cons,List.append_assoc,h1,h2]
def okM (ok:α→Prop) (m:Nat) (l:List α):Prop:=l.length≤m∧∀ x∈l,ok x
def bsM (bs:α→List UInt8) (l:List α):List UInt8:=encN l.length ++ l.flatMap bs
theorem rt_listN (g:RT c ok bs) (N:Nat) {m:Nat} (hm:m≤1048576):RT (listN c N m) (okM ok m) (bsM bs) where
 put:=by
  rintro l o ⟨h1,h2⟩
  show (if m < l.length then _ else puts c l (putN l.length ⟨o,0⟩))=_
  rw [if_neg (by omega)]
  show puts c l ⟨o ++ encN l.length,0⟩=_
  rw [rt_puts g l _ h2]
  simp [bsM]
 get:=by
  rintro l r ⟨h1,h2⟩
  show getL c.get (countN m ⟨bsM bs l ++ r,0⟩).1 (countN m ⟨bsM bs l ++ r,0⟩).2=_
  rw [bsM,List.append_assoc,countN_enc _ _ h1 hm]
  exact rt_getL g l r h2
theorem rt_listC (g:RT c ok bs) {m:Nat} (hm:m≤1048576):RT (listC c m) (okM ok m) (bsM bs) where
 put:=(rt_listN g 0 hm).put
 get:=(rt_listN g 0 hm).get
end
/-- A part whose bytes are known. -/
structure RPrt (α:Type) where
 p:Prt α
 ok:p.β→Prop
 bs:p.β→List UInt8
 rt:RT p.c ok bs
def okRr {α:Type} (gs:List (RPrt α)) (x:α):Prop:=∀ g∈gs,g.ok (g.p.fld x)
def bsRr {α:Type} (gs:List (RPrt α)) (x:α):List UInt8:=gs.flatMap fun g=>g.bs (g.p.fld x)
def prtsR {α:Type} (gs:List (RPrt α)):List (Prt α):=gs.map (·.p)
def setAllR {α:Type} (gs:List (RPrt α)) (x y:α):α:=gs.foldl (fun y g=>g.p.set (g.p.fld x) y) y
section
variable {α : Type}
theorem rt_putP (x:α):∀ {gs:List (RPrt α)} (o:List UInt8),okRr gs x→putP (prtsR gs) x ⟨o,0⟩=⟨o ++ bsRr gs x,0⟩
 | [],o,h=>by simp [prtsR,putP,bsRr]
 | g :: gs,o,h=>by
  show putP (prtsR gs) x (g.p.c.put (g.p.fld x) ⟨o,0⟩)=_
  rw [g.rt.put _ o (h g List.mem_cons_self),rt_putP x _ (fun k hk=>h k (List.mem_cons_of_mem _ hk))]
  simp [bsRr]
theorem rt_getP (x:α):∀ {gs:List (RPrt α)} (y:α) (l:List UInt8),okRr gs x→getP (prtsR gs) (y,⟨bsRr gs x ++ l,0⟩)=(setAllR gs x y,⟨l,0⟩)
 | [],y,l,h=>by simp [prtsR,getP,bsRr,setAllR]
 | g :: gs,y,l,h=>by
  have e:bsRr (g :: gs) x ++ l=g.bs (g.p.fld x) ++ (bsRr gs x ++ l):=by simp [bsRr]
  show getP (prtsR gs) (g.p.set (g.p.c.get ⟨bsRr (g :: gs) x ++ l,0⟩).1 y,(g.p.c.get ⟨bsRr (g :: gs) x ++ l,0⟩).2)=_
  rw [e,g.rt.get _ _ (h g List.mem_cons_self)]
  exact rt_getP x _ l (fun k hk=>h k (List.mem_cons_of_mem _ hk))
theorem rt_rec {N:Nat} {gs:List (RPrt α)} {x0:α} (hs:∀ x,setAllR gs x x0=x):RT (recC N (prtsR gs) x0) (okRr gs) (bsRr gs) where
 put:=fun x o h=>rt_putP x o h
 get:=fun x l h=>by
  show getP (prtsR gs) (x0,_)=_
  rw [rt_getP x x0 l h,hs]
end
def cardG:List (RPrt CardD):=[⟨card_client,okS,bsS,sgn_rt⟩,⟨card_init,okS,bsS,sgn_rt⟩,⟨card_leaf,okS,bsS,sgn_rt⟩,⟨card_sig,okS,bsS,sgn_rt⟩,⟨card_till,okS,bsS,sgn_rt⟩,⟨card_mark,okS,bsS,sgn_rt⟩]
theorem card_rt:RT cardC (okRr cardG) (bsRr cardG):=rt_rec (gs:=cardG) (fun x=>by cases x; rfl)
def keptG:List (RPrt KeptD):=[⟨kept_card,(okRr cardG),(bsRr cardG),card_rt⟩,⟨kept_init,okS,bsS,sgn_rt⟩,⟨kept_leaf,okS,bsS,sgn_rt⟩]
theorem kept_rt:RT keptC (okRr keptG) (bsRr keptG):=rt_rec (gs:=keptG) (fun x=>by cases x; rfl)
def secrG:List (RPrt SecrD):=[⟨secr_place,okS,bsS,sgn_rt⟩,⟨secr_term,okS,bsS,sgn_rt⟩]
theorem secr_rt:RT secrC (okRr secrG) (bsRr secrG):=rt_rec (gs:=secrG) (fun x=>by cases x; rfl)
theorem secr_ok {x:SecrD} (h0:okS x.place) (h1:okS x.term):okRr secrG x:=by
 intro g hg
 simp only [secrG,List.mem_cons,List.not_mem_nil,or_false] at hg
 rcases hg with rfl | rfl
 ·exact h0
 ·exact h1
def propG:List (RPrt PropD):=[⟨prop_kind,okS,bsS,sgn_rt⟩,⟨prop_card,(okRr cardG),(bsRr cardG),card_rt⟩,⟨prop_key,okS,bsS,sgn_rt⟩,⟨prop_index,okS,bsS,sgn_rt⟩,⟨prop_psk,okS,bsS,sgn_rt⟩,⟨prop_from_,okS,bsS,sgn_rt⟩]
theorem prop_rt:RT propC (okRr propG) (bsRr propG):=rt_rec (gs:=propG) (fun x=>by cases x; rfl)
def vertG:List (RPrt VertD):=[⟨vert_full,(fun _=>True),bsF,flag_rt⟩,⟨vert_key,okS,bsS,sgn_rt⟩,⟨vert_client,okS,bsS,sgn_rt⟩,⟨vert_sig,okS,bsS,sgn_rt⟩,⟨vert_hash,okS,bsS,sgn_rt⟩,⟨vert_late,(okM okS 65536),(bsM bsS),(rt_listC sgn_rt (by decide))⟩]
theorem vert_rt:RT vertC (okRr vertG) (bsRr vertG):=rt_rec (gs:=vertG) (fun x=>by cases x; rfl)
theorem vert_ok {x:VertD} (h0:(fun _=>True) x.full) (h1:okS x.key) (h2:okS x.client) (h3:okS x.sig) (h4:okS x.hash) (h5:(okM okS 65536) x.late):okRr vertG x:=by
 intro g hg
 simp only [vertG,List.mem_cons,List.not_mem_nil,or_false] at hg
 rcases hg with rfl | rfl | rfl | rfl | rfl | rfl
 ·exact h0
 ·exact h1
 ·exact h2
 ·exact h3
 ·exact h4
 ·exact h5
def epocG:List (RPrt EpocD):=[⟨epoc_joiner,okS,bsS,sgn_rt⟩,⟨epoc_member,okS,bsS,sgn_rt⟩,⟨epoc_welcome,okS,bsS,sgn_rt⟩,⟨epoc_secret,okS,bsS,sgn_rt⟩,⟨epoc_init,okS,bsS,sgn_rt⟩,⟨epoc_data,okS,bsS,sgn_rt⟩,⟨epoc_ratchets,okS,bsS,sgn_rt⟩,⟨epoc_exporter,okS,bsS,sgn_rt⟩,⟨epoc_ext,okS,bsS,sgn_rt⟩,⟨epoc_confirm,okS,bsS,sgn_rt⟩,⟨epoc_membership,okS,bsS,sgn_rt⟩,⟨epoc_resumption,okS,bsS,sgn_rt⟩,⟨epoc_auth,okS,bsS,sgn_rt⟩]
theorem epoc_rt:RT epocC (okRr epocG) (bsRr epocG):=rt_rec (gs:=epocG) (fun x=>by cases x; rfl)
theorem epoc_ok {x:EpocD} (h0:okS x.joiner) (h1:okS x.member) (h2:okS x.welcome) (h3:okS x.secret) (h4:okS x.init) (h5:okS x.data) (h6:okS x.ratchets) (h7:okS x.exporter) (h8:okS x.ext) (h9:okS x.confirm) (h10:okS x.membership) (h11:okS x.resumption) (h12:okS x.auth):okRr epocG x:=by
 intro g hg
 simp only [epocG,List.mem_cons,List.not_mem_nil,or_false] at hg
 rcases hg with rfl | rfl | rfl | rfl | rfl | rfl | rfl | rfl | rfl | rfl | rfl | rfl | rfl
 ·exact h0
 ·exact h1
 ·exact h2
 ·exact h3
 ·exact h4
 ·exact h5
 ·exact h6
 ·exact h7
 ·exact h8
 ·exact h9
 ·exact h10
 ·exact h11
 ·exact h12
def rkeyG:List (RPrt RkeyD):=[⟨rkey_gen,okS,bsS,sgn_rt⟩,⟨rkey_term,okS,bsS,sgn_rt⟩]
theorem rkey_rt:RT rkeyC (okRr rkeyG) (bsRr rkeyG):=rt_rec (gs:=rkeyG) (fun x=>by cases x; rfl)
def chaiG:List (RPrt ChaiD):=[⟨chai_leaf,okS,bsS,sgn_rt⟩,⟨chai_next,okS,bsS,sgn_rt⟩,⟨chai_secret,okS,bsS,sgn_rt⟩,⟨chai_kept,(okM (okRr rkeyG) 65536),(bsM (bsRr rkeyG)),(rt_listN rkey_rt 2 (by decide))⟩]
theorem chai_rt:RT chaiC (okRr chaiG) (bsRr chaiG):=rt_rec (gs:=chaiG) (fun x=>by cases x; rfl)
def ratsG:List (RPrt RatsD):=[⟨rats_leaves,okS,bsS,sgn_rt⟩,⟨rats_nodes,(okM okS 65536),(bsM bsS),(rt_listC sgn_rt (by decide))⟩,⟨rats_chains,(okM (okRr chaiG) 65536),(bsM (bsRr chaiG)),(rt_listN chai_rt 4 (by decide))⟩]
theorem rats_rt:RT ratsC (okRr ratsG) (bsRr ratsG):=rt_rec (gs:=ratsG) (fun x=>by cases x; rfl)
theorem rats_ok {x:RatsD} (h0:okS x.leaves) (h1:(okM okS 65536) x.nodes) (h2:(okM (okRr chaiG) 65536) x.chains):okRr ratsG x:=by
 intro g hg
 simp only [ratsG,List.mem_cons,List.not_mem_nil,or_false] at hg
 rcases hg with rfl | rfl | rfl
 ·exact h0
 ·exact h1
 ·exact h2
def cachG:List (RPrt CachD):=[⟨cach_prop,(okRr propG),(bsRr propG),prop_rt⟩,⟨cach_ref,okS,bsS,sgn_rt⟩]
theorem cach_rt:RT cachC (okRr cachG) (bsRr cachG):=rt_rec (gs:=cachG) (fun x=>by cases x; rfl)
def updtG:List (RPrt UpdtD):=[⟨updt_key,okS,bsS,sgn_rt⟩,⟨updt_secret,okS,bsS,sgn_rt⟩]
theorem updt_rt:RT updtC (okRr updtG) (bsRr updtG):=rt_rec (gs:=updtG) (fun x=>by cases x; rfl)
def pastG:List (RPrt PastD):=[⟨past_epoch,okS,bsS,sgn_rt⟩,⟨past_me,okS,bsS,sgn_rt⟩,⟨past_tree,(okM (okRr vertG) 65536),(bsM (bsRr vertG)),(rt_listN vert_rt 6 (by decide))⟩,⟨past_context,okS,bsS,sgn_rt⟩,⟨past_data,okS,bsS,sgn_rt⟩,⟨past_rat,(okRr ratsG),(bsRr ratsG),rats_rt⟩]
theorem past_rt:RT pastC (okRr pastG) (bsRr pastG):=rt_rec (gs:=pastG) (fun x=>by cases x; rfl)
def statG:List (RPrt StatD):=[⟨stat_id,okS,bsS,sgn_rt⟩,⟨stat_epoch,okS,bsS,sgn_rt⟩,⟨stat_me,okS,bsS,sgn_rt⟩,⟨stat_tree,(okM (okRr vertG) 65536),(bsM (bsRr vertG)),(rt_listN vert_rt 6 (by decide))⟩,⟨stat_secrets,(okM (okRr secrG) 65536),(bsM (bsRr secrG)),(rt_listN secr_rt 2 (by decide))⟩,⟨stat_e,(okRr epocG),(bsRr epocG),epoc_rt⟩,⟨stat_confirmed,okS,bsS,sgn_rt⟩,⟨stat_interim,okS,bsS,sgn_rt⟩,⟨stat_context,okS,bsS,sgn_rt⟩,⟨stat_rat,(okRr ratsG),(bsRr ratsG),rats_rt⟩,⟨stat_cached,(okM (okRr cachG) 65536),(bsM (bsRr cachG)),(rt_listN cach_rt 12 (by decide))⟩,⟨stat_updates,(okM (okRr updtG) 65536),(bsM (bsRr updtG)),(rt_listN updt_rt 2 (by decide))⟩,⟨stat_closed,(fun _=>True),bsF,flag_rt⟩,⟨stat_past,(okM (okRr pastG) 65536),(bsM (bsRr pastG)),(rt_listN past_rt 8 (by decide))⟩]
theorem stat_rt:RT statC (okRr statG) (bsRr statG):=rt_rec (gs:=statG) (fun x=>by cases x; rfl)
theorem stat_ok {x:StatD} (h0:okS x.id) (h1:okS x.epoch) (h2:okS x.me) (h3:(okM (okRr vertG) 65536) x.tree) (h4:(okM (okRr secrG) 65536) x.secrets) (h5:(okRr epocG) x.e) (h6:okS x.confirmed) (h7:okS x.interim) (h8:okS x.context) (h9:(okRr ratsG) x.rat) (h10:(okM (okRr cachG) 65536) x.cached) (h11:(okM (okRr updtG) 65536) x.updates) (h12:(fun _=>True) x.closed) (h13:(okM (okRr pastG) 65536) x.past):okRr statG x:=by
 intro g hg
 simp only [statG,List.mem_cons,List.not_mem_nil,or_false] at hg
 rcases hg with rfl | rfl | rfl | rfl | rfl | rfl | rfl | rfl | rfl | rfl | rfl | rfl | rfl | rfl
 ·exact h0
 ·exact h1
 ·exact h2
 ·exact h3
 ·exact h4
 ·exact h5
 ·exact h6
 ·exact h7
 ·exact h8
 ·exact h9
 ·exact h10
 ·exact h11
 ·exact h12
 ·exact h13
end Go.Proofs.YtogkkfdkeefjnaaGreatDoor.Codec
namespace Go.Proofs.YtogkkfdkeefjnaaGreatDoor.Codec
open Go.RowKit Go.Proofs.YtogkkfdkeefjnaaGreatDoorBase Go.Proofs.YtogkkfdkeefjnaaGreatDoorLex2 Go.Proofs.YtogkkfdkeefjnaaGreatDoorNum
set_option linter.unusedVariables false
set_option maxRecDepth 100000
set_option linter.unusedSimpArgs false
theorem statP_rng:∀ p∈statP,∃ o n,o+n≤28∧Rng 29 p o n:=by
 intro p hp
 simp only [statP,List.mem_cons,List.not_mem_nil,or_false] at hp
 rcases hp with rfl | rfl | rfl | rfl | rfl | rfl | rfl | rfl | rfl | rfl | rfl | rfl | rfl | rfl
 ·exact ⟨0,1,by decide,oneP_rng sgnC 0 29 _ _⟩
 ·exact ⟨1,1,by decide,oneP_rng sgnC 1 29 _ _⟩
 ·exact ⟨2,1,by decide,oneP_rng sgnC 2 29 _ _⟩
 ·exact ⟨3,1,by decide,oneP_rng (listN vertC 6 65536) 3 29 _ _⟩
 ·exact ⟨4,1,by decide,oneP_rng (listN secrC 2 65536) 4 29 _ _⟩
 ·exact ⟨5,13,by decide,aggP_rng epocC_many 5 29 _ _⟩
 ·exact ⟨18,1,by decide,oneP_rng sgnC 18 29 _ _⟩
 ·exact ⟨19,1,by decide,oneP_rng sgnC 19 29 _ _⟩
 ·exact ⟨20,1,by decide,oneP_rng sgnC 20 29 _ _⟩
 ·exact ⟨21,3,by decide,aggP_rng ratsC_many 21 29 _ _⟩
 ·exact ⟨24,1,by decide,oneP_rng (listN cachC 12 65536) 24 29 _ _⟩
 ·exact ⟨25,1,by decide,oneP_rng (listN updtC 2 65536) 25 29 _ _⟩
 ·exact ⟨26,1,by decide,oneP_rng (flagC) 26 29 _ _⟩
 ·exact ⟨27,1,by decide,oneP_rng (listN pastC 8 65536) 27 29 _ _⟩
/-- A state that may lack. -/
def pendC:Cod (Option StatD) where
 rep:=fun G w x v=>match x with
  | none=>v=.pointer none
  | some s=>∃ b o cs,v=.pointer (some ⟨b,o,none⟩)∧G b∧b < w.heap.size∧cs.size=29∧CellsAt w b o cs∧statC.rep G w s (.agg cs)
 put:=fun x s=>(listN statC 29 65536).put x.toList s
 cost:=fun x=>(listN statC 29 65536).cost x.toList
 get:=fun s=>(((listN statC 29 65536).get s).1.head?,((listN statC 29 65536).get s).2)
theorem pendC_fair:Fair pendC:=by
 refine ⟨?_,?_,fun x s=>(listN_fair statC_fair 29 65536).len x.toList s⟩
 ·intro G G' w x v hG h
  cases x with
  | none=>exact h
  | some s=>
   obtain ⟨b,o,cs,rfl,hb,hl,hs,hc,hr⟩:=h
   exact ⟨b,o,cs,rfl,hG b hb,hl,hs,hc,statC_fair.mono hG hr⟩
 ·intro G w w' x v h hk
  cases x with
  | none=>exact h
  | some s=>
   obtain ⟨b,o,cs,rfl,hb,hl,hs,hc,hr⟩:=h
   have hbb:=hk b hl hb
   have hbl:w'.heap[b]?=some w.heap[b]:=by rw [hbb]; exact Array.getElem?_eq_getElem hl
   exact ⟨b,o,cs,rfl,hb,blk_lt hbl,hs,hc.keep hbb,statC_fair.keep hr hk⟩
theorem pendC_one:One pendC:=by
 intro G w x u h
 cases x with
 | none=>obtain rfl:=h; rfl
 | some s=>obtain ⟨b,o,cs,rfl,_⟩:=h; rfl
structure StfD where
 s:StatD
 pend:Option StatD
def StfZ:StfD:=⟨StatZ,none⟩
def liftP (p:Prt StatD):Prt StfD:=⟨p.β,p.c,fun x=>p.fld x.s,fun y x=>{ x with s:=p.set y x.s },p.rd,p.wr⟩
def stf_pend:Prt StfD:=oneP pendC 28 (·.pend) (fun y x=>{ x with pend:=y })
def stfP:List (Prt StfD):=statP.map liftP ++ [stf_pend]
def stfC:Cod StfD:=recC 29 stfP StfZ
theorem lift_fair {p:Prt StatD} (h:PFair 29 p):PFair 29 (liftP p):=⟨h.fair,fun hr hs=>h.rdwr hr hs,fun hr hs=>h.size hr hs,fun y x=>h.fldset y x.s,fun hr hs ha=>h.all hr hs ha⟩
theorem lift_off {p q:Prt StatD} (h:Off 29 p q):Off 29 (liftP p) (liftP q):=⟨fun hr hs=>h.rd hr hs,fun y x=>h.fld y x.s⟩
theorem lift_rng {p:Prt StatD} {o n:Nat} (h:Rng 29 p o n):Rng 29 (liftP p) o n:=⟨fun h1 h2 h3=>h.rd h1 h2 h3,fun hr hs=>h.wr hr hs⟩
theorem stfP_fair:∀ p∈stfP,PFair 29 p:=by
 intro p hp
 rcases List.mem_append.1 hp with hp | hp
 ·obtain ⟨q,hq,rfl⟩:=List.mem_map.1 hp
  exact lift_fair (statP_fair q hq)
 ·obtain rfl:=List.mem_singleton.1 hp
  exact oneP_fair pendC_fair pendC_one (by decide) (fun _ _=>rfl)
theorem stfP_off:stfP.Pairwise (fun p p'=>Off 29 p p'):=by
 refine List.pairwise_append.2 ⟨?_,List.pairwise_singleton _ _,fun p hp q hq=>?_⟩
 ·exact List.Pairwise.map _ (fun p q h=>lift_off h) statP_off
 ·obtain ⟨p,hp',rfl⟩:=List.mem_map.1 hp
  obtain rfl:=List.mem_singleton.1 hq
  obtain ⟨o,n,ho,hr⟩:=statP_rng p hp'
  exact off_rng (lift_rng hr) (oneP_rng pendC 28 29 _ _) (by omega) (fun _ _=>rfl)
theorem stfC_fair:Fair stfC:=recC_fair (fun p hp=>(stfP_fair p hp).fair) _
theorem stfC_many:Many stfC 29:=recC_many _ _ _
theorem lift_put {W:World} {T:TypeId} {fv:Value} {p:Prt StatD} (h:PPut W T 29 fv p):PPut W T 29 fv (liftP p):=by
 obtain ⟨f,caps,rfl,he,h⟩:=h
 exact ⟨f,caps,rfl,he,fun B q F s w b cs x=>h B q F s w b cs x.s⟩
theorem lift_get {W:World} {T:TypeId} {fv:Value} {p:Prt StatD} (h:PGet W T 29 fv p):PGet W T 29 fv (liftP p):=by
 obtain ⟨f,caps,rfl,he,h⟩:=h
 exact ⟨f,caps,rfl,he,fun q d s w b cs=>h q d s w b cs⟩
/-! ### Round trips -/
def okP (x:Option StatD):Prop:=∀ s,x=some s→okRr statG s
def bsP (x:Option StatD):List UInt8:=bsM (bsRr statG) x.toList
theorem pend_rt:RT pendC okP bsP:=by
 have g:=rt_listN stat_rt 29 (m:=65536) (by decide)
 have e:∀ x,okP x→okM (okRr statG) 65536 x.toList:=by
  intro x h
  cases x with
  | none=>exact ⟨by simp,fun y hy=>by simp at hy⟩
  | some s=>exact ⟨by simp,fun y hy=>by
    have e:y=s:=by simpa using hy
    rw [e]
    exact h s rfl⟩
 refine ⟨fun x o h=>g.put x.toList o (e x h),fun x l h=>?_⟩
 have h1:=g.get x.toList l (e x h)
 show (((listN statC 29 65536).get ⟨bsP x ++ l,0⟩).1.head?,((listN statC 29 65536).get ⟨bsP x ++ l,0⟩).2)=_
 rw [show bsP x=bsM (bsRr statG) x.toList from rfl,h1]
 cases x <;> rfl
def liftG (g:RPrt StatD):RPrt StfD:=⟨liftP g.p,g.ok,g.bs,g.rt⟩
def stfG:List (RPrt StfD):=statG.map liftG ++ [⟨stf_pend,okP,bsP,pend_rt⟩]
theorem stf_rt:RT stfC (okRr stfG) (bsRr stfG):=rt_rec (gs:=stfG) (fun x=>by obtain ⟨s,p⟩:=x; cases s; rfl)
theorem stf_ok {x:StfD} (h:okRr statG x.s) (h2:okP x.pend):okRr stfG x:=by
 intro g hg
 rcases List.mem_append.1 hg with hg | hg
 ·obtain ⟨q,hq,rfl⟩:=List.mem_map.1 hg
  exact h q hq
 ·obtain rfl:=List.mem_singleton.1 hg
  exact h2
structure SnapD where
 kept:List KeptD
 psks:List Int
 groups:List StfD
def SnapZ:SnapD:=⟨[],[],[]⟩
def snap_kept:Prt SnapD:=oneP (listN keptC 8 65536) 0 (·.kept) (fun y x=>{ x with kept:=y })
def snap_psks:Prt SnapD:=oneP (listC sgnC 65536) 1 (·.psks) (fun y x=>{ x with psks:=y })
def snap_groups:Prt SnapD:=oneP (listN stfC 29 65536) 2 (·.groups) (fun y x=>{ x with groups:=y })
def snapP:List (Prt SnapD):=[snap_kept,snap_psks,snap_groups]
def snapC:Cod SnapD:=recC 3 snapP SnapZ
theorem snapP_fair:∀ p∈snapP,PFair 3 p:=by
 intro p hp
 simp only [snapP,List.mem_cons,List.not_mem_nil,or_false] at hp
 rcases hp with rfl | rfl | rfl
 ·exact oneP_fair (listN_fair keptC_fair 8 65536) (listN_one keptC 8 65536) (by decide) (fun _ _=>rfl)
 ·exact oneP_fair (listC_fair sgnC_fair 65536) (listC_one sgnC 65536) (by decide) (fun _ _=>rfl)
 ·exact oneP_fair (listN_fair stfC_fair 29 65536) (listN_one stfC 29 65536) (by decide) (fun _ _=>rfl)
theorem snapP_off:snapP.Pairwise (fun p p'=>Off 3 p p'):=by
 unfold snapP
 refine List.Pairwise.cons ?_ (List.Pairwise.cons ?_ (List.pairwise_singleton _ _))
 ·intro q hq
  simp only [List.mem_cons,List.not_mem_nil,or_false] at hq
  rcases hq with rfl | rfl
  ·exact off_rng (oneP_rng _ 0 3 _ _) (oneP_rng _ 1 3 _ _) (by decide) (fun _ _=>rfl)
  ·exact off_rng (oneP_rng _ 0 3 _ _) (oneP_rng _ 2 3 _ _) (by decide) (fun _ _=>rfl)
 ·intro q hq
  obtain rfl:=List.mem_singleton.1 hq
  exact off_rng (oneP_rng _ 1 3 _ _) (oneP_rng _ 2 3 _ _) (by decide) (fun _ _=>rfl)
theorem snapC_fair:Fair snapC:=recC_fair (fun p hp=>(snapP_fair p hp).fair) _
def snapG:List (RPrt SnapD):=[⟨snap_kept,okM (okRr keptG) 65536,bsM (bsRr keptG),rt_listN kept_rt 8 (by decide)⟩,⟨snap_psks,okM okS 65536,bsM bsS,rt_listC sgn_rt (by decide)⟩,⟨snap_groups,okM (okRr stfG) 65536,bsM (bsRr stfG),rt_listN stf_rt 29 (by decide)⟩]
theorem snap_rt:RT snapC (okRr snapG) (bsRr snapG):=rt_rec (gs:=snapG) (fun x=>by cases x; rfl)
theorem snap_ok {x:SnapD} (h0:okM (okRr keptG) 65536 x.kept) (h1:okM okS 65536 x.psks) (h2:okM (okRr stfG) 65536 x.groups):okRr snapG x:=by
 intro g hg
 simp only [snapG,List.mem_cons,List.not_mem_nil,or_false] at hg
 rcases hg with rfl | rfl | rfl
 ·exact h0
 ·exact h1
 ·exact h2
section
variable {α : Type} {c : Cod α} {ok : α → Prop} {bs : α → List UInt8}
theorem rt_enc (g:RT c ok bs) {x:α} (h:ok x):encR c x=(⟨(bs x).toArray⟩,0):=by
 unfold encR
 simp only
 rw [g.put x [] h]
 simp
theorem rt_dec (g:RT c ok bs) {x:α} {d:ByteArray} (h:ok x) (hd:d.data.toList=bs x):decE c d=0∧(c.get ⟨d.data.toList,0⟩).1=x:=by
 have e:=g.get x [] h
 rw [List.append_nil] at e
 unfold decE
 rw [hd,e]
 simp
theorem rt_len (g:RT c ok bs) (hf:Fair c) {x:α} (h:ok x):(bs x).length≤c.cost x:=by
 have h1:=hf.len x ⟨[],0⟩
 rw [g.put x [] h] at h1
 simpa using h1
end
end Go.Proofs.YtogkkfdkeefjnaaGreatDoor.Codec
namespace Go.Proofs.YtogkkfdkeefjnaaGreatDoor.Codec
open Go.RowKit Go.Proofs.YtogkkfdkeefjnaaGreatDoorBase Go.Proofs.YtogkkfdkeefjnaaGreatDoorLex2 Go.Proofs.YtogkkfdkeefjnaaGreatDoorNum
set_option linter.unusedVariables false
set_option maxRecDepth 100000
set_option linter.unusedSimpArgs false
/-- Records' cells, one behind the other. -/
def FlatRep {α:Type} (c:Cod α) (N:Nat) (G:Nat→Prop) (w:World):List α→List Value→Prop
 | [],xs=>xs=[]
 | x :: l,xs=>∃ (cs:Array Value) (ys:List Value),xs=cs.toList ++ ys∧cs.size=N∧c.rep G w x (.agg cs)∧FlatRep c N G w l ys
/-- A row of n elements of N cells each. -/
structure RowInN (w:World) (A:Option Addr) (n N:Nat) (xs:List Value):Prop where
 len:xs.length=n * N
 max:n≤maxLen
 one:∀ u∈xs,u.oneCell'=true
 cell:0 < n→∃ b off,A=some ⟨b,off,none⟩∧b < w.heap.size∧∀ j u,xs[j]?=some u→w.cell? ⟨b,off+j,none⟩=some u
section
variable {α : Type} {c : Cod α} {N : Nat} {G : Nat → Prop} {w w' : World}
theorem flat_len:∀ {l:List α} {xs:List Value},FlatRep c N G w l xs→xs.length=l.length * N
 | [],xs,h=>by obtain rfl:=h; simp
 | x :: l,xs,h=>by
  obtain ⟨cs,ys,rfl,hs,_,hr⟩:=h
  rw [List.length_append,flat_len hr,Array.length_toList,hs,List.length_cons,Nat.add_mul]
  omega
theorem flat_one (hm:Many c N):∀ {l:List α} {xs:List Value},FlatRep c N G w l xs→∀ u∈xs,u.oneCell'=true
 | [],xs,h=>by obtain rfl:=h; intro u hu; cases hu
 | x :: l,xs,h=>by
  obtain ⟨cs,ys,rfl,hs,hc,hr⟩:=h
  intro u hu
  rcases List.mem_append.1 hu with hu | hu
  ·obtain ⟨ds,e,_,ha⟩:=hm _ _ _ _ hc
   obtain rfl:cs=ds:=by simpa using e
   exact Array.all_eq_true_iff_forall_mem.1 ha u (by simpa using hu)
  ·exact flat_one hm hr u hu
theorem flat_append:∀ {l l':List α} {xs ys:List Value},FlatRep c N G w l xs→FlatRep c N G w l' ys→FlatRep c N G w (l ++ l') (xs ++ ys)
 | [],l',xs,ys,h,h'=>by obtain rfl:=h; exact h'
 | x :: l,l',xs,ys,h,h'=>by
  obtain ⟨cs,zs,rfl,hs,hc,hr⟩:=h
  exact ⟨cs,zs ++ ys,by simp,hs,hc,flat_append hr h'⟩
theorem flat_single {x:α} {cs:Array Value} (hs:cs.size=N) (hc:c.rep G w x (.agg cs)):FlatRep c N G w [x] cs.toList:=⟨cs,[],by simp,hs,hc,rfl⟩
theorem flat_take:∀ {l:List α} {xs:List Value} (k:Nat),FlatRep c N G w l xs→FlatRep c N G w (l.take k) (xs.take (k * N))
 | l,xs,0,h=>by simp [FlatRep]
 | [],xs,k+1,h=>by obtain rfl:=h; simp [FlatRep]
 | x :: l,xs,k+1,h=>by
  obtain ⟨cs,ys,rfl,hs,hc,hr⟩:=h
  refine ⟨cs,ys.take (k * N),?_,hs,hc,flat_take k hr⟩
  have e:(k+1) * N=cs.toList.length+k * N:=by rw [Array.length_toList,hs,Nat.add_mul]; omega
  rw [e,List.take_length_add_append]
theorem flat_drop:∀ {l:List α} {xs:List Value} (k:Nat),FlatRep c N G w l xs→FlatRep c N G w (l.drop k) (xs.drop (k * N))
 | l,xs,0,h=>by simpa using h
 | [],xs,k+1,h=>by obtain rfl:=h; simp [FlatRep]
 | x :: l,xs,k+1,h=>by
  obtain ⟨cs,ys,rfl,hs,hc,hr⟩:=h
  have e:(k+1) * N=cs.toList.length+k * N:=by rw [Array.length_toList,hs,Nat.add_mul]; omega
  rw [e,List.drop_length_add_append]
  exact flat_drop k hr
theorem flat_mono (hf:Fair c) {G':Nat→Prop} (hG:∀ k,G k→G' k):∀ {l:List α} {xs:List Value},FlatRep c N G w l xs→FlatRep c N G' w l xs
 | [],xs,h=>h
 | x :: l,xs,h=>by
  obtain ⟨cs,ys,rfl,hs,hc,hr⟩:=h
  exact ⟨cs,ys,rfl,hs,hf.mono hG hc,flat_mono hf hG hr⟩
theorem flat_keep (hf:Fair c) (hk:∀ k,k < w.heap.size→G k→w'.heap[k]?=w.heap[k]?):∀ {l:List α} {xs:List Value},FlatRep c N G w l xs→FlatRep c N G w' l xs
 | [],xs,h=>h
 | x :: l,xs,h=>by
  obtain ⟨cs,ys,rfl,hs,hc,hr⟩:=h
  exact ⟨cs,ys,rfl,hs,hf.keep hc hk,flat_keep hf hk hr⟩
theorem flat_get:∀ {l:List α} {xs:List Value} {k:Nat} {x:α},FlatRep c N G w l xs→l[k]?=some x→∃ cs:Array Value,cs.size=N∧(∀ j u,cs[j]?=some u→xs[k * N+j]?=some u)∧c.rep G w x (.agg cs)
 | [],xs,k,x,h,hk=>by cases hk
 | y :: l,xs,0,x,h,hk=>by
  obtain ⟨cs,ys,rfl,hs,hc,hr⟩:=h
  obtain rfl:y=x:=by simpa using hk
  refine ⟨cs,hs,fun j u hu=>?_,hc⟩
  have hj:=(Array.getElem?_eq_some_iff.1 hu).1
  rw [Nat.zero_mul,Nat.zero_add,List.getElem?_append_left (by simpa using hj)]
  simpa using hu
 | y :: l,xs,k+1,x,h,hk=>by
  obtain ⟨cs,ys,rfl,hs,hc,hr⟩:=h
  obtain ⟨ds,h1,h2,h3⟩:=flat_get hr (by simpa using hk)
  refine ⟨ds,h1,fun j u hu=>?_,h3⟩
  have e:(k+1) * N+j=cs.toList.length+(k * N+j):=by rw [Array.length_toList,hs,Nat.add_mul]; omega
  rw [e,List.getElem?_append_right (by omega),Nat.add_sub_cancel_left]
  exact h2 j u hu
theorem flat_cells {b:Nat}:∀ (l:List α) (off:Nat),(∀ k x,l[k]?=some x→∃ cs:Array Value,cs.size=N∧CellsAt w b (off+k * N) cs∧c.rep G w x (.agg cs))→∃ xs,FlatRep c N G w l xs∧∀ j u,xs[j]?=some u→w.cell? ⟨b,off+j,none⟩=some u
 | [],off,h=>⟨[],rfl,fun j u hu=>by cases hu⟩
 | x :: l,off,h=>by
  obtain ⟨cs,hs,hc,hr⟩:=h 0 x rfl
  obtain ⟨ys,h1,h2⟩:=flat_cells l (off+N) (fun k y hk=>by
   obtain ⟨ds,e1,e2,e3⟩:=h (k+1) y (by simpa using hk)
   refine ⟨ds,e1,?_,e3⟩
   rw [show off+N+k * N=off+(k+1) * N by rw [Nat.add_mul]; omega]
   exact e2)
  refine ⟨cs.toList ++ ys,⟨cs,ys,rfl,hs,hr,h1⟩,fun j u hu=>?_⟩
  rcases Nat.lt_or_ge j N with hj | hj
  ·rw [List.getElem?_append_left (by simpa [hs] using hj)] at hu
   have:=hc j u (by simpa using hu)
   simpa using this
  ·rw [List.getElem?_append_right (by simpa [hs] using hj)] at hu
   have:=h2 (j - N) u (by simpa [hs] using hu)
   rw [show off+j=off+N+(j - N) by omega]
   exact this
theorem flat_of_row (hm:Many c N) {l:List α} {v:Value} (h:RowRepN c N G w l v):∃ A cp xs,v=.slice A l.length cp∧FlatRep c N G w l xs∧RowInN w A l.length N xs∧(0 < l.length→∃ b off,A=some ⟨b,off,none⟩∧G b):=by
 obtain ⟨A,n,cp,rfl,rfl,hmx,hc⟩:=h
 by_cases h0:0 < l.length
 ·obtain ⟨b,off,rfl,hb,hl,hx⟩:=hc h0
  obtain ⟨xs,h1,h2⟩:=flat_cells (c:=c) (N:=N) (G:=G) l off hx
  exact ⟨_,cp,xs,rfl,h1,⟨flat_len h1,hmx,flat_one hm h1,fun _=>⟨b,off,rfl,hl,h2⟩⟩,fun _=>⟨b,off,rfl,hb⟩⟩
 ·obtain rfl:l=[]:=by cases l with | nil=>rfl | cons x l=>simp at h0
  exact ⟨A,cp,[],rfl,rfl,⟨by simp,hmx,(fun u hu=>by cases hu),fun h=>absurd h h0⟩,fun h=>absurd h h0⟩
theorem row_of_flat {base:Nat} {e:TypeId} {l:List α} {xs:List Value} {v:Value} (ho:w.ownsRow base e N v l.length xs) (hf:FlatRep c N G w l xs) (hG:∀ b,v.ownBlock=some b→G b):RowRepN c N G w l v:=by
 rcases ho.2 with ⟨rfl,h0⟩ | ⟨g,cap,cur,rfl,hb,hg,hnc,hcm,hcs,htake⟩
 ·exact ⟨none,0,0,rfl,h0.symm,Nat.zero_le _,fun h=>absurd h (Nat.lt_irrefl 0)⟩
 ·refine ⟨_,_,_,rfl,rfl,Nat.le_trans hnc hcm,fun _=>⟨g,0,rfl,hG g rfl,blk_lt hg,fun k x hk=>?_⟩⟩
  obtain ⟨cs,hs,hu,hr⟩:=flat_get hf hk
  refine ⟨cs,hs,fun j v hj=>?_,hr⟩
  have:=ho.cells (g:=g) rfl _ v (hu j v hj)
  rw [Addr.add_lit] at this
  rw [← this]
  congr 2
  omega
theorem RowInN.keep {A:Option Addr} {n:Nat} {xs:List Value} {F:Nat→Prop} (h:RowInN w A n N xs) (hk:Kept w w' F) (hF:∀ b o,A=some ⟨b,o,none⟩→¬ F b):RowInN w' A n N xs:=by
 refine ⟨h.len,h.max,h.one,fun h0=>?_⟩
 obtain ⟨b,off,rfl,hb,hx⟩:=h.cell h0
 refine ⟨b,off,rfl,Nat.lt_of_lt_of_le hb hk.size,fun j u hu=>?_⟩
 rw [← hx j u hu]
 simp only [World.cell?,hk.block b hb (hF b off rfl)]
theorem RowInN.src {A:Option Addr} {n cp:Nat} {xs:List Value} {T e:TypeId} (h:RowInN w A n N xs) (hu:Tryz.prog.underlying T=some (.slice e)):Src Tryz.prog N T (.slice A n cp) n xs w:=by
 by_cases h0:0 < n
 ·obtain ⟨b,off,rfl,hb,hx⟩:=h.cell h0
  exact Src.ofSlice _ hu _ n cp _ h.len (fun j u hj=>by rw [Addr.add_lit]; exact hx j u hj) h.one
 ·obtain rfl:n=0:=by omega
  have:xs=[]:=List.eq_nil_of_length_eq_zero (by simpa using h.len)
  subst this
  cases A with
  | none=>exact Src.ofNil _ hu _
  | some a=>exact Src.ofSlice _ hu a 0 cp [] (by simp) (fun j u h=>by cases h) (fun u h=>by cases h)
end
/-- The place of a group's state. -/
def ix (l:List StfD) (id:Int):Option Nat:=l.findIdx? fun x=>decide (x.s.id=id)
theorem stf_id {G:Nat→Prop} {w:World} {x:StfD} {cs:Array Value} (h:stfC.rep G w x (.agg cs)):cs.size=29∧cs.all (·.oneCell')=true∧cs[0]?=some (.int .i64 x.s.id):=by
 obtain ⟨ds,e,hs,ha,hr⟩:=h
 obtain rfl:cs=ds:=by simpa using e
 refine ⟨hs,ha,?_⟩
 have h0:sgnC.rep G w x.s.id (cs.getD 0 undef):=hr (liftP stat_id) (List.mem_append_left _ (List.mem_map.2 ⟨stat_id,by simp [statP],rfl⟩))
 have h1:cs.getD 0 undef=.int .i64 x.s.id:=h0.1
 rw [Array.getElem?_eq_getElem (by omega)]
 rw [← h1]
 simp [Array.getD,hs]
end Go.Proofs.YtogkkfdkeefjnaaGreatDoor.Codec
namespace Go.Proofs.YtogkkfdkeefjnaaGreatDoor.Codec
open Go.RowKit Go.Proofs.YtogkkfdkeefjnaaGreatDoorBase Go.Proofs.YtogkkfdkeefjnaaGreatDoorLex2 Go.Proofs.YtogkkfdkeefjnaaGreatDoorNum
set_option linter.unusedVariables false
set_option maxRecDepth 100000
set_option linter.unusedSimpArgs false
set_option maxHeartbeats 12800000 in
theorem states_zero (w:World):Calls Tryz.prog 67 #[.int .i64 0] w fun r w'=>∃ a b,r=.returned (.agg #[a,b])∧a.oneCell'=true∧b.oneCell'=true∧Kept w w' (fun _=>False)∧∀ W',From w.heap.size w' W'→IsCodec W' (.agg #[a,b]) statC:=by
 go_enter Tryz.func67,Tryz.ntmps67
 go_wp2_with (fail)
 have SZ:Hid ((w.alloc (.cells #[.nilFunc,.nilFunc] 185)).heap.size≤(w.alloc (.cells #[.nilFunc,.nilFunc] 185)).heap.size):=lh (Nat.le_refl _)
 have HR:=lh (heap_alloc_new w (.cells #[.nilFunc,.nilFunc] 185))
 have KW:=lh ((Kept.refl w (fun _=>False)).alloc (.cells #[.nilFunc,.nilFunc] 185))
 have B0:=lh (show w.heap.size < (w.alloc (.cells #[.nilFunc,.nilFunc] 185)).heap.size by simp)
 obtain ⟨b0,hb0⟩:∃ b0,(w.alloc (.cells #[.nilFunc,.nilFunc] 185)).heap.size=b0:=⟨_,rfl⟩
 obtain ⟨v0,hv0⟩:∃ v0,w.alloc (.cells #[.nilFunc,.nilFunc] 185)=v0:=⟨_,rfl⟩
 have SZ:Hid (b0≤(w.alloc (.cells #[.nilFunc,.nilFunc] 185)).heap.size):=lh (Nat.le_of_eq hb0.symm)
 rw [hb0] at B0
 rw [hv0] at SZ HR KW ⊢
 clear hb0 hv0
 refine (props_new _).mono ?_
 rintro e v1 ⟨a1,b1,rfl,-,-,hk,hc⟩
 have D1:=lh (fresh_from SZ.out hc)
 replace SZ:=szk SZ hk
 replace HR:=kb hk HR
 replace KW:=kt KW hk
 clear hk hc
 go_wp2_with (fail)
 refine (fieldN_offerProp_groupCached 107 (Proofs.enters_of Tryz.func107 (by kernel_rfl) rfl) a1 b1 _).mono ?_
 rintro e v2 ⟨a2,b2,rfl,-,-,hk,hc⟩
 have D2:=lh (fresh_from SZ.out hc)
 replace SZ:=szk SZ hk
 replace D1:=cy D1 hk
 replace HR:=kb hk HR
 replace KW:=kt KW hk
 clear hk hc
 have P2:Hid (∀ W',From b0 v2 W'→PPut W' 231 12 a2 cach_prop∧PGet W' 231 12 b2 cach_prop):=lh (fun W' hW=>D2.out W' hW (propC) propC_fair propC_many 0 12 (by decide) (fun x:CachD=>x.prop) (fun y x=>{ x with prop:=y }) (D1.out W' hW) get_cach_prop)
 clear D2 D1
 go_wp2_with (fail)
 refine (numberN_groupCached 110 (Proofs.enters_of Tryz.func110 (by kernel_rfl) rfl) _).mono ?_
 rintro e v3 ⟨a3,b3,rfl,-,-,hk,hc⟩
 have D3:=lh (fresh_from SZ.out hc)
 replace SZ:=szk SZ hk
 replace P2:=cy P2 hk
 replace HR:=kb hk HR
 replace KW:=kt KW hk
 clear hk hc
 have P3:Hid (∀ W',From b0 v3 W'→PPut W' 231 12 a3 cach_ref∧PGet W' 231 12 b3 cach_ref):=lh (fun W' hW=>D3.out W' hW 11 12 (by decide) (fun x:CachD=>x.ref) (fun y x=>{ x with ref:=y }) get_cach_ref)
 clear D3
 go_wp2_with (fail)
 have kq:=(Kept.refl v3 (fun _=>False)).alloc (.cells #[a2,b2,a3,b3] 235)
 have HP:=lh (heap_alloc_new v3 (.cells #[a2,b2,a3,b3] 235))
 have LP:=lh SZ.out
 replace P2:=cy P2 kq
 replace P3:=cy P3 kq
 replace HR:=kb kq HR
 replace KW:=kt KW kq
 replace SZ:=szk SZ kq
 obtain ⟨pb,hpb⟩:∃ pb,v3.heap.size=pb:=⟨_,rfl⟩
 obtain ⟨v4,hv⟩:∃ v4,v3.alloc (.cells #[a2,b2,a3,b3] 235)=v4:=⟨_,rfl⟩
 rw [hv] at SZ KW HP P2 P3 HR ⊢
 rw [hpb] at HP LP ⊢
 clear hpb hv kq
 refine (recordN_groupCached pb 2 2 (by decide) (by decide) _).mono ?_
 rintro e v5 ⟨a4,b4,rfl,ha,hb,hk,hc⟩
 have D4:=lh (fresh_from SZ.out hc)
 replace SZ:=szk SZ hk
 replace P2:=cy P2 hk
 replace P3:=cy P3 hk
 replace HR:=kb hk HR
 replace HP:=kb hk HP
 replace KW:=kt KW hk
 have A4:=lh ha
 have B4:=lh hb
 clear hk hc ha hb
 have CC:Hid (∀ W',From b0 v5 W'→IsCodec W' (.agg #[a4,b4]) cachC):=lh (fun W' hW=>by
   have hpa:W'.heap[pb]?=_:=hW.blk LP.out HP.out
   refine D4.out W' hW cachP rfl cachP_fair cachP_off CachZ (by decide) ⟨blk_lt hpa,fun k p hp=>?_⟩
   match k,hp with
   | 0,hp=>obtain rfl:=Option.some.inj hp; exact ⟨a2,b2,cellOf hpa,cellOf hpa,(P2.out W' hW).1,(P2.out W' hW).2⟩
   | 1,hp=>obtain rfl:=Option.some.inj hp; exact ⟨a3,b3,cellOf hpa,cellOf hpa,(P3.out W' hW).1,(P3.out W' hW).2⟩
   | k+2,hp=>simp [cachP] at hp)
 clear D4 P2 P3
 clear HP LP
 have HZ:=lh (heap_alloc_new v5 (.cells #[.nilFunc,.nilFunc] 228))
 obtain ⟨kq,hq⟩:=setRow_new (w:=v5) (Z:=#[.nilFunc,.nilFunc]) (cs:=#[a4,b4]) (T:=228)
 have KQ:=lh kq
 have HC:=lh hq
 clear kq hq
 go_wp2_with (first | refine wpList_store_row rfl 228 (.tmp 3) (.tmp 10) rfl v5.heap.size #[a4,b4] rfl rfl _ _ HZ.out (by kernel_rfl) rfl (by simp [A4.out,B4.out]) ?_)
 replace CC:=cy CC KQ.out
 replace HR:=kb KQ.out HR
 replace KW:=kt KW KQ.out
 replace SZ:=szk SZ KQ.out
 obtain ⟨qHC,hq⟩:∃ qHC,v5.heap.size=qHC:=⟨_,rfl⟩
 obtain ⟨v6,hv⟩:∃ v6,(v5.alloc (.cells #[.nilFunc,.nilFunc] 228)).setRow v5.heap.size #[a4,b4]=v6:=⟨_,rfl⟩
 rw [hv] at SZ KW HC CC HR ⊢
 rw [hq] at HC ⊢
 clear hv hq HZ KQ
 go_wp2_with (fail)
 refine (numberN_groupUpdate 113 (Proofs.enters_of Tryz.func113 (by kernel_rfl) rfl) _).mono ?_
 rintro e v7 ⟨a5,b5,rfl,-,-,hk,hc⟩
 have D5:=lh (fresh_from SZ.out hc)
 replace SZ:=szk SZ hk
 replace CC:=cy CC hk
 replace HR:=kb hk HR
 replace HC:=kb hk HC
 replace KW:=kt KW hk
 clear hk hc
 have P5:Hid (∀ W',From b0 v7 W'→PPut W' 253 2 a5 updt_key∧PGet W' 253 2 b5 updt_key):=lh (fun W' hW=>D5.out W' hW 0 2 (by decide) (fun x:UpdtD=>x.key) (fun y x=>{ x with key:=y }) get_updt_key)
 clear D5
 go_wp2_with (fail)
 refine (numberN_groupUpdate 114 (Proofs.enters_of Tryz.func114 (by kernel_rfl) rfl) _).mono ?_
 rintro e v8 ⟨a6,b6,rfl,-,-,hk,hc⟩
 have D6:=lh (fresh_from SZ.out hc)
 replace SZ:=szk SZ hk
 replace CC:=cy CC hk
 replace P5:=cy P5 hk
 replace HR:=kb hk HR
 replace HC:=kb hk HC
 replace KW:=kt KW hk
 clear hk hc
 have P6:Hid (∀ W',From b0 v8 W'→PPut W' 253 2 a6 updt_secret∧PGet W' 253 2 b6 updt_secret):=lh (fun W' hW=>D6.out W' hW 1 2 (by decide) (fun x:UpdtD=>x.secret) (fun y x=>{ x with secret:=y }) get_updt_secret)
 clear D6
 go_wp2_with (fail)
 have kq:=(Kept.refl v8 (fun _=>False)).alloc (.cells #[a5,b5,a6,b6] 257)
 have HP:=lh (heap_alloc_new v8 (.cells #[a5,b5,a6,b6] 257))
 have LP:=lh SZ.out
 replace CC:=cy CC kq
 replace P5:=cy P5 kq
 replace P6:=cy P6 kq
 replace HR:=kb kq HR
 replace HC:=kb kq HC
 replace KW:=kt KW kq
 replace SZ:=szk SZ kq
 obtain ⟨pb,hpb⟩:∃ pb,v8.heap.size=pb:=⟨_,rfl⟩
 obtain ⟨v9,hv⟩:∃ v9,v8.alloc (.cells #[a5,b5,a6,b6] 257)=v9:=⟨_,rfl⟩
 rw [hv] at SZ KW HP CC P5 P6 HR HC ⊢
 rw [hpb] at HP LP ⊢
 clear hpb hv kq
 refine (recordN_groupUpdate pb 2 2 (by decide) (by decide) _).mono ?_
 rintro e v10 ⟨a7,b7,rfl,ha,hb,hk,hc⟩
 have D7:=lh (fresh_from SZ.out hc)
 replace SZ:=szk SZ hk
 replace CC:=cy CC hk
 replace P5:=cy P5 hk
 replace P6:=cy P6 hk
 replace HR:=kb hk HR
 replace HC:=kb hk HC
 replace HP:=kb hk HP
 replace KW:=kt KW hk
 have A7:=lh ha
 have B7:=lh hb
 clear hk hc ha hb
 have CU:Hid (∀ W',From b0 v10 W'→IsCodec W' (.agg #[a7,b7]) updtC):=lh (fun W' hW=>by
   have hpa:W'.heap[pb]?=_:=hW.blk LP.out HP.out
   refine D7.out W' hW updtP rfl updtP_fair updtP_off UpdtZ (by decide) ⟨blk_lt hpa,fun k p hp=>?_⟩
   match k,hp with
   | 0,hp=>obtain rfl:=Option.some.inj hp; exact ⟨a5,b5,cellOf hpa,cellOf hpa,(P5.out W' hW).1,(P5.out W' hW).2⟩
   | 1,hp=>obtain rfl:=Option.some.inj hp; exact ⟨a6,b6,cellOf hpa,cellOf hpa,(P6.out W' hW).1,(P6.out W' hW).2⟩
   | k+2,hp=>simp [updtP] at hp)
 clear D7 P5 P6
 clear HP LP
 have HZ:=lh (heap_alloc_new v10 (.cells #[.nilFunc,.nilFunc] 250))
 obtain ⟨kq,hq⟩:=setRow_new (w:=v10) (Z:=#[.nilFunc,.nilFunc]) (cs:=#[a7,b7]) (T:=250)
 have KQ:=lh kq
 have HU:=lh hq
 clear kq hq
 go_wp2_with (first | refine wpList_store_row rfl 250 (.tmp 4) (.tmp 14) rfl v10.heap.size #[a7,b7] rfl rfl _ _ HZ.out (by kernel_rfl) rfl (by simp [A7.out,B7.out]) ?_)
 replace CC:=cy CC KQ.out
 replace CU:=cy CU KQ.out
 replace HR:=kb KQ.out HR
 replace HC:=kb KQ.out HC
 replace KW:=kt KW KQ.out
 replace SZ:=szk SZ KQ.out
 obtain ⟨qHU,hq⟩:∃ qHU,v10.heap.size=qHU:=⟨_,rfl⟩
 obtain ⟨v11,hv⟩:∃ v11,(v10.alloc (.cells #[.nilFunc,.nilFunc] 250)).setRow v10.heap.size #[a7,b7]=v11:=⟨_,rfl⟩
 rw [hv] at SZ KW HU CC CU HR HC ⊢
 rw [hq] at HU ⊢
 clear hv hq HZ KQ
 have c0:=cellOf (j:=0) HC.out
 have c1:=cellOf (j:=1) HC.out
 have c2:=cellOf (j:=0) HU.out
 have c3:=cellOf (j:=1) HU.out
 simp at c0 c1 c2 c3
 go_wp2_with (fail)
 refine wp_region_lex (fun w'=>w'.cell? ⟨qHC,0,none⟩=some a4∧w'.cell? ⟨qHC,1,none⟩=some b4∧w'.cell? ⟨qHU,0,none⟩=some a7∧w'.cell? ⟨qHU,1,none⟩=some b7) [2,2,2,2,2,2,2,2,2,2,2,2,2,2,2,2,3,2,2,3,4,4,4,4,4,4,4,4,0] (by kernel_rfl) (by kernel_rfl) (by kernel_rfl) (⟨c0,c1,c2,c3⟩) (fun Q' hQ'=>?_)
 simp only [List.zip_cons_cons,List.zip_nil_right]
 obtain ⟨v12,hv⟩:∃ v12,v11.drew=v12:=⟨_,rfl⟩
 have kq:=(Kept.refl v11 (fun _=>False)).drew
 replace SZ:Hid (b0≤v11.drew.heap.size):=lh SZ.out
 replace CC:=cy CC kq
 replace CU:=cy CU kq
 replace HR:=kb kq HR
 replace HC:=kb kq HC
 replace HU:=kb kq HU
 replace KW:=kt KW kq
 replace c0:v11.drew.cell? ⟨qHC,0,none⟩=some a4:=c0
 replace c1:v11.drew.cell? ⟨qHC,1,none⟩=some b4:=c1
 replace c2:v11.drew.cell? ⟨qHU,0,none⟩=some a7:=c2
 replace c3:v11.drew.cell? ⟨qHU,1,none⟩=some b7:=c3
 rw [hv] at SZ KW c0 c1 c2 c3 CC CU HR HC HU ⊢
 clear hv kq
 repeat((first|(refine wpX_silent ?_ fun K hK=>?_;rfl;apply Exists.intro;refine ⟨fun w'=>?_,?_⟩;go_simp;exact⟨rfl,rfl⟩)|(refine wpX_read ?_ fun K hK=>?_;rfl;apply Exists.intro;refine ⟨?_,?_⟩;go_simp;exact⟨rfl,rfl⟩)|(refine wpX_float ?_ fun K hK=>?_;rfl;apply Exists.intro;refine ⟨fun w' hw'=>?_,?_⟩;(try dsimp only at hw');go_simp;exact⟨rfl,rfl⟩)|(refine wpX_not ?_ fun K hK=>?_;rfl));go_simp;refine hK _ _ ?_;clear hK K)
 refine wpX_keeps ?_ (fun K hK=>?_)
 ·rfl
 go_wp2_with (fail)
 refine (numberN_groupState 116 (Proofs.enters_of Tryz.func116 (by kernel_rfl) rfl) _).mono ?_
 rintro e v13 ⟨a8,b8,rfl,-,-,hk,hc⟩
 have D8:=lh (fresh_from SZ.out hc)
 replace SZ:=szk SZ hk
 replace CC:=cy CC hk
 replace CU:=cy CU hk
 replace HR:=kb hk HR
 replace HC:=kb hk HC
 replace HU:=kb hk HU
 replace KW:=kt KW hk
 clear hk hc c0 c1 c2 c3
 have c0:=cellOf (j:=0) HC.out
 have c1:=cellOf (j:=1) HC.out
 have c2:=cellOf (j:=0) HU.out
 have c3:=cellOf (j:=1) HU.out
 simp at c0 c1 c2 c3
 go_simp
 refine hK _ _ ⟨rfl,⟨c0,c1,c2,c3⟩,?_⟩
 clear hK K
 have P8:Hid (∀ W',From b0 v13 W'→PPut W' 75 29 a8 stat_id∧PGet W' 75 29 b8 stat_id):=lh (fun W' hW=>D8.out W' hW 0 29 (by decide) (fun x:StatD=>x.id) (fun y x=>{ x with id:=y }) get_stat_id)
 clear D8
 repeat((first|(refine wpX_silent ?_ fun K hK=>?_;rfl;apply Exists.intro;refine ⟨fun w'=>?_,?_⟩;go_simp;exact⟨rfl,rfl⟩)|(refine wpX_read ?_ fun K hK=>?_;rfl;apply Exists.intro;refine ⟨?_,?_⟩;go_simp;exact⟨rfl,rfl⟩)|(refine wpX_float ?_ fun K hK=>?_;rfl;apply Exists.intro;refine ⟨fun w' hw'=>?_,?_⟩;(try dsimp only at hw');go_simp;exact⟨rfl,rfl⟩)|(refine wpX_not ?_ fun K hK=>?_;rfl));go_simp;refine hK _ _ ?_;clear hK K)
 refine wpX_keeps ?_ (fun K hK=>?_)
 ·rfl
 go_wp2_with (fail)
 refine (numberN_groupState 117 (Proofs.enters_of Tryz.func117 (by kernel_rfl) rfl) _).mono ?_
 rintro e v14 ⟨a9,b9,rfl,-,-,hk,hc⟩
 have D9:=lh (fresh_from SZ.out hc)
 replace SZ:=szk SZ hk
 replace CC:=cy CC hk
 replace CU:=cy CU hk
 replace P8:=cy P8 hk
 replace HR:=kb hk HR
 replace HC:=kb hk HC
 replace HU:=kb hk HU
 replace KW:=kt KW hk
 clear hk hc c0 c1 c2 c3
 have c0:=cellOf (j:=0) HC.out
 have c1:=cellOf (j:=1) HC.out
 have c2:=cellOf (j:=0) HU.out
 have c3:=cellOf (j:=1) HU.out
 simp at c0 c1 c2 c3
 go_simp
 refine hK _ _ ⟨rfl,⟨c0,c1,c2,c3⟩,?_⟩
 clear hK K
 have P9:Hid (∀ W',From b0 v14 W'→PPut W' 75 29 a9 stat_epoch∧PGet W' 75 29 b9 stat_epoch):=lh (fun W' hW=>D9.out W' hW 1 29 (by decide) (fun x:StatD=>x.epoch) (fun y x=>{ x with epoch:=y }) get_stat_epoch)
 clear D9
 repeat((first|(refine wpX_silent ?_ fun K hK=>?_;rfl;apply Exists.intro;refine ⟨fun w'=>?_,?_⟩;go_simp;exact⟨rfl,rfl⟩)|(refine wpX_read ?_ fun K hK=>?_;rfl;apply Exists.intro;refine ⟨?_,?_⟩;go_simp;exact⟨rfl,rfl⟩)|(refine wpX_float ?_ fun K hK=>?_;rfl;apply Exists.intro;refine ⟨fun w' hw'=>?_,?_⟩;(try dsimp only at hw');go_simp;exact⟨rfl,rfl⟩)|(refine wpX_not ?_ fun K hK=>?_;rfl));go_simp;refine hK _ _ ?_;clear hK K)
 refine wpX_keeps ?_ (fun K hK=>?_)
 ·rfl
 go_wp2_with (fail)
 refine (numberN_groupState 118 (Proofs.enters_of Tryz.func118 (by kernel_rfl) rfl) _).mono ?_
 rintro e v15 ⟨a10,b10,rfl,-,-,hk,hc⟩
 have D10:=lh (fresh_from SZ.out hc)
 replace SZ:=szk SZ hk
 replace CC:=cy CC hk
 replace CU:=cy CU hk
 replace P8:=cy P8 hk
 replace P9:=cy P9 hk
 replace HR:=kb hk HR
 replace HC:=kb hk HC
 replace HU:=kb hk HU
 replace KW:=kt KW hk
 clear hk hc c0 c1 c2 c3
 have c0:=cellOf (j:=0) HC.out
 have c1:=cellOf (j:=1) HC.out
 have c2:=cellOf (j:=0) HU.out
 have c3:=cellOf (j:=1) HU.out
 simp at c0 c1 c2 c3
 go_simp
 refine hK _ _ ⟨rfl,⟨c0,c1,c2,c3⟩,?_⟩
 clear hK K
 have P10:Hid (∀ W',From b0 v15 W'→PPut W' 75 29 a10 stat_me∧PGet W' 75 29 b10 stat_me):=lh (fun W' hW=>D10.out W' hW 2 29 (by decide) (fun x:StatD=>x.me) (fun y x=>{ x with me:=y }) get_stat_me)
 clear D10
 repeat((first|(refine wpX_silent ?_ fun K hK=>?_;rfl;apply Exists.intro;refine ⟨fun w'=>?_,?_⟩;go_simp;exact⟨rfl,rfl⟩)|(refine wpX_read ?_ fun K hK=>?_;rfl;apply Exists.intro;refine ⟨?_,?_⟩;go_simp;exact⟨rfl,rfl⟩)|(refine wpX_float ?_ fun K hK=>?_;rfl;apply Exists.intro;refine ⟨fun w' hw'=>?_,?_⟩;(try dsimp only at hw');go_simp;exact⟨rfl,rfl⟩)|(refine wpX_not ?_ fun K hK=>?_;rfl));go_simp;refine hK _ _ ?_;clear hK K)
 refine wpX_keeps ?_ (fun K hK=>?_)
 ·rfl
 go_wp2_with (fail)
 refine (verts_new _).mono ?_
 rintro e v16 ⟨a11,b11,rfl,-,-,hk,hc⟩
 have D11:=lh (fresh_from SZ.out hc)
 replace SZ:=szk SZ hk
 replace CC:=cy CC hk
 replace CU:=cy CU hk
 replace P8:=cy P8 hk
 replace P9:=cy P9 hk
 replace P10:=cy P10 hk
 replace HR:=kb hk HR
 replace HC:=kb hk HC
 replace HU:=kb hk HU
 replace KW:=kt KW hk
 clear hk hc c0 c1 c2 c3
 have c0:=cellOf (j:=0) HC.out
 have c1:=cellOf (j:=1) HC.out
 have c2:=cellOf (j:=0) HU.out
 have c3:=cellOf (j:=1) HU.out
 simp at c0 c1 c2 c3
 go_simp
 refine hK _ _ ⟨rfl,⟨c0,c1,c2,c3⟩,?_⟩
 clear hK K
 repeat((first|(refine wpX_silent ?_ fun K hK=>?_;rfl;apply Exists.intro;refine ⟨fun w'=>?_,?_⟩;go_simp;exact⟨rfl,rfl⟩)|(refine wpX_read ?_ fun K hK=>?_;rfl;apply Exists.intro;refine ⟨?_,?_⟩;go_simp;exact⟨rfl,rfl⟩)|(refine wpX_float ?_ fun K hK=>?_;rfl;apply Exists.intro;refine ⟨fun w' hw'=>?_,?_⟩;(try dsimp only at hw');go_simp;exact⟨rfl,rfl⟩)|(refine wpX_not ?_ fun K hK=>?_;rfl));go_simp;refine hK _ _ ?_;clear hK K)
 refine wpX_keeps ?_ (fun K hK=>?_)
 ·rfl
 go_wp2_with (fail)
 refine (listN_apiVertex a11 b11 _).mono ?_
 rintro e v17 ⟨a12,b12,rfl,-,-,hk,hc⟩
 have D12:=lh (fresh_from SZ.out hc)
 replace SZ:=szk SZ hk
 replace CC:=cy CC hk
 replace CU:=cy CU hk
 replace P8:=cy P8 hk
 replace P9:=cy P9 hk
 replace P10:=cy P10 hk
 replace D11:=cy D11 hk
 replace HR:=kb hk HR
 replace HC:=kb hk HC
 replace HU:=kb hk HU
 replace KW:=kt KW hk
 clear hk hc c0 c1 c2 c3
 have c0:=cellOf (j:=0) HC.out
 have c1:=cellOf (j:=1) HC.out
 have c2:=cellOf (j:=0) HU.out
 have c3:=cellOf (j:=1) HU.out
 simp at c0 c1 c2 c3
 go_simp
 refine hK _ _ ⟨rfl,⟨c0,c1,c2,c3⟩,?_⟩
 clear hK K
 repeat((first|(refine wpX_silent ?_ fun K hK=>?_;rfl;apply Exists.intro;refine ⟨fun w'=>?_,?_⟩;go_simp;exact⟨rfl,rfl⟩)|(refine wpX_read ?_ fun K hK=>?_;rfl;apply Exists.intro;refine ⟨?_,?_⟩;go_simp;exact⟨rfl,rfl⟩)|(refine wpX_float ?_ fun K hK=>?_;rfl;apply Exists.intro;refine ⟨fun w' hw'=>?_,?_⟩;(try dsimp only at hw');go_simp;exact⟨rfl,rfl⟩)|(refine wpX_not ?_ fun K hK=>?_;rfl));go_simp;refine hK _ _ ?_;clear hK K)
 refine wpX_keeps ?_ (fun K hK=>?_)
 ·rfl
 go_wp2_with (fail)
 refine (fieldN_lapiVertex_groupState 120 (Proofs.enters_of Tryz.func120 (by kernel_rfl) rfl) a12 b12 _).mono ?_
 rintro e v18 ⟨a13,b13,rfl,-,-,hk,hc⟩
 have D13:=lh (fresh_from SZ.out hc)
 replace SZ:=szk SZ hk
 replace CC:=cy CC hk
 replace CU:=cy CU hk
 replace P8:=cy P8 hk
 replace P9:=cy P9 hk
 replace P10:=cy P10 hk
 replace D11:=cy D11 hk
 replace D12:=cy D12 hk
 replace HR:=kb hk HR
 replace HC:=kb hk HC
 replace HU:=kb hk HU
 replace KW:=kt KW hk
 clear hk hc c0 c1 c2 c3
 have c0:=cellOf (j:=0) HC.out
 have c1:=cellOf (j:=1) HC.out
 have c2:=cellOf (j:=0) HU.out
 have c3:=cellOf (j:=1) HU.out
 simp at c0 c1 c2 c3
 go_simp
 refine hK _ _ ⟨rfl,⟨c0,c1,c2,c3⟩,?_⟩
 clear hK K
 have P13:Hid (∀ W',From b0 v18 W'→PPut W' 75 29 a13 stat_tree∧PGet W' 75 29 b13 stat_tree):=lh (fun W' hW=>D13.out W' hW (listN vertC 6 65536) (listN_fair vertC_fair 6 65536) (listN_one vertC 6 65536) 3 29 (by decide) (fun x:StatD=>x.tree) (fun y x=>{ x with tree:=y }) (D12.out W' hW vertC vertC_fair vertC_many (D11.out W' hW)) get_stat_tree)
 clear D13 D11 D12
 repeat((first|(refine wpX_silent ?_ fun K hK=>?_;rfl;apply Exists.intro;refine ⟨fun w'=>?_,?_⟩;go_simp;exact⟨rfl,rfl⟩)|(refine wpX_read ?_ fun K hK=>?_;rfl;apply Exists.intro;refine ⟨?_,?_⟩;go_simp;exact⟨rfl,rfl⟩)|(refine wpX_float ?_ fun K hK=>?_;rfl;apply Exists.intro;refine ⟨fun w' hw'=>?_,?_⟩;(try dsimp only at hw');go_simp;exact⟨rfl,rfl⟩)|(refine wpX_not ?_ fun K hK=>?_;rfl));go_simp;refine hK _ _ ?_;clear hK K)
 refine wpX_keeps ?_ (fun K hK=>?_)
 ·rfl
 go_wp2_with (fail)
 refine (secrs_new _).mono ?_
 rintro e v19 ⟨a14,b14,rfl,-,-,hk,hc⟩
 have D14:=lh (fresh_from SZ.out hc)
 replace SZ:=szk SZ hk
 replace CC:=cy CC hk
 replace CU:=cy CU hk
 replace P8:=cy P8 hk
 replace P9:=cy P9 hk
 replace P10:=cy P10 hk
 replace P13:=cy P13 hk
 replace HR:=kb hk HR
 replace HC:=kb hk HC
 replace HU:=kb hk HU
 replace KW:=kt KW hk
 clear hk hc c0 c1 c2 c3
 have c0:=cellOf (j:=0) HC.out
 have c1:=cellOf (j:=1) HC.out
 have c2:=cellOf (j:=0) HU.out
 have c3:=cellOf (j:=1) HU.out
 simp at c0 c1 c2 c3
 go_simp
 refine hK _ _ ⟨rfl,⟨c0,c1,c2,c3⟩,?_⟩
 clear hK K
 repeat((first|(refine wpX_silent ?_ fun K hK=>?_;rfl;apply Exists.intro;refine ⟨fun w'=>?_,?_⟩;go_simp;exact⟨rfl,rfl⟩)|(refine wpX_read ?_ fun K hK=>?_;rfl;apply Exists.intro;refine ⟨?_,?_⟩;go_simp;exact⟨rfl,rfl⟩)|(refine wpX_float ?_ fun K hK=>?_;rfl;apply Exists.intro;refine ⟨fun w' hw'=>?_,?_⟩;(try dsimp only at hw');go_simp;exact⟨rfl,rfl⟩)|(refine wpX_not ?_ fun K hK=>?_;rfl));go_simp;refine hK _ _ ?_;clear hK K)
 refine wpX_keeps ?_ (fun K hK=>?_)
 ·rfl
 go_wp2_with (fail)
 refine (listN_kemSecret a14 b14 _).mono ?_
 rintro e v20 ⟨a15,b15,rfl,-,-,hk,hc⟩
 have D15:=lh (fresh_from SZ.out hc)
 replace SZ:=szk SZ hk
 replace CC:=cy CC hk
 replace CU:=cy CU hk
 replace P8:=cy P8 hk
 replace P9:=cy P9 hk
 replace P10:=cy P10 hk
 replace P13:=cy P13 hk
 replace D14:=cy D14 hk
 replace HR:=kb hk HR
 replace HC:=kb hk HC
 replace HU:=kb hk HU
 replace KW:=kt KW hk
 clear hk hc c0 c1 c2 c3
 have c0:=cellOf (j:=0) HC.out
 have c1:=cellOf (j:=1) HC.out
 have c2:=cellOf (j:=0) HU.out
 have c3:=cellOf (j:=1) HU.out
 simp at c0 c1 c2 c3
 go_simp
 refine hK _ _ ⟨rfl,⟨c0,c1,c2,c3⟩,?_⟩
 clear hK K
 repeat((first|(refine wpX_silent ?_ fun K hK=>?_;rfl;apply Exists.intro;refine ⟨fun w'=>?_,?_⟩;go_simp;exact⟨rfl,rfl⟩)|(refine wpX_read ?_ fun K hK=>?_;rfl;apply Exists.intro;refine ⟨?_,?_⟩;go_simp;exact⟨rfl,rfl⟩)|(refine wpX_float ?_ fun K hK=>?_;rfl;apply Exists.intro;refine ⟨fun w' hw'=>?_,?_⟩;(try dsimp only at hw');go_simp;exact⟨rfl,rfl⟩)|(refine wpX_not ?_ fun K hK=>?_;rfl));go_simp;refine hK _ _ ?_;clear hK K)
 refine wpX_keeps ?_ (fun K hK=>?_)
 ·rfl
 go_wp2_with (fail)
 refine (fieldN_lkemSecret_groupState 124 (Proofs.enters_of Tryz.func124 (by kernel_rfl) rfl) a15 b15 _).mono ?_
 rintro e v21 ⟨a16,b16,rfl,-,-,hk,hc⟩
 have D16:=lh (fresh_from SZ.out hc)
 replace SZ:=szk SZ hk
 replace CC:=cy CC hk
 replace CU:=cy CU hk
 replace P8:=cy P8 hk
 replace P9:=cy P9 hk
 replace P10:=cy P10 hk
 replace P13:=cy P13 hk
 replace D14:=cy D14 hk
 replace D15:=cy D15 hk
 replace HR:=kb hk HR
 replace HC:=kb hk HC
 replace HU:=kb hk HU
 replace KW:=kt KW hk
 clear hk hc c0 c1 c2 c3
 have c0:=cellOf (j:=0) HC.out
 have c1:=cellOf (j:=1) HC.out
 have c2:=cellOf (j:=0) HU.out
 have c3:=cellOf (j:=1) HU.out
 simp at c0 c1 c2 c3
 go_simp
 refine hK _ _ ⟨rfl,⟨c0,c1,c2,c3⟩,?_⟩
 clear hK K
 have P16:Hid (∀ W',From b0 v21 W'→PPut W' 75 29 a16 stat_secrets∧PGet W' 75 29 b16 stat_secrets):=lh (fun W' hW=>D16.out W' hW (listN secrC 2 65536) (listN_fair secrC_fair 2 65536) (listN_one secrC 2 65536) 4 29 (by decide) (fun x:StatD=>x.secrets) (fun y x=>{ x with secrets:=y }) (D15.out W' hW secrC secrC_fair secrC_many (D14.out W' hW)) get_stat_secrets)
 clear D16 D14 D15
 repeat((first|(refine wpX_silent ?_ fun K hK=>?_;rfl;apply Exists.intro;refine ⟨fun w'=>?_,?_⟩;go_simp;exact⟨rfl,rfl⟩)|(refine wpX_read ?_ fun K hK=>?_;rfl;apply Exists.intro;refine ⟨?_,?_⟩;go_simp;exact⟨rfl,rfl⟩)|(refine wpX_float ?_ fun K hK=>?_;rfl;apply Exists.intro;refine ⟨fun w' hw'=>?_,?_⟩;(try dsimp only at hw');go_simp;exact⟨rfl,rfl⟩)|(refine wpX_not ?_ fun K hK=>?_;rfl));go_simp;refine hK _ _ ?_;clear hK K)
 refine wpX_keeps ?_ (fun K hK=>?_)
 ·rfl
 go_wp2_with (fail)
 refine (epocs_new _).mono ?_
 rintro e v22 ⟨a17,b17,rfl,-,-,hk,hc⟩
 have D17:=lh (fresh_from SZ.out hc)
 replace SZ:=szk SZ hk
 replace CC:=cy CC hk
 replace CU:=cy CU hk
 replace P8:=cy P8 hk
 replace P9:=cy P9 hk
 replace P10:=cy P10 hk
 replace P13:=cy P13 hk
 replace P16:=cy P16 hk
 replace HR:=kb hk HR
 replace HC:=kb hk HC
 replace HU:=kb hk HU
 replace KW:=kt KW hk
 clear hk hc c0 c1 c2 c3
 have c0:=cellOf (j:=0) HC.out
 have c1:=cellOf (j:=1) HC.out
 have c2:=cellOf (j:=0) HU.out
 have c3:=cellOf (j:=1) HU.out
 simp at c0 c1 c2 c3
 go_simp
 refine hK _ _ ⟨rfl,⟨c0,c1,c2,c3⟩,?_⟩
 clear hK K
 repeat((first|(refine wpX_silent ?_ fun K hK=>?_;rfl;apply Exists.intro;refine ⟨fun w'=>?_,?_⟩;go_simp;exact⟨rfl,rfl⟩)|(refine wpX_read ?_ fun K hK=>?_;rfl;apply Exists.intro;refine ⟨?_,?_⟩;go_simp;exact⟨rfl,rfl⟩)|(refine wpX_float ?_ fun K hK=>?_;rfl;apply Exists.intro;refine ⟨fun w' hw'=>?_,?_⟩;(try dsimp only at hw');go_simp;exact⟨rfl,rfl⟩)|(refine wpX_not ?_ fun K hK=>?_;rfl));go_simp;refine hK _ _ ?_;clear hK K)
 refine wpX_keeps ?_ (fun K hK=>?_)
 ·rfl
 go_wp2_with (fail)
 refine (fieldN_scheduleEpoch_groupState 128 (Proofs.enters_of Tryz.func128 (by kernel_rfl) rfl) a17 b17 _).mono ?_
 rintro e v23 ⟨a18,b18,rfl,-,-,hk,hc⟩
 have D18:=lh (fresh_from SZ.out hc)
 replace SZ:=szk SZ hk
 replace CC:=cy CC hk
 replace CU:=cy CU hk
 replace P8:=cy P8 hk
 replace P9:=cy P9 hk
 replace P10:=cy P10 hk
 replace P13:=cy P13 hk
 replace P16:=cy P16 hk
 replace D17:=cy D17 hk
 replace HR:=kb hk HR
 replace HC:=kb hk HC
 replace HU:=kb hk HU
 replace KW:=kt KW hk
 clear hk hc c0 c1 c2 c3
 have c0:=cellOf (j:=0) HC.out
 have c1:=cellOf (j:=1) HC.out
 have c2:=cellOf (j:=0) HU.out
 have c3:=cellOf (j:=1) HU.out
 simp at c0 c1 c2 c3
 go_simp
 refine hK _ _ ⟨rfl,⟨c0,c1,c2,c3⟩,?_⟩
 clear hK K
 have P18:Hid (∀ W',From b0 v23 W'→PPut W' 75 29 a18 stat_e∧PGet W' 75 29 b18 stat_e):=lh (fun W' hW=>D18.out W' hW (epocC) epocC_fair epocC_many 5 29 (by decide) (fun x:StatD=>x.e) (fun y x=>{ x with e:=y }) (D17.out W' hW) get_stat_e)
 clear D18 D17
 repeat((first|(refine wpX_silent ?_ fun K hK=>?_;rfl;apply Exists.intro;refine ⟨fun w'=>?_,?_⟩;go_simp;exact⟨rfl,rfl⟩)|(refine wpX_read ?_ fun K hK=>?_;rfl;apply Exists.intro;refine ⟨?_,?_⟩;go_simp;exact⟨rfl,rfl⟩)|(refine wpX_float ?_ fun K hK=>?_;rfl;apply Exists.intro;refine ⟨fun w' hw'=>?_,?_⟩;(try dsimp only at hw');go_simp;exact⟨rfl,rfl⟩)|(refine wpX_not ?_ fun K hK=>?_;rfl));go_simp;refine hK _ _ ?_;clear hK K)
 refine wpX_keeps ?_ (fun K hK=>?_)
 ·rfl
 go_wp2_with (fail)
 refine (numberN_groupState 130 (Proofs.enters_of Tryz.func130 (by kernel_rfl) rfl) _).mono ?_
 rintro e v24 ⟨a19,b19,rfl,-,-,hk,hc⟩
 have D19:=lh (fresh_from SZ.out hc)
 replace SZ:=szk SZ hk
 replace CC:=cy CC hk
 replace CU:=cy CU hk
 replace P8:=cy P8 hk
 replace P9:=cy P9 hk
 replace P10:=cy P10 hk
 replace P13:=cy P13 hk
 replace P16:=cy P16 hk
 replace P18:=cy P18 hk
 replace HR:=kb hk HR
 replace HC:=kb hk HC
 replace HU:=kb hk HU
 replace KW:=kt KW hk
 clear hk hc c0 c1 c2 c3
 have c0:=cellOf (j:=0) HC.out
 have c1:=cellOf (j:=1) HC.out
 have c2:=cellOf (j:=0) HU.out
 have c3:=cellOf (j:=1) HU.out
 simp at c0 c1 c2 c3
 go_simp
 refine hK _ _ ⟨rfl,⟨c0,c1,c2,c3⟩,?_⟩
 clear hK K
 have P19:Hid (∀ W',From b0 v24 W'→PPut W' 75 29 a19 stat_confirmed∧PGet W' 75 29 b19 stat_confirmed):=lh (fun W' hW=>D19.out W' hW 18 29 (by decide) (fun x:StatD=>x.confirmed) (fun y x=>{ x with confirmed:=y }) get_stat_confirmed)
 clear D19
 repeat((first|(refine wpX_silent ?_ fun K hK=>?_;rfl;apply Exists.intro;refine ⟨fun w'=>?_,?_⟩;go_simp;exact⟨rfl,rfl⟩)|(refine wpX_read ?_ fun K hK=>?_;rfl;apply Exists.intro;refine ⟨?_,?_⟩;go_simp;exact⟨rfl,rfl⟩)|(refine wpX_float ?_ fun K hK=>?_;rfl;apply Exists.intro;refine ⟨fun w' hw'=>?_,?_⟩;(try dsimp only at hw');go_simp;exact⟨rfl,rfl⟩)|(refine wpX_not ?_ fun K hK=>?_;rfl));go_simp;refine hK _ _ ?_;clear hK K)
 refine wpX_keeps ?_ (fun K hK=>?_)
 ·rfl
 go_wp2_with (fail)
 refine (numberN_groupState 131 (Proofs.enters_of Tryz.func131 (by kernel_rfl) rfl) _).mono ?_
 rintro e v25 ⟨a20,b20,rfl,-,-,hk,hc⟩
 have D20:=lh (fresh_from SZ.out hc)
 replace SZ:=szk SZ hk
 replace CC:=cy CC hk
 replace CU:=cy CU hk
 replace P8:=cy P8 hk
 replace P9:=cy P9 hk
 replace P10:=cy P10 hk
 replace P13:=cy P13 hk
 replace P16:=cy P16 hk
 replace P18:=cy P18 hk
 replace P19:=cy P19 hk
 replace HR:=kb hk HR
 replace HC:=kb hk HC
 replace HU:=kb hk HU
 replace KW:=kt KW hk
 clear hk hc c0 c1 c2 c3
 have c0:=cellOf (j:=0) HC.out
 have c1:=cellOf (j:=1) HC.out
 have c2:=cellOf (j:=0) HU.out
 have c3:=cellOf (j:=1) HU.out
 simp at c0 c1 c2 c3
 go_simp
 refine hK _ _ ⟨rfl,⟨c0,c1,c2,c3⟩,?_⟩
 clear hK K
 have P20:Hid (∀ W',From b0 v25 W'→PPut W' 75 29 a20 stat_interim∧PGet W' 75 29 b20 stat_interim):=lh (fun W' hW=>D20.out W' hW 19 29 (by decide) (fun x:StatD=>x.interim) (fun y x=>{ x with interim:=y }) get_stat_interim)
 clear D20
 repeat((first|(refine wpX_silent ?_ fun K hK=>?_;rfl;apply Exists.intro;refine ⟨fun w'=>?_,?_⟩;go_simp;exact⟨rfl,rfl⟩)|(refine wpX_read ?_ fun K hK=>?_;rfl;apply Exists.intro;refine ⟨?_,?_⟩;go_simp;exact⟨rfl,rfl⟩)|(refine wpX_float ?_ fun K hK=>?_;rfl;apply Exists.intro;refine ⟨fun w' hw'=>?_,?_⟩;(try dsimp only at hw');go_simp;exact⟨rfl,rfl⟩)|(refine wpX_not ?_ fun K hK=>?_;rfl));go_simp;refine hK _ _ ?_;clear hK K)
 refine wpX_keeps ?_ (fun K hK=>?_)
 ·rfl
 go_wp2_with (fail)
 refine (numberN_groupState 132 (Proofs.enters_of Tryz.func132 (by kernel_rfl) rfl) _).mono ?_
 rintro e v26 ⟨a21,b21,rfl,-,-,hk,hc⟩
 have D21:=lh (fresh_from SZ.out hc)
 replace SZ:=szk SZ hk
 replace CC:=cy CC hk
 replace CU:=cy CU hk
 replace P8:=cy P8 hk
 replace P9:=cy P9 hk
 replace P10:=cy P10 hk
 replace P13:=cy P13 hk
 replace P16:=cy P16 hk
 replace P18:=cy P18 hk
 replace P19:=cy P19 hk
 replace P20:=cy P20 hk
 replace HR:=kb hk HR
 replace HC:=kb hk HC
 replace HU:=kb hk HU
 replace KW:=kt KW hk
 clear hk hc c0 c1 c2 c3
 have c0:=cellOf (j:=0) HC.out
 have c1:=cellOf (j:=1) HC.out
 have c2:=cellOf (j:=0) HU.out
 have c3:=cellOf (j:=1) HU.out
 simp at c0 c1 c2 c3
 go_simp
 refine hK _ _ ⟨rfl,⟨c0,c1,c2,c3⟩,?_⟩
 clear hK K
 have P21:Hid (∀ W',From b0 v26 W'→PPut W' 75 29 a21 stat_context∧PGet W' 75 29 b21 stat_context):=lh (fun W' hW=>D21.out W' hW 20 29 (by decide) (fun x:StatD=>x.context) (fun y x=>{ x with context:=y }) get_stat_context)
 clear D21
 repeat((first|(refine wpX_silent ?_ fun K hK=>?_;rfl;apply Exists.intro;refine ⟨fun w'=>?_,?_⟩;go_simp;exact⟨rfl,rfl⟩)|(refine wpX_read ?_ fun K hK=>?_;rfl;apply Exists.intro;refine ⟨?_,?_⟩;go_simp;exact⟨rfl,rfl⟩)|(refine wpX_float ?_ fun K hK=>?_;rfl;apply Exists.intro;refine ⟨fun w' hw'=>?_,?_⟩;(try dsimp only at hw');go_simp;exact⟨rfl,rfl⟩)|(refine wpX_not ?_ fun K hK=>?_;rfl));go_simp;refine hK _ _ ?_;clear hK K)
 refine wpX_keeps ?_ (fun K hK=>?_)
 ·rfl
 go_wp2_with (fail)
 refine (ratss_new _).mono ?_
 rintro e v27 ⟨a22,b22,rfl,-,-,hk,hc⟩
 have D22:=lh (fresh_from SZ.out hc)
 replace SZ:=szk SZ hk
 replace CC:=cy CC hk
 replace CU:=cy CU hk
 replace P8:=cy P8 hk
 replace P9:=cy P9 hk
 replace P10:=cy P10 hk
 replace P13:=cy P13 hk
 replace P16:=cy P16 hk
 replace P18:=cy P18 hk
 replace P19:=cy P19 hk
 replace P20:=cy P20 hk
 replace P21:=cy P21 hk
 replace HR:=kb hk HR
 replace HC:=kb hk HC
 replace HU:=kb hk HU
 replace KW:=kt KW hk
 clear hk hc c0 c1 c2 c3
 have c0:=cellOf (j:=0) HC.out
 have c1:=cellOf (j:=1) HC.out
 have c2:=cellOf (j:=0) HU.out
 have c3:=cellOf (j:=1) HU.out
 simp at c0 c1 c2 c3
 go_simp
 refine hK _ _ ⟨rfl,⟨c0,c1,c2,c3⟩,?_⟩
 clear hK K
 repeat((first|(refine wpX_silent ?_ fun K hK=>?_;rfl;apply Exists.intro;refine ⟨fun w'=>?_,?_⟩;go_simp;exact⟨rfl,rfl⟩)|(refine wpX_read ?_ fun K hK=>?_;rfl;apply Exists.intro;refine ⟨?_,?_⟩;go_simp;exact⟨rfl,rfl⟩)|(refine wpX_float ?_ fun K hK=>?_;rfl;apply Exists.intro;refine ⟨fun w' hw'=>?_,?_⟩;(try dsimp only at hw');go_simp;exact⟨rfl,rfl⟩)|(refine wpX_not ?_ fun K hK=>?_;rfl));go_simp;refine hK _ _ ?_;clear hK K)
 refine wpX_keeps ?_ (fun K hK=>?_)
 ·rfl
 go_wp2_with (fail)
 refine (fieldN_ratchetState_groupState 134 (Proofs.enters_of Tryz.func134 (by kernel_rfl) rfl) a22 b22 _).mono ?_
 rintro e v28 ⟨a23,b23,rfl,-,-,hk,hc⟩
 have D23:=lh (fresh_from SZ.out hc)
 replace SZ:=szk SZ hk
 replace CC:=cy CC hk
 replace CU:=cy CU hk
 replace P8:=cy P8 hk
 replace P9:=cy P9 hk
 replace P10:=cy P10 hk
 replace P13:=cy P13 hk
 replace P16:=cy P16 hk
 replace P18:=cy P18 hk
 replace P19:=cy P19 hk
 replace P20:=cy P20 hk
 replace P21:=cy P21 hk
 replace D22:=cy D22 hk
 replace HR:=kb hk HR
 replace HC:=kb hk HC
 replace HU:=kb hk HU
 replace KW:=kt KW hk
 clear hk hc c0 c1 c2 c3
 have c0:=cellOf (j:=0) HC.out
 have c1:=cellOf (j:=1) HC.out
 have c2:=cellOf (j:=0) HU.out
 have c3:=cellOf (j:=1) HU.out
 simp at c0 c1 c2 c3
 go_simp
 refine hK _ _ ⟨rfl,⟨c0,c1,c2,c3⟩,?_⟩
 clear hK K
 have P23:Hid (∀ W',From b0 v28 W'→PPut W' 75 29 a23 stat_rat∧PGet W' 75 29 b23 stat_rat):=lh (fun W' hW=>D23.out W' hW (ratsC) ratsC_fair ratsC_many 21 29 (by decide) (fun x:StatD=>x.rat) (fun y x=>{ x with rat:=y }) (D22.out W' hW) get_stat_rat)
 clear D23 D22
 repeat((first|(refine wpX_silent ?_ fun K hK=>?_;rfl;apply Exists.intro;refine ⟨fun w'=>?_,?_⟩;go_simp;exact⟨rfl,rfl⟩)|(refine wpX_read ?_ fun K hK=>?_;rfl;apply Exists.intro;refine ⟨?_,?_⟩;go_simp;exact⟨rfl,rfl⟩)|(refine wpX_float ?_ fun K hK=>?_;rfl;apply Exists.intro;refine ⟨fun w' hw'=>?_,?_⟩;(try dsimp only at hw');go_simp;exact⟨rfl,rfl⟩)|(refine wpX_not ?_ fun K hK=>?_;rfl));go_simp;refine hK _ _ ?_;clear hK K)
 refine wpX_keeps ?_ (fun K hK=>?_)
 ·rfl
 go_wp2_with (fail)
 refine (listN_groupCached a4 b4 _).mono ?_
 rintro e v29 ⟨a24,b24,rfl,-,-,hk,hc⟩
 have D24:=lh (fresh_from SZ.out hc)
 replace SZ:=szk SZ hk
 replace CC:=cy CC hk
 replace CU:=cy CU hk
 replace P8:=cy P8 hk
 replace P9:=cy P9 hk
 replace P10:=cy P10 hk
 replace P13:=cy P13 hk
 replace P16:=cy P16 hk
 replace P18:=cy P18 hk
 replace P19:=cy P19 hk
 replace P20:=cy P20 hk
 replace P21:=cy P21 hk
 replace P23:=cy P23 hk
 replace HR:=kb hk HR
 replace HC:=kb hk HC
 replace HU:=kb hk HU
 replace KW:=kt KW hk
 clear hk hc c0 c1 c2 c3
 have c0:=cellOf (j:=0) HC.out
 have c1:=cellOf (j:=1) HC.out
 have c2:=cellOf (j:=0) HU.out
 have c3:=cellOf (j:=1) HU.out
 simp at c0 c1 c2 c3
 go_simp
 refine hK _ _ ⟨rfl,⟨c0,c1,c2,c3⟩,?_⟩
 clear hK K
 repeat((first|(refine wpX_silent ?_ fun K hK=>?_;rfl;apply Exists.intro;refine ⟨fun w'=>?_,?_⟩;go_simp;exact⟨rfl,rfl⟩)|(refine wpX_read ?_ fun K hK=>?_;rfl;apply Exists.intro;refine ⟨?_,?_⟩;go_simp;exact⟨rfl,rfl⟩)|(refine wpX_float ?_ fun K hK=>?_;rfl;apply Exists.intro;refine ⟨fun w' hw'=>?_,?_⟩;(try dsimp only at hw');go_simp;exact⟨rfl,rfl⟩)|(refine wpX_not ?_ fun K hK=>?_;rfl));go_simp;refine hK _ _ ?_;clear hK K)
 refine wpX_keeps ?_ (fun K hK=>?_)
 ·rfl
 go_wp2_with (fail)
 refine (fieldN_lgroupCached_groupState 137 (Proofs.enters_of Tryz.func137 (by kernel_rfl) rfl) a24 b24 _).mono ?_
 rintro e v30 ⟨a25,b25,rfl,-,-,hk,hc⟩
 have D25:=lh (fresh_from SZ.out hc)
 replace SZ:=szk SZ hk
 replace CC:=cy CC hk
 replace CU:=cy CU hk
 replace P8:=cy P8 hk
 replace P9:=cy P9 hk
 replace P10:=cy P10 hk
 replace P13:=cy P13 hk
 replace P16:=cy P16 hk
 replace P18:=cy P18 hk
 replace P19:=cy P19 hk
 replace P20:=cy P20 hk
 replace P21:=cy P21 hk
 replace P23:=cy P23 hk
 replace D24:=cy D24 hk
 replace HR:=kb hk HR
 replace HC:=kb hk HC
 replace HU:=kb hk HU
 replace KW:=kt KW hk
 clear hk hc c0 c1 c2 c3
 have c0:=cellOf (j:=0) HC.out
 have c1:=cellOf (j:=1) HC.out
 have c2:=cellOf (j:=0) HU.out
 have c3:=cellOf (j:=1) HU.out
 simp at c0 c1 c2 c3
 go_simp
 refine hK _ _ ⟨rfl,⟨c0,c1,c2,c3⟩,?_⟩
 clear hK K
 have P25:Hid (∀ W',From b0 v30 W'→PPut W' 75 29 a25 stat_cached∧PGet W' 75 29 b25 stat_cached):=lh (fun W' hW=>D25.out W' hW (listN cachC 12 65536) (listN_fair cachC_fair 12 65536) (listN_one cachC 12 65536) 24 29 (by decide) (fun x:StatD=>x.cached) (fun y x=>{ x with cached:=y }) (D24.out W' hW cachC cachC_fair cachC_many (CC.out W' hW)) get_stat_cached)
 clear D25 D24
 repeat((first|(refine wpX_silent ?_ fun K hK=>?_;rfl;apply Exists.intro;refine ⟨fun w'=>?_,?_⟩;go_simp;exact⟨rfl,rfl⟩)|(refine wpX_read ?_ fun K hK=>?_;rfl;apply Exists.intro;refine ⟨?_,?_⟩;go_simp;exact⟨rfl,rfl⟩)|(refine wpX_float ?_ fun K hK=>?_;rfl;apply Exists.intro;refine ⟨fun w' hw'=>?_,?_⟩;(try dsimp only at hw');go_simp;exact⟨rfl,rfl⟩)|(refine wpX_not ?_ fun K hK=>?_;rfl));go_simp;refine hK _ _ ?_;clear hK K)
 refine wpX_heavy ?_ (fun K hK=>?_)
 ·rfl
 go_wp2_with (fail)
 refine (listN_groupUpdate a7 b7 _).mono ?_
 rintro e v31 ⟨a26,b26,rfl,-,-,hk,hc⟩
 have D26:=lh (fresh_from SZ.out hc)
 replace SZ:=szk SZ hk
 replace CC:=cy CC hk
 replace CU:=cy CU hk
 replace P8:=cy P8 hk
 replace P9:=cy P9 hk
 replace P10:=cy P10 hk
 replace P13:=cy P13 hk
 replace P16:=cy P16 hk
 replace P18:=cy P18 hk
 replace P19:=cy P19 hk
 replace P20:=cy P20 hk
 replace P21:=cy P21 hk
 replace P23:=cy P23 hk
 replace P25:=cy P25 hk
 replace HR:=kb hk HR
 replace HC:=kb hk HC
 replace HU:=kb hk HU
 replace KW:=kt KW hk
 clear hk hc c0 c1 c2 c3
 have c0:=cellOf (j:=0) HC.out
 have c1:=cellOf (j:=1) HC.out
 have c2:=cellOf (j:=0) HU.out
 have c3:=cellOf (j:=1) HU.out
 simp at c0 c1 c2 c3
 go_simp
 refine hK _ _ ⟨rfl,?_⟩
 clear hK K
 repeat((first|(refine wpX_silent ?_ fun K hK=>?_;rfl;apply Exists.intro;refine ⟨fun w'=>?_,?_⟩;go_simp;exact⟨rfl,rfl⟩)|(refine wpX_read ?_ fun K hK=>?_;rfl;apply Exists.intro;refine ⟨?_,?_⟩;go_simp;exact⟨rfl,rfl⟩)|(refine wpX_float ?_ fun K hK=>?_;rfl;apply Exists.intro;refine ⟨fun w' hw'=>?_,?_⟩;(try dsimp only at hw');go_simp;exact⟨rfl,rfl⟩)|(refine wpX_not ?_ fun K hK=>?_;rfl));go_simp;refine hK _ _ ?_;clear hK K)
 refine wpX_heavy ?_ (fun K hK=>?_)
 ·rfl
 go_wp2_with (fail)
 refine (fieldN_lgroupUpdate_groupState 140 (Proofs.enters_of Tryz.func140 (by kernel_rfl) rfl) a26 b26 _).mono ?_
 rintro e v32 ⟨a27,b27,rfl,-,-,hk,hc⟩
 have D27:=lh (fresh_from SZ.out hc)
 replace SZ:=szk SZ hk
 replace CC:=cy CC hk
 replace CU:=cy CU hk
 replace P8:=cy P8 hk
 replace P9:=cy P9 hk
 replace P10:=cy P10 hk
 replace P13:=cy P13 hk
 replace P16:=cy P16 hk
 replace P18:=cy P18 hk
 replace P19:=cy P19 hk
 replace P20:=cy P20 hk
 replace P21:=cy P21 hk
 replace P23:=cy P23 hk
 replace P25:=cy P25 hk
 replace D26:=cy D26 hk
 replace HR:=kb hk HR
 replace HC:=kb hk HC
 replace HU:=kb hk HU
 replace KW:=kt KW hk
 clear hk hc c0 c1 c2 c3
 have c0:=cellOf (j:=0) HC.out
 have c1:=cellOf (j:=1) HC.out
 have c2:=cellOf (j:=0) HU.out
 have c3:=cellOf (j:=1) HU.out
 simp at c0 c1 c2 c3
 go_simp
 refine hK _ _ ⟨rfl,?_⟩
 clear hK K
 have P27:Hid (∀ W',From b0 v32 W'→PPut W' 75 29 a27 stat_updates∧PGet W' 75 29 b27 stat_updates):=lh (fun W' hW=>D27.out W' hW (listN updtC 2 65536) (listN_fair updtC_fair 2 65536) (listN_one updtC 2 65536) 25 29 (by decide) (fun x:StatD=>x.updates) (fun y x=>{ x with updates:=y }) (D26.out W' hW updtC updtC_fair updtC_many (CU.out W' hW)) get_stat_updates)
 clear D27 D26
 repeat((first|(refine wpX_silent ?_ fun K hK=>?_;rfl;apply Exists.intro;refine ⟨fun w'=>?_,?_⟩;go_simp;exact⟨rfl,rfl⟩)|(refine wpX_read ?_ fun K hK=>?_;rfl;apply Exists.intro;refine ⟨?_,?_⟩;go_simp;exact⟨rfl,rfl⟩)|(refine wpX_float ?_ fun K hK=>?_;rfl;apply Exists.intro;refine ⟨fun w' hw'=>?_,?_⟩;(try dsimp only at hw');go_simp;exact⟨rfl,rfl⟩)|(refine wpX_not ?_ fun K hK=>?_;rfl));go_simp;refine hK _ _ ?_;clear hK K)
 refine wpX_heavy ?_ (fun K hK=>?_)
 ·rfl
 go_wp2_with (fail)
 refine (flag_new _).mono ?_
 rintro e v33 ⟨a28,b28,rfl,-,-,hk,hc⟩
 have D28:=lh (fresh_from SZ.out hc)
 replace SZ:=szk SZ hk
 replace CC:=cy CC hk
 replace CU:=cy CU hk
 replace P8:=cy P8 hk
 replace P9:=cy P9 hk
 replace P10:=cy P10 hk
 replace P13:=cy P13 hk
 replace P16:=cy P16 hk
 replace P18:=cy P18 hk
 replace P19:=cy P19 hk
 replace P20:=cy P20 hk
 replace P21:=cy P21 hk
 replace P23:=cy P23 hk
 replace P25:=cy P25 hk
 replace P27:=cy P27 hk
 replace HR:=kb hk HR
 replace HC:=kb hk HC
 replace HU:=kb hk HU
 replace KW:=kt KW hk
 clear hk hc c0 c1 c2 c3
 have c0:=cellOf (j:=0) HC.out
 have c1:=cellOf (j:=1) HC.out
 have c2:=cellOf (j:=0) HU.out
 have c3:=cellOf (j:=1) HU.out
 simp at c0 c1 c2 c3
 go_simp
 refine hK _ _ ⟨rfl,?_⟩
 clear hK K
 repeat((first|(refine wpX_silent ?_ fun K hK=>?_;rfl;apply Exists.intro;refine ⟨fun w'=>?_,?_⟩;go_simp;exact⟨rfl,rfl⟩)|(refine wpX_read ?_ fun K hK=>?_;rfl;apply Exists.intro;refine ⟨?_,?_⟩;go_simp;exact⟨rfl,rfl⟩)|(refine wpX_float ?_ fun K hK=>?_;rfl;apply Exists.intro;refine ⟨fun w' hw'=>?_,?_⟩;(try dsimp only at hw');go_simp;exact⟨rfl,rfl⟩)|(refine wpX_not ?_ fun K hK=>?_;rfl));go_simp;refine hK _ _ ?_;clear hK K)
 refine wpX_heavy ?_ (fun K hK=>?_)
 ·rfl
 go_wp2_with (fail)
 refine (fieldN_bool_groupState 143 (Proofs.enters_of Tryz.func143 (by kernel_rfl) rfl) a28 b28 _).mono ?_
 rintro e v34 ⟨a29,b29,rfl,-,-,hk,hc⟩
 have D29:=lh (fresh_from SZ.out hc)
 replace SZ:=szk SZ hk
 replace CC:=cy CC hk
 replace CU:=cy CU hk
 replace P8:=cy P8 hk
 replace P9:=cy P9 hk
 replace P10:=cy P10 hk
 replace P13:=cy P13 hk
 replace P16:=cy P16 hk
 replace P18:=cy P18 hk
 replace P19:=cy P19 hk
 replace P20:=cy P20 hk
 replace P21:=cy P21 hk
 replace P23:=cy P23 hk
 replace P25:=cy P25 hk
 replace P27:=cy P27 hk
 replace D28:=cy D28 hk
 replace HR:=kb hk HR
 replace HC:=kb hk HC
 replace HU:=kb hk HU
 replace KW:=kt KW hk
 clear hk hc c0 c1 c2 c3
 have c0:=cellOf (j:=0) HC.out
 have c1:=cellOf (j:=1) HC.out
 have c2:=cellOf (j:=0) HU.out
 have c3:=cellOf (j:=1) HU.out
 simp at c0 c1 c2 c3
 go_simp
 refine hK _ _ ⟨rfl,?_⟩
 clear hK K
 have P29:Hid (∀ W',From b0 v34 W'→PPut W' 75 29 a29 stat_closed∧PGet W' 75 29 b29 stat_closed):=lh (fun W' hW=>D29.out W' hW (flagC) flagC_fair flagC_one 26 29 (by decide) (fun x:StatD=>x.closed) (fun y x=>{ x with closed:=y }) (D28.out W' hW) get_stat_closed)
 clear D29 D28
 repeat((first|(refine wpX_silent ?_ fun K hK=>?_;rfl;apply Exists.intro;refine ⟨fun w'=>?_,?_⟩;go_simp;exact⟨rfl,rfl⟩)|(refine wpX_read ?_ fun K hK=>?_;rfl;apply Exists.intro;refine ⟨?_,?_⟩;go_simp;exact⟨rfl,rfl⟩)|(refine wpX_float ?_ fun K hK=>?_;rfl;apply Exists.intro;refine ⟨fun w' hw'=>?_,?_⟩;(try dsimp only at hw');go_simp;exact⟨rfl,rfl⟩)|(refine wpX_not ?_ fun K hK=>?_;rfl));go_simp;refine hK _ _ ?_;clear hK K)
 refine wpX_heavy ?_ (fun K hK=>?_)
 ·rfl
 go_wp2_with (fail)
 refine (pasts_new _).mono ?_
 rintro e v35 ⟨a30,b30,rfl,-,-,hk,hc⟩
 have D30:=lh (fresh_from SZ.out hc)
 replace SZ:=szk SZ hk
 replace CC:=cy CC hk
 replace CU:=cy CU hk
 replace P8:=cy P8 hk
 replace P9:=cy P9 hk
 replace P10:=cy P10 hk
 replace P13:=cy P13 hk
 replace P16:=cy P16 hk
 replace P18:=cy P18 hk
 replace P19:=cy P19 hk
 replace P20:=cy P20 hk
 replace P21:=cy P21 hk
 replace P23:=cy P23 hk
 replace P25:=cy P25 hk
 replace P27:=cy P27 hk
 replace P29:=cy P29 hk
 replace HR:=kb hk HR
 replace HC:=kb hk HC
 replace HU:=kb hk HU
 replace KW:=kt KW hk
 clear hk hc c0 c1 c2 c3
 have c0:=cellOf (j:=0) HC.out
 have c1:=cellOf (j:=1) HC.out
 have c2:=cellOf (j:=0) HU.out
 have c3:=cellOf (j:=1) HU.out
 simp at c0 c1 c2 c3
 go_simp
 refine hK _ _ ⟨rfl,?_⟩
 clear hK K
 repeat((first|(refine wpX_silent ?_ fun K hK=>?_;rfl;apply Exists.intro;refine ⟨fun w'=>?_,?_⟩;go_simp;exact⟨rfl,rfl⟩)|(refine wpX_read ?_ fun K hK=>?_;rfl;apply Exists.intro;refine ⟨?_,?_⟩;go_simp;exact⟨rfl,rfl⟩)|(refine wpX_float ?_ fun K hK=>?_;rfl;apply Exists.intro;refine ⟨fun w' hw'=>?_,?_⟩;(try dsimp only at hw');go_simp;exact⟨rfl,rfl⟩)|(refine wpX_not ?_ fun K hK=>?_;rfl));go_simp;refine hK _ _ ?_;clear hK K)
 refine wpX_heavy ?_ (fun K hK=>?_)
 ·rfl
 go_wp2_with (fail)
 refine (listN_groupPast a30 b30 _).mono ?_
 rintro e v36 ⟨a31,b31,rfl,-,-,hk,hc⟩
 have D31:=lh (fresh_from SZ.out hc)
 replace SZ:=szk SZ hk
 replace CC:=cy CC hk
 replace CU:=cy CU hk
 replace P8:=cy P8 hk
 replace P9:=cy P9 hk
 replace P10:=cy P10 hk
 replace P13:=cy P13 hk
 replace P16:=cy P16 hk
 replace P18:=cy P18 hk
 replace P19:=cy P19 hk
 replace P20:=cy P20 hk
 replace P21:=cy P21 hk
 replace P23:=cy P23 hk
 replace P25:=cy P25 hk
 replace P27:=cy P27 hk
 replace P29:=cy P29 hk
 replace D30:=cy D30 hk
 replace HR:=kb hk HR
 replace HC:=kb hk HC
 replace HU:=kb hk HU
 replace KW:=kt KW hk
 clear hk hc c0 c1 c2 c3
 have c0:=cellOf (j:=0) HC.out
 have c1:=cellOf (j:=1) HC.out
 have c2:=cellOf (j:=0) HU.out
 have c3:=cellOf (j:=1) HU.out
 simp at c0 c1 c2 c3
 go_simp
 refine hK _ _ ⟨rfl,?_⟩
 clear hK K
 repeat((first|(refine wpX_silent ?_ fun K hK=>?_;rfl;apply Exists.intro;refine ⟨fun w'=>?_,?_⟩;go_simp;exact⟨rfl,rfl⟩)|(refine wpX_read ?_ fun K hK=>?_;rfl;apply Exists.intro;refine ⟨?_,?_⟩;go_simp;exact⟨rfl,rfl⟩)|(refine wpX_float ?_ fun K hK=>?_;rfl;apply Exists.intro;refine ⟨fun w' hw'=>?_,?_⟩;(try dsimp only at hw');go_simp;exact⟨rfl,rfl⟩)|(refine wpX_not ?_ fun K hK=>?_;rfl));go_simp;refine hK _ _ ?_;clear hK K)
 refine wpX_heavy ?_ (fun K hK=>?_)
 ·rfl
 go_wp2_with (fail)
 refine (fieldN_lgroupPast_groupState 146 (Proofs.enters_of Tryz.func146 (by kernel_rfl) rfl) a31 b31 _).mono ?_
 rintro e v37 ⟨a32,b32,rfl,-,-,hk,hc⟩
 have D32:=lh (fresh_from SZ.out hc)
 replace SZ:=szk SZ hk
 replace CC:=cy CC hk
 replace CU:=cy CU hk
 replace P8:=cy P8 hk
 replace P9:=cy P9 hk
 replace P10:=cy P10 hk
 replace P13:=cy P13 hk
 replace P16:=cy P16 hk
 replace P18:=cy P18 hk
 replace P19:=cy P19 hk
 replace P20:=cy P20 hk
 replace P21:=cy P21 hk
 replace P23:=cy P23 hk
 replace P25:=cy P25 hk
 replace P27:=cy P27 hk
 replace P29:=cy P29 hk
 replace D30:=cy D30 hk
 replace D31:=cy D31 hk
 replace HR:=kb hk HR
 replace HC:=kb hk HC
 replace HU:=kb hk HU
 replace KW:=kt KW hk
 clear hk hc c0 c1 c2 c3
 have c0:=cellOf (j:=0) HC.out
 have c1:=cellOf (j:=1) HC.out
 have c2:=cellOf (j:=0) HU.out
 have c3:=cellOf (j:=1) HU.out
 simp at c0 c1 c2 c3
 go_simp
 refine hK _ _ ⟨rfl,?_⟩
 clear hK K
 have P32:Hid (∀ W',From b0 v37 W'→PPut W' 75 29 a32 stat_past∧PGet W' 75 29 b32 stat_past):=lh (fun W' hW=>D32.out W' hW (listN pastC 8 65536) (listN_fair pastC_fair 8 65536) (listN_one pastC 8 65536) 27 29 (by decide) (fun x:StatD=>x.past) (fun y x=>{ x with past:=y }) (D31.out W' hW pastC pastC_fair pastC_many (D30.out W' hW)) get_stat_past)
 clear D32 D30 D31
 repeat((first|(refine wpX_silent ?_ fun K hK=>?_;rfl;apply Exists.intro;refine ⟨fun w'=>?_,?_⟩;go_simp;exact⟨rfl,rfl⟩)|(refine wpX_read ?_ fun K hK=>?_;rfl;apply Exists.intro;refine ⟨?_,?_⟩;go_simp;exact⟨rfl,rfl⟩)|(refine wpX_float ?_ fun K hK=>?_;rfl;apply Exists.intro;refine ⟨fun w' hw'=>?_,?_⟩;(try dsimp only at hw');go_simp;exact⟨rfl,rfl⟩)|(refine wpX_not ?_ fun K hK=>?_;rfl));go_simp;refine hK _ _ ?_;clear hK K)
 refine wpX_heavy ?_ (fun K hK=>?_)
 ·rfl
 have kq:=(Kept.refl v37 (fun _=>False)).alloc (.cells #[a8,b8,a9,b9,a10,b10,a13,b13,a16,b16,a18,b18,a19,b19,a20,b20,a21,b21,a23,b23,a25,b25,a27,b27,a29,b29,a32,b32] 264)
 have HP:=lh (heap_alloc_new v37 (.cells #[a8,b8,a9,b9,a10,b10,a13,b13,a16,b16,a18,b18,a19,b19,a20,b20,a21,b21,a23,b23,a25,b25,a27,b27,a29,b29,a32,b32] 264))
 have LP:=lh SZ.out
 have KP:=lh kq
 replace HR:=kb kq HR
 replace KW:=kt KW kq
 replace SZ:=szk SZ kq
 clear c0 c1 c2 c3 HC HU CC CU
 go_wp2
 obtain ⟨pb,hpb⟩:∃ pb,v37.heap.size=pb:=⟨_,rfl⟩
 obtain ⟨v38,hv⟩:∃ v38,v37.alloc (.cells #[a8,b8,a9,b9,a10,b10,a13,b13,a16,b16,a18,b18,a19,b19,a20,b20,a21,b21,a23,b23,a25,b25,a27,b27,a29,b29,a32,b32] 264)=v38:=⟨_,rfl⟩
 rw [hv] at SZ KW HP KP HR ⊢
 rw [hpb] at HP LP ⊢
 clear hpb hv kq
 repeat((first|(refine wpX_silent ?_ fun K hK=>?_;rfl;apply Exists.intro;refine ⟨fun w'=>?_,?_⟩;go_simp;exact⟨rfl,rfl⟩)|(refine wpX_read ?_ fun K hK=>?_;rfl;apply Exists.intro;refine ⟨?_,?_⟩;go_simp;exact⟨rfl,rfl⟩)|(refine wpX_float ?_ fun K hK=>?_;rfl;apply Exists.intro;refine ⟨fun w' hw'=>?_,?_⟩;(try dsimp only at hw');go_simp;exact⟨rfl,rfl⟩)|(refine wpX_not ?_ fun K hK=>?_;rfl));go_simp;refine hK _ _ ?_;clear hK K)
 refine wpX_nil (hQ' _ _ ?_)
 go_wp2_with (fail)
 refine (recordN_groupState pb 14 14 (by decide) (by decide) _).mono ?_
 rintro e v39 ⟨a33,b33,rfl,ha,hb,hk,hc⟩
 have D33:=lh (fresh_from SZ.out hc)
 replace SZ:=szk SZ hk
 replace HR:=kb hk HR
 replace HP:=kb hk HP
 replace KW:=kt KW hk
 replace KP:=kt KP hk
 have A33:=lh ha
 have B33:=lh hb
 clear hk hc ha hb
 go_wp2_with (first|(refine wpList_store_row rfl 185 (.tmp 2) (.tmp 54) rfl w.heap.size #[a33,b33] rfl rfl _ _ HR.out (by kernel_rfl) rfl (by simp [A33.out,B33.out]) ?_; apply hold))
 unfold Hold
 rename_i K hK
 refine (show K _ _ from hK _ _ ?_)
 refine wp_ret ?_
 have hsr:=setRow_heap v39 w.heap.size _ #[a33,b33] 185 (0,0) HR.out
 have kr:Kept v39 (v39.setRow w.heap.size #[a33,b33]) (fun j=>j=w.heap.size):=⟨rfl,rfl,rfl,by simp,fun j _ hj=>setRow_other v39 w.heap.size j _ hj⟩
 refine bodyPost_ret (results_cell_row rfl _ _ _ _ _ _ _ rfl hsr Tryz.underlying185 rfl (by kernel_rfl)) rfl ?_
 refine ⟨a33,b33,rfl,A33.out,B33.out,KW.out.trans kr (fun j h=>.inr (by omega)),fun W' hW=>?_⟩
 have hb0:=B0.out
 have hF:From b0 v39 W':=hW.pre (kr.mono (fun k h=>by omega)) (by omega)
 have hpa:W'.heap[pb]?=_:=hF.blk LP.out HP.out
 have hF0:From b0 v37 W':=hF.pre (KP.out.mono (fun _ h=>h.elim)) (Nat.le_refl _)
 have Q8:=P8.out W' hF0
 have Q9:=P9.out W' hF0
 have Q10:=P10.out W' hF0
 have Q13:=P13.out W' hF0
 have Q16:=P16.out W' hF0
 have Q18:=P18.out W' hF0
 have Q19:=P19.out W' hF0
 have Q20:=P20.out W' hF0
 have Q21:=P21.out W' hF0
 have Q23:=P23.out W' hF0
 have Q25:=P25.out W' hF0
 have Q27:=P27.out W' hF0
 have Q29:=P29.out W' hF0
 have Q32:=P32.out W' hF0
 refine D33.out W' hF statP rfl statP_fair statP_off StatZ (by decide) ⟨blk_lt hpa,fun k p hp=>?_⟩
 match k,hp with
 | 0,hp=>obtain rfl:=Option.some.inj hp; exact ⟨a8,b8,cellOf hpa,cellOf hpa,Q8.1,Q8.2⟩
 | 1,hp=>obtain rfl:=Option.some.inj hp; exact ⟨a9,b9,cellOf hpa,cellOf hpa,Q9.1,Q9.2⟩
 | 2,hp=>obtain rfl:=Option.some.inj hp; exact ⟨a10,b10,cellOf hpa,cellOf hpa,Q10.1,Q10.2⟩
 | 3,hp=>obtain rfl:=Option.some.inj hp; exact ⟨a13,b13,cellOf hpa,cellOf hpa,Q13.1,Q13.2⟩
 | 4,hp=>obtain rfl:=Option.some.inj hp; exact ⟨a16,b16,cellOf hpa,cellOf hpa,Q16.1,Q16.2⟩
 | 5,hp=>obtain rfl:=Option.some.inj hp; exact ⟨a18,b18,cellOf hpa,cellOf hpa,Q18.1,Q18.2⟩
 | 6,hp=>obtain rfl:=Option.some.inj hp; exact ⟨a19,b19,cellOf hpa,cellOf hpa,Q19.1,Q19.2⟩
 | 7,hp=>obtain rfl:=Option.some.inj hp; exact ⟨a20,b20,cellOf hpa,cellOf hpa,Q20.1,Q20.2⟩
 | 8,hp=>obtain rfl:=Option.some.inj hp; exact ⟨a21,b21,cellOf hpa,cellOf hpa,Q21.1,Q21.2⟩
 | 9,hp=>obtain rfl:=Option.some.inj hp; exact ⟨a23,b23,cellOf hpa,cellOf hpa,Q23.1,Q23.2⟩
 | 10,hp=>obtain rfl:=Option.some.inj hp; exact ⟨a25,b25,cellOf hpa,cellOf hpa,Q25.1,Q25.2⟩
 | 11,hp=>obtain rfl:=Option.some.inj hp; exact ⟨a27,b27,cellOf hpa,cellOf hpa,Q27.1,Q27.2⟩
 | 12,hp=>obtain rfl:=Option.some.inj hp; exact ⟨a29,b29,cellOf hpa,cellOf hpa,Q29.1,Q29.2⟩
 | 13,hp=>obtain rfl:=Option.some.inj hp; exact ⟨a32,b32,cellOf hpa,cellOf hpa,Q32.1,Q32.2⟩
 | k+14,hp=>simp [statP] at hp
end Go.Proofs.YtogkkfdkeefjnaaGreatDoor.Codec
