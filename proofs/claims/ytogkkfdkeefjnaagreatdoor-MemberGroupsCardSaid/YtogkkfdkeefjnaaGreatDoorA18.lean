/-
  Records, written, read and made, walked.
-/
import Derived.Test.YtogkkfdkeefjnaaGreatDoorA09
namespace Go.Proofs.YtogkkfdkeefjnaaGreatDoor.Codec
open Go.RowKit Go.Proofs.YtogkkfdkeefjnaaGreatDoorBase Go.Proofs.YtogkkfdkeefjnaaGreatDoorLex2 Go.Proofs.YtogkkfdkeefjnaaGreatDoorNum
set_option linter.unusedVariables false
set_option maxRecDepth 100000
set_option linter.unusedSimpArgs false
def rec_put_RecB_P (p0_:Nat) (p1_:Nat):Prop:=∀ {α:Type} (ps:List (Prt α)) (N:Nat) (hf:∀ p∈ps,Fair p.c) (x0:α) (W:World) (pb pa cp:Nat) (T':TypeId) (hN:(Tryz.prog.info? p0_).map (·.size)=some N) (hlen:ps.length≤1000) (hpa:PartsAt W p0_ N pa ps) (hpb:W.heap[pb]?=some (.cells #[.slice (some ⟨pa,0,none⟩) ps.length cp] T' (0,0))),
  PutOk W (.func (.func p1_) #[] #[.pointer (some ⟨pb,0,none⟩)]) (recC N ps x0)
set_option maxHeartbeats 22400000 in
set_option maxRecDepth 100000 in
theorem rec_put_RecB_A:(Ix 0→rec_put_RecB_P 69 342)∧(Ix 1→rec_put_RecB_P 35 305)∧(Ix 2→rec_put_RecB_P 342 356)∧(Ix 3→rec_put_RecB_P 231 186)∧(Ix 4→rec_put_RecB_P 253 200)∧(Ix 5→rec_put_RecB_P 75 290)∧(Ix 6→rec_put_RecB_P 61 84):=by
 refine ⟨?_,?_,?_,?_,?_,?_,?_⟩
 all_goals
  intro I α ps N hf x0 W pb pa cp T' hN hlen hpa hpb
  first|(guard_hyp I:Ix 0; refine ⟨_,_,rfl,Proofs.enters_of Tryz.func342 (by kernel_rfl) rfl,?_⟩)|(guard_hyp I:Ix 1; refine ⟨_,_,rfl,Proofs.enters_of Tryz.func305 (by kernel_rfl) rfl,?_⟩)|(guard_hyp I:Ix 2; refine ⟨_,_,rfl,Proofs.enters_of Tryz.func356 (by kernel_rfl) rfl,?_⟩)|(guard_hyp I:Ix 3; refine ⟨_,_,rfl,Proofs.enters_of Tryz.func186 (by kernel_rfl) rfl,?_⟩)|(guard_hyp I:Ix 4; refine ⟨_,_,rfl,Proofs.enters_of Tryz.func200 (by kernel_rfl) rfl,?_⟩)|(guard_hyp I:Ix 5; refine ⟨_,_,rfl,Proofs.enters_of Tryz.func290 (by kernel_rfl) rfl,?_⟩)|(guard_hyp I:Ix 6; refine ⟨_,_,rfl,Proofs.enters_of Tryz.func84 (by kernel_rfl) rfl,?_⟩)
  rintro B q F s w x v hB hw ⟨cs,rfl,hs,ha,hrep⟩ h hr
  have c0:=cellOf (j:=0) (hw.blk hpb)
  simp at c0
  have hpb2:pb < w.heap.size:=blk_lt (hw.blk hpb)
  have HPA:=lh hpa
  have HF:=lh hf
  have HW:=lh hw
  have HREP:=lh hrep
  have HS:=lh hs
  have HR:=lh hr
  have HBB:=lh hB
  have HLEN:=lh hlen
  have HWA:=lh h
  clear hpa hf hw hrep hs ha hr hB hlen h hpb hN
  show Calls Tryz.prog _ #[.pointer (some ⟨q,0,none⟩),.agg cs,.pointer (some ⟨pb,0,none⟩)] w _
  first|(guard_hyp I:Ix 0; go_enter Tryz.func342,Tryz.ntmps342)|(guard_hyp I:Ix 1; go_enter Tryz.func305,Tryz.ntmps305)|(guard_hyp I:Ix 2; go_enter Tryz.func356,Tryz.ntmps356)|(guard_hyp I:Ix 3; go_enter Tryz.func186,Tryz.ntmps186)|(guard_hyp I:Ix 4; go_enter Tryz.func200,Tryz.ntmps200)|(guard_hyp I:Ix 5; go_enter Tryz.func290,Tryz.ntmps290)|(guard_hyp I:Ix 6; go_enter Tryz.func84,Tryz.ntmps84)
  go_wp2
  have hb0:¬ F w.heap.size:=fun hf=>Nat.lt_irrefl _ (HWA.out.lt _ hf)
  first|(guard_hyp I:Ix 0; have hk1:Kept w (w.alloc (.cells cs 69)) (fun _=>False):=(Kept.refl _ _).alloc _)|(guard_hyp I:Ix 1; have hk1:Kept w (w.alloc (.cells cs 35)) (fun _=>False):=(Kept.refl _ _).alloc _)|(guard_hyp I:Ix 2; have hk1:Kept w (w.alloc (.cells cs 342)) (fun _=>False):=(Kept.refl _ _).alloc _)|(guard_hyp I:Ix 3; have hk1:Kept w (w.alloc (.cells cs 231)) (fun _=>False):=(Kept.refl _ _).alloc _)|(guard_hyp I:Ix 4; have hk1:Kept w (w.alloc (.cells cs 253)) (fun _=>False):=(Kept.refl _ _).alloc _)|(guard_hyp I:Ix 5; have hk1:Kept w (w.alloc (.cells cs 75)) (fun _=>False):=(Kept.refl _ _).alloc _)|(guard_hyp I:Ix 6; have hk1:Kept w (w.alloc (.cells cs 61)) (fun _=>False):=(Kept.refl _ _).alloc _)
  first|(guard_hyp I:Ix 0; have hba:=heap_alloc_new w (.cells cs 69))|(guard_hyp I:Ix 1; have hba:=heap_alloc_new w (.cells cs 35))|(guard_hyp I:Ix 2; have hba:=heap_alloc_new w (.cells cs 342))|(guard_hyp I:Ix 3; have hba:=heap_alloc_new w (.cells cs 231))|(guard_hyp I:Ix 4; have hba:=heap_alloc_new w (.cells cs 253))|(guard_hyp I:Ix 5; have hba:=heap_alloc_new w (.cells cs 75))|(guard_hyp I:Ix 6; have hba:=heap_alloc_new w (.cells cs 61))
  first|(guard_hyp I:Ix 0; have hwa:=HWA.out.alloc (.cells cs 69))|(guard_hyp I:Ix 1; have hwa:=HWA.out.alloc (.cells cs 35))|(guard_hyp I:Ix 2; have hwa:=HWA.out.alloc (.cells cs 342))|(guard_hyp I:Ix 3; have hwa:=HWA.out.alloc (.cells cs 231))|(guard_hyp I:Ix 4; have hwa:=HWA.out.alloc (.cells cs 253))|(guard_hyp I:Ix 5; have hwa:=HWA.out.alloc (.cells cs 75))|(guard_hyp I:Ix 6; have hwa:=HWA.out.alloc (.cells cs 61))
  first|(guard_hyp I:Ix 0; have hsz:(w.alloc (.cells cs 69)).heap.size=w.heap.size+1:=by simp)|(guard_hyp I:Ix 1; have hsz:(w.alloc (.cells cs 35)).heap.size=w.heap.size+1:=by simp)|(guard_hyp I:Ix 2; have hsz:(w.alloc (.cells cs 342)).heap.size=w.heap.size+1:=by simp)|(guard_hyp I:Ix 3; have hsz:(w.alloc (.cells cs 231)).heap.size=w.heap.size+1:=by simp)|(guard_hyp I:Ix 4; have hsz:(w.alloc (.cells cs 253)).heap.size=w.heap.size+1:=by simp)|(guard_hyp I:Ix 5; have hsz:(w.alloc (.cells cs 75)).heap.size=w.heap.size+1:=by simp)|(guard_hyp I:Ix 6; have hsz:(w.alloc (.cells cs 61)).heap.size=w.heap.size+1:=by simp)
  first|(guard_hyp I:Ix 0; obtain ⟨w1,hw1⟩:∃ w1,w.alloc (.cells cs 69)=w1:=⟨_,rfl⟩)|(guard_hyp I:Ix 1; obtain ⟨w1,hw1⟩:∃ w1,w.alloc (.cells cs 35)=w1:=⟨_,rfl⟩)|(guard_hyp I:Ix 2; obtain ⟨w1,hw1⟩:∃ w1,w.alloc (.cells cs 342)=w1:=⟨_,rfl⟩)|(guard_hyp I:Ix 3; obtain ⟨w1,hw1⟩:∃ w1,w.alloc (.cells cs 231)=w1:=⟨_,rfl⟩)|(guard_hyp I:Ix 4; obtain ⟨w1,hw1⟩:∃ w1,w.alloc (.cells cs 253)=w1:=⟨_,rfl⟩)|(guard_hyp I:Ix 5; obtain ⟨w1,hw1⟩:∃ w1,w.alloc (.cells cs 75)=w1:=⟨_,rfl⟩)|(guard_hyp I:Ix 6; obtain ⟨w1,hw1⟩:∃ w1,w.alloc (.cells cs 61)=w1:=⟨_,rfl⟩)
  rw [hw1] at hk1 hba hwa hsz ⊢
  have HB0:=lh hb0
  have HK1:=lh hk1
  have HBA:=lh hba
  have HWA1:=lh hwa
  have HSZ:=lh hsz
  clear hb0 hk1 hba hwa hsz hw1 c0
  go_loopw [9] (fun iv wr=>∃ k:Nat,k≤ps.length∧iv=.int .i64 k∧WMoved B w1 wr q F (putP (ps.take k) x s)) (fun iv _=>(ps.length - intOf iv).toNat)
  case atStart=>exact ⟨0,Nat.zero_le _,rfl,WMoved.refl HWA1.out⟩
  case round=>
   obtain ⟨k,hk,rfl,hm⟩:=hrel
   by_cases hlast:k=ps.length
   ·subst hlast
    rw [List.take_length] at hm
    have HM:=lh hm
    clear hm
    go_wp2
    go_end0
    obtain ⟨F1,h1,h2,h3⟩:=HM.out
    exact ⟨rfl,F1,h1,fun k hk=>(h2 k hk).elim .inl (fun h=>.inr (Nat.le_trans HK1.out.size h)),(HK1.out.mono (fun _ h=>h.elim)).trans h3 (fun k h=>.inl h)⟩
   ·have hkl:k < ps.length:=by omega
    have hl1:=HLEN.out
    have q1:(k:Int) < ps.length:=by omega
    have q2:(0:Int)≤k:=by omega
    obtain ⟨p,hp⟩:∃ p,ps[k]?=some p:=⟨_,List.getElem?_eq_getElem hkl⟩
    have hpm:p∈ps:=List.mem_of_getElem? hp
    obtain ⟨F1,hf1,hF1,hk2⟩:=hm
    have hFB:∀ j,j < B→¬ F j:=fun j hj hf=>by have:=HWA.out.base_le j hf; omega
    have hk3:Kept w wr F:=(HK1.out.mono (fun _ h=>h.elim)).trans hk2 (fun k h=>.inl h)
    have hsm:Same W wr:=HW.out.kept hk3 (fun j hj=>Nat.le_trans HBB.out (HWA.out.base_le j hj))
    obtain ⟨u,v,hu,hv,hpp,hpg⟩:=HPA.out.at_ k p hp
    have hc1:wr.cell? ⟨pa,k * 2,none⟩=some u:=by rw [← hu]; simp only [World.cell?,hsm.2 pa HPA.out.lt]
    have hc2:wr.cell? ⟨pa,k * 2+1,none⟩=some v:=by rw [← hv]; simp only [World.cell?,hsm.2 pa HPA.out.lt]
    obtain ⟨f,caps,rfl,he,hpp⟩:=hpp
    obtain ⟨g,caps',rfl,he',_⟩:=hpg
    unfold Proofs.Enters at he
    have room:WRoom (putP (ps.take k) x s) (p.c.cost (p.fld x)):=by
     unfold WRoom
     have h1:=putP_len (ps:=ps.take k) (fun p hp=>HF.out p (List.mem_of_mem_take hp)) x s
     have h3:=costP_take hp x
     have h4:=HR.out
     unfold WRoom at h4
     show _
     have h5:(recC N ps x0).cost x=costP ps x:=rfl
     omega
    have hrr:p.c.rep (fun k=>k < B) wr (p.fld x) (p.rd cs):=(HF.out p hpm).keep (HREP.out p hpm) (fun j hj hjB=>hk3.block j hj (hFB j hjB))
    first|(guard_hyp I:Ix 0; have ka:=(Kept.refl wr (fun _=>False)).alloc (.cells #[.func (.func f) #[] caps,.func (.func g) #[] caps'] 466))|(guard_hyp I:Ix 1; have ka:=(Kept.refl wr (fun _=>False)).alloc (.cells #[.func (.func f) #[] caps,.func (.func g) #[] caps'] 387))|(guard_hyp I:Ix 2; have ka:=(Kept.refl wr (fun _=>False)).alloc (.cells #[.func (.func f) #[] caps,.func (.func g) #[] caps'] 486))|(guard_hyp I:Ix 3; have ka:=(Kept.refl wr (fun _=>False)).alloc (.cells #[.func (.func f) #[] caps,.func (.func g) #[] caps'] 235))|(guard_hyp I:Ix 4; have ka:=(Kept.refl wr (fun _=>False)).alloc (.cells #[.func (.func f) #[] caps,.func (.func g) #[] caps'] 257))|(guard_hyp I:Ix 5; have ka:=(Kept.refl wr (fun _=>False)).alloc (.cells #[.func (.func f) #[] caps,.func (.func g) #[] caps'] 264))|(guard_hyp I:Ix 6; have ka:=(Kept.refl wr (fun _=>False)).alloc (.cells #[.func (.func f) #[] caps,.func (.func g) #[] caps'] 146))
    first|(guard_hyp I:Ix 0; have P2:=lh (hpp B q F1 _ (wr.alloc (.cells #[.func (.func f) #[] caps,.func (.func g) #[] caps'] 466)) w.heap.size cs x HBB.out (hsm.kept ka (fun _ h=>h.elim)) ((ka.blk (hk2.blk HBA.out HB0.out) (fun h=>h))) HS.out ((HF.out p hpm).keep hrr (fun j hj _=>ka.block j hj (fun h=>h))) (hf1.alloc _) room))|(guard_hyp I:Ix 1; have P2:=lh (hpp B q F1 _ (wr.alloc (.cells #[.func (.func f) #[] caps,.func (.func g) #[] caps'] 387)) w.heap.size cs x HBB.out (hsm.kept ka (fun _ h=>h.elim)) ((ka.blk (hk2.blk HBA.out HB0.out) (fun h=>h))) HS.out ((HF.out p hpm).keep hrr (fun j hj _=>ka.block j hj (fun h=>h))) (hf1.alloc _) room))|(guard_hyp I:Ix 2; have P2:=lh (hpp B q F1 _ (wr.alloc (.cells #[.func (.func f) #[] caps,.func (.func g) #[] caps'] 486)) w.heap.size cs x HBB.out (hsm.kept ka (fun _ h=>h.elim)) ((ka.blk (hk2.blk HBA.out HB0.out) (fun h=>h))) HS.out ((HF.out p hpm).keep hrr (fun j hj _=>ka.block j hj (fun h=>h))) (hf1.alloc _) room))|(guard_hyp I:Ix 3; have P2:=lh (hpp B q F1 _ (wr.alloc (.cells #[.func (.func f) #[] caps,.func (.func g) #[] caps'] 235)) w.heap.size cs x HBB.out (hsm.kept ka (fun _ h=>h.elim)) ((ka.blk (hk2.blk HBA.out HB0.out) (fun h=>h))) HS.out ((HF.out p hpm).keep hrr (fun j hj _=>ka.block j hj (fun h=>h))) (hf1.alloc _) room))|(guard_hyp I:Ix 4; have P2:=lh (hpp B q F1 _ (wr.alloc (.cells #[.func (.func f) #[] caps,.func (.func g) #[] caps'] 257)) w.heap.size cs x HBB.out (hsm.kept ka (fun _ h=>h.elim)) ((ka.blk (hk2.blk HBA.out HB0.out) (fun h=>h))) HS.out ((HF.out p hpm).keep hrr (fun j hj _=>ka.block j hj (fun h=>h))) (hf1.alloc _) room))|(guard_hyp I:Ix 5; have P2:=lh (hpp B q F1 _ (wr.alloc (.cells #[.func (.func f) #[] caps,.func (.func g) #[] caps'] 264)) w.heap.size cs x HBB.out (hsm.kept ka (fun _ h=>h.elim)) ((ka.blk (hk2.blk HBA.out HB0.out) (fun h=>h))) HS.out ((HF.out p hpm).keep hrr (fun j hj _=>ka.block j hj (fun h=>h))) (hf1.alloc _) room))|(guard_hyp I:Ix 6; have P2:=lh (hpp B q F1 _ (wr.alloc (.cells #[.func (.func f) #[] caps,.func (.func g) #[] caps'] 146)) w.heap.size cs x HBB.out (hsm.kept ka (fun _ h=>h.elim)) ((ka.blk (hk2.blk HBA.out HB0.out) (fun h=>h))) HS.out ((HF.out p hpm).keep hrr (fun j hj _=>ka.block j hj (fun h=>h))) (hf1.alloc _) room))
    have E2:=lh (putP_take hp x s)
    have H5:=lh hF1
    first|(guard_hyp I:Ix 0; have H6:=lh (hk2.alloc (.cells #[.func (.func f) #[] caps,.func (.func g) #[] caps'] 466)))|(guard_hyp I:Ix 1; have H6:=lh (hk2.alloc (.cells #[.func (.func f) #[] caps,.func (.func g) #[] caps'] 387)))|(guard_hyp I:Ix 2; have H6:=lh (hk2.alloc (.cells #[.func (.func f) #[] caps,.func (.func g) #[] caps'] 486)))|(guard_hyp I:Ix 3; have H6:=lh (hk2.alloc (.cells #[.func (.func f) #[] caps,.func (.func g) #[] caps'] 235)))|(guard_hyp I:Ix 4; have H6:=lh (hk2.alloc (.cells #[.func (.func f) #[] caps,.func (.func g) #[] caps'] 257)))|(guard_hyp I:Ix 5; have H6:=lh (hk2.alloc (.cells #[.func (.func f) #[] caps,.func (.func g) #[] caps'] 264)))|(guard_hyp I:Ix 6; have H6:=lh (hk2.alloc (.cells #[.func (.func f) #[] caps,.func (.func g) #[] caps'] 146)))
    clear hf1 hF1 hk2 hk3 hsm hFB hrr room hp hpp hpm ka hu hv hlast
    go_wp2_with (fail)
    refine P2.out.mono ?_
    rintro e w2 ⟨rfl,hm2⟩
    have HM3:=lh hm2
    clear hm2
    go_wp2
    go_roundw
    case rel=>
     refine ⟨k+1,by omega,by go_num,?_⟩
     rw [E2.out]
     exact WMoved.trans H5.out H6.out HM3.out
    case measure=>simp [intOf]; omega
theorem rec_put_ratchetState:rec_put_RecB_P 69 342:=rec_put_RecB_A.1 ⟨⟩
theorem rec_put_offerProp:rec_put_RecB_P 35 305:=rec_put_RecB_A.2.1 ⟨⟩
theorem rec_put_groupPast:rec_put_RecB_P 342 356:=rec_put_RecB_A.2.2.1 ⟨⟩
theorem rec_put_groupCached:rec_put_RecB_P 231 186:=rec_put_RecB_A.2.2.2.1 ⟨⟩
theorem rec_put_groupUpdate:rec_put_RecB_P 253 200:=rec_put_RecB_A.2.2.2.2.1 ⟨⟩
theorem rec_put_groupState:rec_put_RecB_P 75 290:=rec_put_RecB_A.2.2.2.2.2.1 ⟨⟩
theorem rec_put_memberSnapshot:rec_put_RecB_P 61 84:=rec_put_RecB_A.2.2.2.2.2.2 ⟨⟩
def rec_get_RecB_P (p0_:Nat) (p1_:Nat) (p2_:Nat):Prop:=∀ {α:Type} (ps:List (Prt α)) (hf:∀ p∈ps,PFair p0_ p) (hoff:ps.Pairwise (fun p p'=>Off p0_ p p')) (x0:α) (W:World) (pb pa cp:Nat) (T':TypeId) (hlen:ps.length≤1000) (hpa:PartsAt W p1_ p0_ pa ps) (hpb:W.heap[pb]?=some (.cells #[.slice (some ⟨pa,0,none⟩) ps.length cp] T' (0,0))),
  GetOk W (.func (.func p2_) #[] #[.pointer (some ⟨pb,0,none⟩)]) (recC p0_ ps x0)
set_option maxHeartbeats 22400000 in
set_option maxRecDepth 100000 in
theorem rec_get_RecB_A:(Ix 0→rec_get_RecB_P 3 69 343)∧(Ix 1→rec_get_RecB_P 11 35 306)∧(Ix 2→rec_get_RecB_P 8 342 357)∧(Ix 3→rec_get_RecB_P 12 231 187)∧(Ix 4→rec_get_RecB_P 2 253 201)∧(Ix 5→rec_get_RecB_P 29 75 291)∧(Ix 6→rec_get_RecB_P 3 61 85):=by
 refine ⟨?_,?_,?_,?_,?_,?_,?_⟩
 all_goals
  intro I α ps hf hoff x0 W pb pa cp T' hlen hpa hpb
  first|(guard_hyp I:Ix 0; refine ⟨_,_,rfl,Proofs.enters_of Tryz.func343 (by kernel_rfl) rfl,?_⟩)|(guard_hyp I:Ix 1; refine ⟨_,_,rfl,Proofs.enters_of Tryz.func306 (by kernel_rfl) rfl,?_⟩)|(guard_hyp I:Ix 2; refine ⟨_,_,rfl,Proofs.enters_of Tryz.func357 (by kernel_rfl) rfl,?_⟩)|(guard_hyp I:Ix 3; refine ⟨_,_,rfl,Proofs.enters_of Tryz.func187 (by kernel_rfl) rfl,?_⟩)|(guard_hyp I:Ix 4; refine ⟨_,_,rfl,Proofs.enters_of Tryz.func201 (by kernel_rfl) rfl,?_⟩)|(guard_hyp I:Ix 5; refine ⟨_,_,rfl,Proofs.enters_of Tryz.func291 (by kernel_rfl) rfl,?_⟩)|(guard_hyp I:Ix 6; refine ⟨_,_,rfl,Proofs.enters_of Tryz.func85 (by kernel_rfl) rfl,?_⟩)
  intro q d s w hq hw h hd
  have c0:=cellOf (j:=0) (hw.blk hpb)
  simp at c0
  have hpb2:pb < w.heap.size:=blk_lt (hw.blk hpb)
  have hql:q < w.heap.size:=by obtain ⟨a,hb,_⟩:=h; exact blk_lt hb
  have HPA:=lh hpa
  have HF:=lh hf
  have HOFF:=lh hoff
  have HW:=lh hw
  have HQ:=lh hq
  have HLEN:=lh hlen
  have HD:=lh hd
  have HR:=lh h
  clear hpa hf hoff hw hq hlen hd h hpb
  show Calls Tryz.prog _ #[.pointer (some ⟨q,0,none⟩),.pointer (some ⟨pb,0,none⟩)] w _
  first|(guard_hyp I:Ix 0; go_enter Tryz.func343,Tryz.ntmps343)|(guard_hyp I:Ix 1; go_enter Tryz.func306,Tryz.ntmps306)|(guard_hyp I:Ix 2; go_enter Tryz.func357,Tryz.ntmps357)|(guard_hyp I:Ix 3; go_enter Tryz.func187,Tryz.ntmps187)|(guard_hyp I:Ix 4; go_enter Tryz.func201,Tryz.ntmps201)|(guard_hyp I:Ix 5; go_enter Tryz.func291,Tryz.ntmps291)|(guard_hyp I:Ix 6; go_enter Tryz.func85,Tryz.ntmps85)
  go_wp2
  first|(guard_hyp I:Ix 0; obtain ⟨w1,hw1,hk1,hb4,hb3,hr1,hsz⟩:=two_new HR.out #[.int .i64 0,.slice none 0 0,.slice none 0 0] 69)|(guard_hyp I:Ix 1; obtain ⟨w1,hw1,hk1,hb4,hb3,hr1,hsz⟩:=two_new HR.out #[.int .i64 0,.int .i64 0,.int .i64 0,.int .i64 0,.int .i64 0,.int .i64 0,.int .i64 0,.int .i64 0,.int .i64 0,.int .i64 0,.int .i64 0] 35)|(guard_hyp I:Ix 2; obtain ⟨w1,hw1,hk1,hb4,hb3,hr1,hsz⟩:=two_new HR.out #[.int .i64 0,.int .i64 0,.slice none 0 0,.int .i64 0,.int .i64 0,.int .i64 0,.slice none 0 0,.slice none 0 0] 342)|(guard_hyp I:Ix 3; obtain ⟨w1,hw1,hk1,hb4,hb3,hr1,hsz⟩:=two_new HR.out #[.int .i64 0,.int .i64 0,.int .i64 0,.int .i64 0,.int .i64 0,.int .i64 0,.int .i64 0,.int .i64 0,.int .i64 0,.int .i64 0,.int .i64 0,.int .i64 0] 231)|(guard_hyp I:Ix 4; obtain ⟨w1,hw1,hk1,hb4,hb3,hr1,hsz⟩:=two_new HR.out #[.int .i64 0,.int .i64 0] 253)|(guard_hyp I:Ix 5; obtain ⟨w1,hw1,hk1,hb4,hb3,hr1,hsz⟩:=two_new HR.out #[.int .i64 0,.int .i64 0,.int .i64 0,.slice none 0 0,.slice none 0 0,.int .i64 0,.int .i64 0,.int .i64 0,.int .i64 0,.int .i64 0,.int .i64 0,.int .i64 0,.int .i64 0,.int .i64 0,.int .i64 0,.int .i64 0,.int .i64 0,.int .i64 0,.int .i64 0,.int .i64 0,.int .i64 0,.int .i64 0,.slice none 0 0,.slice none 0 0,.slice none 0 0,.slice none 0 0,.bool false,.slice none 0 0,.pointer none] 75)|(guard_hyp I:Ix 6; obtain ⟨w1,hw1,hk1,hb4,hb3,hr1,hsz⟩:=two_new HR.out #[.slice none 0 0,.slice none 0 0,.slice none 0 0] 61)
  rw [hw1]
  have HK1:=lh hk1
  have HB4:=lh hb4
  have HB3:=lh hb3
  have HR1:=lh hr1
  have HSZ:=lh hsz
  clear hk1 hb4 hb3 hr1 hsz hw1 c0
  first|(guard_hyp I:Ix 0; go_loopw [9] (fun iv wr=>RecRel ps 69 3 x0 q (w.heap.size+1) d s w1 iv wr) (fun iv _=>(ps.length - intOf iv).toNat))|(guard_hyp I:Ix 1; go_loopw [9] (fun iv wr=>RecRel ps 35 11 x0 q (w.heap.size+1) d s w1 iv wr) (fun iv _=>(ps.length - intOf iv).toNat))|(guard_hyp I:Ix 2; go_loopw [9] (fun iv wr=>RecRel ps 342 8 x0 q (w.heap.size+1) d s w1 iv wr) (fun iv _=>(ps.length - intOf iv).toNat))|(guard_hyp I:Ix 3; go_loopw [9] (fun iv wr=>RecRel ps 231 12 x0 q (w.heap.size+1) d s w1 iv wr) (fun iv _=>(ps.length - intOf iv).toNat))|(guard_hyp I:Ix 4; go_loopw [9] (fun iv wr=>RecRel ps 253 2 x0 q (w.heap.size+1) d s w1 iv wr) (fun iv _=>(ps.length - intOf iv).toNat))|(guard_hyp I:Ix 5; go_loopw [9] (fun iv wr=>RecRel ps 75 29 x0 q (w.heap.size+1) d s w1 iv wr) (fun iv _=>(ps.length - intOf iv).toNat))|(guard_hyp I:Ix 6; go_loopw [9] (fun iv wr=>RecRel ps 61 3 x0 q (w.heap.size+1) d s w1 iv wr) (fun iv _=>(ps.length - intOf iv).toNat))
  case atStart=>exact ⟨0,_,Nat.zero_le _,rfl,HB4.out,rfl,by simp [Value.oneCell'],HR1.out,Kept.refl _ _,fun p hp=>by simp at hp⟩
  case round=>
   obtain ⟨k,cs,hk,rfl,hb,hs,ha,hrd,hkp,hreps⟩:=hrel
   have hl1:=HLEN.out
   by_cases hlast:k=ps.length
   ·subst hlast
    rw [List.take_length] at hrd hreps
    have HB:=lh hb
    have HS:=lh hs
    have HA:=lh ha
    have HRD:=lh hrd
    have HKP:=lh hkp
    have HREPS:=lh hreps
    have hsz:=HSZ.out
    have HZ3:=lh (hkp.blk HB3.out (by rintro (h | h) <;> omega))
    first|(guard_hyp I:Ix 0; have HI:=lh (show (Tryz.prog.info? 69).map (·.size)=some cs.size by rw [hs]; kernel_rfl))|(guard_hyp I:Ix 1; have HI:=lh (show (Tryz.prog.info? 35).map (·.size)=some cs.size by rw [hs]; kernel_rfl))|(guard_hyp I:Ix 2; have HI:=lh (show (Tryz.prog.info? 342).map (·.size)=some cs.size by rw [hs]; kernel_rfl))|(guard_hyp I:Ix 3; have HI:=lh (show (Tryz.prog.info? 231).map (·.size)=some cs.size by rw [hs]; kernel_rfl))|(guard_hyp I:Ix 4; have HI:=lh (show (Tryz.prog.info? 253).map (·.size)=some cs.size by rw [hs]; kernel_rfl))|(guard_hyp I:Ix 5; have HI:=lh (show (Tryz.prog.info? 75).map (·.size)=some cs.size by rw [hs]; kernel_rfl))|(guard_hyp I:Ix 6; have HI:=lh (show (Tryz.prog.info? 61).map (·.size)=some cs.size by rw [hs]; kernel_rfl))
    clear hb hs ha hrd hkp hreps hsz
    first|(guard_hyp I:Ix 0; go_wp2_with (first | refine wpList_load_row rfl 69 (.tmp 4) rfl (w.heap.size+1) rfl _ cs _ _ HB.out Tryz.underlying69 rfl HI.out ?_ | refine wpList_store_row rfl 69 (.tmp 3) (.tmp 18) rfl w.heap.size cs rfl rfl _ _ HZ3.out HI.out (by rw [HS.out]; rfl) HA.out ?_))|(guard_hyp I:Ix 1; go_wp2_with (first | refine wpList_load_row rfl 35 (.tmp 4) rfl (w.heap.size+1) rfl _ cs _ _ HB.out Tryz.underlying35 rfl HI.out ?_ | refine wpList_store_row rfl 35 (.tmp 3) (.tmp 18) rfl w.heap.size cs rfl rfl _ _ HZ3.out HI.out (by rw [HS.out]; rfl) HA.out ?_))|(guard_hyp I:Ix 2; go_wp2_with (first | refine wpList_load_row rfl 342 (.tmp 4) rfl (w.heap.size+1) rfl _ cs _ _ HB.out Tryz.underlying342 rfl HI.out ?_ | refine wpList_store_row rfl 342 (.tmp 3) (.tmp 18) rfl w.heap.size cs rfl rfl _ _ HZ3.out HI.out (by rw [HS.out]; rfl) HA.out ?_))|(guard_hyp I:Ix 3; go_wp2_with (first | refine wpList_load_row rfl 231 (.tmp 4) rfl (w.heap.size+1) rfl _ cs _ _ HB.out Tryz.underlying231 rfl HI.out ?_ | refine wpList_store_row rfl 231 (.tmp 3) (.tmp 18) rfl w.heap.size cs rfl rfl _ _ HZ3.out HI.out (by rw [HS.out]; rfl) HA.out ?_))|(guard_hyp I:Ix 4; go_wp2_with (first | refine wpList_load_row rfl 253 (.tmp 4) rfl (w.heap.size+1) rfl _ cs _ _ HB.out Tryz.underlying253 rfl HI.out ?_ | refine wpList_store_row rfl 253 (.tmp 3) (.tmp 18) rfl w.heap.size cs rfl rfl _ _ HZ3.out HI.out (by rw [HS.out]; rfl) HA.out ?_))|(guard_hyp I:Ix 5; go_wp2_with (first | refine wpList_load_row rfl 75 (.tmp 4) rfl (w.heap.size+1) rfl _ cs _ _ HB.out Tryz.underlying75 rfl HI.out ?_ | refine wpList_store_row rfl 75 (.tmp 3) (.tmp 18) rfl w.heap.size cs rfl rfl _ _ HZ3.out HI.out (by rw [HS.out]; rfl) HA.out ?_))|(guard_hyp I:Ix 6; go_wp2_with (first | refine wpList_load_row rfl 61 (.tmp 4) rfl (w.heap.size+1) rfl _ cs _ _ HB.out Tryz.underlying61 rfl HI.out ?_ | refine wpList_store_row rfl 61 (.tmp 3) (.tmp 18) rfl w.heap.size cs rfl rfl _ _ HZ3.out HI.out (by rw [HS.out]; rfl) HA.out ?_))
    first|(guard_hyp I:Ix 0; have hsr:=setRow_heap wr w.heap.size _ cs 69 (0,0) HZ3.out)|(guard_hyp I:Ix 1; have hsr:=setRow_heap wr w.heap.size _ cs 35 (0,0) HZ3.out)|(guard_hyp I:Ix 2; have hsr:=setRow_heap wr w.heap.size _ cs 342 (0,0) HZ3.out)|(guard_hyp I:Ix 3; have hsr:=setRow_heap wr w.heap.size _ cs 231 (0,0) HZ3.out)|(guard_hyp I:Ix 4; have hsr:=setRow_heap wr w.heap.size _ cs 253 (0,0) HZ3.out)|(guard_hyp I:Ix 5; have hsr:=setRow_heap wr w.heap.size _ cs 75 (0,0) HZ3.out)|(guard_hyp I:Ix 6; have hsr:=setRow_heap wr w.heap.size _ cs 61 (0,0) HZ3.out)
    first|(guard_hyp I:Ix 0; refine bodyPost_ret (results_cell_row rfl _ _ _ _ _ _ _ rfl hsr Tryz.underlying69 rfl HI.out) rfl ?_)|(guard_hyp I:Ix 1; refine bodyPost_ret (results_cell_row rfl _ _ _ _ _ _ _ rfl hsr Tryz.underlying35 rfl HI.out) rfl ?_)|(guard_hyp I:Ix 2; refine bodyPost_ret (results_cell_row rfl _ _ _ _ _ _ _ rfl hsr Tryz.underlying342 rfl HI.out) rfl ?_)|(guard_hyp I:Ix 3; refine bodyPost_ret (results_cell_row rfl _ _ _ _ _ _ _ rfl hsr Tryz.underlying231 rfl HI.out) rfl ?_)|(guard_hyp I:Ix 4; refine bodyPost_ret (results_cell_row rfl _ _ _ _ _ _ _ rfl hsr Tryz.underlying253 rfl HI.out) rfl ?_)|(guard_hyp I:Ix 5; refine bodyPost_ret (results_cell_row rfl _ _ _ _ _ _ _ rfl hsr Tryz.underlying75 rfl HI.out) rfl ?_)|(guard_hyp I:Ix 6; refine bodyPost_ret (results_cell_row rfl _ _ _ _ _ _ _ rfl hsr Tryz.underlying61 rfl HI.out) rfl ?_)
    have kr:Kept wr (wr.setRow w.heap.size cs) (fun j=>j=w.heap.size):=⟨rfl,rfl,rfl,by simp,fun j _ hj=>setRow_other wr w.heap.size j cs hj⟩
    have hsz:=HSZ.out
    refine ⟨_,rfl,⟨?_,?_⟩,cs,rfl,HS.out,HA.out,fun p hp=>?_⟩
    ·obtain ⟨a,h1,h2,h3⟩:=HRD.out
     exact ⟨a,kr.blk h1 (by omega),h2,h3⟩
    ·have k1:Kept w wr (fun j=>j=q):=(HK1.out.mono (fun _ h=>h.elim)).trans HKP.out (fun k h=>h.elim .inl (fun h=>.inr (by omega)))
     exact k1.trans kr (fun k h=>.inr (by omega))
    ·refine (HF.out p hp).fair.mono ?_ ((HF.out p hp).fair.keep (HREPS.out p hp) ?_)
     ·intro j hj
      exact ⟨by omega,by simpa using hj.2⟩
     ·intro j h1 h2
      exact kr.block j h1 (by omega)
   ·have hkl:k < ps.length:=by omega
    have q1:(k:Int) < ps.length:=by omega
    have q2:(0:Int)≤k:=by omega
    obtain ⟨p,hp⟩:∃ p,ps[k]?=some p:=⟨_,List.getElem?_eq_getElem hkl⟩
    have hsz:=HSZ.out
    have hsm:Same W wr:=by
     refine ⟨Nat.le_trans HW.out.1 (Nat.le_trans HK1.out.size hkp.size),fun j hj=>?_⟩
     have hj2:j < w.heap.size:=Nat.lt_of_lt_of_le hj HW.out.1
     rw [hkp.block j (by omega) (by have:=HQ.out; rintro (rfl | rfl) <;> omega),HK1.out.block j hj2 (fun h=>h)]
     exact HW.out.2 j hj
    obtain ⟨u,v,hu,hv,hpp,hpg⟩:=HPA.out.at_ k p hp
    have hc1:wr.cell? ⟨pa,k * 2,none⟩=some u:=by rw [← hu]; simp only [World.cell?,hsm.2 pa HPA.out.lt]
    have hc2:wr.cell? ⟨pa,k * 2+1,none⟩=some v:=by rw [← hv]; simp only [World.cell?,hsm.2 pa HPA.out.lt]
    obtain ⟨f,caps,rfl,he,_⟩:=hpp
    obtain ⟨g,caps',rfl,he',hpg⟩:=hpg
    unfold Proofs.Enters at he'
    have hpz:=HPA.out.lt
    have hW0:=HW.out.1
    first|(guard_hyp I:Ix 0; have ka:=(Kept.refl wr (fun _=>False)).alloc (.cells #[.func (.func f) #[] caps,.func (.func g) #[] caps'] 466))|(guard_hyp I:Ix 1; have ka:=(Kept.refl wr (fun _=>False)).alloc (.cells #[.func (.func f) #[] caps,.func (.func g) #[] caps'] 387))|(guard_hyp I:Ix 2; have ka:=(Kept.refl wr (fun _=>False)).alloc (.cells #[.func (.func f) #[] caps,.func (.func g) #[] caps'] 486))|(guard_hyp I:Ix 3; have ka:=(Kept.refl wr (fun _=>False)).alloc (.cells #[.func (.func f) #[] caps,.func (.func g) #[] caps'] 235))|(guard_hyp I:Ix 4; have ka:=(Kept.refl wr (fun _=>False)).alloc (.cells #[.func (.func f) #[] caps,.func (.func g) #[] caps'] 257))|(guard_hyp I:Ix 5; have ka:=(Kept.refl wr (fun _=>False)).alloc (.cells #[.func (.func f) #[] caps,.func (.func g) #[] caps'] 264))|(guard_hyp I:Ix 6; have ka:=(Kept.refl wr (fun _=>False)).alloc (.cells #[.func (.func f) #[] caps,.func (.func g) #[] caps'] 146))
    first|(guard_hyp I:Ix 0; have P2:=lh (hpg q d _ (wr.alloc (.cells #[.func (.func f) #[] caps,.func (.func g) #[] caps'] 466)) (w.heap.size+1) cs HQ.out (by omega) (by omega) (hsm.kept ka (fun _ h=>h.elim)) (ka.blk hb (fun h=>h)) hs (hrd.alloc _) HD.out))|(guard_hyp I:Ix 1; have P2:=lh (hpg q d _ (wr.alloc (.cells #[.func (.func f) #[] caps,.func (.func g) #[] caps'] 387)) (w.heap.size+1) cs HQ.out (by omega) (by omega) (hsm.kept ka (fun _ h=>h.elim)) (ka.blk hb (fun h=>h)) hs (hrd.alloc _) HD.out))|(guard_hyp I:Ix 2; have P2:=lh (hpg q d _ (wr.alloc (.cells #[.func (.func f) #[] caps,.func (.func g) #[] caps'] 486)) (w.heap.size+1) cs HQ.out (by omega) (by omega) (hsm.kept ka (fun _ h=>h.elim)) (ka.blk hb (fun h=>h)) hs (hrd.alloc _) HD.out))|(guard_hyp I:Ix 3; have P2:=lh (hpg q d _ (wr.alloc (.cells #[.func (.func f) #[] caps,.func (.func g) #[] caps'] 235)) (w.heap.size+1) cs HQ.out (by omega) (by omega) (hsm.kept ka (fun _ h=>h.elim)) (ka.blk hb (fun h=>h)) hs (hrd.alloc _) HD.out))|(guard_hyp I:Ix 4; have P2:=lh (hpg q d _ (wr.alloc (.cells #[.func (.func f) #[] caps,.func (.func g) #[] caps'] 257)) (w.heap.size+1) cs HQ.out (by omega) (by omega) (hsm.kept ka (fun _ h=>h.elim)) (ka.blk hb (fun h=>h)) hs (hrd.alloc _) HD.out))|(guard_hyp I:Ix 5; have P2:=lh (hpg q d _ (wr.alloc (.cells #[.func (.func f) #[] caps,.func (.func g) #[] caps'] 264)) (w.heap.size+1) cs HQ.out (by omega) (by omega) (hsm.kept ka (fun _ h=>h.elim)) (ka.blk hb (fun h=>h)) hs (hrd.alloc _) HD.out))|(guard_hyp I:Ix 6; have P2:=lh (hpg q d _ (wr.alloc (.cells #[.func (.func f) #[] caps,.func (.func g) #[] caps'] 146)) (w.heap.size+1) cs HQ.out (by omega) (by omega) (hsm.kept ka (fun _ h=>h.elim)) (ka.blk hb (fun h=>h)) hs (hrd.alloc _) HD.out))
    have HP:=lh hp
    have HS:=lh hs
    have HA:=lh ha
    have HKP:=lh hkp
    have HREPS:=lh hreps
    have KA:=lh ka
    clear hb hs ha hrd hkp hreps hsz hsm hp hpg ka hu hv hlast hpz hW0
    go_wp2_with (fail)
    refine P2.out.mono ?_
    rintro e w3 ⟨rfl,v,h1,h2,h3,h4⟩
    have hsz:=HSZ.out
    have ST:=lh (recRel_step (x0:=x0) (s:=s) HF.out HOFF.out HP.out (by omega) (by omega) HS.out HA.out HKP.out HREPS.out KA.out h1 h2 h3 h4)
    clear h1 h2 h3 h4 hsz
    go_wp2
    go_roundw
    case rel=>
     exact ST.out
    case measure=>simp [intOf]; omega
theorem rec_get_ratchetState:rec_get_RecB_P 3 69 343:=rec_get_RecB_A.1 ⟨⟩
theorem rec_get_offerProp:rec_get_RecB_P 11 35 306:=rec_get_RecB_A.2.1 ⟨⟩
theorem rec_get_groupPast:rec_get_RecB_P 8 342 357:=rec_get_RecB_A.2.2.1 ⟨⟩
theorem rec_get_groupCached:rec_get_RecB_P 12 231 187:=rec_get_RecB_A.2.2.2.1 ⟨⟩
theorem rec_get_groupUpdate:rec_get_RecB_P 2 253 201:=rec_get_RecB_A.2.2.2.2.1 ⟨⟩
theorem rec_get_groupState:rec_get_RecB_P 29 75 291:=rec_get_RecB_A.2.2.2.2.2.1 ⟨⟩
theorem rec_get_memberSnapshot:rec_get_RecB_P 3 61 85:=rec_get_RecB_A.2.2.2.2.2.2 ⟨⟩
end Go.Proofs.YtogkkfdkeefjnaaGreatDoor.Codec
