/-
  The codec of lists of records, read and made, walked.
-/
import Derived.Test.YtogkkfdkeefjnaaGreatDoorA15
namespace Go.Proofs.YtogkkfdkeefjnaaGreatDoor.Codec
open Go.RowKit Go.Proofs.YtogkkfdkeefjnaaGreatDoorBase Go.Proofs.YtogkkfdkeefjnaaGreatDoorLex2 Go.Proofs.YtogkkfdkeefjnaaGreatDoorNum
set_option linter.unusedVariables false
set_option maxRecDepth 100000
set_option linter.unusedSimpArgs false
theorem elem_entryKept:Elem Tryz.prog 58 113 (.agg #[.int .i64 0,.int .i64 0,.int .i64 0,.int .i64 0,.int .i64 0,.int .i64 0,.int .i64 0,.int .i64 0]) 8 64:=⟨by kernel_rfl,by obtain ⟨i,h1,h2,h3,h4⟩:=info_parts (show (Tryz.prog.info? 113).map (fun i=>(i.zero,i.size,i.bytes))=some (some (.agg #[.int .i64 0,.int .i64 0,.int .i64 0,.int .i64 0,.int .i64 0,.int .i64 0,.int .i64 0,.int .i64 0]),8,64) by kernel_rfl); exact ⟨i,h1,h2,h3,h4⟩,rfl,by decide,by decide⟩
theorem elem_apiVertex:Elem Tryz.prog 40 117 (.agg #[.bool false,.int .i64 0,.int .i64 0,.int .i64 0,.int .i64 0,.slice none 0 0]) 6 64:=⟨by kernel_rfl,by obtain ⟨i,h1,h2,h3,h4⟩:=info_parts (show (Tryz.prog.info? 117).map (fun i=>(i.zero,i.size,i.bytes))=some (some (.agg #[.bool false,.int .i64 0,.int .i64 0,.int .i64 0,.int .i64 0,.slice none 0 0]),6,64) by kernel_rfl); exact ⟨i,h1,h2,h3,h4⟩,rfl,by decide,by decide⟩
theorem elem_kemSecret:Elem Tryz.prog 64 124 (.agg #[.int .i64 0,.int .i64 0]) 2 16:=⟨by kernel_rfl,by obtain ⟨i,h1,h2,h3,h4⟩:=info_parts (show (Tryz.prog.info? 124).map (fun i=>(i.zero,i.size,i.bytes))=some (some (.agg #[.int .i64 0,.int .i64 0]),2,16) by kernel_rfl); exact ⟨i,h1,h2,h3,h4⟩,rfl,by decide,by decide⟩
theorem elem_ratchetKey:Elem Tryz.prog 444 431 (.agg #[.int .i64 0,.int .i64 0]) 2 16:=⟨by kernel_rfl,by obtain ⟨i,h1,h2,h3,h4⟩:=info_parts (show (Tryz.prog.info? 431).map (fun i=>(i.zero,i.size,i.bytes))=some (some (.agg #[.int .i64 0,.int .i64 0]),2,16) by kernel_rfl); exact ⟨i,h1,h2,h3,h4⟩,rfl,by decide,by decide⟩
theorem elem_ratchetChain:Elem Tryz.prog 67 446 (.agg #[.int .i64 0,.int .i64 0,.int .i64 0,.slice none 0 0]) 4 48:=⟨by kernel_rfl,by obtain ⟨i,h1,h2,h3,h4⟩:=info_parts (show (Tryz.prog.info? 446).map (fun i=>(i.zero,i.size,i.bytes))=some (some (.agg #[.int .i64 0,.int .i64 0,.int .i64 0,.slice none 0 0]),4,48) by kernel_rfl); exact ⟨i,h1,h2,h3,h4⟩,rfl,by decide,by decide⟩
theorem elem_groupCached:Elem Tryz.prog 70 231 (.agg #[.int .i64 0,.int .i64 0,.int .i64 0,.int .i64 0,.int .i64 0,.int .i64 0,.int .i64 0,.int .i64 0,.int .i64 0,.int .i64 0,.int .i64 0,.int .i64 0]) 12 96:=⟨by kernel_rfl,by obtain ⟨i,h1,h2,h3,h4⟩:=info_parts (show (Tryz.prog.info? 231).map (fun i=>(i.zero,i.size,i.bytes))=some (some (.agg #[.int .i64 0,.int .i64 0,.int .i64 0,.int .i64 0,.int .i64 0,.int .i64 0,.int .i64 0,.int .i64 0,.int .i64 0,.int .i64 0,.int .i64 0,.int .i64 0]),12,96) by kernel_rfl); exact ⟨i,h1,h2,h3,h4⟩,rfl,by decide,by decide⟩
theorem elem_groupUpdate:Elem Tryz.prog 71 253 (.agg #[.int .i64 0,.int .i64 0]) 2 16:=⟨by kernel_rfl,by obtain ⟨i,h1,h2,h3,h4⟩:=info_parts (show (Tryz.prog.info? 253).map (fun i=>(i.zero,i.size,i.bytes))=some (some (.agg #[.int .i64 0,.int .i64 0]),2,16) by kernel_rfl); exact ⟨i,h1,h2,h3,h4⟩,rfl,by decide,by decide⟩
theorem elem_groupPast:Elem Tryz.prog 72 342 (.agg #[.int .i64 0,.int .i64 0,.slice none 0 0,.int .i64 0,.int .i64 0,.int .i64 0,.slice none 0 0,.slice none 0 0]) 8 112:=⟨by kernel_rfl,by obtain ⟨i,h1,h2,h3,h4⟩:=info_parts (show (Tryz.prog.info? 342).map (fun i=>(i.zero,i.size,i.bytes))=some (some (.agg #[.int .i64 0,.int .i64 0,.slice none 0 0,.int .i64 0,.int .i64 0,.int .i64 0,.slice none 0 0,.slice none 0 0]),8,112) by kernel_rfl); exact ⟨i,h1,h2,h3,h4⟩,rfl,by decide,by decide⟩
theorem elem_groupState:Elem Tryz.prog 59 75 (.agg #[.int .i64 0,.int .i64 0,.int .i64 0,.slice none 0 0,.slice none 0 0,.int .i64 0,.int .i64 0,.int .i64 0,.int .i64 0,.int .i64 0,.int .i64 0,.int .i64 0,.int .i64 0,.int .i64 0,.int .i64 0,.int .i64 0,.int .i64 0,.int .i64 0,.int .i64 0,.int .i64 0,.int .i64 0,.int .i64 0,.slice none 0 0,.slice none 0 0,.slice none 0 0,.slice none 0 0,.bool false,.slice none 0 0,.pointer none]) 29 344:=⟨by kernel_rfl,by obtain ⟨i,h1,h2,h3,h4⟩:=info_parts (show (Tryz.prog.info? 75).map (fun i=>(i.zero,i.size,i.bytes))=some (some (.agg #[.int .i64 0,.int .i64 0,.int .i64 0,.slice none 0 0,.slice none 0 0,.int .i64 0,.int .i64 0,.int .i64 0,.int .i64 0,.int .i64 0,.int .i64 0,.int .i64 0,.int .i64 0,.int .i64 0,.int .i64 0,.int .i64 0,.int .i64 0,.int .i64 0,.int .i64 0,.int .i64 0,.int .i64 0,.int .i64 0,.slice none 0 0,.slice none 0 0,.slice none 0 0,.slice none 0 0,.bool false,.slice none 0 0,.pointer none]),29,344) by kernel_rfl); exact ⟨i,h1,h2,h3,h4⟩,rfl,by decide,by decide⟩
def list_get_LstG_P (p0_:Nat) (p1_:Nat):Prop:=∀ {α:Type} (c:Cod α) (hf:Fair c) (hmany:Many c p0_) (W:World) (pv gv:Value) (T:TypeId) (hp:GetOk W gv c) (p b m cb:Nat) (d:ByteArray) (s:RS) (w:World) (hB:W.heap.size≤p) (hw:Same W w) (h:ReaderAt w p d s) (hd:DSize d)
  (hb:W.cell? ⟨b,0,none⟩=some (.int .i64 m)) (hbl:b < W.heap.size) (hcb:W.heap[cb]?=some (.cells #[pv,gv] T (0,0))) (hm:m≤1048576),
  Calls Tryz.prog p1_ #[.pointer (some ⟨p,0,none⟩),.pointer (some ⟨b,0,none⟩),.pointer (some ⟨cb,0,none⟩)] w fun r w'=>∃ v,r=.returned v∧RMoved w w' p d ((listN c p0_ m).get s).2∧RowRepN c p0_ (fun k=>w.heap.size≤k∧k < w'.heap.size) w' ((listN c p0_ m).get s).1 v
set_option maxHeartbeats 28800000 in
theorem list_get_LstG_A:(Ix 0→list_get_LstG_P 8 166)∧(Ix 1→list_get_LstG_P 6 317)∧(Ix 2→list_get_LstG_P 2 326)∧(Ix 3→list_get_LstG_P 2 382)∧(Ix 4→list_get_LstG_P 4 386)∧(Ix 5→list_get_LstG_P 12 351)∧(Ix 6→list_get_LstG_P 2 353)∧(Ix 7→list_get_LstG_P 8 355)∧(Ix 8→list_get_LstG_P 29 185):=by
 refine ⟨?_,?_,?_,?_,?_,?_,?_,?_,?_⟩
 all_goals
  intro I α c hf hmany W pv gv T hp p b m cb d s w hB hw h hd hb hbl hcb hm
  obtain ⟨f,caps,rfl,he,hp⟩:=hp
  unfold Proofs.Enters at he
  have c0:w.cell? ⟨b,0,none⟩=some (.int .i64 m):=by rw [← hb]; simp only [World.cell?,hw.2 b hbl]
  have P:=lh (count_any p d s m w h hd)
  have hnm:=countN_le m s
  first|(guard_hyp I:Ix 0; obtain ⟨res,hres⟩:∃ res,(listN c 8 m).get s=res:=⟨_,rfl⟩)|(guard_hyp I:Ix 7; obtain ⟨res,hres⟩:∃ res,(listN c 8 m).get s=res:=⟨_,rfl⟩)|(guard_hyp I:Ix 1; obtain ⟨res,hres⟩:∃ res,(listN c 6 m).get s=res:=⟨_,rfl⟩)|(guard_hyp I:Ix 2; obtain ⟨res,hres⟩:∃ res,(listN c 2 m).get s=res:=⟨_,rfl⟩)|(guard_hyp I:Ix 3; obtain ⟨res,hres⟩:∃ res,(listN c 2 m).get s=res:=⟨_,rfl⟩)|(guard_hyp I:Ix 6; obtain ⟨res,hres⟩:∃ res,(listN c 2 m).get s=res:=⟨_,rfl⟩)|(guard_hyp I:Ix 4; obtain ⟨res,hres⟩:∃ res,(listN c 4 m).get s=res:=⟨_,rfl⟩)|(guard_hyp I:Ix 5; obtain ⟨res,hres⟩:∃ res,(listN c 12 m).get s=res:=⟨_,rfl⟩)|(guard_hyp I:Ix 8; obtain ⟨res,hres⟩:∃ res,(listN c 29 m).get s=res:=⟨_,rfl⟩)
  have hres2:getL c.get (countN m s).1 (countN m s).2=res:=hres
  obtain ⟨n,s1,hns⟩:∃ n s1,countN m s=(n,s1):=⟨_,_,rfl⟩
  rw [hres]
  rw [hns] at P hnm hres2
  simp only at hnm hres2
  have HRES:=lh hres2
  have HLT:=lh (show p < w.heap.size from by obtain ⟨a,hb1,_⟩:=h; exact blk_lt hb1)
  have HD:=lh hd
  have HW:=lh hw
  have HP:=lh hp
  have HCB:=lh hcb
  have HF:=lh hf
  have HBB:=lh hB
  have HNM:=lh hnm
  have HMM:=lh hm
  have MANY:=lh hmany
  clear h hp hcb hb hbl hw hf hB hres hres2 hns hnm hd hmany hm
  first|(guard_hyp I:Ix 0; go_enter Tryz.func166,Tryz.ntmps166)|(guard_hyp I:Ix 1; go_enter Tryz.func317,Tryz.ntmps317)|(guard_hyp I:Ix 2; go_enter Tryz.func326,Tryz.ntmps326)|(guard_hyp I:Ix 3; go_enter Tryz.func382,Tryz.ntmps382)|(guard_hyp I:Ix 4; go_enter Tryz.func386,Tryz.ntmps386)|(guard_hyp I:Ix 5; go_enter Tryz.func351,Tryz.ntmps351)|(guard_hyp I:Ix 6; go_enter Tryz.func353,Tryz.ntmps353)|(guard_hyp I:Ix 7; go_enter Tryz.func355,Tryz.ntmps355)|(guard_hyp I:Ix 8; go_enter Tryz.func185,Tryz.ntmps185)
  go_wp2_with (fail)
  refine P.out.mono ?_
  rintro e w1 ⟨rfl,hm⟩
  have HM:=lh hm
  clear hm
  go_wp2
  first|(guard_hyp I:Ix 0; go_loopw [5,6] (fun vv iv wr=>GetRelN c 8 113 p d res m w vv iv wr) (fun _ iv _=>(intOf iv).toNat))|(guard_hyp I:Ix 1; go_loopw [5,6] (fun vv iv wr=>GetRelN c 6 117 p d res m w vv iv wr) (fun _ iv _=>(intOf iv).toNat))|(guard_hyp I:Ix 2; go_loopw [5,6] (fun vv iv wr=>GetRelN c 2 124 p d res m w vv iv wr) (fun _ iv _=>(intOf iv).toNat))|(guard_hyp I:Ix 3; go_loopw [5,6] (fun vv iv wr=>GetRelN c 2 431 p d res m w vv iv wr) (fun _ iv _=>(intOf iv).toNat))|(guard_hyp I:Ix 4; go_loopw [5,6] (fun vv iv wr=>GetRelN c 4 446 p d res m w vv iv wr) (fun _ iv _=>(intOf iv).toNat))|(guard_hyp I:Ix 5; go_loopw [5,6] (fun vv iv wr=>GetRelN c 12 231 p d res m w vv iv wr) (fun _ iv _=>(intOf iv).toNat))|(guard_hyp I:Ix 6; go_loopw [5,6] (fun vv iv wr=>GetRelN c 2 253 p d res m w vv iv wr) (fun _ iv _=>(intOf iv).toNat))|(guard_hyp I:Ix 7; go_loopw [5,6] (fun vv iv wr=>GetRelN c 8 342 p d res m w vv iv wr) (fun _ iv _=>(intOf iv).toNat))|(guard_hyp I:Ix 8; go_loopw [5,6] (fun vv iv wr=>GetRelN c 29 75 p d res m w vv iv wr) (fun _ iv _=>(intOf iv).toNat))
  case atStart=>exact ⟨n,[],s1,[],fun _=>False,rfl,by simpa using HNM.out,HM.out.1,HM.out.2,World.ownsRow_nil _ _ _ _,fun i x hi=>by simp at hi,fun _ h=>h.elim,by rw [HRES.out]; rfl⟩
  case round=>
   obtain ⟨⟨j,xs,s2,us,G,rfl,hjm,hrd,hk,ho,hx,hG,hr⟩⟩:=hrel
   cases j with
   | zero=>
    have E:=lh (getRelN_end HF.out ho hx hG (by have:=HMM.out; omega))
    have HK:=lh hk
    have HRD:=lh hrd
    have HR:=lh hr
    clear hjm hrd hk ho hx hG hr
    go_wp2
    go_ret
    rw [HR.out]
    simp only [getL,List.append_nil]
    exact ⟨_,rfl,⟨HRD.out,HK.out⟩,E.out⟩
   | succ j=>
    have q1:(0:Int) < ((j+1:Nat):Int):=by omega
    have c5:=hrd.err
    by_cases herr:s2.err=0
    ·obtain ⟨sa,sc,hse,hsc,hsm0⟩:=own_slice ho
     subst hse
     have hsm:Same W wr:=HW.out.kept hk (fun k hk=>by rw [hk]; exact HBB.out)
     have c6:=cellOf (j:=1) (hsm.blk HCB.out)
     simp at c6
     have P2:=lh (HP.out p d s2 wr HBB.out hsm hrd HD.out)
     have hvp:(Value.slice sa xs.length sc).ownBlock≠some p:=by obtain ⟨a,hb1,_⟩:=hrd; exact own_ne ho hb1 (by decide)
     first|(guard_hyp I:Ix 0; have hby:((xs.length+1)+(xs.length+1) / 4+192) * 64≤281474976710656:=by have:=HMM.out; omega)|(guard_hyp I:Ix 1; have hby:((xs.length+1)+(xs.length+1) / 4+192) * 64≤281474976710656:=by have:=HMM.out; omega)|(guard_hyp I:Ix 2; have hby:((xs.length+1)+(xs.length+1) / 4+192) * 16≤281474976710656:=by have:=HMM.out; omega)|(guard_hyp I:Ix 3; have hby:((xs.length+1)+(xs.length+1) / 4+192) * 16≤281474976710656:=by have:=HMM.out; omega)|(guard_hyp I:Ix 6; have hby:((xs.length+1)+(xs.length+1) / 4+192) * 16≤281474976710656:=by have:=HMM.out; omega)|(guard_hyp I:Ix 4; have hby:((xs.length+1)+(xs.length+1) / 4+192) * 48≤281474976710656:=by have:=HMM.out; omega)|(guard_hyp I:Ix 5; have hby:((xs.length+1)+(xs.length+1) / 4+192) * 96≤281474976710656:=by have:=HMM.out; omega)|(guard_hyp I:Ix 7; have hby:((xs.length+1)+(xs.length+1) / 4+192) * 112≤281474976710656:=by have:=HMM.out; omega)|(guard_hyp I:Ix 8; have hby:((xs.length+1)+(xs.length+1) / 4+192) * 344≤281474976710656:=by have:=HMM.out; omega)
     have Q5:Hid (wrap64 (j:Int)=(j:Int)):=by have h1:=HMM.out; refine lh ?_; unfold wrap64; omega
     have hlt:=HLT.out
     obtain ⟨x,s3,hxs⟩:∃ x s3,c.get s2=(x,s3):=⟨_,_,rfl⟩
     have hr2:res=((xs ++ [x]) ++ (getL c.get j s3).1,(getL c.get j s3).2):=by
      rw [hr]; simp only [getL]; rw [if_neg (by simpa using herr),hxs]; simp
     have HR:=lh hr2
     have HXS:=lh hxs
     have HO:=lh ho
     have HX:=lh hx
     have HG:=lh hG
     have HK:=lh hk
     have HVP:=lh hvp
     have HBY:=lh hby
     have HJM:=lh hjm
     rw [herr] at c5
     clear hjm hrd hk ho hx hG hr herr hsm hvp hby hr2 hxs
     go_wp2_with (fail)
     refine P2.out.mono ?_
     rw [HXS.out]
     rintro e w2 ⟨u,rfl,hm2,hu⟩
     have HM2:=lh hm2
     have HU:=lh hu
     have hsz:=lh hm2.2.size
     have ho2:=lh (own_keptF HO.out hm2.2 (fun g hg e=>HVP.out (by rw [hg,e])))
     obtain ⟨cs,rfl,hcs,hca⟩:=MANY.out _ _ _ _ hu
     have CS:=lh hcs
     have CA:=lh hca
     clear hm2 hu hcs hca
     first|(guard_hyp I:Ix 0; have SRC:=lh (src_many elem_entryKept CS.out CA.out w2))|(guard_hyp I:Ix 1; have SRC:=lh (src_many elem_apiVertex CS.out CA.out w2))|(guard_hyp I:Ix 2; have SRC:=lh (src_many elem_kemSecret CS.out CA.out w2))|(guard_hyp I:Ix 3; have SRC:=lh (src_many elem_ratchetKey CS.out CA.out w2))|(guard_hyp I:Ix 4; have SRC:=lh (src_many elem_ratchetChain CS.out CA.out w2))|(guard_hyp I:Ix 5; have SRC:=lh (src_many elem_groupCached CS.out CA.out w2))|(guard_hyp I:Ix 6; have SRC:=lh (src_many elem_groupUpdate CS.out CA.out w2))|(guard_hyp I:Ix 7; have SRC:=lh (src_many elem_groupPast CS.out CA.out w2))|(guard_hyp I:Ix 8; have SRC:=lh (src_many elem_groupState CS.out CA.out w2))
     have BA {o:Obj}:Hid (w.heap.size≤(w2.alloc o).heap.size):=by
      have h1:=hsz.out
      have h2:=HK.out.size
      refine lh ?_
      simp
      omega
     first|(guard_hyp I:Ix 0; go_wp2_with (first | refine wpList_build1 rfl 58 113 (.tmp 25) rfl cs 8 (.agg #[.int .i64 0,.int .i64 0,.int .i64 0,.int .i64 0,.int .i64 0,.int .i64 0,.int .i64 0,.int .i64 0]) Tryz.underlying58 (by kernel_rfl) (by decide) (by decide) CS.out rfl ?_|(at_builtin; apply hold)))|(guard_hyp I:Ix 1; go_wp2_with (first | refine wpList_build1 rfl 40 117 (.tmp 25) rfl cs 6 (.agg #[.bool false,.int .i64 0,.int .i64 0,.int .i64 0,.int .i64 0,.slice none 0 0]) Tryz.underlying40 (by kernel_rfl) (by decide) (by decide) CS.out rfl ?_|(at_builtin; apply hold)))|(guard_hyp I:Ix 2; go_wp2_with (first | refine wpList_build1 rfl 64 124 (.tmp 25) rfl cs 2 (.agg #[.int .i64 0,.int .i64 0]) Tryz.underlying64 (by kernel_rfl) (by decide) (by decide) CS.out rfl ?_|(at_builtin; apply hold)))|(guard_hyp I:Ix 3; go_wp2_with (first | refine wpList_build1 rfl 444 431 (.tmp 25) rfl cs 2 (.agg #[.int .i64 0,.int .i64 0]) Tryz.underlying444 (by kernel_rfl) (by decide) (by decide) CS.out rfl ?_|(at_builtin; apply hold)))|(guard_hyp I:Ix 4; go_wp2_with (first | refine wpList_build1 rfl 67 446 (.tmp 25) rfl cs 4 (.agg #[.int .i64 0,.int .i64 0,.int .i64 0,.slice none 0 0]) Tryz.underlying67 (by kernel_rfl) (by decide) (by decide) CS.out rfl ?_|(at_builtin; apply hold)))|(guard_hyp I:Ix 5; go_wp2_with (first | refine wpList_build1 rfl 70 231 (.tmp 25) rfl cs 12 (.agg #[.int .i64 0,.int .i64 0,.int .i64 0,.int .i64 0,.int .i64 0,.int .i64 0,.int .i64 0,.int .i64 0,.int .i64 0,.int .i64 0,.int .i64 0,.int .i64 0]) Tryz.underlying70 (by kernel_rfl) (by decide) (by decide) CS.out rfl ?_|(at_builtin; apply hold)))|(guard_hyp I:Ix 6; go_wp2_with (first | refine wpList_build1 rfl 71 253 (.tmp 25) rfl cs 2 (.agg #[.int .i64 0,.int .i64 0]) Tryz.underlying71 (by kernel_rfl) (by decide) (by decide) CS.out rfl ?_|(at_builtin; apply hold)))|(guard_hyp I:Ix 7; go_wp2_with (first | refine wpList_build1 rfl 72 342 (.tmp 25) rfl cs 8 (.agg #[.int .i64 0,.int .i64 0,.slice none 0 0,.int .i64 0,.int .i64 0,.int .i64 0,.slice none 0 0,.slice none 0 0]) Tryz.underlying72 (by kernel_rfl) (by decide) (by decide) CS.out rfl ?_|(at_builtin; apply hold)))|(guard_hyp I:Ix 8; go_wp2_with (first | refine wpList_build1 rfl 59 75 (.tmp 25) rfl cs 29 (.agg #[.int .i64 0,.int .i64 0,.int .i64 0,.slice none 0 0,.slice none 0 0,.int .i64 0,.int .i64 0,.int .i64 0,.int .i64 0,.int .i64 0,.int .i64 0,.int .i64 0,.int .i64 0,.int .i64 0,.int .i64 0,.int .i64 0,.int .i64 0,.int .i64 0,.int .i64 0,.int .i64 0,.int .i64 0,.int .i64 0,.slice none 0 0,.slice none 0 0,.slice none 0 0,.slice none 0 0,.bool false,.slice none 0 0,.pointer none]) Tryz.underlying59 (by kernel_rfl) (by decide) (by decide) CS.out rfl ?_|(at_builtin; apply hold)))
     unfold Hold
     first|(guard_hyp I:Ix 0; refine wpList_append_ownS _ rfl (.tmp 21) (.tmp 26) 58 58 rfl w.heap.size 113 (.agg #[.int .i64 0,.int .i64 0,.int .i64 0,.int .i64 0,.int .i64 0,.int .i64 0,.int .i64 0,.int .i64 0]) 8 64 elem_entryKept (.slice sa xs.length sc) xs.length us rfl (own_grownA ho2.out _) (.slice (some ⟨w2.heap.size,0,none⟩) 1 1) 1 cs.toList rfl SRC.out HBY.out BA.out (fun v' w3 o1 g1 b1=>?_))|(guard_hyp I:Ix 1; refine wpList_append_ownS _ rfl (.tmp 21) (.tmp 26) 40 40 rfl w.heap.size 117 (.agg #[.bool false,.int .i64 0,.int .i64 0,.int .i64 0,.int .i64 0,.slice none 0 0]) 6 64 elem_apiVertex (.slice sa xs.length sc) xs.length us rfl (own_grownA ho2.out _) (.slice (some ⟨w2.heap.size,0,none⟩) 1 1) 1 cs.toList rfl SRC.out HBY.out BA.out (fun v' w3 o1 g1 b1=>?_))|(guard_hyp I:Ix 2; refine wpList_append_ownS _ rfl (.tmp 21) (.tmp 26) 64 64 rfl w.heap.size 124 (.agg #[.int .i64 0,.int .i64 0]) 2 16 elem_kemSecret (.slice sa xs.length sc) xs.length us rfl (own_grownA ho2.out _) (.slice (some ⟨w2.heap.size,0,none⟩) 1 1) 1 cs.toList rfl SRC.out HBY.out BA.out (fun v' w3 o1 g1 b1=>?_))|(guard_hyp I:Ix 3; refine wpList_append_ownS _ rfl (.tmp 21) (.tmp 26) 444 444 rfl w.heap.size 431 (.agg #[.int .i64 0,.int .i64 0]) 2 16 elem_ratchetKey (.slice sa xs.length sc) xs.length us rfl (own_grownA ho2.out _) (.slice (some ⟨w2.heap.size,0,none⟩) 1 1) 1 cs.toList rfl SRC.out HBY.out BA.out (fun v' w3 o1 g1 b1=>?_))|(guard_hyp I:Ix 4; refine wpList_append_ownS _ rfl (.tmp 21) (.tmp 26) 67 67 rfl w.heap.size 446 (.agg #[.int .i64 0,.int .i64 0,.int .i64 0,.slice none 0 0]) 4 48 elem_ratchetChain (.slice sa xs.length sc) xs.length us rfl (own_grownA ho2.out _) (.slice (some ⟨w2.heap.size,0,none⟩) 1 1) 1 cs.toList rfl SRC.out HBY.out BA.out (fun v' w3 o1 g1 b1=>?_))|(guard_hyp I:Ix 5; refine wpList_append_ownS _ rfl (.tmp 21) (.tmp 26) 70 70 rfl w.heap.size 231 (.agg #[.int .i64 0,.int .i64 0,.int .i64 0,.int .i64 0,.int .i64 0,.int .i64 0,.int .i64 0,.int .i64 0,.int .i64 0,.int .i64 0,.int .i64 0,.int .i64 0]) 12 96 elem_groupCached (.slice sa xs.length sc) xs.length us rfl (own_grownA ho2.out _) (.slice (some ⟨w2.heap.size,0,none⟩) 1 1) 1 cs.toList rfl SRC.out HBY.out BA.out (fun v' w3 o1 g1 b1=>?_))|(guard_hyp I:Ix 6; refine wpList_append_ownS _ rfl (.tmp 21) (.tmp 26) 71 71 rfl w.heap.size 253 (.agg #[.int .i64 0,.int .i64 0]) 2 16 elem_groupUpdate (.slice sa xs.length sc) xs.length us rfl (own_grownA ho2.out _) (.slice (some ⟨w2.heap.size,0,none⟩) 1 1) 1 cs.toList rfl SRC.out HBY.out BA.out (fun v' w3 o1 g1 b1=>?_))|(guard_hyp I:Ix 7; refine wpList_append_ownS _ rfl (.tmp 21) (.tmp 26) 72 72 rfl w.heap.size 342 (.agg #[.int .i64 0,.int .i64 0,.slice none 0 0,.int .i64 0,.int .i64 0,.int .i64 0,.slice none 0 0,.slice none 0 0]) 8 112 elem_groupPast (.slice sa xs.length sc) xs.length us rfl (own_grownA ho2.out _) (.slice (some ⟨w2.heap.size,0,none⟩) 1 1) 1 cs.toList rfl SRC.out HBY.out BA.out (fun v' w3 o1 g1 b1=>?_))|(guard_hyp I:Ix 8; refine wpList_append_ownS _ rfl (.tmp 21) (.tmp 26) 59 59 rfl w.heap.size 75 (.agg #[.int .i64 0,.int .i64 0,.int .i64 0,.slice none 0 0,.slice none 0 0,.int .i64 0,.int .i64 0,.int .i64 0,.int .i64 0,.int .i64 0,.int .i64 0,.int .i64 0,.int .i64 0,.int .i64 0,.int .i64 0,.int .i64 0,.int .i64 0,.int .i64 0,.int .i64 0,.int .i64 0,.int .i64 0,.int .i64 0,.slice none 0 0,.slice none 0 0,.slice none 0 0,.slice none 0 0,.bool false,.slice none 0 0,.pointer none]) 29 344 elem_groupState (.slice sa xs.length sc) xs.length us rfl (own_grownA ho2.out _) (.slice (some ⟨w2.heap.size,0,none⟩) 1 1) 1 cs.toList rfl SRC.out HBY.out BA.out (fun v' w3 o1 g1 b1=>?_))
     ·skip
      have O1:=lh o1
      have G1:=lh g1
      have B1:=lh b1
      clear o1 g1 b1
      go_wp2
      go_roundw
      case rel=>
       rw [Q5.out]
       exact getRelN_step HF.out CS.out HR.out HJM.out HLT.out HM2.out HU.out HO.out HX.out HG.out HK.out HVP.out O1.out G1.out B1.out
      case measure=>
       rw [Q5.out]
       simp only [intOf]
       omega
    ·have q2:(s2.err == 0)=false:=by simpa using herr
     have q3:decide (s2.err=0)=false:=by simpa using herr
     have E:=lh (getRelN_end HF.out ho hx hG (by have:=HMM.out; omega))
     have HK:=lh hk
     have HRD:=lh hrd
     have HR:=lh hr
     have HERR:=lh herr
     clear hjm hrd hk ho hx hG hr herr
     go_wp2
     go_ret
     rw [HR.out]
     simp only [getL,if_pos HERR.out,List.append_nil]
     exact ⟨_,rfl,⟨HRD.out,HK.out⟩,E.out⟩
theorem list_get_entryKept:list_get_LstG_P 8 166:=list_get_LstG_A.1 ⟨⟩
theorem list_get_apiVertex:list_get_LstG_P 6 317:=list_get_LstG_A.2.1 ⟨⟩
theorem list_get_kemSecret:list_get_LstG_P 2 326:=list_get_LstG_A.2.2.1 ⟨⟩
theorem list_get_ratchetKey:list_get_LstG_P 2 382:=list_get_LstG_A.2.2.2.1 ⟨⟩
theorem list_get_ratchetChain:list_get_LstG_P 4 386:=list_get_LstG_A.2.2.2.2.1 ⟨⟩
theorem list_get_groupCached:list_get_LstG_P 12 351:=list_get_LstG_A.2.2.2.2.2.1 ⟨⟩
theorem list_get_groupUpdate:list_get_LstG_P 2 353:=list_get_LstG_A.2.2.2.2.2.2.1 ⟨⟩
theorem list_get_groupPast:list_get_LstG_P 8 355:=list_get_LstG_A.2.2.2.2.2.2.2.1 ⟨⟩
theorem list_get_groupState:list_get_LstG_P 29 185:=list_get_LstG_A.2.2.2.2.2.2.2.2 ⟨⟩
def list_codec_LstG_P (p0_:Nat) (p1_:Nat) (p2_:Nat):Prop:=∀ {α:Type} (c:Cod α) (hf:Fair c) (hmany:Many c p0_) (W:World) (b cb m:Nat) (hm:m≤1048576) (pv gv:Value) (T:TypeId) (hp:PutOk W pv c) (hg:GetOk W gv c) (hb:W.cell? ⟨b,0,none⟩=some (.int .i64 m)) (hl:b < W.heap.size) (hcb:W.heap[cb]?=some (.cells #[pv,gv] T (0,0))),
  IsCodec W (.agg #[.func (.func p1_) #[] #[.pointer (some ⟨b,0,none⟩),.pointer (some ⟨cb,0,none⟩)],.func (.func p2_) #[] #[.pointer (some ⟨b,0,none⟩),.pointer (some ⟨cb,0,none⟩)]]) (listN c p0_ m)
set_option maxHeartbeats 1800000 in
theorem list_codec_LstG_A:(Ix 0→list_codec_LstG_P 8 163 166)∧(Ix 1→list_codec_LstG_P 6 316 317)∧(Ix 2→list_codec_LstG_P 2 325 326)∧(Ix 3→list_codec_LstG_P 2 381 382)∧(Ix 4→list_codec_LstG_P 4 385 386)∧(Ix 5→list_codec_LstG_P 12 350 351)∧(Ix 6→list_codec_LstG_P 2 352 353)∧(Ix 7→list_codec_LstG_P 8 354 355)∧(Ix 8→list_codec_LstG_P 29 184 185):=by
 refine ⟨?_,?_,?_,?_,?_,?_,?_,?_,?_⟩
 all_goals
  intro I α c hf hmany W b cb m hm pv gv T hp hg hb hl hcb
  first|(guard_hyp I:Ix 0; refine ⟨_,_,rfl,⟨_,_,rfl,Proofs.enters_of Tryz.func163 (by kernel_rfl) rfl,?_⟩,⟨_,_,rfl,Proofs.enters_of Tryz.func166 (by kernel_rfl) rfl,?_⟩⟩)|(guard_hyp I:Ix 1; refine ⟨_,_,rfl,⟨_,_,rfl,Proofs.enters_of Tryz.func316 (by kernel_rfl) rfl,?_⟩,⟨_,_,rfl,Proofs.enters_of Tryz.func317 (by kernel_rfl) rfl,?_⟩⟩)|(guard_hyp I:Ix 2; refine ⟨_,_,rfl,⟨_,_,rfl,Proofs.enters_of Tryz.func325 (by kernel_rfl) rfl,?_⟩,⟨_,_,rfl,Proofs.enters_of Tryz.func326 (by kernel_rfl) rfl,?_⟩⟩)|(guard_hyp I:Ix 3; refine ⟨_,_,rfl,⟨_,_,rfl,Proofs.enters_of Tryz.func381 (by kernel_rfl) rfl,?_⟩,⟨_,_,rfl,Proofs.enters_of Tryz.func382 (by kernel_rfl) rfl,?_⟩⟩)|(guard_hyp I:Ix 4; refine ⟨_,_,rfl,⟨_,_,rfl,Proofs.enters_of Tryz.func385 (by kernel_rfl) rfl,?_⟩,⟨_,_,rfl,Proofs.enters_of Tryz.func386 (by kernel_rfl) rfl,?_⟩⟩)|(guard_hyp I:Ix 5; refine ⟨_,_,rfl,⟨_,_,rfl,Proofs.enters_of Tryz.func350 (by kernel_rfl) rfl,?_⟩,⟨_,_,rfl,Proofs.enters_of Tryz.func351 (by kernel_rfl) rfl,?_⟩⟩)|(guard_hyp I:Ix 6; refine ⟨_,_,rfl,⟨_,_,rfl,Proofs.enters_of Tryz.func352 (by kernel_rfl) rfl,?_⟩,⟨_,_,rfl,Proofs.enters_of Tryz.func353 (by kernel_rfl) rfl,?_⟩⟩)|(guard_hyp I:Ix 7; refine ⟨_,_,rfl,⟨_,_,rfl,Proofs.enters_of Tryz.func354 (by kernel_rfl) rfl,?_⟩,⟨_,_,rfl,Proofs.enters_of Tryz.func355 (by kernel_rfl) rfl,?_⟩⟩)|(guard_hyp I:Ix 8; refine ⟨_,_,rfl,⟨_,_,rfl,Proofs.enters_of Tryz.func184 (by kernel_rfl) rfl,?_⟩,⟨_,_,rfl,Proofs.enters_of Tryz.func185 (by kernel_rfl) rfl,?_⟩⟩)
  ·intro B p F s w x v hB hw hv h hr
   show Calls Tryz.prog _ #[_,_,_,_] w _
   by_cases ho:m < x.length
   ·first|(guard_hyp I:Ix 0; have e:(listN c 8 m).put x s=s.fail 22:=if_pos ho)|(guard_hyp I:Ix 7; have e:(listN c 8 m).put x s=s.fail 22:=if_pos ho)|(guard_hyp I:Ix 1; have e:(listN c 6 m).put x s=s.fail 22:=if_pos ho)|(guard_hyp I:Ix 2; have e:(listN c 2 m).put x s=s.fail 22:=if_pos ho)|(guard_hyp I:Ix 3; have e:(listN c 2 m).put x s=s.fail 22:=if_pos ho)|(guard_hyp I:Ix 6; have e:(listN c 2 m).put x s=s.fail 22:=if_pos ho)|(guard_hyp I:Ix 4; have e:(listN c 4 m).put x s=s.fail 22:=if_pos ho)|(guard_hyp I:Ix 5; have e:(listN c 12 m).put x s=s.fail 22:=if_pos ho)|(guard_hyp I:Ix 8; have e:(listN c 29 m).put x s=s.fail 22:=if_pos ho)
    rw [e]
    first|(guard_hyp I:Ix 0; exact list_put_over_entryKept c B p b m cb F s w x v h hv (by rw [← hb]; simp only [World.cell?,hw.2 b hl]) ho)|(guard_hyp I:Ix 1; exact list_put_over_apiVertex c B p b m cb F s w x v h hv (by rw [← hb]; simp only [World.cell?,hw.2 b hl]) ho)|(guard_hyp I:Ix 2; exact list_put_over_kemSecret c B p b m cb F s w x v h hv (by rw [← hb]; simp only [World.cell?,hw.2 b hl]) ho)|(guard_hyp I:Ix 3; exact list_put_over_ratchetKey c B p b m cb F s w x v h hv (by rw [← hb]; simp only [World.cell?,hw.2 b hl]) ho)|(guard_hyp I:Ix 4; exact list_put_over_ratchetChain c B p b m cb F s w x v h hv (by rw [← hb]; simp only [World.cell?,hw.2 b hl]) ho)|(guard_hyp I:Ix 5; exact list_put_over_groupCached c B p b m cb F s w x v h hv (by rw [← hb]; simp only [World.cell?,hw.2 b hl]) ho)|(guard_hyp I:Ix 6; exact list_put_over_groupUpdate c B p b m cb F s w x v h hv (by rw [← hb]; simp only [World.cell?,hw.2 b hl]) ho)|(guard_hyp I:Ix 7; exact list_put_over_groupPast c B p b m cb F s w x v h hv (by rw [← hb]; simp only [World.cell?,hw.2 b hl]) ho)|(guard_hyp I:Ix 8; exact list_put_over_groupState c B p b m cb F s w x v h hv (by rw [← hb]; simp only [World.cell?,hw.2 b hl]) ho)
   ·first|(guard_hyp I:Ix 0; have e:(listN c 8 m).put x s=puts c x (putN x.length s):=if_neg ho)|(guard_hyp I:Ix 7; have e:(listN c 8 m).put x s=puts c x (putN x.length s):=if_neg ho)|(guard_hyp I:Ix 1; have e:(listN c 6 m).put x s=puts c x (putN x.length s):=if_neg ho)|(guard_hyp I:Ix 2; have e:(listN c 2 m).put x s=puts c x (putN x.length s):=if_neg ho)|(guard_hyp I:Ix 3; have e:(listN c 2 m).put x s=puts c x (putN x.length s):=if_neg ho)|(guard_hyp I:Ix 6; have e:(listN c 2 m).put x s=puts c x (putN x.length s):=if_neg ho)|(guard_hyp I:Ix 4; have e:(listN c 4 m).put x s=puts c x (putN x.length s):=if_neg ho)|(guard_hyp I:Ix 5; have e:(listN c 12 m).put x s=puts c x (putN x.length s):=if_neg ho)|(guard_hyp I:Ix 8; have e:(listN c 29 m).put x s=puts c x (putN x.length s):=if_neg ho)
    rw [e]
    first|(guard_hyp I:Ix 0; exact list_put_fits_entryKept c hf hmany W pv gv T hp B p b m cb F s w x v hB hw h hv hb hl hcb ho hm hr)|(guard_hyp I:Ix 1; exact list_put_fits_apiVertex c hf hmany W pv gv T hp B p b m cb F s w x v hB hw h hv hb hl hcb ho hm hr)|(guard_hyp I:Ix 2; exact list_put_fits_kemSecret c hf hmany W pv gv T hp B p b m cb F s w x v hB hw h hv hb hl hcb ho hm hr)|(guard_hyp I:Ix 3; exact list_put_fits_ratchetKey c hf hmany W pv gv T hp B p b m cb F s w x v hB hw h hv hb hl hcb ho hm hr)|(guard_hyp I:Ix 4; exact list_put_fits_ratchetChain c hf hmany W pv gv T hp B p b m cb F s w x v hB hw h hv hb hl hcb ho hm hr)|(guard_hyp I:Ix 5; exact list_put_fits_groupCached c hf hmany W pv gv T hp B p b m cb F s w x v hB hw h hv hb hl hcb ho hm hr)|(guard_hyp I:Ix 6; exact list_put_fits_groupUpdate c hf hmany W pv gv T hp B p b m cb F s w x v hB hw h hv hb hl hcb ho hm hr)|(guard_hyp I:Ix 7; exact list_put_fits_groupPast c hf hmany W pv gv T hp B p b m cb F s w x v hB hw h hv hb hl hcb ho hm hr)|(guard_hyp I:Ix 8; exact list_put_fits_groupState c hf hmany W pv gv T hp B p b m cb F s w x v hB hw h hv hb hl hcb ho hm hr)
  ·intro p d s w hp hw h hd
   show Calls Tryz.prog _ #[_,_,_] w _
   first|(guard_hyp I:Ix 0; exact list_get_entryKept c hf hmany W pv gv T hg p b m cb d s w hp hw h hd hb hl hcb hm)|(guard_hyp I:Ix 1; exact list_get_apiVertex c hf hmany W pv gv T hg p b m cb d s w hp hw h hd hb hl hcb hm)|(guard_hyp I:Ix 2; exact list_get_kemSecret c hf hmany W pv gv T hg p b m cb d s w hp hw h hd hb hl hcb hm)|(guard_hyp I:Ix 3; exact list_get_ratchetKey c hf hmany W pv gv T hg p b m cb d s w hp hw h hd hb hl hcb hm)|(guard_hyp I:Ix 4; exact list_get_ratchetChain c hf hmany W pv gv T hg p b m cb d s w hp hw h hd hb hl hcb hm)|(guard_hyp I:Ix 5; exact list_get_groupCached c hf hmany W pv gv T hg p b m cb d s w hp hw h hd hb hl hcb hm)|(guard_hyp I:Ix 6; exact list_get_groupUpdate c hf hmany W pv gv T hg p b m cb d s w hp hw h hd hb hl hcb hm)|(guard_hyp I:Ix 7; exact list_get_groupPast c hf hmany W pv gv T hg p b m cb d s w hp hw h hd hb hl hcb hm)|(guard_hyp I:Ix 8; exact list_get_groupState c hf hmany W pv gv T hg p b m cb d s w hp hw h hd hb hl hcb hm)
theorem list_codec_entryKept:list_codec_LstG_P 8 163 166:=list_codec_LstG_A.1 ⟨⟩
theorem list_codec_apiVertex:list_codec_LstG_P 6 316 317:=list_codec_LstG_A.2.1 ⟨⟩
theorem list_codec_kemSecret:list_codec_LstG_P 2 325 326:=list_codec_LstG_A.2.2.1 ⟨⟩
theorem list_codec_ratchetKey:list_codec_LstG_P 2 381 382:=list_codec_LstG_A.2.2.2.1 ⟨⟩
theorem list_codec_ratchetChain:list_codec_LstG_P 4 385 386:=list_codec_LstG_A.2.2.2.2.1 ⟨⟩
theorem list_codec_groupCached:list_codec_LstG_P 12 350 351:=list_codec_LstG_A.2.2.2.2.2.1 ⟨⟩
theorem list_codec_groupUpdate:list_codec_LstG_P 2 352 353:=list_codec_LstG_A.2.2.2.2.2.2.1 ⟨⟩
theorem list_codec_groupPast:list_codec_LstG_P 8 354 355:=list_codec_LstG_A.2.2.2.2.2.2.2.1 ⟨⟩
theorem list_codec_groupState:list_codec_LstG_P 29 184 185:=list_codec_LstG_A.2.2.2.2.2.2.2.2 ⟨⟩
end Go.Proofs.YtogkkfdkeefjnaaGreatDoor.Codec
