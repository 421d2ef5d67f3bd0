/-
  A member saves: what it keeps is written, walked. What a member would keep with one more group, or without one, walked. What a member would keep without a group, and its groups' numbers, walked. What a founder's call leaves, as a state. A member founds a group and leaves one, walked. Numbers compared; a member's groups, told; a crash planned; walked. A member: a crash planned, its time set, asked to tell of a group that isn't there; walked. A member is made, walked. A member comes back behind a crash, walked.
-/
import Derived.Test.YtogkkfdkeefjnaaGreatDoorA30
import Derived.Test.YtogkkfdkeefjnaaGreatDoorA26
import Derived.Test.YtogkkfdkeefjnaaGreatDoorA22
namespace Go.Proofs.YtogkkfdkeefjnaaGreatDoor.Member
open Go.RowKit Go.Proofs.YtogkkfdkeefjnaaGreatDoorBase Go.Proofs.YtogkkfdkeefjnaaGreatDoorLex2 Go.Proofs.YtogkkfdkeefjnaaGreatDoorNum Go.Proofs.YtogkkfdkeefjnaaGreatDoor.Codec Go.Proofs.YtogkkfdkeefjnaaGreatDoor.Term
set_option linter.unusedVariables false
set_option maxRecDepth 100000
set_option linter.unusedSimpArgs false
theorem st_keptG {w0 w w':World} {p:Nat} {F G:Nat→Prop} {x:Disk.FD} (h:Disk.St w0 w p F x) (hk:Kept w w' G) (hd:∀ k,F k→¬ G k) (hB:∀ k,G k→w0.heap.size≤k):Disk.St w0 w' p F x :=
 ⟨h.1.kept hk hd,h.2.1.trans (hk.below hB h.2.1.size),h.2.2⟩
section
variable {w0 w w' : World} {L : Lay} {sig now : Int} {wv kv pv gv : Value} {ts : TS} {x : MD}
theorem MAt.filed (h:MAt w0 w L sig now wv kv pv gv ts x) {fd:Disk.FD} {Ff:Nat→Prop} (hn:Disk.St w0 w' L.f Ff fd) (hF:∀ k,Ff k→L.Ff k∨w.heap.size≤k) (hk:Kept w w' L.Ff) :
  MAt w0 w' { L with Ff:=Ff } sig now wv kv pv gv ts { x with fd:=fd }:=by
 have hB:∀ k,L.Ff k→w0.heap.size≤k:=fun k hf=>h.fl.1.base_le k hf
 have hm:=h.m_lt
 have hq:=h.q_lt
 refine ⟨h.st.keptG hk h.sf hB,hn,hk.blk h.jr h.fq,hk.blk h.mem h.fm,snapC_fair.keep h.snap (fun k hk1 hg=>hk.block k hk1 (h.g k hg).2.2.1),h.bm,h.bq,h.mq,fun hf=>?_,fun hf=>?_,h.sm,h.sq,fun k hs hf=>?_,fun k hg=>?_,h.wo,h.sb⟩
 ·rcases hF _ hf with h1 | h1
  ·exact h.fm h1
  ·show False
   have:w.heap.size≤L.m:=h1
   omega
 ·rcases hF _ hf with h1 | h1
  ·exact h.fq h1
  ·have:w.heap.size≤L.q:=h1
   omega
 ·have hl:=h.st.at_.lt k hs
  rcases hF _ hf with h1 | h1
  ·exact h.sf k hs h1
  ·omega
 ·obtain ⟨g1,g2,g3,g4⟩:=h.g k hg
  refine ⟨Nat.lt_of_lt_of_le g1 hk.size,g2,fun hf=>?_,g4⟩
  rcases hF _ hf with h1 | h1
  ·exact g3 h1
  ·omega
theorem MAt.snapped (h:MAt w0 w L sig now wv kv pv gv ts x) {sn:SnapD} {G':Nat→Prop} {kv' pv' gv':Value} (hr:snapC.rep G' w sn (.agg #[kv',pv',gv'])) (hG:∀ k,G' k→k < w.heap.size∧¬ L.Fs k∧¬ L.Ff k∧k≠L.m) :
  MAt w0 (w.setCells L.m 6 [kv',pv',gv']) { L with G:=G' } sig now wv kv' pv' gv' ts { x with snap:=sn }∧Kept w (w.setCells L.m 6 [kv',pv',gv']) (fun k=>k=L.m):=by
 have hk:=setCells_kept (b:=L.m) [kv',pv',gv'] 6 w
 have hB:∀ k,k=L.m→w0.heap.size≤k:=fun k hk=>hk ▸ h.bm
 refine ⟨⟨h.st.keptG hk (fun k hs e=>h.sm (e ▸ hs)) hB,st_keptG h.fl hk (fun k hs e=>h.fm (e ▸ hs)) hB,hk.blk h.jr (fun e=>h.mq e.symm),?_,snapC_fair.keep hr (fun k hk1 hg=>hk.block k hk1 (hG k hg).2.2.2),h.bm,h.bq,h.mq,h.fm,h.fq,h.sm,h.sq,h.sf,fun k hg=>?_,h.wo,h.sb⟩,hk⟩
 ·have:=setCells_blk (w:=w) [kv',pv',gv'] _ 6 w h.mem
  rw [this]
  rfl
 ·obtain ⟨g1,g2,g3,g4⟩:=hG k hg
  exact ⟨by rw [setCells_size]; exact g1,g2,g3,g4⟩
theorem MAt.downed (h:MAt w0 w L sig now wv kv pv gv ts x):MAt w0 (w.setCell ⟨L.m,11,none⟩ (.bool true)) L sig now wv kv pv gv ts { x with down:=true }∧Kept w (w.setCell ⟨L.m,11,none⟩ (.bool true)) (fun k=>k=L.m):=by
 have hk:Kept w (w.setCell ⟨L.m,11,none⟩ (.bool true)) (fun k=>k=L.m):=(Kept.refl w (fun k=>k=L.m)).setCell (p:=⟨L.m,11,none⟩) (.inl rfl) _
 have hB:∀ k,k=L.m→w0.heap.size≤k:=fun k hk=>hk ▸ h.bm
 refine ⟨⟨h.st.keptG hk (fun k hs e=>h.sm (e ▸ hs)) hB,st_keptG h.fl hk (fun k hs e=>h.fm (e ▸ hs)) hB,hk.blk h.jr (fun e=>h.mq e.symm),?_,snapC_fair.keep h.snap (fun k hk1 hg=>hk.block k hk1 (h.g k hg).2.2.2),h.bm,h.bq,h.mq,h.fm,h.fq,h.sm,h.sq,h.sf,fun k hg=>?_,h.wo,h.sb⟩,hk⟩
 ·exact blk_set h.mem 11 (.bool true)
 ·obtain ⟨g1,g2,g3,g4⟩:=h.g k hg
  exact ⟨Nat.lt_of_lt_of_le g1 hk.size,g2,g3,g4⟩
/-- A member that has tried to save. -/
def savedR (x:MD) (sn:SnapD):Int×Disk.FD:=addJ x.fd (frameS (bsRr snapG sn))
def saved (x:MD) (sn:SnapD):MD:=⟨(savedR x sn).2,if (savedR x sn).1=0 then sn else x.snap,if (savedR x sn).1=140 then true else x.down⟩
theorem mnext_of {w2 w3 w4:World} {kv' pv' gv':Value} {x':MD} {Ff:Nat→Prop} {G':Nat→Prop} (hm:MAt w0 w4 { L with Ff:=Ff,G:=G' } sig now wv kv' pv' gv' ts x') (hF:∀ k,Ff k→L.Ff k∨w2.heap.size≤k) (k2:Kept w w2 (fun _=>False)) (k3:Kept w2 w3 L.Ff) (k4:Kept w3 w4 (fun k=>k=L.m)):MNext w0 w w4 L x':=by
 refine ⟨_,sig,now,wv,kv',pv',gv',ts,hm,rfl,rfl,fun k hk=>?_,?_⟩
 ·rcases hk with h1 | h1 | h1
  ·exact .inl (.inl h1)
  ·rcases hF k h1 with h2 | h2
   ·exact .inl (.inr (.inl h2))
   ·exact .inr (Nat.le_trans k2.size h2)
  ·exact .inl (.inr (.inr h1))
 ·exact ((k2.mono (fun _ h=>h.elim)).trans k3 (fun k h=>.inl (.inr (.inl h)))).trans k4 (fun k h=>.inl (.inr (.inr h)))
set_option maxHeartbeats 6400000 in
theorem save_any (h:MAt w0 w L sig now wv kv pv gv ts x) (sn:SnapD) (hs:SnOk sn) (G':Nat→Prop) (kv' pv' gv':Value) (hr:snapC.rep G' w sn (.agg #[kv',pv',gv'])) (hG:∀ k,G' k→k < w.heap.size∧¬ L.Fs k∧¬ L.Ff k∧k≠L.m) (hroom:Disk.Room { x.fd with loose:=x.fd.loose ++ frameS (bsRr snapG sn) }) :
  Calls Tryz.prog 19 #[.pointer (some ⟨L.m,0,none⟩),.agg #[kv',pv',gv']] w fun e w'=>e=.returned (.int .i64 (savedR x sn).1)∧MNext w0 w w' L (saved x sn):=by
 obtain ⟨d,hd⟩:∃ d:ByteArray,(⟨(bsRr snapG sn).toArray⟩:ByteArray)=d:=⟨_,rfl⟩
 have hdd:d.data.toList=bsRr snapG sn:=by rw [← hd]
 have hds:d.size≤2000:=by rw [← len_data,hdd]; exact hs.enc.2
 have henc:encR snapC sn=(d,0):=by rw [hs.enc.1,hd]
 have hall:kv'.oneCell'=true∧pv'.oneCell'=true∧gv'.oneCell'=true:=by
  obtain ⟨h1,h2,h3⟩:=snap_parts hr
  obtain ⟨A,n,cp,rfl,_⟩:=h1
  obtain ⟨A',n',cp',rfl,_⟩:=h2
  obtain ⟨A'',n'',cp'',rfl,_⟩:=h3
  exact ⟨rfl,rfl,rfl⟩
 obtain ⟨A1,n1,k1,rfl⟩:∃ A n c,kv'=.slice A n c:=by
  obtain ⟨⟨A,n,cp,rfl,_⟩,-,-⟩:=snap_parts hr
  exact ⟨A,n,cp,rfl⟩
 obtain ⟨A2,n2,k2,rfl⟩:∃ A n c,pv'=.slice A n c:=by
  obtain ⟨-,⟨A,n,cp,rfl,_⟩,-⟩:=snap_parts hr
  exact ⟨A,n,cp,rfl⟩
 obtain ⟨A3,n3,k3,rfl⟩:∃ A n c,gv'=.slice A n c:=by
  obtain ⟨-,-,⟨A,n,cp,rfl,_⟩⟩:=snap_parts hr
  exact ⟨A,n,cp,rfl⟩
 have kA:=((Kept.refl w (fun _=>False)).alloc (.cells #[.slice A1 n1 k1,.slice A2 n2 k2,.slice A3 n3 k3] 61)).drew
 have hb3:(w.alloc (.cells #[.slice A1 n1 k1,.slice A2 n2 k2,.slice A3 n3 k3] 61)).drew.heap[w.heap.size]?=some (.cells #[.slice A1 n1 k1,.slice A2 n2 k2,.slice A3 n3 k3] 61 (0,0)):=heap_alloc_new w _
 have hA:=h.kept kA
 have hrA:=snapC_fair.keep hr (fun k hk1 _=>kA.block k hk1 (fun h=>h))
 obtain ⟨wA,hwA⟩:∃ wA,w.alloc (.cells #[.slice A1 n1 k1,.slice A2 n2 k2,.slice A3 n3 k3] 61)=wA:=⟨_,rfl⟩
 rw [hwA] at kA hb3 hA hrA
 have c0:=cellOf (j:=0) hb3
 have c1:=cellOf (j:=1) hb3
 have c2:=cellOf (j:=2) hb3
 simp at c0 c1 c2
 have d0:wA.cell? ⟨w.heap.size,0,none⟩=some (.slice A1 n1 k1):=c0
 have d1:wA.cell? ⟨w.heap.size,1,none⟩=some (.slice A2 n2 k2):=c1
 have d2:wA.cell? ⟨w.heap.size,2,none⟩=some (.slice A3 n3 k3):=c2
 obtain ⟨b3,hbb⟩:∃ b3,w.heap.size=b3:=⟨_,rfl⟩
 have HBB:=lh hbb
 rw [hbb] at hb3 c0 c1 c2 d0 d1 d2
 have HWA:=lh hwA
 have KA:=lh kA
 have HB3:=lh hb3
 have HA:=lh hA
 have HRA:=lh hrA
 have HS:=lh hs
 have HG:=lh hG
 have HROOM:=lh hroom
 have HENC:=lh henc
 have HDD:=lh hdd
 have HDS:=lh hds
 have H0:=lh h
 clear h hs hr hG hroom hd hdd hds henc hall kA hb3 hA hrA hwA hbb
 go_enter Tryz.func19,Tryz.ntmps19
 go_wp2_with (fail)
 rw [HWA.out,HBB.out]
 refine wp_region_lex (fun w'=>w'.cell? ⟨b3,0,none⟩=some (.slice A1 n1 k1)∧w'.cell? ⟨b3,1,none⟩=some (.slice A2 n2 k2)∧w'.cell? ⟨b3,2,none⟩=some (.slice A3 n3 k3)) [2,3,4,0,0,0,0,0] (by kernel_rfl) (by kernel_rfl) (by kernel_rfl) (⟨c0,c1,c2⟩) (fun Q' hQ'=>?_)
 simp only [List.zip_cons_cons,List.zip_nil_right]
 clear d0 d1 d2
 repeat((first|(refine wpX_silent ?_ fun K hK=>?_;rfl;apply Exists.intro;refine ⟨fun w'=>?_,?_⟩;go_simp;exact⟨rfl,rfl⟩)|(refine wpX_read ?_ fun K hK=>?_;rfl;apply Exists.intro;refine ⟨?_,?_⟩;go_simp;exact⟨rfl,rfl⟩)|(refine wpX_float ?_ fun K hK=>?_;rfl;apply Exists.intro;refine ⟨fun w' hw'=>?_,?_⟩;(try dsimp only at hw');go_simp;exact⟨rfl,rfl⟩)|(refine wpX_not ?_ fun K hK=>?_;rfl));go_simp;refine hK _ _ ?_;clear hK K)
 refine wpX_keeps ?_ (fun K hK=>?_)
 ·rfl
 go_wp2_with (fail)
 refine (snaps_new _).mono ?_
 rintro e w1 ⟨a,b,rfl,-,-,hk,hc⟩
 have HC:=lh (hc w1 ⟨Nat.le_refl _,fun _ _ _=>rfl⟩)
 have K1:=kt KA hk
 have H1:=lh (HA.out.kept hk)
 have HR1:=lh (snapC_fair.keep HRA.out (fun k hk1 _=>hk.block k hk1 (fun h=>h)))
 have HB1:=kb hk HB3
 clear hk hc c0 c1 c2 HRA HA HB3
 have c0:=cellOf (j:=0) HB1.out
 have c1:=cellOf (j:=1) HB1.out
 have c2:=cellOf (j:=2) HB1.out
 simp at c0 c1 c2
 go_simp
 refine hK _ _ ⟨rfl,⟨c0,c1,c2⟩,?_⟩
 clear hK K
 repeat((first|(refine wpX_silent ?_ fun K hK=>?_;rfl;apply Exists.intro;refine ⟨fun w'=>?_,?_⟩;go_simp;exact⟨rfl,rfl⟩)|(refine wpX_read ?_ fun K hK=>?_;rfl;apply Exists.intro;refine ⟨?_,?_⟩;go_simp;exact⟨rfl,rfl⟩)|(refine wpX_float ?_ fun K hK=>?_;rfl;apply Exists.intro;refine ⟨fun w' hw'=>?_,?_⟩;(try dsimp only at hw');go_simp;exact⟨rfl,rfl⟩)|(refine wpX_not ?_ fun K hK=>?_;rfl));go_simp;refine hK _ _ ?_;clear hK K)
 refine wpX_heavy ?_ (fun K hK=>?_)
 ·rfl
 clear c0 c1 c2
 go_wp2_with (fail)
 refine (encode_snap w1 _ snapC sn _ w1 HC.out snapC_fair (Same.refl w1) rfl (snapC_fair.mono (fun k hk=>Nat.lt_of_lt_of_le (HG.out k hk).1 K1.out.size) HR1.out) (by have:=HS.out.cost; unfold WRoom; simp; omega)).mono ?_
 rintro e w2 ⟨rfl,hk⟩
 rw [HENC.out]
 have K2:=kt K1 hk
 have H2:=lh (H1.out.kept hk)
 have HR2:=lh (snapC_fair.keep HR1.out (fun k hk1 _=>hk.block k hk1 (fun h=>h)))
 have HB2:=kb hk HB1
 clear hk H1 HR1 HB1 K1 HC
 go_simp
 refine hK _ _ ⟨rfl,?_⟩
 clear hK K
 repeat((first|(refine wpX_silent ?_ fun K hK=>?_;rfl;apply Exists.intro;refine ⟨fun w'=>?_,?_⟩;go_simp;exact⟨rfl,rfl⟩)|(refine wpX_read ?_ fun K hK=>?_;rfl;apply Exists.intro;refine ⟨?_,?_⟩;go_simp;exact⟨rfl,rfl⟩)|(refine wpX_float ?_ fun K hK=>?_;rfl;apply Exists.intro;refine ⟨fun w' hw'=>?_,?_⟩;(try dsimp only at hw');go_simp;exact⟨rfl,rfl⟩)|(refine wpX_not ?_ fun K hK=>?_;rfl));go_simp;refine hK _ _ ?_;clear hK K)
 refine wpX_nil (hQ' _ _ ?_)
 have c10:=H2.out.cell 10
 simp [memCells] at c10
 go_wp2_with (fail)
 refine (jadd_any w0 w2 L.f L.q L.Ff x.fd H2.out.fl H2.out.jr H2.out.fq d (by have:=HDS.out; omega) (by rw [HDD.out]; exact HROOM.out)).mono ?_
 rw [HDD.out]
 rintro e w3 ⟨rfl,hn⟩
 obtain ⟨c,fd',hcf⟩:∃ c fd',addJ x.fd (frameS (bsRr snapG sn))=(c,fd'):=⟨_,_,rfl⟩
 have hsr:savedR x sn=(c,fd'):=hcf
 have hsv:saved x sn=⟨fd',if c=0 then sn else x.snap,if c=140 then true else x.down⟩:=by unfold saved; rw [hsr]
 rw [hcf] at hn ⊢
 have HSR:=lh hsr
 obtain ⟨Ff',hst,hF,hk⟩:=hn
 have hbF:¬ L.Ff b3:=fun hf=>by
  have h1:=st_lt H0.out.fl b3 hf
  rw [HBB.out] at h1
  exact Nat.lt_irrefl _ h1
 have H3:=lh (H2.out.filed hst hF hk)
 have HB3:=lh (hk.blk HB2.out hbF)
 have HR3:=lh (snapC_fair.keep HR2.out (fun k hk1 hg=>hk.block k hk1 (HG.out k hg).2.2.1))
 have HG3:=lh (show ∀ k,G' k→k < w3.heap.size∧¬ L.Fs k∧¬ Ff' k∧k≠L.m from fun k hg=>by
  obtain ⟨g1,g2,g3,g4⟩:=HG.out k hg
  refine ⟨Nat.lt_of_lt_of_le g1 (Nat.le_trans K2.out.size hk.size),g2,fun hf=>?_,g4⟩
  rcases hF k hf with h1 | h1
  ·exact g3 h1
  ·have:=K2.out.size
   omega)
 have FF:=lh hF
 have K3:=lh hk
 have HSV:=lh hsv
 clear hsr hsv hst hF hk hbF HB2 HR2 HG c10 hcf
 by_cases h0:c=0
 ·subst h0
  obtain ⟨h4,k4⟩:=H3.out.snapped HR3.out HG3.out
  have e:saved x sn=⟨fd',sn,x.down⟩:=HSV.out
  have mn:MNext w0 w (w3.setCells L.m 6 [.slice A1 n1 k1,.slice A2 n2 k2,.slice A3 n3 k3]) L (saved x sn):=by
   rw [e]
   exact mnext_of (L:=L) h4 FF.out K2.out K3.out k4
  have MN:=lh mn
  clear h4 k4 e mn
  have TH:=lh (there_blk (o:=6) (n:=3) H3.out.mem (by simp [memCells]))
  go_wp2_with (first | refine wpList_load_row rfl 61 (.tmp 3) rfl b3 rfl _ #[.slice A1 n1 k1,.slice A2 n2 k2,.slice A3 n3 k3] _ _ HB3.out Tryz.underlying61 rfl (by kernel_rfl) ?_|(refine wpList_store_mid rfl 61 (.tmp 27) (.tmp 25) rfl L.m 6 #[.slice A1 n1 k1,.slice A2 n2 k2,.slice A3 n3 k3] rfl rfl TH.out (by kernel_rfl) (by simp [Value.oneCell']) ?_; apply hold))
  unfold Hold
  obtain ⟨w4,hw4⟩:∃ w4,w3.setCells L.m 6 [.slice A1 n1 k1,.slice A2 n2 k2,.slice A3 n3 k3]=w4:=⟨_,rfl⟩
  rw [hw4] at MN ⊢
  clear hw4
  go_wp2
  go_ret
  exact ⟨by rw [HSR.out]; rfl,MN.out⟩
 ·have q0:(c == 0)=false:=by simpa using h0
  by_cases h14:c=140
  ·subst h14
   obtain ⟨h4,k4⟩:=H3.out.downed
   have e:saved x sn=⟨fd',x.snap,true⟩:=HSV.out
   have mn:MNext w0 w (w3.setCell ⟨L.m,11,none⟩ (.bool true)) L (saved x sn):=by
    rw [e]
    exact mnext_of (L:=L) h4 FF.out K2.out K3.out k4
   have MN:=lh mn
   clear h4 k4 e mn
   have c11:=H3.out.cell 11
   have f11:=freeOf (j:=11) H3.out.mem
   simp [memCells] at c11
   go_wp2_with (first|(refine wpList_store_cell rfl 4 (.tmp 32) (.const (.bool true)) rfl L.m 11 (.bool true) rfl rfl rfl _ _ H3.out.mem (by simp [memCells]) (by kernel_rfl) ?_; apply hold))
   unfold Hold
   clear c11 f11
   obtain ⟨w4,hw4⟩:∃ w4,w3.setCell ⟨L.m,11,none⟩ (.bool true)=w4:=⟨_,rfl⟩
   rw [hw4] at MN ⊢
   clear hw4
   go_wp2
   go_ret
   exact ⟨by rw [HSR.out]; rfl,MN.out⟩
  ·have q1:(c == 140)=false:=by simpa using h14
   have MN:Hid (MNext w0 w _ L (saved x sn)):=lh (by rw [HSV.out,if_neg h0,if_neg h14]; exact mnext_of (L:=L) H3.out FF.out K2.out K3.out (Kept.refl _ _))
   clear h0 h14
   go_wp2
   go_ret
   exact ⟨by rw [HSR.out]; rfl,MN.out⟩
end
end Go.Proofs.YtogkkfdkeefjnaaGreatDoor.Member
namespace Go.Proofs.YtogkkfdkeefjnaaGreatDoor.Member
open Go.RowKit Go.Proofs.YtogkkfdkeefjnaaGreatDoorBase Go.Proofs.YtogkkfdkeefjnaaGreatDoorLex2 Go.Proofs.YtogkkfdkeefjnaaGreatDoorNum Go.Proofs.YtogkkfdkeefjnaaGreatDoor.Codec Go.Proofs.YtogkkfdkeefjnaaGreatDoor.Term
set_option linter.unusedVariables false
set_option maxRecDepth 100000
set_option linter.unusedSimpArgs false
theorem lit_load {P:Program} {o:Oper} {a:Act} {w:World} (ty:TypeId) (x:Operand) (ho:o.op=.load ty x) (b k:Nat) (hx:a.eval x=.pointer (some ⟨b,k,none⟩)) (cs:List Value) (d:TypeDesc) (hc:w.rangeAt b k cs) (hu:P.underlying ty=some d) (hd:d.isRow=true) (hi:(P.info? ty).map (·.size)=some cs.length) :
  lightUpon w (.agg cs.toArray) ((execOp a.eval o).run P w):=by
 unfold execOp
 simp only [ho,hx,Instr.loadAt,Instr.sureAddr,Sem.run_bind,Sem.run_pure,Result.andThen_ok,run_loadVar_mid w b k ty cs d hc hu hd hi]
 exact ⟨rfl,rfl⟩
theorem own_keep {w w':World} {base:Nat} {e:TypeId} {size:Nat} {v:Value} {n:Nat} {xs:List Value} (h:w.ownsRow base e size v n xs) (hk:Kept w w' (fun _=>False)):w'.ownsRow base e size v n xs:=own_keptF h hk (fun _ _ h=>h)
section
variable {w0 w : World} {L : Lay} {sig now : Int} {wv kv pv gv : Value} {ts : TS} {x : MD}
theorem more_end {w':World} {gv':Value} {st:StfD} {cs:Array Value} {xs:List Value} {G':Nat→Prop} {base:Nat} (h:MAt w0 w L sig now wv kv pv gv ts x) (hst:stfC.rep G' w st (.agg cs)) (hf:FlatRep stfC 29 L.G w x.snap.groups xs) (hG':∀ k,G' k→k < w.heap.size) (kw:Kept w w' (fun _=>False)) (ho:w'.ownsRow base 75 29 gv' (x.snap.groups.length+1) (xs ++ cs.toList)) (hb:w.heap.size≤base) :
  snapC.rep (fun k=>L.G k∨G' k∨(w.heap.size≤k∧k < w'.heap.size)) w' { x.snap with groups:=x.snap.groups ++ [st] } (.agg #[kv,pv,gv']):=by
 have hk:∀ (k:Nat),k < w.heap.size→w'.heap[k]?=w.heap[k]?:=fun k hk=>kw.block k hk (fun h=>h)
 obtain ⟨h1,h2,h3⟩:=snap_parts (snapC_fair.mono (G':=fun k=>L.G k∨G' k∨(w.heap.size≤k∧k < w'.heap.size)) (fun k hk=>.inl hk) (snapC_fair.keep h.snap (fun k hk1 _=>hk k hk1)))
 obtain ⟨hs,ha,_⟩:=stf_id hst
 refine snap_of h1 h2 (row_of_flat (base:=base) (e:=75) (by simpa using ho) (flat_append (flat_mono stfC_fair (fun k hk=>.inl hk) (flat_keep stfC_fair (fun k hk1 _=>hk k hk1) hf)) (flat_single hs (stfC_fair.mono (fun k hk=>.inr (.inl hk)) (stfC_fair.keep hst (fun k hk1 _=>hk k hk1))))) (fun b hb1=>.inr (.inr ?_)))
 obtain ⟨g1,g2⟩:=ho.lt b hb1
 exact ⟨by omega,g2⟩
set_option maxHeartbeats 6400000 in
theorem more_any (h:MAt w0 w L sig now wv kv pv gv ts x) (st:StfD) (cs:Array Value) (G':Nat→Prop) (hst:stfC.rep G' w st (.agg cs)) (hG':∀ k,G' k→k < w.heap.size) (hn:x.snap.groups.length≤900) :
  Calls Tryz.prog 22 #[.pointer (some ⟨L.m,0,none⟩),.agg cs,.int .i64 (-1)] w fun e w'=>∃ gv',e=.returned (.agg #[kv,pv,gv'])∧Kept w w' (fun _=>False)∧snapC.rep (fun k=>L.G k∨G' k∨(w.heap.size≤k∧k < w'.heap.size)) w' { x.snap with groups:=x.snap.groups ++ [st] } (.agg #[kv,pv,gv']):=by
 obtain ⟨⟨A1,n1,k1,rfl,-⟩,⟨A2,n2,k2,rfl,-⟩,hg⟩:=snap_parts h.snap
 obtain ⟨A3,k3,xs,rfl,hf,hrow,-⟩:=flat_of_row stfC_many hg
 obtain ⟨hcs,hca,-⟩:=stf_id hst
 have kA:=((Kept.refl w (fun _=>False)).alloc (.cells cs 75)).alloc (.cells #[.slice none 0 0,.slice none 0 0,.slice none 0 0] 61)
 have hA:=h.kept kA
 have h4:=heap_alloc2_old w (.cells cs 75) (.cells #[.slice none 0 0,.slice none 0 0,.slice none 0 0] 61)
 have h6:=heap_alloc2_new w (.cells cs 75) (.cells #[.slice none 0 0,.slice none 0 0,.slice none 0 0] 61)
 obtain ⟨wA,hwA⟩:∃ wA,(w.alloc (.cells cs 75)).alloc (.cells #[.slice none 0 0,.slice none 0 0,.slice none 0 0] 61)=wA:=⟨_,rfl⟩
 rw [hwA] at kA hA h4 h6
 have rg:wA.rangeAt L.m 6 [.slice A1 n1 k1,.slice A2 n2 k2,.slice A3 x.snap.groups.length k3]:=MAt.range hA.mem 6 3
 have K9:=(Kept.refl wA (fun _=>False)).alloc (.cells #[.slice A1 n1 k1,.slice A2 n2 k2,.slice A3 x.snap.groups.length k3] 61)
 have H9:=heap_alloc_new wA (.cells #[.slice A1 n1 k1,.slice A2 n2 k2,.slice A3 x.snap.groups.length k3] 61)
 obtain ⟨wB,hwB⟩:∃ wB,wA.alloc (.cells #[.slice A1 n1 k1,.slice A2 n2 k2,.slice A3 x.snap.groups.length k3] 61)=wB:=⟨_,rfl⟩
 rw [hwB] at K9 H9
 have kB:=(kA.trans K9 (fun _ h=>h.elim)).drew
 have l4:=blk_lt h4
 have l6:=blk_lt h6
 obtain ⟨b4,hb4⟩:∃ b,w.heap.size=b:=⟨_,rfl⟩
 obtain ⟨b6,hb6⟩:∃ b,b4+1=b:=⟨_,rfl⟩
 obtain ⟨b7,hb7⟩:∃ b,wA.heap.size=b:=⟨_,rfl⟩
 have l7:b7 < wB.heap.size:=by rw [← hb7]; exact blk_lt H9
 have HW4:=lh hb4
 have HW6:=lh hb6
 have HW7:=lh hb7
 rw [hb4] at h4 h6 l4 l6
 rw [hb6] at h6 l6
 rw [hb7] at l4 l6 H9
 have HWA:=lh hwA
 have HWB:=lh hwB
 have RG:=lh rg
 have H4:Hid (wB.drew.heap[b4]?=some (.cells cs 75 (0,0))):=lh (K9.blk h4 (fun h=>h))
 have H6:Hid (wB.drew.heap[b6]?=some (.cells #[.slice none 0 0,.slice none 0 0,.slice none 0 0] 61 (0,0))):=lh (K9.blk h6 (fun h=>h))
 have H7:Hid (wB.drew.heap[b7]?=some (.cells #[.slice A1 n1 k1,.slice A2 n2 k2,.slice A3 x.snap.groups.length k3] 61 (0,0))):=lh H9
 have KB:=lh kB
 have ROW:=lh (hrow.keep kB (fun _ _ _ h=>h))
 have H0:=lh h
 have HST:=lh hst
 have HF:=lh hf
 have HCS:=lh hcs
 have HCA:=lh hca
 have HG:=lh hG'
 have HN:=lh hn
 have L4:=lh l4
 have L6:=lh l6
 have L7:=lh l7
 clear h hg hf hrow hst hG' hn hcs hca kA hA h4 h6 hwA rg K9 H9 hwB kB l4 l6 l7 hb4 hb6 hb7
 obtain ⟨m,hmm⟩:∃ m,L.m=m:=⟨_,rfl⟩
 rw [hmm] at RG ⊢
 clear hmm
 go_enter Tryz.func22,Tryz.ntmps22
 go_wp2_with (first|(rw [HWA.out]; rw [HW4.out]; rw [HW6.out]; refine wpList_load_mid rfl 61 (.tmp 10) rfl m 6 rfl _ _ RG.out Tryz.underlying61 rfl (by kernel_rfl) ?_))
 rw [HWB.out]
 rw [HW7.out]
 refine wp_region_tree (fun w'=>w'.heap[b4]?=some (.cells cs 75 (0,0))∧w'.heap[b7]?=some (.cells #[.slice A1 n1 k1,.slice A2 n2 k2,.slice A3 x.snap.groups.length k3] 61 (0,0))) [0,3,2,3,2,4,0,4] (ones [0,1,3] (.two 2 4 (ones [4,5,6,7] .nil) (ones [2,5,6,7] .nil))) (by kernel_rfl) (by kernel_rfl) (by kernel_rfl) ⟨H4.out,H7.out⟩ (fun Q' hQ'=>?_)
 obtain ⟨y0,hy0⟩:∃ y0,wB.drew=y0:=⟨_,rfl⟩
 have l7:b7 < wB.drew.heap.size:=L7.out
 rw [hy0] at H4 H6 H7 KB ROW l7 ⊢
 have LY:=lh l7
 have HIL:=lh (show (Tryz.prog.info? 75).map (·.size)=some cs.toList.length by rw [Array.length_toList,HCS.out]; kernel_rfl)
 clear hy0 l7 L7
 have cS:∀ w':World,w'.heap[b4]?=some (.cells cs 75 (0,0))∧w'.heap[b7]?=some (.cells #[.slice A1 n1 k1,.slice A2 n2 k2,.slice A3 x.snap.groups.length k3] 61 (0,0))→w'.cell? ⟨b7,2,none⟩=some (.slice A3 x.snap.groups.length k3):=fun w' h=>cellOf h.2
 refine wpT_ones rfl [0,1,3] _ _ (by rfl) ?_
 simp only [pick,List.zip_cons_cons,List.zip_nil_right,List.filterMap_cons,List.filterMap_nil,List.getElem?_cons_zero,List.getElem?_cons_succ]
 refine wpX_silent ?_ (fun K hK=>?_)
 ·rfl
 apply Exists.intro
 refine ⟨fun w'=>?_,?_⟩
 ·go_simp
  exact ⟨rfl,rfl⟩
 go_simp
 refine hK _ _ ?_
 clear hK K
 refine wpX_float ?_ (fun K hK=>?_)
 ·rfl
 refine ⟨.slice A3 x.snap.groups.length k3,fun w' hw'=>?_,?_⟩
 ·have c2:=cS w' hw'
  clear cS hw'
  go_simp
  exact ⟨rfl,rfl⟩
 go_simp
 refine hK _ _ ?_
 clear hK K
 refine wpX_float ?_ (fun K hK=>?_)
 ·rfl
 refine ⟨.agg cs.toList.toArray,fun w' hw'=>lit_load 75 (.tmp 4) rfl b4 0 rfl cs.toList _ ?_ Tryz.underlying75 rfl HIL.out,?_⟩
 ·have:=World.rangeAt_of_block hw'.1 0 29
  rw [Nat.zero_add,show cs.extract 0 29=cs by rw [← HCS.out]; simp] at this
  exact this
 go_simp
 refine hK _ _ ?_
 clear hK K cS
 refine wpX_nil ?_
 refine wpT_two rfl (by rfl) (by rfl) ?_ ?_
 ·simp only [pick,List.zip_cons_cons,List.zip_nil_right,List.filterMap_cons,List.filterMap_nil,List.getElem?_cons_zero,List.getElem?_cons_succ]
  refine wpX_keeps ?_ (fun K hK=>?_)
  ·rfl
  go_wp2_with (fail)
  refine (clone_any A3 x.snap.groups.length k3 xs _ ROW.out (by have:=HN.out; omega)).mono ?_
  rintro e w1 ⟨v1,rfl,ho,hk⟩
  have O1:=lh ho
  replace H4:=kb hk H4
  replace H6:=kb hk H6
  replace H7:=kb hk H7
  replace KB:=kt KB hk
  have KY:=lh hk
  clear ho hk
  go_simp
  refine hK _ _ ⟨rfl,⟨H4.out,H7.out⟩,?_⟩
  clear hK K
  have LB0:=KY.out.size
  refine wpX_keeps ?_ (fun K hK=>?_)
  ·rfl
  refine wp_build1 59 75 (.tmp 15) rfl cs 29 (.agg stZ) Tryz.underlying59 (by kernel_rfl) (by decide) (by decide) HCS.out rfl ?_
  have ka:=(Kept.refl w1 (fun _=>False)).alloc (.cells cs 75)
  have hq0:=heap_alloc_new w1 (.cells cs 75)
  replace H4:=kb ka H4
  replace H6:=kb ka H6
  replace H7:=kb ka H7
  replace KB:=kt KB ka
  replace O1:=lh (own_keep O1.out ka)
  have LB:=lh (Nat.le_trans LB0 ka.size)
  obtain ⟨bq,hbq⟩:∃ bq,w1.heap.size=bq:=⟨_,rfl⟩
  obtain ⟨w2,hw2⟩:∃ w2,w1.alloc (.cells cs 75)=w2:=⟨_,rfl⟩
  rw [hbq] at hq0 ⊢
  rw [hw2] at H4 H6 H7 KB hq0 O1 LB ⊢
  have HQ:=lh hq0
  clear LB0 ka hq0 hbq hw2
  go_simp
  refine hK _ _ ⟨rfl,⟨H4.out,H7.out⟩,?_⟩
  clear hK K
  have BG:=lh LY.out
  have GW:=lh (show w.heap.size≤y0.heap.size from by have h1:=HW4.out; have h2:=HW6.out; have h3:=L6.out; have h4:=LY.out; omega)
  refine wpX_heavy ?_ (fun K hK=>?_)
  ·rfl
  have SRC:Hid (Src Tryz.prog 29 59 (.slice (some ⟨bq,0,none⟩) 1 1) 1 cs.toList w2):=by
   refine lh (Src.ofSlice _ Tryz.underlying59 _ 1 1 _ (by rw [Array.length_toList,HCS.out]) (fun j u hj=>?_) (fun z hz=>Array.all_eq_true_iff_forall_mem.1 HCA.out z (by simpa using hz)))
   rw [Addr.add_lit,Nat.zero_add,cellOf HQ.out]
   simpa using hj
  have HBY:=lh (show ((x.snap.groups.length+1)+(x.snap.groups.length+1) / 4+192) * 344≤281474976710656 by have:=HN.out; omega)
  refine wp_append_ownS w2 (.tmp 14) (.tmp 16) 59 59 rfl y0.heap.size 75 (.agg stZ) 29 344 elem_groupState v1 x.snap.groups.length xs rfl O1.out (.slice (some ⟨bq,0,none⟩) 1 1) 1 cs.toList rfl SRC.out HBY.out LB.out (fun v2 w3 o1 g1 b1=>?_)
  have O3:=lh o1
  have hb7:=BG.out
  have hne:∀ k,k≤b7→v1.ownBlock≠some k:=fun k hk e=>by
   have:=(O1.out.lt k e).1
   omega
  have l67:=L6.out
  replace H6:=lh (blk_grown H6.out g1 (fun e=>hne b6 (by omega) e.symm))
  replace H7:=lh (blk_grown H7.out g1 (fun e=>hne b7 (Nat.le_refl _) e.symm))
  have K3:=lh (Kept.grown KB.out g1 (fun k hk=>.inr (by have h1:=(O1.out.lt k hk).1; have h2:=GW.out; omega)))
  have NE2:=lh (show ∀ g,v2.ownBlock=some g→b7 < g from fun g hg=>by
   have:=(o1.lt g hg).1
   omega)
  obtain ⟨A5,k5,rfl,-,-⟩:=own_slice o1
  clear o1 g1 b1 hb7 hne l67
  go_simp
  refine hK _ _ ⟨rfl,?_⟩
  clear hK K
  repeat((first|(refine wpX_silent ?_ fun K hK=>?_;rfl;apply Exists.intro;refine ⟨fun w'=>?_,?_⟩;go_simp;exact⟨rfl,rfl⟩)|(refine wpX_read ?_ fun K hK=>?_;rfl;apply Exists.intro;refine ⟨?_,?_⟩;go_simp;exact⟨rfl,rfl⟩)|(refine wpX_float ?_ fun K hK=>?_;rfl;apply Exists.intro;refine ⟨fun w' hw'=>?_,?_⟩;(try dsimp only at hw');go_simp;exact⟨rfl,rfl⟩)|(refine wpX_not ?_ fun K hK=>?_;rfl));go_simp;refine hK _ _ ?_;clear hK K)
  refine wpX_heavy ?_ (fun K hK=>?_)
  ·rfl
  refine Codec.wp_store_cell 59 (.tmp 18) (.tmp 17) rfl b7 2 (.slice A5 (x.snap.groups.length+1) k5) rfl rfl rfl _ _ H7.out (by simp) (by kernel_rfl) ?_
  have h77:=blk_set H7.out 2 (.slice A5 (x.snap.groups.length+1) k5)
  have h66:=blk_far H6.out (p:=⟨b7,2,none⟩) (by have h1:=L6.out; have h2:=HW7.out; show b6≠b7; omega) (.slice A5 (x.snap.groups.length+1) k5)
  have k4:Kept w3 (w3.setCell ⟨b7,2,none⟩ (.slice A5 (x.snap.groups.length+1) k5)) (fun k=>k=b7∨k=b6):=(Kept.refl w3 (fun k=>k=b7∨k=b6)).setCell (p:=⟨b7,2,none⟩) (.inl (.inl rfl)) _
  obtain ⟨w4,hw4⟩:∃ w4,w3.setCell ⟨b7,2,none⟩ (.slice A5 (x.snap.groups.length+1) k5)=w4:=⟨_,rfl⟩
  rw [hw4] at h77 h66 k4 ⊢
  have H77:Hid (w4.heap[b7]?=some (.cells #[.slice A1 n1 k1,.slice A2 n2 k2,.slice A5 (x.snap.groups.length+1) k5] 61 (0,0))):=lh h77
  have H66:=lh h66
  have K4:=lh k4
  clear h77 h66 k4 hw4
  go_simp
  refine hK _ _ ⟨rfl,?_⟩
  clear hK K
  refine wpX_nil (hQ' _ _ ?_)
  go_wp2_with (first | refine wpList_load_row rfl 61 (.tmp 7) rfl b7 rfl _ _ _ _ H77.out Tryz.underlying61 rfl (by kernel_rfl) ?_|(refine wpList_store_row rfl 61 (.tmp 6) (.tmp 29) rfl b6 #[.slice A1 n1 k1,.slice A2 n2 k2,.slice A5 (x.snap.groups.length+1) k5] rfl rfl _ _ H66.out (by kernel_rfl) rfl (by simp [Value.oneCell']) ?_; apply hold))
  unfold Hold
  rename_i K hK
  refine (show K _ _ from hK _ _ ?_)
  refine wp_ret ?_
  have hsr:=setRow_heap w4 b6 _ #[.slice A1 n1 k1,.slice A2 n2 k2,.slice A5 (x.snap.groups.length+1) k5] 61 (0,0) H66.out
  refine bodyPost_ret (results_cell_row rfl _ _ _ _ _ _ _ rfl hsr Tryz.underlying61 rfl (by kernel_rfl)) rfl ?_
  have k5':Kept w3 (w4.setRow b6 #[.slice A1 n1 k1,.slice A2 n2 k2,.slice A5 (x.snap.groups.length+1) k5]) (fun k=>k=b7∨k=b6):=K4.out.trans (G:=fun k=>k=b6) ⟨rfl,rfl,rfl,by simp,fun j _ hj=>setRow_other w4 b6 j _ hj⟩ (fun k h=>.inl (.inr h))
  have g4:=HW4.out
  have g6:=HW6.out
  have g7:=HW7.out
  have l67:=L6.out
  have kf:Kept w (w4.setRow b6 #[.slice A1 n1 k1,.slice A2 n2 k2,.slice A5 (x.snap.groups.length+1) k5]) (fun _=>False):=K3.out.trans k5' (fun k hk=>.inr (by rcases hk with rfl | rfl <;> omega))
  refine ⟨.slice A5 (x.snap.groups.length+1) k5,rfl,kf,more_end H0.out HST.out HF.out HG.out kf (own_keptF O3.out k5' (fun g hg hk=>?_)) GW.out⟩
  have:=NE2.out g hg
  rcases hk with rfl | rfl <;> omega
 ·simp only [pick,List.zip_cons_cons,List.zip_nil_right,List.filterMap_cons,List.filterMap_nil,List.getElem?_cons_zero,List.getElem?_cons_succ]
  refine wpX_keeps ?_ (fun K hK=>?_)
  ·rfl
  refine wp_build1 59 75 (.tmp 15) rfl cs 29 (.agg stZ) Tryz.underlying59 (by kernel_rfl) (by decide) (by decide) HCS.out rfl ?_
  have ka:=(Kept.refl y0 (fun _=>False)).alloc (.cells cs 75)
  have hq0:=heap_alloc_new y0 (.cells cs 75)
  replace H4:=kb ka H4
  replace H6:=kb ka H6
  replace H7:=kb ka H7
  replace KB:=kt KB ka
  replace ROW:=lh (ROW.out.keep ka (fun _ _ _ h=>h))
  have ys:=ka.size
  obtain ⟨bq,hbq⟩:∃ bq,y0.heap.size=bq:=⟨_,rfl⟩
  obtain ⟨w2,hw2⟩:∃ w2,y0.alloc (.cells cs 75)=w2:=⟨_,rfl⟩
  rw [hbq] at hq0 ⊢
  rw [hw2] at H4 H6 H7 KB hq0 ROW ys ⊢
  have HQ:=lh hq0
  have YS:=lh ys
  clear ys ka hq0 hbq hw2
  go_simp
  refine hK _ _ ⟨rfl,⟨H4.out,H7.out⟩,?_⟩
  clear hK K
  refine wpX_keeps ?_ (fun K hK=>?_)
  ·rfl
  go_wp2_with (fail)
  refine (clone_any A3 x.snap.groups.length k3 xs _ ROW.out (by have:=HN.out; omega)).mono ?_
  rintro e w1 ⟨v1,rfl,ho,hk⟩
  have O1:=lh ho
  replace H4:=kb hk H4
  replace H6:=kb hk H6
  replace H7:=kb hk H7
  replace KB:=kt KB hk
  have KY:=lh hk
  replace HQ:=kb hk HQ
  clear ho hk
  go_simp
  refine hK _ _ ⟨rfl,⟨H4.out,H7.out⟩,?_⟩
  clear hK K
  have LB:=lh KY.out.size
  have BG:=lh (Nat.lt_of_lt_of_le LY.out YS.out)
  have GW:=lh (show w.heap.size≤w2.heap.size from by have h1:=HW4.out; have h2:=HW6.out; have h3:=L6.out; have h4:=LY.out; have h5:=YS.out; omega)
  refine wpX_heavy ?_ (fun K hK=>?_)
  ·rfl
  have SRC:Hid (Src Tryz.prog 29 59 (.slice (some ⟨bq,0,none⟩) 1 1) 1 cs.toList w1):=by
   refine lh (Src.ofSlice _ Tryz.underlying59 _ 1 1 _ (by rw [Array.length_toList,HCS.out]) (fun j u hj=>?_) (fun z hz=>Array.all_eq_true_iff_forall_mem.1 HCA.out z (by simpa using hz)))
   rw [Addr.add_lit,Nat.zero_add,cellOf HQ.out]
   simpa using hj
  have HBY:=lh (show ((x.snap.groups.length+1)+(x.snap.groups.length+1) / 4+192) * 344≤281474976710656 by have:=HN.out; omega)
  refine wp_append_ownS w1 (.tmp 14) (.tmp 16) 59 59 rfl w2.heap.size 75 (.agg stZ) 29 344 elem_groupState v1 x.snap.groups.length xs rfl O1.out (.slice (some ⟨bq,0,none⟩) 1 1) 1 cs.toList rfl SRC.out HBY.out LB.out (fun v2 w3 o1 g1 b1=>?_)
  have O3:=lh o1
  have hb7:=BG.out
  have hne:∀ k,k≤b7→v1.ownBlock≠some k:=fun k hk e=>by
   have:=(O1.out.lt k e).1
   omega
  have l67:=L6.out
  replace H6:=lh (blk_grown H6.out g1 (fun e=>hne b6 (by omega) e.symm))
  replace H7:=lh (blk_grown H7.out g1 (fun e=>hne b7 (Nat.le_refl _) e.symm))
  have K3:=lh (Kept.grown KB.out g1 (fun k hk=>.inr (by have h1:=(O1.out.lt k hk).1; have h2:=GW.out; omega)))
  have NE2:=lh (show ∀ g,v2.ownBlock=some g→b7 < g from fun g hg=>by
   have:=(o1.lt g hg).1
   omega)
  obtain ⟨A5,k5,rfl,-,-⟩:=own_slice o1
  clear o1 g1 b1 hb7 hne l67
  go_simp
  refine hK _ _ ⟨rfl,?_⟩
  clear hK K
  repeat((first|(refine wpX_silent ?_ fun K hK=>?_;rfl;apply Exists.intro;refine ⟨fun w'=>?_,?_⟩;go_simp;exact⟨rfl,rfl⟩)|(refine wpX_read ?_ fun K hK=>?_;rfl;apply Exists.intro;refine ⟨?_,?_⟩;go_simp;exact⟨rfl,rfl⟩)|(refine wpX_float ?_ fun K hK=>?_;rfl;apply Exists.intro;refine ⟨fun w' hw'=>?_,?_⟩;(try dsimp only at hw');go_simp;exact⟨rfl,rfl⟩)|(refine wpX_not ?_ fun K hK=>?_;rfl));go_simp;refine hK _ _ ?_;clear hK K)
  refine wpX_heavy ?_ (fun K hK=>?_)
  ·rfl
  refine Codec.wp_store_cell 59 (.tmp 18) (.tmp 17) rfl b7 2 (.slice A5 (x.snap.groups.length+1) k5) rfl rfl rfl _ _ H7.out (by simp) (by kernel_rfl) ?_
  have h77:=blk_set H7.out 2 (.slice A5 (x.snap.groups.length+1) k5)
  have h66:=blk_far H6.out (p:=⟨b7,2,none⟩) (by have h1:=L6.out; have h2:=HW7.out; show b6≠b7; omega) (.slice A5 (x.snap.groups.length+1) k5)
  have k4:Kept w3 (w3.setCell ⟨b7,2,none⟩ (.slice A5 (x.snap.groups.length+1) k5)) (fun k=>k=b7∨k=b6):=(Kept.refl w3 (fun k=>k=b7∨k=b6)).setCell (p:=⟨b7,2,none⟩) (.inl (.inl rfl)) _
  obtain ⟨w4,hw4⟩:∃ w4,w3.setCell ⟨b7,2,none⟩ (.slice A5 (x.snap.groups.length+1) k5)=w4:=⟨_,rfl⟩
  rw [hw4] at h77 h66 k4 ⊢
  have H77:Hid (w4.heap[b7]?=some (.cells #[.slice A1 n1 k1,.slice A2 n2 k2,.slice A5 (x.snap.groups.length+1) k5] 61 (0,0))):=lh h77
  have H66:=lh h66
  have K4:=lh k4
  clear h77 h66 k4 hw4
  go_simp
  refine hK _ _ ⟨rfl,?_⟩
  clear hK K
  refine wpX_nil (hQ' _ _ ?_)
  go_wp2_with (first | refine wpList_load_row rfl 61 (.tmp 7) rfl b7 rfl _ _ _ _ H77.out Tryz.underlying61 rfl (by kernel_rfl) ?_|(refine wpList_store_row rfl 61 (.tmp 6) (.tmp 29) rfl b6 #[.slice A1 n1 k1,.slice A2 n2 k2,.slice A5 (x.snap.groups.length+1) k5] rfl rfl _ _ H66.out (by kernel_rfl) rfl (by simp [Value.oneCell']) ?_; apply hold))
  unfold Hold
  rename_i K hK
  refine (show K _ _ from hK _ _ ?_)
  refine wp_ret ?_
  have hsr:=setRow_heap w4 b6 _ #[.slice A1 n1 k1,.slice A2 n2 k2,.slice A5 (x.snap.groups.length+1) k5] 61 (0,0) H66.out
  refine bodyPost_ret (results_cell_row rfl _ _ _ _ _ _ _ rfl hsr Tryz.underlying61 rfl (by kernel_rfl)) rfl ?_
  have k5':Kept w3 (w4.setRow b6 #[.slice A1 n1 k1,.slice A2 n2 k2,.slice A5 (x.snap.groups.length+1) k5]) (fun k=>k=b7∨k=b6):=K4.out.trans (G:=fun k=>k=b6) ⟨rfl,rfl,rfl,by simp,fun j _ hj=>setRow_other w4 b6 j _ hj⟩ (fun k h=>.inl (.inr h))
  have g4:=HW4.out
  have g6:=HW6.out
  have g7:=HW7.out
  have l67:=L6.out
  have kf:Kept w (w4.setRow b6 #[.slice A1 n1 k1,.slice A2 n2 k2,.slice A5 (x.snap.groups.length+1) k5]) (fun _=>False):=K3.out.trans k5' (fun k hk=>.inr (by rcases hk with rfl | rfl <;> omega))
  refine ⟨.slice A5 (x.snap.groups.length+1) k5,rfl,kf,more_end H0.out HST.out HF.out HG.out kf (own_keptF O3.out k5' (fun g hg hk=>?_)) GW.out⟩
  have:=NE2.out g hg
  rcases hk with rfl | rfl <;> omega
end
end Go.Proofs.YtogkkfdkeefjnaaGreatDoor.Member
namespace Go.Proofs.YtogkkfdkeefjnaaGreatDoor.Member
open Go.RowKit Go.Proofs.YtogkkfdkeefjnaaGreatDoorBase Go.Proofs.YtogkkfdkeefjnaaGreatDoorLex2 Go.Proofs.YtogkkfdkeefjnaaGreatDoorNum Go.Proofs.YtogkkfdkeefjnaaGreatDoor.Codec Go.Proofs.YtogkkfdkeefjnaaGreatDoor.Term
set_option linter.unusedVariables false
set_option maxRecDepth 100000
set_option linter.unusedSimpArgs false
section
variable {w0 w : World} {L : Lay} {sig now : Int} {wv kv pv gv : Value} {ts : TS} {x : MD}
theorem less_end {w':World} {gv':Value} {xs:List Value} {base k:Nat} (h:MAt w0 w L sig now wv kv pv gv ts x) (hf:FlatRep stfC 29 L.G w x.snap.groups xs) (kw:Kept w w' (fun _=>False)) (ho:w'.ownsRow base 75 29 gv' (cutAt x.snap.groups k).length (xs.take (k * 29) ++ xs.drop ((k+1) * 29))) (hb:w.heap.size≤base) :
  snapC.rep (fun j=>L.G j∨(w.heap.size≤j∧j < w'.heap.size)) w' { x.snap with groups:=cutAt x.snap.groups k } (.agg #[kv,pv,gv']):=by
 have hk:∀ (k:Nat),k < w.heap.size→w'.heap[k]?=w.heap[k]?:=fun k hk=>kw.block k hk (fun h=>h)
 obtain ⟨h1,h2,h3⟩:=snap_parts (snapC_fair.mono (G':=fun j=>L.G j∨(w.heap.size≤j∧j < w'.heap.size)) (fun k hk=>.inl hk) (snapC_fair.keep h.snap (fun k hk1 _=>hk k hk1)))
 have hf':=flat_mono (G':=fun j=>L.G j∨(w.heap.size≤j∧j < w'.heap.size)) stfC_fair (fun k hk=>.inl hk) (flat_keep stfC_fair (fun k hk1 _=>hk k hk1) hf)
 refine snap_of h1 h2 (row_of_flat (base:=base) (e:=75) ho (flat_append (flat_take k hf') (flat_drop (k+1) hf')) (fun b hb1=>.inr ?_))
 obtain ⟨g1,g2⟩:=ho.lt b hb1
 exact ⟨by omega,g2⟩
set_option maxHeartbeats 6400000 in
theorem without_any (h:MAt w0 w L sig now wv kv pv gv ts x) (k:Nat) (hk:k < x.snap.groups.length) (hn:x.snap.groups.length≤900) :
  Calls Tryz.prog 20 #[.pointer (some ⟨L.m,0,none⟩),.int .i64 k] w fun e w'=>∃ gv',e=.returned (.agg #[kv,pv,gv'])∧Kept w w' (fun _=>False)∧snapC.rep (fun j=>L.G j∨(w.heap.size≤j∧j < w'.heap.size)) w' { x.snap with groups:=cutAt x.snap.groups k } (.agg #[kv,pv,gv']):=by
 obtain ⟨m',hm'⟩:∃ m',x.snap.groups.length=m'+1:=⟨x.snap.groups.length - 1,by omega⟩
 have hcut:(cutAt x.snap.groups k).length=m':=by
  simp only [cutAt,List.length_append,List.length_take,List.length_drop]
  omega
 obtain ⟨⟨A1,n1,k1,rfl,-⟩,⟨A2,n2,k2,rfl,-⟩,hg⟩:=snap_parts h.snap
 obtain ⟨A3,k3,xs,rfl,hf,hrow,-⟩:=flat_of_row stfC_many hg
 have hone:∀ u∈xs,u.oneCell'=true:=hrow.one
 rw [hm'] at hrow
 have kA:=(Kept.refl w (fun _=>False)).alloc (.cells #[.slice none 0 0,.slice none 0 0,.slice none 0 0] 61)
 have hA:=h.kept kA
 have h6:=heap_alloc_new w (.cells #[.slice none 0 0,.slice none 0 0,.slice none 0 0] 61)
 obtain ⟨wA,hwA⟩:∃ wA,w.alloc (.cells #[.slice none 0 0,.slice none 0 0,.slice none 0 0] 61)=wA:=⟨_,rfl⟩
 rw [hwA] at kA hA h6
 have rg:wA.rangeAt L.m 6 [.slice A1 n1 k1,.slice A2 n2 k2,.slice A3 x.snap.groups.length k3]:=MAt.range hA.mem 6 3
 rw [hm'] at rg
 have K9:=(Kept.refl wA (fun _=>False)).alloc (.cells #[.slice A1 n1 k1,.slice A2 n2 k2,.slice A3 (m'+1) k3] 61)
 have H9:=heap_alloc_new wA (.cells #[.slice A1 n1 k1,.slice A2 n2 k2,.slice A3 (m'+1) k3] 61)
 obtain ⟨wB,hwB⟩:∃ wB,wA.alloc (.cells #[.slice A1 n1 k1,.slice A2 n2 k2,.slice A3 (m'+1) k3] 61)=wB:=⟨_,rfl⟩
 rw [hwB] at K9 H9
 have kB:=kA.trans K9 (fun _ h=>h.elim)
 have l6:=blk_lt h6
 obtain ⟨b6,hb6⟩:∃ b,w.heap.size=b:=⟨_,rfl⟩
 obtain ⟨b7,hb7⟩:∃ b,wA.heap.size=b:=⟨_,rfl⟩
 have l7:b7 < wB.heap.size:=by rw [← hb7]; exact blk_lt H9
 have HW6:=lh hb6
 have HW7:=lh hb7
 rw [hb6] at h6 l6
 rw [hb7] at l6 H9
 have HWA:=lh hwA
 have HWB:=lh hwB
 have RG:=lh rg
 have H6:=lh (K9.blk h6 (fun h=>h))
 have H7:=lh H9
 have KB:=lh kB
 have ROW:=lh (hrow.keep kB (fun _ _ _ h=>h))
 have H0:=lh h
 have HF:=lh hf
 have HONE:=lh hone
 have HK:=lh hk
 have HN:=lh hn
 have HM:=lh hm'
 have HCUT:=lh hcut
 have L6:=lh l6
 have L7:=lh l7
 have c2:=cellOf (j:=2) H9
 simp at c2
 have qk0:(0:Int)≤k:=by omega
 have qk1:(k:Int)≤1000:=by omega
 clear h hg hf hrow hk hn hone hcut kA hA h6 hwA rg K9 H9 hwB kB l6 l7 hb6 hb7 hm'
 obtain ⟨m,hmm⟩:∃ m,L.m=m:=⟨_,rfl⟩
 rw [hmm] at RG ⊢
 clear hmm
 go_enter Tryz.func20,Tryz.ntmps20
 go_wp2_with (first|(rw [HWA.out]; rw [HW6.out]; refine wpList_load_mid rfl 61 (.tmp 8) rfl m 6 rfl _ _ RG.out Tryz.underlying61 rfl (by kernel_rfl) ?_))
 rw [HWB.out,HW7.out]
 refine (clone_any A3 (m'+1) k3 xs _ ROW.out (by have:=HN.out; have:=HM.out; omega)).mono ?_
 rintro e w1 ⟨v1,rfl,ho,hk⟩
 have O1:=lh ho
 replace H6:=kb hk H6
 replace H7:=kb hk H7
 replace KB:=kt KB hk
 have KY:=lh hk
 clear ho hk c2
 go_wp2_with (fail)
 refine (delete_any wB.heap.size v1 m' k xs w1 O1.out (by have:=HK.out; have:=HM.out; omega) (by have:=HN.out; have:=HM.out; omega) HONE.out).mono ?_
 rintro e w2 ⟨v2,rfl,ho,hk,hbl⟩
 have O2:=lh ho
 have hne:∀ j,j≤b7→v1.ownBlock≠some j:=fun j hj e=>by
  have h1:=(O1.out.lt j e).1
  have h2:=L7.out
  omega
 have l67:=L6.out
 replace H6:=lh (hk.blk H6.out (fun e=>hne b6 (by omega) e))
 replace H7:=lh (hk.blk H7.out (fun e=>hne b7 (Nat.le_refl _) e))
 have GW:=lh (show w.heap.size≤wB.heap.size from by have h1:=HW6.out; have h2:=L6.out; have h3:=L7.out; omega)
 have K2:=lh (KB.out.trans hk (fun j hj=>.inr (by have h1:=(O1.out.lt j hj).1; have h2:=GW.out; omega)))
 have NE2:=lh (show ∀ g,v2.ownBlock=some g→b7 < g from fun g hg=>by
  have h1:=(ho.lt g hg).1
  have h2:=L7.out
  omega)
 obtain ⟨A5,k5,rfl,-,-⟩:=own_slice ho
 clear ho hk hbl hne l67
 have h77:=blk_set H7.out 2 (.slice A5 m' k5)
 have h66:=blk_far H6.out (p:=⟨b7,2,none⟩) (by have h1:=L6.out; show b6≠b7; omega) (.slice A5 m' k5)
 have k4:Kept w2 (w2.setCell ⟨b7,2,none⟩ (.slice A5 m' k5)) (fun k=>k=b7∨k=b6):=(Kept.refl w2 (fun k=>k=b7∨k=b6)).setCell (p:=⟨b7,2,none⟩) (.inl (.inl rfl)) _
 obtain ⟨w4,hw4⟩:∃ w4,w2.setCell ⟨b7,2,none⟩ (.slice A5 m' k5)=w4:=⟨_,rfl⟩
 have HW4:=lh hw4
 rw [hw4] at h77 h66 k4
 have H77:Hid (w4.heap[b7]?=some (.cells #[.slice A1 n1 k1,.slice A2 n2 k2,.slice A5 m' k5] 61 (0,0))):=lh h77
 have H66:=lh h66
 have K4:=lh k4
 clear h77 h66 k4 hw4
 go_wp2_with (first|(refine wpList_store_cell rfl 59 (.tmp 17) (.tmp 16) rfl b7 2 (.slice A5 m' k5) rfl rfl rfl _ _ H7.out (by simp) (by kernel_rfl) ?_; rw [HW4.out]) | refine wpList_load_row rfl 61 (.tmp 5) rfl b7 rfl _ _ _ _ H77.out Tryz.underlying61 rfl (by kernel_rfl) ?_|(refine wpList_store_row rfl 61 (.tmp 4) (.tmp 18) rfl b6 #[.slice A1 n1 k1,.slice A2 n2 k2,.slice A5 m' k5] rfl rfl _ _ H66.out (by kernel_rfl) rfl (by simp [Value.oneCell']) ?_; apply hold))
 unfold Hold
 rename_i K hK
 refine (show K _ _ from hK _ _ ?_)
 refine wp_ret ?_
 have hsr:=setRow_heap w4 b6 _ #[.slice A1 n1 k1,.slice A2 n2 k2,.slice A5 m' k5] 61 (0,0) H66.out
 refine bodyPost_ret (results_cell_row rfl _ _ _ _ _ _ _ rfl hsr Tryz.underlying61 rfl (by kernel_rfl)) rfl ?_
 have k5':Kept w2 (w4.setRow b6 #[.slice A1 n1 k1,.slice A2 n2 k2,.slice A5 m' k5]) (fun k=>k=b7∨k=b6):=K4.out.trans (G:=fun k=>k=b6) ⟨rfl,rfl,rfl,by simp,fun j _ hj=>setRow_other w4 b6 j _ hj⟩ (fun k h=>.inl (.inr h))
 have g6:=HW6.out
 have l67:=L6.out
 have kf:Kept w (w4.setRow b6 #[.slice A1 n1 k1,.slice A2 n2 k2,.slice A5 m' k5]) (fun _=>False):=K2.out.trans k5' (fun k hk=>.inr (by rcases hk with rfl | rfl <;> omega))
 have hown:=own_keptF O2.out k5' (fun g hg hk=>by
  have:=NE2.out g hg
  rcases hk with rfl | rfl <;> omega)
 exact ⟨.slice A5 m' k5,rfl,kf,less_end H0.out HF.out kf (by rw [HCUT.out]; exact hown) GW.out⟩
end
end Go.Proofs.YtogkkfdkeefjnaaGreatDoor.Member
namespace Go.Proofs.YtogkkfdkeefjnaaGreatDoor.Member
open Go.RowKit Go.Proofs.YtogkkfdkeefjnaaGreatDoorBase Go.Proofs.YtogkkfdkeefjnaaGreatDoorLex2 Go.Proofs.YtogkkfdkeefjnaaGreatDoorNum Go.Proofs.YtogkkfdkeefjnaaGreatDoor.Codec Go.Proofs.YtogkkfdkeefjnaaGreatDoor.Term
set_option linter.unusedVariables false
set_option maxRecDepth 100000
set_option linter.unusedSimpArgs false
theorem sgn_rep {G:Nat→Prop} {w:World} {t:Int} (h:Tm t):sgnC.rep G w t (.int .i64 t):=⟨rfl,h.ok.1,h.ok.2⟩
theorem sgn_nat {G:Nat→Prop} {w:World} {t:Nat} (h:t≤262144):sgnC.rep G w (t:Int) (.int .i64 t):=sgn_rep (tm_nat h)
theorem rowN_nil {α:Type} {c:Cod α} {N m:Nat} {G:Nat→Prop} {w:World}:(listN c N m).rep G w [] (.slice none 0 0):=⟨none,0,0,rfl,rfl,Nat.zero_le _,fun h=>absurd h (Nat.lt_irrefl 0)⟩
theorem rowC_nil {α:Type} {c:Cod α} {m:Nat} {G:Nat→Prop} {w:World}:(listC c m).rep G w [] (.slice none 0 0):=⟨none,0,0,rfl,rfl,Nat.zero_le _,fun h=>absurd h (Nat.lt_irrefl 0)⟩
theorem rowN_one {α:Type} {c:Cod α} {N m:Nat} {G:Nat→Prop} {w:World} {x:α} {b:Nat} {cs:Array Value} {T:TypeId} (hb:w.heap[b]?=some (.cells cs T (0,0))) (hs:cs.size=N) (hG:G b) (hr:c.rep G w x (.agg cs)):(listN c N m).rep G w [x] (.slice (some ⟨b,0,none⟩) 1 1):=by
 refine ⟨some ⟨b,0,none⟩,1,1,rfl,rfl,by decide,fun _=>⟨b,0,rfl,hG,blk_lt hb,fun k y hk=>?_⟩⟩
 match k,hk with
 | 0,hk=>
  obtain rfl:x=y:=by simpa using hk
  refine ⟨cs,hs,fun j v hv=>?_,hr⟩
  rw [show 0+0 * N+j=j by omega,cellOf hb]
  exact hv
 | k+1,hk=>simp at hk
theorem rowC_one {α:Type} {c:Cod α} {m:Nat} {G:Nat→Prop} {w:World} {x:α} {b:Nat} {v:Value} {T:TypeId} (hb:w.heap[b]?=some (.cells #[v] T (0,0))) (hG:G b) (hr:c.rep G w x v):(listC c m).rep G w [x] (.slice (some ⟨b,0,none⟩) 1 1):=by
 refine ⟨some ⟨b,0,none⟩,1,1,rfl,rfl,by decide,fun _=>⟨b,0,rfl,hG,blk_lt hb,fun k y hk=>?_⟩⟩
 match k,hk with
 | 0,hk=>
  obtain rfl:x=y:=by simpa using hk
  exact ⟨v,cellOf hb,hr⟩
 | k+1,hk=>simp at hk
theorem vert_rep {G:Nat→Prop} {w:World} {k sg:Nat} (hk:k≤262144) (hs:sg≤262144):vertC.rep G w ⟨true,k,0,sg,0,[]⟩ (.agg (vertCells k 0 sg)):=by
 refine ⟨vertCells k 0 sg,rfl,rfl,by simp [vertCells,Value.oneCell'],fun p hp=>?_⟩
 simp only [vertP,List.mem_cons,List.not_mem_nil,or_false] at hp
 rcases hp with rfl | rfl | rfl | rfl | rfl | rfl
 ·exact (rfl:Value.bool true=Value.bool true)
 ·exact sgn_nat hk
 ·exact sgn_rep tm_zero
 ·exact sgn_nat hs
 ·exact sgn_rep tm_zero
 ·exact rowC_nil
theorem secr_rep {G:Nat→Prop} {w:World} {lf:Nat} (hl:lf≤262144):secrC.rep G w ⟨0,lf⟩ (.agg #[.int .i64 0,.int .i64 lf]):=by
 refine ⟨_,rfl,rfl,by simp [Value.oneCell'],fun p hp=>?_⟩
 simp only [secrP,List.mem_cons,List.not_mem_nil,or_false] at hp
 rcases hp with rfl | rfl
 ·exact sgn_rep tm_zero
 ·exact sgn_nat hl
theorem epoc_rep {G:Nat→Prop} {w:World} {e0 e1 e2 e3 e4 e5 e6 e7 e8 e9 e10 e11 e12:Nat} (h:EpB e0 e1 e2 e3 e4 e5 e6 e7 e8 e9 e10 e11 e12) :
  epocC.rep G w (ep0 e4 e5 e7 e8 e9 e10 e11 e12) (.agg #[.int .i64 0,.int .i64 0,.int .i64 0,.int .i64 0,.int .i64 e4,.int .i64 e5,.int .i64 0,.int .i64 e7,.int .i64 e8,.int .i64 e9,.int .i64 e10,.int .i64 e11,.int .i64 e12]):=by
 obtain ⟨-,-,-,-,h4,h5,-,h7,h8,h9,h10,h11,h12⟩:=h
 refine ⟨_,rfl,rfl,by simp [Value.oneCell'],fun p hp=>?_⟩
 simp only [epocP,List.mem_cons,List.not_mem_nil,or_false] at hp
 rcases hp with rfl | rfl | rfl | rfl | rfl | rfl | rfl | rfl | rfl | rfl | rfl | rfl | rfl
 ·exact sgn_rep tm_zero
 ·exact sgn_rep tm_zero
 ·exact sgn_rep tm_zero
 ·exact sgn_rep tm_zero
 ·exact sgn_nat h4
 ·exact sgn_nat h5
 ·exact sgn_rep tm_zero
 ·exact sgn_nat h7
 ·exact sgn_nat h8
 ·exact sgn_nat h9
 ·exact sgn_nat h10
 ·exact sgn_nat h11
 ·exact sgn_nat h12
theorem rats_rep {G:Nat→Prop} {w:World} {bn r:Nat} (hb:w.heap[bn]?=some (.cells #[.int .i64 r] 3 (0,0))) (hG:G bn) (hr:r≤262144):ratsC.rep G w ⟨1,[r],[]⟩ (.agg #[.int .i64 1,.slice (some ⟨bn,0,none⟩) 1 1,.slice none 0 0]):=by
 refine ⟨_,rfl,rfl,by simp [Value.oneCell'],fun p hp=>?_⟩
 simp only [ratsP,List.mem_cons,List.not_mem_nil,or_false] at hp
 rcases hp with rfl | rfl | rfl
 ·exact sgn_rep (t:=1) ⟨by decide,by decide⟩
 ·exact rowC_one hb hG (sgn_nat hr)
 ·exact rowN_nil
theorem made_rep {w0 w w':World} {p:Nat} {F:Nat→Prop} {id:Int} {cs:Array Value} (h:Made w0 w w' p F id 0 cs) (hid:0≤id∧id≤65536) :
  ∃ (st:StfD) (F':Nat→Prop) (s':TS),Sm st∧st.s.id=id∧SAt w0 w' p F' s'∧(∀ k,F' k→F k∨w.heap.size≤k)∧Kept w w' F∧stfC.rep (fun k=>w.heap.size≤k∧k < w'.heap.size∧¬ F' k) w' st (.agg cs):=by
 obtain ⟨bt,bs,bn,k,sg,lf,e0,e1,e2,e3,e4,e5,e6,e7,e8,e9,e10,e11,e12,cf,t1,t2,F',s',rfl,hE,hk,hsg,hlf,hcf,ht1,ht2,hS,hF,hK,hbt,hbs,hbn,gt,gs,gn,nt,ns,nn⟩:=h.it
 have hE':=hE
 obtain ⟨h0,h1,h2,h3,h4,h5,h6,h7,h8,h9,h10,h11,h12⟩:=hE'
 refine ⟨⟨st0 id k 0 sg lf (ep0 e4 e5 e7 e8 e9 e10 e11 e12) cf t1 t2 e6,none⟩,F',s',⟨id,k,0,sg,lf,e4,e5,e7,e8,e9,e10,e11,e12,cf,t1,t2,e6,rfl,hid,tm_nat hk,tm_zero,tm_nat hsg,tm_nat hlf,tm_nat h4,tm_nat h5,tm_nat h7,tm_nat h8,tm_nat h9,tm_nat h10,tm_nat h11,tm_nat h12,tm_nat hcf,tm_nat ht1,tm_nat ht2,tm_nat h6⟩,rfl,hS,hF,hK,?_⟩
 have Gt:(fun k=>w.heap.size≤k∧k < w'.heap.size∧¬ F' k) bt:=⟨gt,blk_lt hbt,nt⟩
 have Gs:(fun k=>w.heap.size≤k∧k < w'.heap.size∧¬ F' k) bs:=⟨gs,blk_lt hbs,ns⟩
 have Gn:(fun k=>w.heap.size≤k∧k < w'.heap.size∧¬ F' k) bn:=⟨gn,blk_lt hbn,nn⟩
 refine ⟨foundCells id bt bs e0 e1 e2 e3 e4 e5 e6 e7 e8 e9 e10 e11 e12 cf t1 t2 bn,rfl,rfl,by simp [foundCells,Value.oneCell'],fun p hp=>?_⟩
 rcases List.mem_append.1 hp with hp | hp
 ·obtain ⟨q,hq,rfl⟩:=List.mem_map.1 hp
  simp only [statP,List.mem_cons,List.not_mem_nil,or_false] at hq
  rcases hq with rfl | rfl | rfl | rfl | rfl | rfl | rfl | rfl | rfl | rfl | rfl | rfl | rfl | rfl
  ·exact ⟨rfl,by show _≤id; omega,by show id < _; omega⟩
  ·exact sgn_rep tm_zero
  ·exact sgn_rep tm_zero
  ·exact rowN_one hbt rfl Gt (vert_rep hk hsg)
  ·exact rowN_one hbs rfl Gs (secr_rep hlf)
  ·exact epoc_rep hE
  ·exact sgn_nat hcf
  ·exact sgn_nat ht1
  ·exact sgn_nat ht2
  ·exact rats_rep hbn Gn h6
  ·exact rowN_nil
  ·exact rowN_nil
  ·exact (rfl:Value.bool false=Value.bool false)
  ·exact rowN_nil
 ·obtain rfl:=List.mem_singleton.1 hp
  exact (rfl:Value.pointer none=Value.pointer none)
end Go.Proofs.YtogkkfdkeefjnaaGreatDoor.Member
namespace Go.Proofs.YtogkkfdkeefjnaaGreatDoor.Member
open Go.RowKit Go.Proofs.YtogkkfdkeefjnaaGreatDoorBase Go.Proofs.YtogkkfdkeefjnaaGreatDoorLex2 Go.Proofs.YtogkkfdkeefjnaaGreatDoorNum Go.Proofs.YtogkkfdkeefjnaaGreatDoor.Codec Go.Proofs.YtogkkfdkeefjnaaGreatDoor.Term
set_option linter.unusedVariables false
set_option maxRecDepth 100000
set_option linter.unusedSimpArgs false
section
variable {w0 w w' : World} {L : Lay} {sig now : Int} {wv kv pv gv : Value} {ts : TS} {x : MD}
/-- The member's store has gone on. -/
theorem MAt.stored (h:MAt w0 w L sig now wv kv pv gv ts x) {ts':TS} {Fs:Nat→Prop} (hs:SAt w0 w' L.s Fs ts') (hF:∀ k,Fs k→L.Fs k∨w.heap.size≤k) (hk:Kept w w' L.Fs) :
  MAt w0 w' { L with Fs:=Fs } sig now wv kv pv gv ts' x:=by
 have hB:∀ k,L.Fs k→w0.heap.size≤k:=fun k hf=>h.st.at_.base_le k hf
 have hm:=h.m_lt
 have hq:=h.q_lt
 have hd:∀ k,L.Ff k→¬ L.Fs k:=fun k h1 h2=>h.sf k h2 h1
 refine ⟨hs,st_keptG h.fl hk hd hB,hk.blk h.jr h.sq,hk.blk h.mem h.sm,snapC_fair.keep h.snap (fun k hk1 hg=>hk.block k hk1 (h.g k hg).2.1),h.bm,h.bq,h.mq,h.fm,h.fq,fun hf=>?_,fun hf=>?_,fun k h1 h2=>?_,fun k hg=>?_,h.wo,h.sb⟩
 ·rcases hF _ hf with h1 | h1
  ·exact h.sm h1
  ·have:w.heap.size≤L.m:=h1
   omega
 ·rcases hF _ hf with h1 | h1
  ·exact h.sq h1
  ·have:w.heap.size≤L.q:=h1
   omega
 ·have hl:=st_lt h.fl k h2
  rcases hF _ h1 with h3 | h3
  ·exact h.sf k h3 h2
  ·omega
 ·obtain ⟨g1,g2,g3,g4⟩:=h.g k hg
  refine ⟨Nat.lt_of_lt_of_le g1 hk.size,fun hf=>?_,g3,g4⟩
  rcases hF _ hf with h1 | h1
  ·exact g2 h1
  ·omega
/-- With one more group, without one. -/
def withG (x:MD) (st:StfD):SnapD:={ x.snap with groups:=x.snap.groups ++ [st] }
def withoutG (x:MD) (k:Nat):SnapD:={ x.snap with groups:=cutAt x.snap.groups k }
theorem room_of {x:MD} (h:x.fd.safe.length+x.fd.loose.length≤100000000000000) {sn:SnapD} (hs:SnOk sn):Disk.Room { x.fd with loose:=x.fd.loose ++ frameS (bsRr snapG sn) }:=by
 have h1:=hs.enc.2
 have h2:=frameS_length (bsRr snapG sn)
 have h3:=putN_len (bsRr snapG sn).length ⟨[],0⟩
 have h4:(encN (bsRr snapG sn).length).length≤8:=by simpa [putN] using h3
 show x.fd.safe.length+(x.fd.loose ++ frameS (bsRr snapG sn)).length≤200000000000000
 rw [List.length_append,h2]
 omega
set_option maxHeartbeats 3200000 in
theorem mcreate_any (h:MAt w0 w L sig now wv kv pv gv ts x) (hs:SnOk x.snap) (id:Int) (hid:0≤id∧id≤65536) (hr:x.fd.safe.length+x.fd.loose.length≤100000000000000) :
  Calls Tryz.prog 7 #[.pointer (some ⟨L.m,0,none⟩),.int .i64 id] w fun e w'=>
   (roomV x id≠0∧e=.returned (.int .i64 (roomV x id))∧MNext w0 w w' L x) ∨
   (roomV x id=0∧∃ st,Sm st∧st.s.id=id∧e=.returned (.int .i64 (savedR x (withG x st)).1)∧MNext w0 w w' L (saved x (withG x st))):=by
 have hn:x.snap.groups.length≤1000:=by have:=hs.len; omega
 have R:=lh (room_any h id hn)
 have H:=lh h
 have HS:=lh hs
 have HID:=lh hid
 have HR:=lh hr
 clear h hs hid hr hn
 by_cases h0:roomV x id=0
 ·have E0:=lh h0
  rw [h0] at R
  have hl4:x.snap.groups.length < 4:=by
   unfold roomV at h0
   split at h0
   ·cases h0
   ·split at h0
    ·cases h0
    ·split at h0
     ·cases h0
     ·omega
  have HL4:=lh hl4
  clear h0 hl4
  go_enter Tryz.func7,Tryz.ntmps7
  go_wp2_with (fail)
  refine R.out.mono ?_
  rintro e w1 ⟨rfl,hk1⟩
  have H1:=lh (H.out.kept hk1)
  have K1:=lh hk1
  clear hk1 R
  go_wp2_with (fail)
  refine (me_any H1.out).mono ?_
  rintro e w2 ⟨rfl,hk2⟩
  have H2:=lh (H1.out.kept hk2)
  have K2:=kt K1 hk2
  clear hk2 H1 K1
  obtain ⟨A1,n1,k1,hwv⟩:=H.out.wo
  obtain ⟨-,⟨A2,n2,k2,hpv,-⟩,-⟩:=snap_parts H.out.snap
  have HWV:=lh hwv
  have HPV:=lh hpv
  clear hwv hpv
  go_wp2_with (fail)
  rw [HWV.out,HPV.out]
  refine (create_any id 0 sig now A1 A2 n1 k1 n2 k2 H2.out.st (by unfold I64; decide) (by have:=HID.out; unfold I64; omega)).mono ?_
  rintro e w3 ⟨cs,rfl,hm⟩
  obtain ⟨st,Fs',ts',hsm,hst,hS,hF,hK,hrep⟩:=made_rep hm HID.out
  have H3:=lh (H2.out.stored hS hF hK)
  have HSM:=lh hsm
  have HST:=lh hst
  have HREP:=lh hrep
  have FF:=lh hF
  have K3:=lh hK
  clear hm hsm hst hS hF hK hrep
  go_wp2_with (fail)
  refine (more_any H3.out st cs _ HREP.out (fun k hk=>hk.2.1) (by have:=HL4.out; omega)).mono ?_
  rintro e w4 ⟨gv',rfl,hk4,hrep4⟩
  have H4:=lh (H3.out.kept hk4)
  have K4:=lh hk4
  have HR4:=lh hrep4
  clear hk4 hrep4
  have SN:=lh (show SnOk (withG x st) from HS.out.more HSM.out HL4.out)
  go_wp2_with (fail)
  refine (save_any H4.out (withG x st) SN.out _ kv pv gv' HR4.out (fun k hk=>?_) (room_of HR.out SN.out)).mono ?_
  ·have hq2:=H2.out.m_lt
   have hl3:=H3.out.m_lt
   have hz3:=K3.out.size
   have hz4:=K4.out.size
   rcases hk with hk | hk | hk
   ·exact H4.out.g k hk
   ·refine ⟨Nat.lt_of_lt_of_le hk.2.1 hz4,hk.2.2,fun hf=>?_,fun e=>?_⟩
    ·have:=st_lt H2.out.fl k hf
     omega
    ·have:k=L.m:=e
     omega
   ·refine ⟨hk.2,fun hf=>?_,fun hf=>?_,fun e=>?_⟩
    ·have:=H3.out.st.at_.lt k hf
     omega
    ·have:=st_lt H3.out.fl k hf
     omega
    ·have h1:k=L.m:=e
     have h2:L.m < w3.heap.size:=hl3
     omega
  rintro e w5 ⟨rfl,hn⟩
  have MN:Hid (MNext w0 w w5 L (saved x (withG x st))):=lh (MNext.trans (L1:={ L with Fs:=Fs' }) (fun k hk=>by
   rcases hk with h1 | h1 | h1
   ·rcases FF.out k h1 with h2 | h2
    ·exact .inl (.inl h2)
    ·exact .inr (Nat.le_trans K2.out.size h2)
   ·exact .inl (.inr (.inl h1))
   ·exact .inl (.inr (.inr h1))) rfl rfl (((K2.out.mono (fun _ h=>h.elim)).trans K3.out (fun k h=>.inl (.inl h))).trans K4.out (fun _ h=>h.elim)) hn)
  clear hn
  go_wp2
  go_ret
  exact .inr ⟨E0.out,st,HSM.out,HST.out,rfl,MN.out⟩
 ·have q:(roomV x id == 0)=false:=by simpa using h0
  have E0:=lh h0
  obtain ⟨r,hr⟩:∃ r,roomV x id=r:=⟨_,rfl⟩
  rw [hr] at R q
  have ER:=lh hr
  clear h0 hr
  go_enter Tryz.func7,Tryz.ntmps7
  go_wp2_with (fail)
  refine R.out.mono ?_
  rintro e w1 ⟨rfl,hk1⟩
  have MN:=lh (H.out.next hk1)
  clear hk1 R
  go_wp2
  go_ret
  exact .inl ⟨E0.out,by rw [ER.out]; rfl,MN.out⟩
set_option maxHeartbeats 3200000 in
theorem mleave_any (h:MAt w0 w L sig now wv kv pv gv ts x) (hs:SnOk x.snap) (hd:x.down=false) (id:Int) (hr:x.fd.safe.length+x.fd.loose.length≤100000000000000) :
  Calls Tryz.prog 6 #[.pointer (some ⟨L.m,0,none⟩),.int .i64 id] w fun e w'=>
   (ix x.snap.groups id=none∧e=.returned (.int .i64 110)∧MNext w0 w w' L x) ∨
   (∃ k,ix x.snap.groups id=some k∧e=.returned (.int .i64 (savedR x (withoutG x k)).1)∧MNext w0 w w' L (saved x (withoutG x k))):=by
 have hn:x.snap.groups.length≤1000:=by have:=hs.len; omega
 have T:=lh (at_any h id hn)
 have H:=lh h
 have HS:=lh hs
 have HR:=lh hr
 have atE:atV x id=match ix x.snap.groups id with | some k=>((k:Int),(0:Int)) | none=>(0,110):=by unfold atV; rw [hd]; rfl
 clear h hs hr hn
 cases hx:ix x.snap.groups id with
 | none=>
  rw [hx] at atE
  rw [atE] at T
  have HX:=lh hx
  clear atE hx
  go_enter Tryz.func6,Tryz.ntmps6
  go_wp2_with (fail)
  refine T.out.mono ?_
  rintro e w1 ⟨rfl,hk1⟩
  have MN:=lh (H.out.next hk1)
  clear hk1 T
  go_wp2
  go_ret
  exact .inl ⟨by first | trivial | rfl,rfl,MN.out⟩
 | some k=>
  rw [hx] at atE
  rw [atE] at T
  have hkl:k < x.snap.groups.length:=by
   unfold ix at hx
   exact (List.findIdx?_eq_some_iff_getElem.1 hx).1
  have HKL:=lh hkl
  have HX:=lh hx
  clear atE hx hkl
  go_enter Tryz.func6,Tryz.ntmps6
  go_wp2_with (fail)
  refine T.out.mono ?_
  rintro e w1 ⟨rfl,hk1⟩
  have H1:=lh (H.out.kept hk1)
  have K1:=lh hk1
  clear hk1 T
  go_wp2_with (fail)
  refine (without_any H1.out k HKL.out (by have:=HS.out.len; omega)).mono ?_
  rintro e w4 ⟨gv',rfl,hk4,hrep4⟩
  have H4:=lh (H1.out.kept hk4)
  have K4:=lh hk4
  have HR4:=lh hrep4
  clear hk4 hrep4
  have SN:=lh (show SnOk (withoutG x k) from HS.out.less k)
  go_wp2_with (fail)
  refine (save_any H4.out (withoutG x k) SN.out _ kv pv gv' HR4.out (fun j hj=>?_) (room_of HR.out SN.out)).mono ?_
  ·have hm1:=H1.out.m_lt
   rcases hj with hj | hj
   ·exact H4.out.g j hj
   ·refine ⟨hj.2,fun hf=>?_,fun hf=>?_,fun e=>?_⟩
    ·have:=H1.out.st.at_.lt j hf
     omega
    ·have:=st_lt H1.out.fl j hf
     omega
    ·omega
  rintro e w5 ⟨rfl,hn⟩
  have MN:Hid (MNext w0 w w5 L (saved x (withoutG x k))):=lh (MNext.trans (L1:=L) (fun k hk=>.inl hk) rfl rfl ((K1.out.mono (fun _ h=>h.elim)).trans K4.out (fun _ h=>h.elim)) hn)
  clear hn
  go_wp2
  go_ret
  exact .inr ⟨k,rfl,rfl,MN.out⟩
end
end Go.Proofs.YtogkkfdkeefjnaaGreatDoor.Member
namespace Go.Proofs.YtogkkfdkeefjnaaGreatDoor.Member
open Go.RowKit Go.Sort Go.Proofs.YtogkkfdkeefjnaaGreatDoorBase Go.Proofs.YtogkkfdkeefjnaaGreatDoorLex2 Go.Proofs.YtogkkfdkeefjnaaGreatDoorNum Go.Proofs.YtogkkfdkeefjnaaGreatDoor.Codec Go.Proofs.YtogkkfdkeefjnaaGreatDoor.Term
set_option linter.unusedVariables false
set_option maxRecDepth 100000
set_option linter.unusedSimpArgs false
theorem elemI:Elem Tryz.prog 22 3 (.int .i64 0) 1 8:=⟨by kernel_rfl,by obtain ⟨i,h1,h2,h3,h4⟩:=info_parts (show (Tryz.prog.info? 3).map (fun i=>(i.zero,i.size,i.bytes))=some (some (.int .i64 0),1,8) by kernel_rfl); exact ⟨i,h1,h2,h3,h4⟩,rfl,by decide,by decide⟩
def ic (l:List Int):List Value:=l.map (Value.int .i64)
theorem own_rowIn {w:World} {base:Nat} {v:Value} {n:Nat} {xs:List Value} (h:w.ownsRow base 3 1 v n xs):∃ A c,v=.slice A n c∧RowIn w A n xs∧∀ b o,A=some ⟨b,o,none⟩→base≤b∧b < w.heap.size:=by
 have hlen:xs.length=n:=by simpa using h.1
 rcases h.2 with ⟨rfl,h0⟩ | ⟨g,cap,cur,rfl,hb,hg,hnc,hcm,hcs,htake⟩
 ·subst h0
  exact ⟨none,0,rfl,⟨by simpa using hlen.symm,Nat.zero_le _,fun h=>absurd h (Nat.lt_irrefl 0)⟩,fun b o e=>by cases e⟩
 ·refine ⟨_,cap,rfl,⟨hlen.symm,Nat.le_trans hnc hcm,fun _=>⟨g,0,rfl,blk_lt hg,fun k u hu=>?_⟩⟩,fun b o e=>?_⟩
  ·have:=h.cells (g:=g) rfl k u hu
   rw [Addr.add_lit] at this
   exact this
  ·simp at e
   obtain ⟨rfl,-⟩:=e
   exact ⟨hb,blk_lt hg⟩
/-- One number of a row. -/
theorem row_at {w:World} {A:Option Addr} {l:List Int} {n k:Nat} {x:Int} (h:RowIn w A n (ic l)) (hx:l[k]?=some x):∃ g o,A=some ⟨g,o,none⟩∧g < w.heap.size∧w.cell? ⟨g,o+k,none⟩=some (.int .i64 x):=by
 have hk:=(List.getElem?_eq_some_iff.1 hx).1
 have hn:n=l.length:=by rw [h.len]; simp [ic]
 obtain ⟨g,o,hA,hg,hc⟩:=h.cell (by omega)
 exact ⟨g,o,hA,hg,hc k _ (by unfold ic; rw [List.getElem?_map,hx]; rfl)⟩
theorem rowK {w w':World} {A:Option Addr} {n:Nat} {xs:List Value} (h:RowIn w A n xs) (hk:Kept w w' (fun _=>False)):RowIn w' A n xs:=rowIn_keep h hk (fun _ _ h=>h)
set_option maxHeartbeats 1600000 in
set_option maxRecDepth 100000 in
theorem ints_any (w:World) (l m:List Int) (A B:Option Addr) (c d:Nat) (hl:RowIn w A l.length (ic l)) (hm:RowIn w B m.length (ic m)) :
  Calls Tryz.prog 8 #[.slice A l.length c,.slice B m.length d] w fun e w'=>e=.returned (.bool (decide (l=m)))∧Kept w w' (fun _=>False):=by
 have h1:=hl.max
 have h2:=hm.max
 unfold maxLen at h1 h2
 have HL:=lh hl
 have HM:=lh hm
 clear hl hm
 obtain ⟨r,hr⟩:∃ r,decide (l=m)=r:=⟨_,rfl⟩
 rw [hr]
 have R:=lh hr
 clear hr
 by_cases hlm:l.length=m.length
 ·obtain ⟨n,hn⟩:∃ n,l.length=n:=⟨_,rfl⟩
  have hn':m.length=n:=by rw [← hlm,hn]
  rw [hn] at HL h1 ⊢
  rw [hn'] at HM h2 ⊢
  clear hlm
  have q0:((n:Int) == n)=true:=by simp
  have LL:=lh hn
  have LM:=lh hn'
  clear hn hn'
  go_enter Tryz.func8,Tryz.ntmps8
  go_wp2
  go_loopw [5] (fun iv wr=>Kept w wr (fun _=>False)∧∃ k:Nat,k≤n∧iv=.int .i64 k∧l.take k=m.take k) (fun iv _=>(n - intOf iv).toNat)
  case atStart=>exact ⟨Kept.refl _ _,0,Nat.zero_le _,rfl,rfl⟩
  case round=>
   obtain ⟨hw0,k,hk,rfl,hall⟩:=hrel
   have KW:=lh hw0
   clear hw0
   have ALL:=lh hall
   clear hall
   by_cases hlt:k < n
   ·obtain ⟨x,hx⟩:∃ x,l[k]?=some x:=⟨_,List.getElem?_eq_getElem (by rw [LL.out]; exact hlt)⟩
    obtain ⟨y,hy⟩:∃ y,m[k]?=some y:=⟨_,List.getElem?_eq_getElem (by rw [LM.out]; exact hlt)⟩
    obtain ⟨g,o,rfl,-,ca⟩:=row_at (rowK HL.out KW.out) hx
    obtain ⟨g2,o2,rfl,-,cb⟩:=row_at (rowK HM.out KW.out) hy
    have HX:=lh hx
    have HY:=lh hy
    have q1:(0:Int)≤k:=by omega
    have q2:(k:Int) < n:=by omega
    clear hx hy
    by_cases e:x=y
    ·subst e
     go_wp2
     refine wp_region_lex (fun _=>True) [0,0,0,1,0,0,0,1,0] (by kernel_rfl) (by kernel_rfl) (by kernel_rfl) (trivial) (fun Q' hQ'=>?_)
     simp only [List.zip_cons_cons,List.zip_nil_right]
     repeat((first|(refine wpX_silent ?_ fun K hK=>?_;rfl;apply Exists.intro;refine ⟨fun w'=>?_,?_⟩;go_simp;exact⟨rfl,rfl⟩)|(refine wpX_read ?_ fun K hK=>?_;rfl;apply Exists.intro;refine ⟨?_,?_⟩;go_simp;exact⟨rfl,rfl⟩)|(refine wpX_float ?_ fun K hK=>?_;rfl;apply Exists.intro;refine ⟨fun w' hw'=>?_,?_⟩;(try dsimp only at hw');go_simp;exact⟨rfl,rfl⟩)|(refine wpX_not ?_ fun K hK=>?_;rfl));go_simp;refine hK _ _ ?_;clear hK K)
     refine wpX_nil (hQ' _ _ ?_)
     go_wp2
     go_roundw
     case rel=>
      refine ⟨KW.out.drew,k+1,by omega,by go_num,?_⟩
      rw [List.take_add_one,List.take_add_one,HX.out,HY.out,ALL.out]
     case measure=>simp [intOf]; omega
    ·have qe:(x == y)=false:=by simpa using e
     have RF:Hid (r=false):=lh (by
      rw [← R.out]
      refine decide_eq_false (fun h=>e ?_)
      have hx:=HX.out
      rw [h,HY.out] at hx
      exact (Option.some.inj hx).symm)
     clear e
     go_wp2
     refine wp_region_lex (fun _=>True) [0,0,0,1,0,0,0,1,0] (by kernel_rfl) (by kernel_rfl) (by kernel_rfl) (trivial) (fun Q' hQ'=>?_)
     simp only [List.zip_cons_cons,List.zip_nil_right]
     repeat((first|(refine wpX_silent ?_ fun K hK=>?_;rfl;apply Exists.intro;refine ⟨fun w'=>?_,?_⟩;go_simp;exact⟨rfl,rfl⟩)|(refine wpX_read ?_ fun K hK=>?_;rfl;apply Exists.intro;refine ⟨?_,?_⟩;go_simp;exact⟨rfl,rfl⟩)|(refine wpX_float ?_ fun K hK=>?_;rfl;apply Exists.intro;refine ⟨fun w' hw'=>?_,?_⟩;(try dsimp only at hw');go_simp;exact⟨rfl,rfl⟩)|(refine wpX_not ?_ fun K hK=>?_;rfl));go_simp;refine hK _ _ ?_;clear hK K)
     refine wpX_nil (hQ' _ _ ?_)
     go_wp2
     go_ret
     rw [RF.out]
     exact ⟨rfl,KW.out.drew⟩
   ·have hk':k=n:=by omega
    subst hk'
    have RF:Hid (r=true):=lh (by
     rw [← R.out]
     have hall:=ALL.out
     rw [List.take_of_length_le (by rw [LL.out]; exact Nat.le_refl _),List.take_of_length_le (by rw [LM.out]; exact Nat.le_refl _)] at hall
     exact decide_eq_true hall)
    go_wp2
    go_ret
    rw [RF.out]
    exact ⟨rfl,KW.out⟩
 ·have q0:((l.length:Int) == m.length)=false:=by simp; omega
  have RF:Hid (r=false):=lh (by rw [← R.out]; exact decide_eq_false (fun h=>hlm (by rw [h])))
  clear hlm
  go_enter Tryz.func8,Tryz.ntmps8
  go_wp2
  go_ret
  rw [RF.out]
  exact ⟨rfl,Kept.refl _ _⟩
section
variable {w0 w w' : World} {L : Lay} {sig now : Int} {wv kv pv gv : Value} {ts : TS} {x : MD}
def gids (x:MD):List Int:=x.snap.groups.map (·.s.id)
set_option maxHeartbeats 3200000 in
theorem groups_any (h:MAt w0 w L sig now wv kv pv gv ts x) (hn:x.snap.groups.length≤900) :
  Calls Tryz.prog 9 #[.pointer (some ⟨L.m,0,none⟩)] w fun e w'=>∃ A c,e=.returned (.slice A (gids x).length c)∧RowIn w' A (gids x).length (ic (gids x))∧Kept w w' (fun _=>False):=by
 obtain ⟨-,-,hg⟩:=snap_parts h.snap
 obtain ⟨A3,k3,xs,rfl,hf,hrow,-⟩:=flat_of_row stfC_many hg
 have c8:=h.cell 8
 simp [memCells] at c8
 have hgl:(gids x).length=x.snap.groups.length:=by simp [gids]
 obtain ⟨n,hl⟩:∃ n,x.snap.groups.length=n:=⟨_,rfl⟩
 rw [hl] at c8 hn hrow hgl
 rw [hgl]
 have HGL:=lh hgl
 have HL:=lh hl
 have HF:=lh hf
 have ROW:=lh hrow
 have HN:=lh hn
 have HBY:=lh (show ∀ k,k < n→((k+1)+(k+1) / 4+192) * 8≤281474976710656 from fun k hk=>by omega)
 clear h hg hf hrow hl hgl
 obtain ⟨m,hmm⟩:∃ m,L.m=m:=⟨_,rfl⟩
 rw [hmm] at c8 ⊢
 clear hmm
 go_enter Tryz.func9,Tryz.ntmps9
 go_wp2
 go_loopw [3,12] (fun ov iv wr=>∃ k:Nat,k≤n∧iv=.int .i64 k∧wr.ownsRow w.heap.size 3 1 ov k (ic ((gids x).take k))∧Kept w wr (fun _=>False)) (fun _ iv _=>(n - intOf iv).toNat)
 case atStart=>exact ⟨0,Nat.zero_le _,rfl,World.ownsRow_nil _ _ _ _,Kept.refl _ _⟩
 case round=>
  obtain ⟨k,hk,rfl,ho,hkw⟩:=hrel
  have O:=lh ho
  have KW:=lh hkw
  clear ho hkw
  by_cases hlast:k=n
  ·subst hlast
   have ho:=O.out
   rw [List.take_of_length_le (by rw [HGL.out]; exact Nat.le_refl _)] at ho
   obtain ⟨A,c,rfl,hr,-⟩:=own_rowIn ho
   have HR:=lh hr
   clear ho hr hk
   go_wp2
   go_ret
   exact ⟨A,c,rfl,HR.out,KW.out⟩
  ·have hkn:k < n:=by omega
   have q1:(k:Int) < n:=by omega
   have q0:(0:Int)≤k:=by omega
   obtain ⟨y,hy⟩:∃ y,x.snap.groups[k]?=some y:=⟨_,List.getElem?_eq_getElem (by rw [HL.out]; exact hkn)⟩
   obtain ⟨b,off,rfl,hbl,hcell⟩:=ROW.out.cell (by omega)
   obtain ⟨cs,hcs,hgx,hrep⟩:=flat_get HF.out hy
   obtain ⟨hs,ha,h0⟩:=stf_id hrep
   have hrg:wr.rangeAt b (off+k * 29) cs.toList:=fun j v hv=>by
    have:=hcell _ v (hgx j v (by simpa using hv))
    rw [show off+k * 29+j=off+(k * 29+j) by omega,← this]
    simp only [World.cell?,KW.out.block b hbl (fun h=>h)]
   obtain ⟨K9,H9⟩:=setRow_new (w:=wr) (Z:=stZ) (cs:=cs) (T:=75)
   have hz:=heap_alloc_new wr (.cells stZ 75)
   obtain ⟨w9,hw9⟩:∃ w9,(wr.alloc (.cells stZ 75)).setRow wr.heap.size cs=w9:=⟨_,rfl⟩
   rw [hw9] at K9 H9
   have c0:=cellOf (j:=0) H9
   rw [h0] at c0
   unfold stZ at hz hw9
   have HZ:=lh hz
   clear hz
   have RNG:=lh hrg
   have HI:=lh (show (Tryz.prog.info? 75).map (·.size)=some cs.size by rw [hs]; kernel_rfl)
   have HIL:=lh (show (Tryz.prog.info? 75).map (·.size)=some cs.toList.length by rw [Array.length_toList]; exact HI.out)
   have HCS:=lh hs
   have HA:=lh ha
   have K99:=lh K9
   have HW9:=lh hw9
   have O9:=lh (own_keep O.out K9)
   have SRC:=lh (show Src Tryz.prog 1 22 (.slice (some ⟨w9.heap.size,0,none⟩) 1 1) 1 [.int .i64 y.s.id] (w9.alloc (.cells #[.int .i64 y.s.id] 3)) from Src.ofSlice _ Tryz.underlying22 _ 1 1 _ rfl (fun j u hj=>by rw [Addr.add_lit,Nat.zero_add,cellOf (heap_alloc_new w9 _)]; simpa using hj) (by simp [Value.oneCell']))
   have OA:=lh (own_keep O9.out ((Kept.refl w9 (fun _=>False)).alloc (.cells #[.int .i64 y.s.id] 3)))
   have BA:=lh (show w.heap.size≤(w9.alloc (.cells #[.int .i64 y.s.id] 3)).heap.size from Nat.le_trans (Nat.le_trans KW.out.size K9.size) (by simp))
   have HY:=lh (show (gids x).take (k+1)=(gids x).take k ++ [y.s.id] by rw [List.take_add_one]; simp [gids,hy])
   have HBK:=lh (HBY.out k hkn)
   clear hy hbl hcell hcs hgx hrep hs ha h0 hrg K9 H9 hw9 hlast
   go_wp2_with (first | refine wpList_load_mid rfl 75 (.tmp 14) rfl b (off+k * 29) rfl cs.toList _ RNG.out Tryz.underlying75 rfl HIL.out ?_|(refine wpList_store_row rfl 75 (.tmp 5) (.tmp 15) rfl wr.heap.size cs rfl rfl _ _ HZ.out HI.out (by rw [HCS.out]; rfl) HA.out ?_; rw [HW9.out])|(at_builtin; apply hold))
   unfold Hold
   refine wpList_append_ownS _ rfl (.tmp 16) (.tmp 19) 22 22 rfl w.heap.size 3 (.int .i64 0) 1 8 elemI _ k (ic ((gids x).take k)) rfl OA.out _ 1 [.int .i64 y.s.id] rfl SRC.out HBK.out BA.out (fun v' w3 o1 g1 b1=>?_)
   have O1:=lh o1
   have K3:=lh (Kept.grown ((KW.out.trans K99.out (fun _ h=>h.elim)).alloc (.cells #[.int .i64 y.s.id] 3)) g1 (fun j hj=>.inr (OA.out.lt j hj).1))
   clear o1 g1 b1 c0
   go_wp2
   go_roundw
   case rel=>exact ⟨k+1,by omega,by go_num,by rw [HY.out]; simpa [ic] using O1.out,K3.out⟩
   case measure=>simp [intOf]; omega
end
end Go.Proofs.YtogkkfdkeefjnaaGreatDoor.Member
namespace Go.Proofs.YtogkkfdkeefjnaaGreatDoor.Member
open Go.RowKit Go.Proofs.YtogkkfdkeefjnaaGreatDoorBase Go.Proofs.YtogkkfdkeefjnaaGreatDoorLex2 Go.Proofs.YtogkkfdkeefjnaaGreatDoorNum Go.Proofs.YtogkkfdkeefjnaaGreatDoor.Codec Go.Proofs.YtogkkfdkeefjnaaGreatDoor.Term
set_option linter.unusedVariables false
set_option maxRecDepth 100000
set_option linter.unusedSimpArgs false
section
variable {w0 w w' : World} {L : Lay} {sig now : Int} {wv kv pv gv : Value} {ts : TS} {x : MD}
set_option maxHeartbeats 1600000 in
theorem marm_any (h:MAt w0 w L sig now wv kv pv gv ts x) (hd:x.down=false) (o k:Int) :
  Calls Tryz.prog 11 #[.pointer (some ⟨L.m,0,none⟩),.int .i64 o,.int .i64 k] w fun e w'=>e=.returned (.int .i64 (x.fd.arm o k).1)∧MNext w0 w w' L { x with fd:=(x.fd.arm o k).2 }:=by
 obtain ⟨c,fd',hc⟩:∃ c fd',x.fd.arm o k=(c,fd'):=⟨_,_,rfl⟩
 rw [hc]
 have c9:=h.cell 9
 have c11:=h.cell 11
 simp [memCells] at c9 c11
 rw [hd] at c11
 have H:=lh h
 have HC:=lh hc
 clear h hc hd
 go_enter Tryz.func11,Tryz.ntmps11
 go_wp2_with (fail)
 refine (Disk.st_arm H.out.fl o k HC.out).mono ?_
 rintro e w1 ⟨rfl,Ff,hst,hF,hk⟩
 have MN:=lh (mnext_of (L:=L) (H.out.filed hst hF hk) hF (Kept.refl w _) hk (Kept.refl _ _))
 clear hst hF hk
 go_wp2
 go_ret
 exact ⟨rfl,MN.out⟩
theorem MAt.nowed (h:MAt w0 w L sig now wv kv pv gv ts x) (v:Int):MAt w0 (w.setCell ⟨L.m,4,none⟩ (.int .i64 v)) L sig v wv kv pv gv ts x∧Kept w (w.setCell ⟨L.m,4,none⟩ (.int .i64 v)) (fun k=>k=L.m):=by
 have hk:Kept w (w.setCell ⟨L.m,4,none⟩ (.int .i64 v)) (fun k=>k=L.m):=(Kept.refl w (fun k=>k=L.m)).setCell (p:=⟨L.m,4,none⟩) (.inl rfl) _
 have hB:∀ k,k=L.m→w0.heap.size≤k:=fun k hk=>hk ▸ h.bm
 refine ⟨⟨h.st.keptG hk (fun k hs e=>h.sm (e ▸ hs)) hB,st_keptG h.fl hk (fun k hs e=>h.fm (e ▸ hs)) hB,hk.blk h.jr (fun e=>h.mq e.symm),?_,snapC_fair.keep h.snap (fun k hk1 hg=>hk.block k hk1 (h.g k hg).2.2.2),h.bm,h.bq,h.mq,h.fm,h.fq,h.sm,h.sq,h.sf,fun k hg=>?_,h.wo,h.sb⟩,hk⟩
 ·exact blk_set h.mem 4 (.int .i64 v)
 ·obtain ⟨g1,g2,g3,g4⟩:=h.g k hg
  exact ⟨Nat.lt_of_lt_of_le g1 hk.size,g2,g3,g4⟩
set_option maxHeartbeats 1600000 in
theorem mat_any (h:MAt w0 w L sig now wv kv pv gv ts x) (v:Int) :
  Calls Tryz.prog 17 #[.pointer (some ⟨L.m,0,none⟩),.int .i64 v] w fun e w'=>e=.returned (.tuple #[])∧MNext w0 w w' L x:=by
 have hn:=h.nowed v
 have MN:=lh (show MNext w0 w (w.setCell ⟨L.m,4,none⟩ (.int .i64 v)) L x from ⟨L,sig,v,wv,kv,pv,gv,ts,hn.1,rfl,rfl,fun k hk=>.inl hk,hn.2.mono (fun k hk=>.inr (.inr hk))⟩)
 have HM:=lh h.mem
 clear h hn
 go_enter Tryz.func17,Tryz.ntmps17
 go_wp2_with (first|(refine wpList_store_cell rfl 3 (.tmp 8) (.tmp 5) rfl L.m 4 (.int .i64 v) rfl rfl rfl _ _ HM.out (by simp [memCells]) (by kernel_rfl) ?_; apply hold))
 unfold Hold
 obtain ⟨w4,hw4⟩:∃ w4,w.setCell ⟨L.m,4,none⟩ (.int .i64 v)=w4:=⟨_,rfl⟩
 rw [hw4] at MN ⊢
 clear hw4
 go_wp2
 go_end0
 exact ⟨rfl,MN.out⟩
set_option maxHeartbeats 1600000 in
theorem mtell_any (h:MAt w0 w L sig now wv kv pv gv ts x) (hd:x.down=false) (id:Int) (hx:ix x.snap.groups id=none) (hn:x.snap.groups.length≤1000) :
  Calls Tryz.prog 10 #[.pointer (some ⟨L.m,0,none⟩),.int .i64 id] w fun e w'=>e=.returned (.tuple #[.agg #[.int .i64 0,.int .i64 0,.int .i64 0,.int .i64 0,.int .i64 0,.int .i64 0,.int .i64 0,.int .i64 0,.int .i64 0,.int .i64 0,.int .i64 0,.int .i64 0,.int .i64 0,.int .i64 0,.int .i64 0,.slice none 0 0,.slice none 0 0,.bool false,.int .i64 0,.int .i64 0,.slice none 0 0,.slice none 0 0,.int .i64 0,.int .i64 0,.int .i64 0,.int .i64 0,.int .i64 0,.slice none 0 0,.slice none 0 0,.int .i64 0,.int .i64 0,.int .i64 0,.slice none 0 0,.int .i64 0,.int .i64 0,.int .i64 0,.int .i64 0,.slice none 0 0,.int .i64 0],.int .i64 110])∧Kept w w' (fun _=>False):=by
 have kA:=(Kept.refl w (fun _=>False)).alloc (.cells #[.int .i64 0,.int .i64 0,.int .i64 0,.int .i64 0,.int .i64 0,.int .i64 0,.int .i64 0,.int .i64 0,.int .i64 0,.int .i64 0,.int .i64 0,.int .i64 0,.int .i64 0,.int .i64 0,.int .i64 0,.slice none 0 0,.slice none 0 0,.bool false,.int .i64 0,.int .i64 0,.slice none 0 0,.slice none 0 0,.int .i64 0,.int .i64 0,.int .i64 0,.int .i64 0,.int .i64 0,.slice none 0 0,.slice none 0 0,.int .i64 0,.int .i64 0,.int .i64 0,.slice none 0 0,.int .i64 0,.int .i64 0,.int .i64 0,.int .i64 0,.slice none 0 0,.int .i64 0] 44)
 have hz:=heap_alloc_new w (.cells #[.int .i64 0,.int .i64 0,.int .i64 0,.int .i64 0,.int .i64 0,.int .i64 0,.int .i64 0,.int .i64 0,.int .i64 0,.int .i64 0,.int .i64 0,.int .i64 0,.int .i64 0,.int .i64 0,.int .i64 0,.slice none 0 0,.slice none 0 0,.bool false,.int .i64 0,.int .i64 0,.slice none 0 0,.slice none 0 0,.int .i64 0,.int .i64 0,.int .i64 0,.int .i64 0,.int .i64 0,.slice none 0 0,.slice none 0 0,.int .i64 0,.int .i64 0,.int .i64 0,.slice none 0 0,.int .i64 0,.int .i64 0,.int .i64 0,.int .i64 0,.slice none 0 0,.int .i64 0] 44)
 have A:=at_any (h.kept kA) id hn
 have atE:atV x id=(0,110):=by unfold atV; rw [hd,hx]; rfl
 rw [atE] at A
 obtain ⟨wA,hwA⟩:∃ wA,w.alloc (.cells #[.int .i64 0,.int .i64 0,.int .i64 0,.int .i64 0,.int .i64 0,.int .i64 0,.int .i64 0,.int .i64 0,.int .i64 0,.int .i64 0,.int .i64 0,.int .i64 0,.int .i64 0,.int .i64 0,.int .i64 0,.slice none 0 0,.slice none 0 0,.bool false,.int .i64 0,.int .i64 0,.slice none 0 0,.slice none 0 0,.int .i64 0,.int .i64 0,.int .i64 0,.int .i64 0,.int .i64 0,.slice none 0 0,.slice none 0 0,.int .i64 0,.int .i64 0,.int .i64 0,.slice none 0 0,.int .i64 0,.int .i64 0,.int .i64 0,.int .i64 0,.slice none 0 0,.int .i64 0] 44)=wA:=⟨_,rfl⟩
 rw [hwA] at kA hz A
 have AA:=lh A
 have KA:=lh kA
 have HZ:=lh hz
 have HWA:=lh hwA
 clear h hd hx hn atE A kA hz hwA
 go_enter Tryz.func10,Tryz.ntmps10
 go_wp2_with (fail)
 rw [HWA.out]
 refine AA.out.mono ?_
 rintro e w1 ⟨rfl,hk⟩
 have K1:=lh hk
 have H1:=kb hk HZ
 clear hk
 go_wp2_with (first|(refine wpList_store_row rfl 44 (.tmp 4) (.tmp 16) rfl w.heap.size #[.int .i64 0,.int .i64 0,.int .i64 0,.int .i64 0,.int .i64 0,.int .i64 0,.int .i64 0,.int .i64 0,.int .i64 0,.int .i64 0,.int .i64 0,.int .i64 0,.int .i64 0,.int .i64 0,.int .i64 0,.slice none 0 0,.slice none 0 0,.bool false,.int .i64 0,.int .i64 0,.slice none 0 0,.slice none 0 0,.int .i64 0,.int .i64 0,.int .i64 0,.int .i64 0,.int .i64 0,.slice none 0 0,.slice none 0 0,.int .i64 0,.int .i64 0,.int .i64 0,.slice none 0 0,.int .i64 0,.int .i64 0,.int .i64 0,.int .i64 0,.slice none 0 0,.int .i64 0] rfl rfl _ _ H1.out (by kernel_rfl) rfl (by simp [Value.oneCell']) ?_))
 refine bodyPost_ret (results_cell_slot rfl _ _ _ _ _ _ _ _ rfl rfl (setRow_heap w1 w.heap.size _ _ 44 (0,0) H1.out) Tryz.underlying44 rfl (by kernel_rfl)) rfl ?_
 exact ⟨rfl,(KA.out.trans K1.out (fun _ h=>h.elim)).trans (G:=fun j=>j=w.heap.size) ⟨rfl,rfl,rfl,by simp,fun j _ hj=>setRow_other w1 w.heap.size j _ hj⟩ (fun j h=>.inr (by omega))⟩
end
end Go.Proofs.YtogkkfdkeefjnaaGreatDoor.Member
namespace Go.Proofs.YtogkkfdkeefjnaaGreatDoor.Member
open Go.RowKit Go.Proofs.YtogkkfdkeefjnaaGreatDoorBase Go.Proofs.YtogkkfdkeefjnaaGreatDoorLex2 Go.Proofs.YtogkkfdkeefjnaaGreatDoorNum Go.Proofs.YtogkkfdkeefjnaaGreatDoor.Codec Go.Proofs.YtogkkfdkeefjnaaGreatDoor.Term
set_option linter.unusedVariables false
set_option maxRecDepth 100000
set_option linter.unusedSimpArgs false
theorem mk_16 (w:World):(Instr.makeSlice 22 (.int .i64 16) (.int .i64 16)).run Tryz.prog w=.ok (.slice (some ⟨w.heap.size,0,none⟩) 16 16) (w.alloc (.cells (Array.replicate 16 (.int .i64 0)) 3)):=by kernel_rfl
theorem opened_new:Opened Disk.FD.new=([],Disk.FD.new):=by unfold Opened Disk.FD.new; rfl
theorem kept_bel {w w':World} (h:Below w.heap.size w w'):Kept w w' (fun _=>False):=⟨h.os,h.tape,h.output,h.size,fun k hk _=>h.block k hk⟩
def snapNew:SnapD:=⟨[],List.replicate 16 0,[]⟩
/-- What a new snapshot is in memory. -/
theorem snapNew_rep {w:World} {p:Nat} (h:w.heap[p]?=some (.cells (Array.replicate 16 (.int .i64 0)) 3 (0,0))):snapC.rep (fun k=>k=p) w snapNew (.agg #[.slice none 0 0,.slice (some ⟨p,0,none⟩) 16 16,.slice none 0 0]):=by
 refine snap_of ⟨none,0,0,rfl,rfl,by decide,fun h=>absurd h (by decide)⟩ ⟨_,16,16,rfl,rfl,by decide,fun _=>⟨p,0,rfl,rfl,blk_lt h,fun k x hx=>?_⟩⟩ ⟨none,0,0,rfl,rfl,by decide,fun h=>absurd h (by decide)⟩
 have hk:k < 16:=by have:=(List.getElem?_eq_some_iff.1 hx).1; simpa [snapNew] using this
 obtain rfl:x=0:=List.eq_of_mem_replicate (List.mem_of_getElem? hx)
 refine ⟨.int .i64 0,?_,rfl,by decide,by decide⟩
 rw [Nat.zero_add,cellOf h,Array.getElem?_replicate,if_pos hk]
/-- A new client. -/
def MNew (w0 w:World) (s:Nat) (Fs:Nat→Prop) (ts:TS) (sig:Int) (e:Ending) (w':World):Prop :=
 ∃ L wv kv pv gv,e=.returned (.pointer (some ⟨L.m,0,none⟩))∧MAt w0 w' L sig 0 wv kv pv gv ts ⟨Disk.FD.new,snapNew,false⟩∧L.s=s∧Kept w w' (fun _=>False)
set_option maxHeartbeats 3200000 in
theorem mnew_any (w0 w:World) (s:Nat) (Fs:Nat→Prop) (ts:TS) (sig:Int) (hs:SAt w0 w s Fs ts) (hsb:0≤sig∧sig≤262144) (b:Nat) (a1 a2:Int) (hw:w.heap[b]?=some (.cells #[.int .i64 a1,.int .i64 a2] 3 (0,0))) :
  Calls Tryz.prog 15 #[.pointer (some ⟨s,0,none⟩),.int .i64 0,.int .i64 sig,.slice (some ⟨b,0,none⟩) 2 2] w (MNew w0 w s Fs ts sig):=by
 have CL:=lh (Tryz.slices_Clone_int b 0 2 2 [a1,a2] w (by simp) (by decide) (fun j hj=>by
  have hj:j < 2:=hj
  rw [Nat.zero_add,cellOf hw]
  rcases j with _ | _ | j
  ·rfl
  ·rfl
  ·omega))
 have H:=lh hs
 have SB:=lh hsb
 clear hs hsb hw
 go_enter Tryz.func15,Tryz.ntmps15
 go_wp2_with (fail)
 refine CL.out.mono ?_
 rintro e w1 ⟨v',rfl,ho,hne,hbl⟩
 have hk1:=kept_bel hbl
 obtain ⟨A,n,cp,rfl⟩:∃ A n c,v'=.slice A n c:=by
  obtain ⟨A,c,rfl,-,-⟩:=own_rowIn ho
  exact ⟨_,_,_,rfl⟩
 have K1:=lh hk1
 clear ho hne hbl hk1 CL
 go_wp2_with (fail)
 refine (Disk.st_new (w0:=w0) (w:=w1) (H.out.kept K1.out).bel).mono ?_
 rintro e w2 ⟨rfl,hst,hk2⟩
 have K2:=lh hk2
 have FL:=lh hst
 have fw:=st_lt hst _ rfl
 obtain ⟨f,hff⟩:∃ f,w1.heap.size=f:=⟨_,rfl⟩
 have HFF:=lh hff
 rw [hff] at FL fw ⊢
 have FW:=lh fw
 clear hst hk2 hff fw
 have hmk:=@mk_16
 have k3:=(Kept.refl w2 (fun _=>False)).alloc (.cells #[.pointer (some ⟨s,0,none⟩),.int .i64 0,.int .i64 sig,.slice A n cp,.int .i64 0,.slice none 0 0,.slice none 0 0,.slice (some ⟨w2.heap.size+1,0,none⟩) 16 16,.slice none 0 0,.pointer (some ⟨f,0,none⟩),.pointer none,.bool false] 83)
 have h3:=heap_alloc_new w2 (.cells #[.pointer (some ⟨s,0,none⟩),.int .i64 0,.int .i64 sig,.slice A n cp,.int .i64 0,.slice none 0 0,.slice none 0 0,.slice (some ⟨w2.heap.size+1,0,none⟩) 16 16,.slice none 0 0,.pointer (some ⟨f,0,none⟩),.pointer none,.bool false] 83)
 obtain ⟨w3,hw3⟩:∃ w3,w2.alloc (.cells #[.pointer (some ⟨s,0,none⟩),.int .i64 0,.int .i64 sig,.slice A n cp,.int .i64 0,.slice none 0 0,.slice none 0 0,.slice (some ⟨w2.heap.size+1,0,none⟩) 16 16,.slice none 0 0,.pointer (some ⟨f,0,none⟩),.pointer none,.bool false] 83)=w3:=⟨_,rfl⟩
 rw [hw3] at k3 h3
 have z3:w3.heap.size=w2.heap.size+1:=by rw [← hw3]; simp
 have k4:=(Kept.refl w3 (fun _=>False)).alloc (.cells (Array.replicate 16 (.int .i64 0)) 3)
 have hp:=heap_alloc_new w3 (.cells (Array.replicate 16 (.int .i64 0)) 3)
 rw [z3] at hp
 have h4:=k4.blk h3 (fun h=>h)
 obtain ⟨w4,hw4⟩:∃ w4,w3.alloc (.cells (Array.replicate 16 (.int .i64 0)) 3)=w4:=⟨_,rfl⟩
 rw [hw4] at k4 hp h4
 have z4:w4.heap.size=w2.heap.size+2:=by rw [← hw4]; simp [z3]
 have HW3:=lh hw3
 have HW4:=lh hw4
 have H4:=lh h4
 have HP:=lh hp
 have Z4:=lh z4
 have K24:=lh (k3.trans k4 (fun _ h=>h.elim))
 clear k3 h3 hw3 k4 hp h4 z3 hw4 z4
 go_wp2_with (fail)
 rw [HW3.out,HW4.out]
 obtain ⟨m,hmm⟩:∃ m,w2.heap.size=m:=⟨_,rfl⟩
 have HMM:=lh hmm
 rw [hmm] at H4 HP Z4 ⊢
 clear hmm
 refine (jopen_any w0 w4 f (fun k=>k=f) Disk.FD.new (st_kept FL.out K24.out) rfl rfl (by decide)).mono ?_
 unfold OpenRes
 rw [opened_new]
 rintro e w5 ⟨q,A2,c2,rfl,hj,hq,-,-,F',hst,hF,hk5,hfq,-⟩
 have hmf:m≠f:=by
  have h1:=FW.out
  have h2:=HMM.out
  omega
 have h5:=hk5.blk H4.out hmf
 have hp5:=hk5.blk HP.out (show m+1≠f by have h1:=FW.out; have h2:=HMM.out; omega)
 have FL5:=lh hst
 have H5:=lh h5
 have HP5:=lh hp5
 have K45:=lh hk5
 have FF:=lh hF
 have HJ:=lh hj
 have HQ:=lh hq
 have HFQ:=lh hfq
 clear hj hq hst hF hk5 hfq hmf h5 hp5 H4 HP
 go_wp2_with (first|(refine wpList_store_cell rfl 81 (.tmp 35) (.tmp 31) rfl m 10 (.pointer (some ⟨q,0,none⟩)) rfl rfl rfl _ _ H5.out (by simp) (by kernel_rfl) ?_; apply hold))
 unfold Hold
 have h6:=blk_set H5.out 10 (.pointer (some ⟨q,0,none⟩))
 have k6:Kept w5 (w5.setCell ⟨m,10,none⟩ (.pointer (some ⟨q,0,none⟩))) (fun k=>k=m):=(Kept.refl w5 (fun k=>k=m)).setCell (p:=⟨m,10,none⟩) (.inl rfl) _
 obtain ⟨w6,hw6⟩:∃ w6,w5.setCell ⟨m,10,none⟩ (.pointer (some ⟨q,0,none⟩))=w6:=⟨_,rfl⟩
 rw [hw6] at h6 k6 ⊢
 have H6:=lh h6
 have K6:=lh k6
 clear h6 k6 hw6
 go_wp2
 go_ret
 have s0:=H.out.bel.size
 have s1:=K1.out.size
 have s2:=K2.out.size
 have s5:=K45.out.size
 have s6:=K6.out.size
 have z4:=Z4.out
 have hm:=HMM.out
 have hf:=HFF.out
 have hfw:=FW.out
 have hq:=HQ.out
 have hF:∀ k,F' k→k=f∨m+2≤k:=fun k hk=>by
  rcases FF.out k hk with h | h
  ·exact .inl h
  ·exact .inr (by omega)
 have kall:Kept w w6 (fun _=>False):=by
  have a:=((K1.out.trans K2.out (fun _ h=>h.elim)).trans K24.out (fun _ h=>h.elim)).trans K45.out (F:=fun _=>False) (fun k hk=>.inr (by have:k=f:=hk; omega))
  exact a.trans K6.out (fun k hk=>.inr (by have:k=m:=hk; omega))
 have hFs:∀ k,Fs k→k < w.heap.size:=H.out.at_.lt
 refine ⟨⟨Fs,F',fun k=>k=m+1,s,m,f,q⟩,.slice A n cp,.slice none 0 0,.slice (some ⟨m+1,0,none⟩) 16 16,.slice none 0 0,rfl,⟨H.out.kept kall,st_keptG FL5.out K6.out (fun k hk e=>?_) (fun k e=>?_),K6.out.blk HJ.out ?_,H6.out,snapNew_rep (K6.out.blk HP5.out (by show ¬ m+1=m; omega)),?_,?_,?_,?_,?_,?_,?_,?_,?_,⟨_,_,_,rfl⟩,SB.out⟩,rfl,kall⟩
 ·have:=hF k hk
  omega
 ·omega
 ·show ¬ q=m
  omega
 ·show _≤m
  omega
 ·show _≤q
  omega
 ·show m≠q
  omega
 ·intro h
  have:=hF m h
  omega
 ·exact HFQ.out
 ·intro h
  have:=hFs m h
  omega
 ·intro h
  have:=hFs q h
  omega
 ·intro k h1 h2
  have:=hFs k h1
  have:=hF k h2
  omega
 ·intro k hk
  have hk:k=m+1:=hk
  refine ⟨by omega,fun h=>?_,fun h=>?_,by show k≠m; omega⟩
  ·have:=hFs k h
   omega
  ·have:=hF k h
   omega
end Go.Proofs.YtogkkfdkeefjnaaGreatDoor.Member
namespace Go.Proofs.YtogkkfdkeefjnaaGreatDoor.Member
open Go.RowKit Go.Proofs.YtogkkfdkeefjnaaGreatDoorBase Go.Proofs.YtogkkfdkeefjnaaGreatDoorLex2 Go.Proofs.YtogkkfdkeefjnaaGreatDoorNum Go.Proofs.YtogkkfdkeefjnaaGreatDoor.Codec Go.Proofs.YtogkkfdkeefjnaaGreatDoor.Term
set_option linter.unusedVariables false
set_option maxRecDepth 100000
set_option linter.unusedSimpArgs false
section
variable {w0 w w' : World} {L : Lay} {sig now : Int} {wv kv pv gv : Value} {ts : TS} {x : MD}
/-- A member's cells are no texts. -/
theorem MAt.nostr (h:MAt w0 w L sig now wv kv pv gv ts x) (j:Nat) (y:ByteArray):w.cell? ⟨L.m,j,none⟩≠some (.string y):=by
 obtain ⟨A1,n1,k1,rfl⟩:=h.wo
 obtain ⟨⟨A2,n2,k2,rfl,-⟩,⟨A3,n3,k3,rfl,-⟩,⟨A4,n4,k4,rfl,-⟩⟩:=snap_parts h.snap
 rw [h.cell j]
 unfold memCells
 rcases j with _ | _ | _ | _ | _ | _ | _ | _ | _ | _ | _ | _ | j <;> simp
/-- A member whose journal is opened anew. -/
theorem MAt.opened (h:MAt w0 w L sig now wv kv pv gv ts x) (q:Nat) (hj:JAt w q L.f) (hb:w0.heap.size≤q) (hm:L.m≠q) (hf:¬ L.Ff q) (hs:¬ L.Fs q) :
  MAt w0 ((w.setCell ⟨L.m,10,none⟩ (.pointer (some ⟨q,0,none⟩))).setCell ⟨L.m,11,none⟩ (.bool false)) { L with q:=q } sig now wv kv pv gv ts { x with down:=false } ∧
   Kept w ((w.setCell ⟨L.m,10,none⟩ (.pointer (some ⟨q,0,none⟩))).setCell ⟨L.m,11,none⟩ (.bool false)) (fun k=>k=L.m):=by
 have hk:Kept w ((w.setCell ⟨L.m,10,none⟩ (.pointer (some ⟨q,0,none⟩))).setCell ⟨L.m,11,none⟩ (.bool false)) (fun k=>k=L.m):=((Kept.refl w (fun k=>k=L.m)).setCell (p:=⟨L.m,10,none⟩) (.inl rfl) _).setCell (p:=⟨L.m,11,none⟩) (.inl rfl) _
 have hB:∀ k,k=L.m→w0.heap.size≤k:=fun k hk=>hk ▸ h.bm
 refine ⟨⟨h.st.keptG hk (fun k hs e=>h.sm (e ▸ hs)) hB,st_keptG h.fl hk (fun k hs e=>h.fm (e ▸ hs)) hB,hk.blk hj (fun e=>hm e.symm),?_,snapC_fair.keep h.snap (fun k hk1 hg=>hk.block k hk1 (h.g k hg).2.2.2),h.bm,hb,hm,h.fm,hf,h.sm,hs,h.sf,fun k hg=>?_,h.wo,h.sb⟩,hk⟩
 ·exact blk_set (blk_set h.mem 10 (.pointer (some ⟨q,0,none⟩))) 11 (.bool false)
 ·obtain ⟨g1,g2,g3,g4⟩:=h.g k hg
  exact ⟨Nat.lt_of_lt_of_le g1 hk.size,g2,g3,g4⟩
/-- What a member that comes back has. -/
def Back (x:MD) (sn:SnapD):Prop:=((Opened x.fd.restart).1=[]∧sn=snapNew)∨∃ l,(Opened x.fd.restart).1=l ++ [bsRr snapG sn]∧SnOk sn
theorem cells3 {cs:Array Value} (h:cs.size=3):∃ a b c,cs=#[a,b,c]:=by
 obtain ⟨l⟩:=cs
 match l,h with
 | [a,b,c],_=>exact ⟨a,b,c,rfl⟩
set_option maxHeartbeats 6400000 in
theorem mrecover_any (h:MAt w0 w L sig now wv kv pv gv ts x) (hd:x.down=true) (hl:(x.fd.restart.safe ++ x.fd.restart.loose).length≤10000000000000) (sn:SnapD) (hb:Back x sn) :
  Calls Tryz.prog 12 #[.pointer (some ⟨L.m,0,none⟩)] w fun e w'=>e=.returned (.int .i64 0)∧MNext w0 w w' L ⟨(Opened x.fd.restart).2,sn,false⟩:=by
 have hmk:=@mk_16
 obtain ⟨rs,fd2,hop⟩:∃ rs fd2,Opened x.fd.restart=(rs,fd2):=⟨_,_,rfl⟩
 have hb':(rs=[]∧sn=snapNew)∨∃ l,rs=l ++ [bsRr snapG sn]∧SnOk sn:=by
  have:=hb
  unfold Back at this
  rwa [hop] at this
 rw [hop]
 have c9:=h.cell 9
 have c11:=h.cell 11
 simp [memCells] at c9 c11
 rw [hd] at c11
 have H:=lh h
 have HL:=lh hl
 have HB:=lh hb'
 have HOP:=lh hop
 have hm0:=h.m_lt
 have HM0:=lh hm0
 clear h hd hl hb hb' hop hm0
 go_enter Tryz.func12,Tryz.ntmps12
 go_wp2_with (fail)
 refine (Disk.st_restart H.out.fl rfl).mono ?_
 rintro e w1 ⟨rfl,F1,hst,hF,hk⟩
 have H1:=lh (H.out.filed hst hF hk)
 have FF1:=lh hF
 have K1:=lh hk
 clear hst hF hk c9 c11
 have c9:=H1.out.cell 9
 simp [memCells] at c9
 go_wp2_with (fail)
 refine (jopen_any w0 w1 L.f F1 x.fd.restart H1.out.fl rfl rfl HL.out).mono ?_
 unfold OpenRes
 rw [HOP.out]
 rintro e w2 ⟨q,A,c,rfl,hj,hq,hrow,-,F2,hst,hF,hk,hfq,-⟩
 have H2:=lh (H1.out.filed hst hF hk)
 have FF2:=lh (show ∀ k,F2 k→L.Ff k∨w.heap.size≤k from fun k h2=>by
  rcases hF k h2 with h1 | h1
  ·exact FF1.out k h1
  ·exact .inr (Nat.le_trans K1.out.size h1))
 have K2:=lh (K1.out.trans hk (fun k h1=>FF1.out k h1))
 have HQ:=lh (show w.heap.size≤q from Nat.le_trans K1.out.size hq)
 have HROW:=lh hrow
 have O3:=H2.out.opened q hj (Nat.le_trans H.out.st.bel.size HQ.out) (by
  have h1:=HM0.out
  have h2:=HQ.out
  show L.m≠q
  omega) hfq (fun h1=>by
  have h1:=H.out.st.at_.lt q h1
  have h2:=HQ.out
  omega)
 have hm3:=blk_set H2.out.mem 10 (.pointer (some ⟨q,0,none⟩))
 have HM3:=lh hm3
 obtain ⟨w3,hw3⟩:∃ w3,(w2.setCell ⟨L.m,10,none⟩ (.pointer (some ⟨q,0,none⟩))).setCell ⟨L.m,11,none⟩ (.bool false)=w3:=⟨_,rfl⟩
 rw [show ({ L with Ff:=F1 }:Lay).m=L.m from rfl,hw3] at O3
 have H3:=lh O3.1
 have K3:=lh O3.2
 have HW3:=lh hw3
 have k4:=(Kept.refl w3 (fun _=>False)).alloc (.cells (Array.replicate 16 (.int .i64 0)) 3)
 have hp:=heap_alloc_new w3 (.cells (Array.replicate 16 (.int .i64 0)) 3)
 have h4:=H3.out.kept k4
 have hm4:=h4.m_lt
 obtain ⟨w4,hw4⟩:∃ w4,w3.alloc (.cells (Array.replicate 16 (.int .i64 0)) 3)=w4:=⟨_,rfl⟩
 rw [hw4] at k4 hp h4
 have hg4:∀ k,k=w3.heap.size→k < w4.heap.size∧¬ L.Fs k∧¬ F2 k∧k≠L.m:=fun k e=>by
  have hh:=H3.out.m_lt
  rw [e]
  refine ⟨blk_lt hp,fun h1=>?_,fun h1=>?_,fun h1=>?_⟩
  ·have:=H3.out.st.at_.lt _ h1
   omega
  ·have:=st_lt H3.out.fl _ h1
   omega
  ·have:L.m < w3.heap.size:=hh
   omega
 have S5:=h4.snapped (snapNew_rep hp) hg4
 have TH:=lh (there_blk (o:=6) (n:=3) h4.mem (by simp [memCells]))
 obtain ⟨w5,hw5⟩:∃ w5,w4.setCells L.m 6 [.slice none 0 0,.slice (some ⟨w3.heap.size,0,none⟩) 16 16,.slice none 0 0]=w5:=⟨_,rfl⟩
 rw [show ({ L with Ff:=F2,q:=q }:Lay).m=L.m from rfl,hw5] at S5
 have H5:=lh S5.1
 have K25:=lh (((K3.out).trans k4 (fun _ h=>h.elim)).trans S5.2 (fun k h=>.inl h))
 have HW4:=lh hw4
 have HW5:=lh hw5
 clear hj hq hrow hst hF hk hfq O3 hm3 hw3 k4 hp h4 hm4 hw4 hg4 S5 hw5 c9 H1 H3 K1 K3
 go_wp2_with (first|(refine wpList_store_cell rfl 81 (.tmp 33) (.tmp 31) rfl L.m 10 (.pointer (some ⟨q,0,none⟩)) rfl rfl rfl _ _ H2.out.mem (by simp [memCells]) (by kernel_rfl) ?_)|(refine wpList_store_cell rfl 4 (.tmp 35) (.const (.bool false)) rfl L.m 11 (.bool false) rfl rfl rfl _ _ HM3.out (by simp [memCells]) (by kernel_rfl) ?_; rw [HW3.out]; apply hold))
 unfold Hold
 go_wp2_with (first|(rw [HW4.out]; refine wpList_store_mid rfl 61 (.tmp 40) (.tmp 38) rfl L.m 6 #[.slice none 0 0,.slice (some ⟨w3.heap.size,0,none⟩) 16 16,.slice none 0 0] rfl rfl TH.out (by kernel_rfl) (by simp [Value.oneCell']) ?_; rw [HW5.out]; apply hold))
 unfold Hold
 have MN:∀ (wz:World) (kv' pv' gv':Value) (G':Nat→Prop) (sn':SnapD),MAt w0 wz { L with Ff:=F2,q:=q,G:=G' } sig now wv kv' pv' gv' ts ⟨fd2,sn',false⟩→Kept w5 wz (fun k=>k=L.m)→MNext w0 w wz L ⟨fd2,sn',false⟩:=fun wz kv' pv' gv' G' sn' h hk=>
  ⟨_,sig,now,wv,kv',pv',gv',ts,h,rfl,rfl,fun k hk=>by
   rcases hk with h1 | h1 | h1
   ·exact .inl (.inl h1)
   ·exact (FF2.out k h1).elim (fun h=>.inl (.inr (.inl h))) .inr
   ·exact .inl (.inr (.inr h1)),((K2.out.mono (fun k h=>.inr (.inl h))).trans K25.out (fun k h=>.inl (.inr (.inr h)))).trans hk (fun k h=>.inl (.inr (.inr h)))⟩
 have MNH:=lh MN
 obtain ⟨n,hn⟩:∃ n,rs.length=n:=⟨_,rfl⟩
 rw [hn]
 have HN:=lh hn
 clear MN hn
 rcases HB.out with ⟨hrs,hsn⟩ | ⟨l,hrs,hok⟩
 ·obtain rfl:n=0:=by rw [← HN.out,hrs]; rfl
  have HSN:=lh hsn
  clear hrs hsn
  go_wp2
  go_ret
  refine ⟨rfl,?_⟩
  rw [HSN.out]
  exact MNH.out _ _ _ _ _ _ H5.out (Kept.refl _ _)
 ·have hnk:n=l.length+1:=by rw [← HN.out,hrs]; simp
  obtain ⟨k,hkl⟩:∃ k,l.length=k:=⟨_,rfl⟩
  rw [hkl] at hnk
  have hrow:=HROW.out
  have hmax:=hrow.max
  unfold maxLen at hmax
  rw [HN.out] at hrow hmax
  obtain ⟨g,o,hA,hg,hc⟩:=hrow.cell (by omega)
  have hck:=hc k (strV (bsRr snapG sn)) (by rw [hrs,List.map_append,List.getElem?_append_right (by simp [hkl])]; simp [hkl])
  have hgm:g≠L.m:=fun e=>by
   subst e
   exact H2.out.nostr _ _ hck
  have hg5:w5.cell? ⟨g,o+k,none⟩=some (.string (mkB (bsRr snapG sn))):=by
   rw [← show w2.cell? ⟨g,o+k,none⟩=some (.string (mkB (bsRr snapG sn))) from hck]
   simp only [World.cell?,K25.out.block g hg hgm]
  have hgz:g < w5.heap.size:=Nat.lt_of_lt_of_le hg K25.out.size
  have HG5:=lh hgz
  have HOK:=lh hok
  have q1:(0:Int) < n:=by omega
  have q2:(0:Int)≤k:=by omega
  have q3:(k:Int) < n:=by omega
  have qs:IntKind.i64.wrap ((n:Int) - 1)=k:=by rw [IntWalk.i64_in _ (by omega)]; omega
  have DD:=lh (show (mkB (bsRr snapG sn)).data.toList=bsRr snapG sn from rfl)
  have hds:(mkB (bsRr snapG sn)).size≤2000:=by rw [← len_data,DD.out]; exact hok.enc.2
  have DS:=lh (show DSize (mkB (bsRr snapG sn)) by unfold DSize; omega)
  obtain ⟨d,hdd⟩:∃ d,mkB (bsRr snapG sn)=d:=⟨_,rfl⟩
  rw [hdd] at hg5 DD DS
  rw [hA]
  clear hnk hkl hrow hmax hc hck hA hg hgm hgz hok hds hdd hrs HROW
  go_wp2_with (fail)
  refine wp_region_lex (fun w'=>w'.cell? ⟨g,o+k,none⟩=some (.string d)) [0,2,0,0,0,0,3,4,0,0,0,0,0,4,0] (by kernel_rfl) (by kernel_rfl) (by kernel_rfl) (hg5) (fun Q' hQ'=>?_)
  simp only [List.zip_cons_cons,List.zip_nil_right]
  repeat((first|(refine wpX_silent ?_ fun K hK=>?_;rfl;apply Exists.intro;refine ⟨fun w'=>?_,?_⟩;go_simp;exact⟨rfl,rfl⟩)|(refine wpX_read ?_ fun K hK=>?_;rfl;apply Exists.intro;refine ⟨?_,?_⟩;go_simp;exact⟨rfl,rfl⟩)|(refine wpX_float ?_ fun K hK=>?_;rfl;apply Exists.intro;refine ⟨fun w' hw'=>?_,?_⟩;(try dsimp only at hw');go_simp;exact⟨rfl,rfl⟩)|(refine wpX_not ?_ fun K hK=>?_;rfl));go_simp;refine hK _ _ ?_;clear hK K)
  refine wpX_keeps ?_ (fun K hK=>?_)
  ·rfl
  go_wp2_with (fail)
  refine (snaps_new _).mono ?_
  rintro e w6 ⟨a,b,rfl,-,-,hk,hc⟩
  have HC:=lh (hc w6 ⟨Nat.le_refl _,fun _ _ _=>rfl⟩)
  have hk6:=(Kept.refl w5 (fun _=>False)).drew.trans hk (fun _ h=>h.elim)
  have hg6:w6.cell? ⟨g,o+k,none⟩=some (.string d):=by
   rw [← hg5]
   simp only [World.cell?,hk6.block g HG5.out (fun h=>h)]
  have H6:=lh (H5.out.kept hk6)
  have K6:=lh hk6
  clear hk hc hk6 hg5
  go_simp
  refine hK _ _ ⟨rfl,hg6,?_⟩
  clear hK K hg6
  repeat((first|(refine wpX_silent ?_ fun K hK=>?_;rfl;apply Exists.intro;refine ⟨fun w'=>?_,?_⟩;go_simp;exact⟨rfl,rfl⟩)|(refine wpX_read ?_ fun K hK=>?_;rfl;apply Exists.intro;refine ⟨?_,?_⟩;go_simp;exact⟨rfl,rfl⟩)|(refine wpX_float ?_ fun K hK=>?_;rfl;apply Exists.intro;refine ⟨fun w' hw'=>?_,?_⟩;(try dsimp only at hw');go_simp;exact⟨rfl,rfl⟩)|(refine wpX_not ?_ fun K hK=>?_;rfl));go_simp;refine hK _ _ ?_;clear hK K)
  refine wpX_heavy ?_ (fun K hK=>?_)
  ·rfl
  go_wp2_with (fail)
  refine (decode_snap w6 _ snapP SnapZ d w6 HC.out (fun p hp=>(snapP_fair p hp).fair) (Same.refl w6) DS.out).mono ?_
  rintro e w7 ⟨hk,h7⟩
  have hdec:=rt_dec snap_rt HOK.out.ok DD.out
  rcases h7 with ⟨h7,-⟩ | ⟨-,v,rfl,hrep⟩
  ·exact absurd hdec.1 h7
  have hrep:snapC.rep (fun k=>w6.heap.size≤k∧k < w7.heap.size) w7 (snapC.get ⟨d.data.toList,0⟩).1 v:=hrep
  rw [hdec.2] at hrep
  obtain ⟨kv',pv',gv',rfl⟩:∃ a b c,v=.agg #[a,b,c]:=by
   obtain ⟨cs,rfl,hcs,-,-⟩:=hrep
   obtain ⟨a,b,c,rfl⟩:=cells3 hcs
   exact ⟨a,b,c,rfl⟩
  obtain ⟨A1,n1,k1,rfl⟩:∃ A n c,kv'=.slice A n c:=by
   obtain ⟨⟨A,n,cp,rfl,_⟩,-,-⟩:=snap_parts hrep
   exact ⟨A,n,cp,rfl⟩
  obtain ⟨A2,n2,k2,rfl⟩:∃ A n c,pv'=.slice A n c:=by
   obtain ⟨-,⟨A,n,cp,rfl,_⟩,-⟩:=snap_parts hrep
   exact ⟨A,n,cp,rfl⟩
  obtain ⟨A3,n3,k3,rfl⟩:∃ A n c,gv'=.slice A n c:=by
   obtain ⟨-,-,⟨A,n,cp,rfl,_⟩⟩:=snap_parts hrep
   exact ⟨A,n,cp,rfl⟩
  have h7:=H6.out.kept hk
  have hm6:=H6.out.m_lt
  have hg7:∀ k,(w6.heap.size≤k∧k < w7.heap.size)→k < w7.heap.size∧¬ L.Fs k∧¬ F2 k∧k≠L.m:=fun k e=>by
   refine ⟨e.2,fun h1=>?_,fun h1=>?_,fun h1=>?_⟩
   ·have:=H6.out.st.at_.lt _ h1
    omega
   ·have:=st_lt H6.out.fl _ h1
    omega
   ·have:L.m < w6.heap.size:=hm6
    omega
  have S8:=h7.snapped hrep hg7
  have TH7:=lh (there_blk (o:=6) (n:=3) h7.mem (by simp [memCells]))
  obtain ⟨w8,hw8⟩:∃ w8,w7.setCells L.m 6 [.slice A1 n1 k1,.slice A2 n2 k2,.slice A3 n3 k3]=w8:=⟨_,rfl⟩
  rw [show ({ L with Ff:=F2,q:=q,G:=fun k=>k=w3.heap.size }:Lay).m=L.m from rfl,hw8] at S8
  have HW8:=lh hw8
  have MN8:=lh (MNH.out _ _ _ _ _ _ S8.1 (((K6.out.trans hk (fun _ h=>h.elim)).mono (fun _ h=>h.elim)).trans S8.2 (fun k h=>.inl h)))
  clear hk hdec hrep h7 hm6 hg7 S8 hw8 H6 H5 MNH K6 K2 K25
  go_simp
  refine hK _ _ ⟨rfl,?_⟩
  clear hK K
  repeat((first|(refine wpX_silent ?_ fun K hK=>?_;rfl;apply Exists.intro;refine ⟨fun w'=>?_,?_⟩;go_simp;exact⟨rfl,rfl⟩)|(refine wpX_read ?_ fun K hK=>?_;rfl;apply Exists.intro;refine ⟨?_,?_⟩;go_simp;exact⟨rfl,rfl⟩)|(refine wpX_float ?_ fun K hK=>?_;rfl;apply Exists.intro;refine ⟨fun w' hw'=>?_,?_⟩;(try dsimp only at hw');go_simp;exact⟨rfl,rfl⟩)|(refine wpX_not ?_ fun K hK=>?_;rfl));go_simp;refine hK _ _ ?_;clear hK K)
  refine wpX_heavy ?_ (fun K hK=>?_)
  ·rfl
  refine wp_store_mid 61 (.tmp 57) (.tmp 54) rfl L.m 6 #[.slice A1 n1 k1,.slice A2 n2 k2,.slice A3 n3 k3] rfl rfl TH7.out (by kernel_rfl) (by simp [Value.oneCell']) ?_
  rw [HW8.out]
  go_simp
  refine hK _ _ ⟨rfl,?_⟩
  clear hK K
  repeat((first|(refine wpX_silent ?_ fun K hK=>?_;rfl;apply Exists.intro;refine ⟨fun w'=>?_,?_⟩;go_simp;exact⟨rfl,rfl⟩)|(refine wpX_read ?_ fun K hK=>?_;rfl;apply Exists.intro;refine ⟨?_,?_⟩;go_simp;exact⟨rfl,rfl⟩)|(refine wpX_float ?_ fun K hK=>?_;rfl;apply Exists.intro;refine ⟨fun w' hw'=>?_,?_⟩;(try dsimp only at hw');go_simp;exact⟨rfl,rfl⟩)|(refine wpX_not ?_ fun K hK=>?_;rfl));go_simp;refine hK _ _ ?_;clear hK K)
  refine wpX_nil (hQ' _ _ ?_)
  go_wp2
  go_ret
  exact ⟨rfl,MN8.out⟩
end
end Go.Proofs.YtogkkfdkeefjnaaGreatDoor.Member
