/-
  Parts of records that are numbers, walked.
-/
import Derived.Test.YtogkkfdkeefjnaaGreatDoorA09
namespace Go.Proofs.YtogkkfdkeefjnaaGreatDoor.Codec
open Go.RowKit Go.Proofs.YtogkkfdkeefjnaaGreatDoorBase Go.Proofs.YtogkkfdkeefjnaaGreatDoorLex2 Go.Proofs.YtogkkfdkeefjnaaGreatDoorNum
set_option linter.unusedVariables false
set_option maxRecDepth 100000
set_option linter.unusedSimpArgs false
def field_put_int_FldA_P (p0_:Nat) (p1_:Nat):Prop:=∀ {α β:Type} (c:Cod β) (hf:Fair c) (hone:One c) (o N:Nat) (ho:o < N) (fld:α→β) (set:β→α→α) (W:World) (cb gb:Nat) (pv gv g:Value) (T2 T3:TypeId) (hp:PutOk W pv c) (hg:GetterOk p0_ N g o) (hcb:W.heap[cb]?=some (.cells #[pv,gv] T2 (0,0))) (hgb:W.heap[gb]?=some (.cells #[g] T3 (0,0))),
  PPut W p0_ N (.func (.func p1_) #[] #[.pointer (some ⟨cb,0,none⟩),.pointer (some ⟨gb,0,none⟩)]) (oneP c o fld set)
set_option maxHeartbeats 11200000 in
theorem field_put_int_FldA_A:(Ix 0→field_put_int_FldA_P 33 367)∧(Ix 1→field_put_int_FldA_P 113 303)∧(Ix 2→field_put_int_FldA_P 117 371)∧(Ix 3→field_put_int_FldA_P 124 373)∧(Ix 4→field_put_int_FldA_P 66 375)∧(Ix 5→field_put_int_FldA_P 431 377)∧(Ix 6→field_put_int_FldA_P 446 379):=by
 refine ⟨?_,?_,?_,?_,?_,?_,?_⟩
 all_goals
  intro I α β c hf hone o N ho fld set W cb gb pv gv g T2 T3 hp hg hcb hgb
  first|(guard_hyp I:Ix 0; refine ⟨_,_,rfl,Proofs.enters_of Tryz.func367 (by kernel_rfl) rfl,?_⟩)|(guard_hyp I:Ix 1; refine ⟨_,_,rfl,Proofs.enters_of Tryz.func303 (by kernel_rfl) rfl,?_⟩)|(guard_hyp I:Ix 2; refine ⟨_,_,rfl,Proofs.enters_of Tryz.func371 (by kernel_rfl) rfl,?_⟩)|(guard_hyp I:Ix 3; refine ⟨_,_,rfl,Proofs.enters_of Tryz.func373 (by kernel_rfl) rfl,?_⟩)|(guard_hyp I:Ix 4; refine ⟨_,_,rfl,Proofs.enters_of Tryz.func375 (by kernel_rfl) rfl,?_⟩)|(guard_hyp I:Ix 5; refine ⟨_,_,rfl,Proofs.enters_of Tryz.func377 (by kernel_rfl) rfl,?_⟩)|(guard_hyp I:Ix 6; refine ⟨_,_,rfl,Proofs.enters_of Tryz.func379 (by kernel_rfl) rfl,?_⟩)
  intro B q F s w b cs x hB hw hb hs hr hwr hroom
  obtain ⟨f,caps,rfl,he,hp⟩:=hp
  obtain ⟨fg,rfl,hge,hg⟩:=hg
  unfold Proofs.Enters at he hge
  obtain ⟨u,hu⟩:∃ u,cs.getD o undef=u:=⟨_,rfl⟩
  rw [show (oneP c o fld set).rd cs=u from hu] at hr
  have HP:=lh (hp B q F s w.drew (fld x) _ hB hw (hf.keep hr (fun _ _ _=>rfl)) hwr hroom)
  have HG:=lh (hg b cs w.drew hb hs)
  have c0:=cellOf (j:=0) (hw.blk hcb)
  have c1:=cellOf (j:=0) (hw.blk hgb)
  simp at c0 c1
  have c2:w.cell? ⟨b,o,none⟩=some u:=by rw [cellOf hb,← hu]; simp [hs,ho]
  have HS:Hid (w.cell? ⟨cb,0,none⟩=some (.func (.func f) #[] caps)):=lh c0
  clear hp hg hcb hgb hw hb hs hr hwr hroom hf hone hB hu
  show Calls Tryz.prog _ #[.pointer (some ⟨q,0,none⟩),.pointer (some ⟨b,0,none⟩),.pointer (some ⟨cb,0,none⟩),.pointer (some ⟨gb,0,none⟩)] w _
  first|(guard_hyp I:Ix 0; go_enter Tryz.func367,Tryz.ntmps367)|(guard_hyp I:Ix 1; go_enter Tryz.func303,Tryz.ntmps303)|(guard_hyp I:Ix 2; go_enter Tryz.func371,Tryz.ntmps371)|(guard_hyp I:Ix 3; go_enter Tryz.func373,Tryz.ntmps373)|(guard_hyp I:Ix 4; go_enter Tryz.func375,Tryz.ntmps375)|(guard_hyp I:Ix 5; go_enter Tryz.func377,Tryz.ntmps377)|(guard_hyp I:Ix 6; go_enter Tryz.func379,Tryz.ntmps379)
  go_wp2_with (fail)
  refine wp_region_lex (fun w'=>w'.cell? ⟨cb,0,none⟩=some (.func (.func f) #[] caps)) [0,3,0,1,0,2,0,1,4] (by kernel_rfl) (by kernel_rfl) (by kernel_rfl) (HS.out) (fun Q' hQ'=>?_)
  simp only [List.zip_cons_cons,List.zip_nil_right]
  repeat((first|(refine wpX_silent ?_ fun K hK=>?_;rfl;apply Exists.intro;refine ⟨fun w'=>?_,?_⟩;go_simp;exact⟨rfl,rfl⟩)|(refine wpX_read ?_ fun K hK=>?_;rfl;apply Exists.intro;refine ⟨?_,?_⟩;go_simp;exact⟨rfl,rfl⟩)|(refine wpX_float ?_ fun K hK=>?_;rfl;apply Exists.intro;refine ⟨fun w' hw'=>?_,?_⟩;(try dsimp only at hw');go_simp;exact⟨rfl,rfl⟩)|(refine wpX_not ?_ fun K hK=>?_;rfl));go_simp;refine hK _ _ ?_;clear hK K)
  refine wpX_keeps ?_ (fun K hK=>?_)
  ·rfl
  go_wp2_with (fail)
  refine HG.out.mono ?_
  rintro e w1 ⟨rfl,hw⟩
  obtain rfl:=hw.symm
  go_simp
  refine hK _ _ ⟨rfl,HS.out,?_⟩
  clear hK K
  repeat((first|(refine wpX_silent ?_ fun K hK=>?_;rfl;apply Exists.intro;refine ⟨fun w'=>?_,?_⟩;go_simp;exact⟨rfl,rfl⟩)|(refine wpX_read ?_ fun K hK=>?_;rfl;apply Exists.intro;refine ⟨?_,?_⟩;go_simp;exact⟨rfl,rfl⟩)|(refine wpX_float ?_ fun K hK=>?_;rfl;apply Exists.intro;refine ⟨fun w' hw'=>?_,?_⟩;(try dsimp only at hw');go_simp;exact⟨rfl,rfl⟩)|(refine wpX_not ?_ fun K hK=>?_;rfl));go_simp;refine hK _ _ ?_;clear hK K)
  refine wpX_heavy rfl (fun K hK=>?_)
  go_wp2_with (fail)
  refine HP.out.mono ?_
  rintro e w2 ⟨rfl,hm⟩
  have HM:=lh hm
  clear hm
  go_simp
  refine hK _ _ ⟨rfl,?_⟩
  clear hK K
  refine wpX_nil (hQ' _ _ ?_)
  go_wp2
  go_end0
  exact ⟨rfl,HM.out.pre_drew⟩
theorem field_put_int_cardCard:field_put_int_FldA_P 33 367:=field_put_int_FldA_A.1 ⟨⟩
theorem field_put_int_entryKept:field_put_int_FldA_P 113 303:=field_put_int_FldA_A.2.1 ⟨⟩
theorem field_put_int_apiVertex:field_put_int_FldA_P 117 371:=field_put_int_FldA_A.2.2.1 ⟨⟩
theorem field_put_int_kemSecret:field_put_int_FldA_P 124 373:=field_put_int_FldA_A.2.2.2.1 ⟨⟩
theorem field_put_int_scheduleEpoch:field_put_int_FldA_P 66 375:=field_put_int_FldA_A.2.2.2.2.1 ⟨⟩
theorem field_put_int_ratchetKey:field_put_int_FldA_P 431 377:=field_put_int_FldA_A.2.2.2.2.2.1 ⟨⟩
theorem field_put_int_ratchetChain:field_put_int_FldA_P 446 379:=field_put_int_FldA_A.2.2.2.2.2.2 ⟨⟩
def field_get_int_FldA_P (p0_:Nat) (p1_:Nat):Prop:=∀ {α β:Type} (c:Cod β) (hf:Fair c) (hone:One c) (o N:Nat) (ho:o < N) (fld:α→β) (set:β→α→α) (W:World) (cb gb:Nat) (pv gv g:Value) (T2 T3:TypeId) (hp:GetOk W gv c) (hg:GetterOk p0_ N g o) (hcb:W.heap[cb]?=some (.cells #[pv,gv] T2 (0,0))) (hgb:W.heap[gb]?=some (.cells #[g] T3 (0,0))),
  PGet W p0_ N (.func (.func p1_) #[] #[.pointer (some ⟨cb,0,none⟩),.pointer (some ⟨gb,0,none⟩)]) (oneP c o fld set)
set_option maxHeartbeats 11200000 in
set_option maxRecDepth 100000 in
theorem field_get_int_FldA_A:(Ix 0→field_get_int_FldA_P 33 368)∧(Ix 1→field_get_int_FldA_P 113 304)∧(Ix 2→field_get_int_FldA_P 117 372)∧(Ix 3→field_get_int_FldA_P 124 374)∧(Ix 4→field_get_int_FldA_P 66 376)∧(Ix 5→field_get_int_FldA_P 431 378)∧(Ix 6→field_get_int_FldA_P 446 380):=by
 refine ⟨?_,?_,?_,?_,?_,?_,?_⟩
 all_goals
  intro I α β c hf hone o N ho fld set W cb gb pv gv g T2 T3 hp hg hcb hgb
  first|(guard_hyp I:Ix 0; refine ⟨_,_,rfl,Proofs.enters_of Tryz.func368 (by kernel_rfl) rfl,?_⟩)|(guard_hyp I:Ix 1; refine ⟨_,_,rfl,Proofs.enters_of Tryz.func304 (by kernel_rfl) rfl,?_⟩)|(guard_hyp I:Ix 2; refine ⟨_,_,rfl,Proofs.enters_of Tryz.func372 (by kernel_rfl) rfl,?_⟩)|(guard_hyp I:Ix 3; refine ⟨_,_,rfl,Proofs.enters_of Tryz.func374 (by kernel_rfl) rfl,?_⟩)|(guard_hyp I:Ix 4; refine ⟨_,_,rfl,Proofs.enters_of Tryz.func376 (by kernel_rfl) rfl,?_⟩)|(guard_hyp I:Ix 5; refine ⟨_,_,rfl,Proofs.enters_of Tryz.func378 (by kernel_rfl) rfl,?_⟩)|(guard_hyp I:Ix 6; refine ⟨_,_,rfl,Proofs.enters_of Tryz.func380 (by kernel_rfl) rfl,?_⟩)
  intro q d s w b cs hq hbW hne hw hb hs hr hd
  obtain ⟨f,caps,rfl,he,hp⟩:=hp
  obtain ⟨fg,rfl,hge,hg⟩:=hg
  unfold Proofs.Enters at he hge
  have HP:=lh (hp q d s w.drew hq hw hr hd)
  have HG:=lh (hg b cs w.drew hb hs)
  have c0:=cellOf (j:=1) (hw.blk hcb)
  have c1:=cellOf (j:=0) (hw.blk hgb)
  simp at c0 c1
  have HS:Hid (w.cell? ⟨cb,1,none⟩=some (.func (.func f) #[] caps)):=lh c0
  have HB:=lh hb
  have HN:=lh hs
  have HO:=lh ho
  have HNE:=lh hne
  have HF:=lh hf
  have HONE:=lh hone
  clear hp hg hcb hgb hw hb hs hr hf hone hq hbW hne hd ho
  show Calls Tryz.prog _ #[.pointer (some ⟨q,0,none⟩),.pointer (some ⟨b,0,none⟩),.pointer (some ⟨cb,0,none⟩),.pointer (some ⟨gb,0,none⟩)] w _
  first|(guard_hyp I:Ix 0; go_enter Tryz.func368,Tryz.ntmps368)|(guard_hyp I:Ix 1; go_enter Tryz.func304,Tryz.ntmps304)|(guard_hyp I:Ix 2; go_enter Tryz.func372,Tryz.ntmps372)|(guard_hyp I:Ix 3; go_enter Tryz.func374,Tryz.ntmps374)|(guard_hyp I:Ix 4; go_enter Tryz.func376,Tryz.ntmps376)|(guard_hyp I:Ix 5; go_enter Tryz.func378,Tryz.ntmps378)|(guard_hyp I:Ix 6; go_enter Tryz.func380,Tryz.ntmps380)
  go_wp2_with (fail)
  refine wp_region_lex (fun w'=>w'.cell? ⟨cb,1,none⟩=some (.func (.func f) #[] caps)) [1,0,2,0,3,0,4,0,4] (by kernel_rfl) (by kernel_rfl) (by kernel_rfl) (HS.out) (fun Q' hQ'=>?_)
  simp only [List.zip_cons_cons,List.zip_nil_right]
  repeat((first|(refine wpX_silent ?_ fun K hK=>?_;rfl;apply Exists.intro;refine ⟨fun w'=>?_,?_⟩;go_simp;exact⟨rfl,rfl⟩)|(refine wpX_read ?_ fun K hK=>?_;rfl;apply Exists.intro;refine ⟨?_,?_⟩;go_simp;exact⟨rfl,rfl⟩)|(refine wpX_float ?_ fun K hK=>?_;rfl;apply Exists.intro;refine ⟨fun w' hw'=>?_,?_⟩;(try dsimp only at hw');go_simp;exact⟨rfl,rfl⟩)|(refine wpX_not ?_ fun K hK=>?_;rfl));go_simp;refine hK _ _ ?_;clear hK K)
  refine wpX_keeps ?_ (fun K hK=>?_)
  ·rfl
  go_wp2_with (fail)
  refine HG.out.mono ?_
  rintro e w1 ⟨rfl,hw⟩
  obtain rfl:=hw.symm
  go_simp
  refine hK _ _ ⟨rfl,HS.out,?_⟩
  clear hK K
  repeat((first|(refine wpX_silent ?_ fun K hK=>?_;rfl;apply Exists.intro;refine ⟨fun w'=>?_,?_⟩;go_simp;exact⟨rfl,rfl⟩)|(refine wpX_read ?_ fun K hK=>?_;rfl;apply Exists.intro;refine ⟨?_,?_⟩;go_simp;exact⟨rfl,rfl⟩)|(refine wpX_float ?_ fun K hK=>?_;rfl;apply Exists.intro;refine ⟨fun w' hw'=>?_,?_⟩;(try dsimp only at hw');go_simp;exact⟨rfl,rfl⟩)|(refine wpX_not ?_ fun K hK=>?_;rfl));go_simp;refine hK _ _ ?_;clear hK K)
  refine wpX_heavy rfl (fun K hK=>?_)
  go_wp2_with (fail)
  refine HP.out.mono ?_
  rintro e w2 ⟨v,rfl,hm,hv⟩
  have HM:=lh hm
  have HV:=lh hv
  have HB2:=lh (hm.2.blk HB.out HNE.out)
  clear hm hv
  go_simp
  refine hK _ _ ⟨rfl,?_⟩
  clear hK K
  repeat((first|(refine wpX_silent ?_ fun K hK=>?_;rfl;apply Exists.intro;refine ⟨fun w'=>?_,?_⟩;go_simp;exact⟨rfl,rfl⟩)|(refine wpX_read ?_ fun K hK=>?_;rfl;apply Exists.intro;refine ⟨?_,?_⟩;go_simp;exact⟨rfl,rfl⟩)|(refine wpX_float ?_ fun K hK=>?_;rfl;apply Exists.intro;refine ⟨fun w' hw'=>?_,?_⟩;(try dsimp only at hw');go_simp;exact⟨rfl,rfl⟩)|(refine wpX_not ?_ fun K hK=>?_;rfl));go_simp;refine hK _ _ ?_;clear hK K)
  refine wpX_heavy rfl (fun K hK=>?_)
  refine wp_store_cell _ _ _ rfl b o v rfl rfl (HONE.out _ _ _ _ HV.out) _ cs HB2.out (by rw [HN.out]; exact HO.out) (by kernel_rfl) ?_
  go_simp
  refine hK _ _ ⟨rfl,?_⟩
  clear hK K
  refine wpX_nil (hQ' _ _ ?_)
  go_wp2
  go_end0
  have hk:Kept w2 (w2.setCell ⟨b,o,none⟩ v) (fun k=>k=b):=(Kept.refl w2 (fun k=>k=b)).setCell (p:=⟨b,o,none⟩) (.inl rfl) v
  have hbl:=blk_lt HB.out
  refine ⟨rfl,v,?_,?_,blk_set HB2.out o v,?_⟩
  ·obtain ⟨a,h1,h2,h3⟩:=HM.out.1
   exact ⟨a,hk.blk h1 (Ne.symm HNE.out),h2,h3⟩
  ·refine Kept.trans (G:=fun k=>k=b) ?_ hk (fun k hk=>.inl (.inr hk))
   have h:=HM.out.2
   exact ⟨h.os,h.tape,h.output,h.size,fun k hk hn=>h.block k hk (fun e=>hn (.inl e))⟩
  ·have hsz:(w2.setCell ⟨b,o,none⟩ v).heap.size=w2.heap.size:=by simp [World.setCell]
   refine HF.out.mono (fun k hk=>⟨hk.1,by rw [hsz]; exact hk.2⟩) (HF.out.keep HV.out (fun k h1 h2=>hk.block k h1 (fun e=>?_)))
   have:=h2.1
   have hbl2:b < w.drew.heap.size:=hbl
   omega
theorem field_get_int_cardCard:field_get_int_FldA_P 33 368:=field_get_int_FldA_A.1 ⟨⟩
theorem field_get_int_entryKept:field_get_int_FldA_P 113 304:=field_get_int_FldA_A.2.1 ⟨⟩
theorem field_get_int_apiVertex:field_get_int_FldA_P 117 372:=field_get_int_FldA_A.2.2.1 ⟨⟩
theorem field_get_int_kemSecret:field_get_int_FldA_P 124 374:=field_get_int_FldA_A.2.2.2.1 ⟨⟩
theorem field_get_int_scheduleEpoch:field_get_int_FldA_P 66 376:=field_get_int_FldA_A.2.2.2.2.1 ⟨⟩
theorem field_get_int_ratchetKey:field_get_int_FldA_P 431 378:=field_get_int_FldA_A.2.2.2.2.2.1 ⟨⟩
theorem field_get_int_ratchetChain:field_get_int_FldA_P 446 380:=field_get_int_FldA_A.2.2.2.2.2.2 ⟨⟩
end Go.Proofs.YtogkkfdkeefjnaaGreatDoor.Codec
