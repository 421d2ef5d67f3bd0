/-
  Parts of records that are records, walked.
-/
import Derived.Test.YtogkkfdkeefjnaaGreatDoorA09
namespace Go.Proofs.YtogkkfdkeefjnaaGreatDoor.Codec
open Go.RowKit Go.Proofs.YtogkkfdkeefjnaaGreatDoorBase Go.Proofs.YtogkkfdkeefjnaaGreatDoorLex2 Go.Proofs.YtogkkfdkeefjnaaGreatDoorNum
set_option linter.unusedVariables false
set_option maxRecDepth 100000
set_option linter.unusedSimpArgs false
def field_put_FldE_P (p0_:Nat) (p1_:Nat) (p2_:Nat):Prop:=∀ {α β:Type} (c:Cod β) (hf:Fair c) (hm:Many c p0_) (o N:Nat) (ho:o+p0_≤N) (fld:α→β) (set:β→α→α) (W:World) (cb gb:Nat) (pv gv g:Value) (T2 T3:TypeId) (hp:PutOk W pv c) (hg:GetterOk p1_ N g o) (hcb:W.heap[cb]?=some (.cells #[pv,gv] T2 (0,0))) (hgb:W.heap[gb]?=some (.cells #[g] T3 (0,0))),
  PPut W p1_ N (.func (.func p2_) #[] #[.pointer (some ⟨cb,0,none⟩),.pointer (some ⟨gb,0,none⟩)]) (aggP c o p0_ fld set)
set_option maxHeartbeats 9600000 in
theorem field_put_FldE_A:(Ix 0→field_put_FldE_P 6 113 170)∧(Ix 1→field_put_FldE_P 6 35 308)∧(Ix 2→field_put_FldE_P 11 231 188)∧(Ix 3→field_put_FldE_P 13 75 224)∧(Ix 4→field_put_FldE_P 3 75 241)∧(Ix 5→field_put_FldE_P 3 342 361):=by
 refine ⟨?_,?_,?_,?_,?_,?_⟩
 all_goals
  intro I α β c hf hm o N ho fld set W cb gb pv gv g T2 T3 hp hg hcb hgb
  first|(guard_hyp I:Ix 0; refine ⟨_,_,rfl,Proofs.enters_of Tryz.func170 (by kernel_rfl) rfl,?_⟩)|(guard_hyp I:Ix 1; refine ⟨_,_,rfl,Proofs.enters_of Tryz.func308 (by kernel_rfl) rfl,?_⟩)|(guard_hyp I:Ix 2; refine ⟨_,_,rfl,Proofs.enters_of Tryz.func188 (by kernel_rfl) rfl,?_⟩)|(guard_hyp I:Ix 3; refine ⟨_,_,rfl,Proofs.enters_of Tryz.func224 (by kernel_rfl) rfl,?_⟩)|(guard_hyp I:Ix 4; refine ⟨_,_,rfl,Proofs.enters_of Tryz.func241 (by kernel_rfl) rfl,?_⟩)|(guard_hyp I:Ix 5; refine ⟨_,_,rfl,Proofs.enters_of Tryz.func361 (by kernel_rfl) rfl,?_⟩)
  intro B q F s w b cs x hB hw hb hs hr hwr hroom
  obtain ⟨f,caps,rfl,he,hp⟩:=hp
  obtain ⟨fg,rfl,hge,hg⟩:=hg
  unfold Proofs.Enters at he hge
  first|(guard_hyp I:Ix 0; obtain ⟨u,hu⟩:∃ u,cs.extract o (o+6)=u:=⟨_,rfl⟩)|(guard_hyp I:Ix 1; obtain ⟨u,hu⟩:∃ u,cs.extract o (o+6)=u:=⟨_,rfl⟩)|(guard_hyp I:Ix 2; obtain ⟨u,hu⟩:∃ u,cs.extract o (o+11)=u:=⟨_,rfl⟩)|(guard_hyp I:Ix 3; obtain ⟨u,hu⟩:∃ u,cs.extract o (o+13)=u:=⟨_,rfl⟩)|(guard_hyp I:Ix 4; obtain ⟨u,hu⟩:∃ u,cs.extract o (o+3)=u:=⟨_,rfl⟩)|(guard_hyp I:Ix 5; obtain ⟨u,hu⟩:∃ u,cs.extract o (o+3)=u:=⟨_,rfl⟩)
  first|(guard_hyp I:Ix 0; have hus:u.size=6:=by rw [← hu]; simp; omega)|(guard_hyp I:Ix 1; have hus:u.size=6:=by rw [← hu]; simp; omega)|(guard_hyp I:Ix 2; have hus:u.size=11:=by rw [← hu]; simp; omega)|(guard_hyp I:Ix 3; have hus:u.size=13:=by rw [← hu]; simp; omega)|(guard_hyp I:Ix 4; have hus:u.size=3:=by rw [← hu]; simp; omega)|(guard_hyp I:Ix 5; have hus:u.size=3:=by rw [← hu]; simp; omega)
  first|(guard_hyp I:Ix 0; have hrg:w.rangeAt b o u.toList:=by rw [← hu]; exact World.rangeAt_of_block hb o 6)|(guard_hyp I:Ix 1; have hrg:w.rangeAt b o u.toList:=by rw [← hu]; exact World.rangeAt_of_block hb o 6)|(guard_hyp I:Ix 2; have hrg:w.rangeAt b o u.toList:=by rw [← hu]; exact World.rangeAt_of_block hb o 11)|(guard_hyp I:Ix 3; have hrg:w.rangeAt b o u.toList:=by rw [← hu]; exact World.rangeAt_of_block hb o 13)|(guard_hyp I:Ix 4; have hrg:w.rangeAt b o u.toList:=by rw [← hu]; exact World.rangeAt_of_block hb o 3)|(guard_hyp I:Ix 5; have hrg:w.rangeAt b o u.toList:=by rw [← hu]; exact World.rangeAt_of_block hb o 3)
  first|(guard_hyp I:Ix 0; rw [show (aggP c o 6 fld set).rd cs=.agg u from congrArg Value.agg hu] at hr)|(guard_hyp I:Ix 1; rw [show (aggP c o 6 fld set).rd cs=.agg u from congrArg Value.agg hu] at hr)|(guard_hyp I:Ix 2; rw [show (aggP c o 11 fld set).rd cs=.agg u from congrArg Value.agg hu] at hr)|(guard_hyp I:Ix 3; rw [show (aggP c o 13 fld set).rd cs=.agg u from congrArg Value.agg hu] at hr)|(guard_hyp I:Ix 4; rw [show (aggP c o 3 fld set).rd cs=.agg u from congrArg Value.agg hu] at hr)|(guard_hyp I:Ix 5; rw [show (aggP c o 3 fld set).rd cs=.agg u from congrArg Value.agg hu] at hr)
  have HP:=lh (hp B q F s w.drew (fld x) _ hB hw (hf.keep hr (fun _ _ _=>rfl)) hwr hroom)
  have HG:=lh (hg b cs w.drew hb hs)
  have c0:=cellOf (j:=0) (hw.blk hcb)
  have c1:=cellOf (j:=0) (hw.blk hgb)
  simp at c0 c1
  have RG:=lh hrg
  have US:=lh hus
  have HS:Hid (w.cell? ⟨cb,0,none⟩=some (.func (.func f) #[] caps)):=lh c0
  clear hp hg hcb hgb hw hb hs hr hwr hroom hf hm hB hu hrg hus ho
  show Calls Tryz.prog _ #[.pointer (some ⟨q,0,none⟩),.pointer (some ⟨b,0,none⟩),.pointer (some ⟨cb,0,none⟩),.pointer (some ⟨gb,0,none⟩)] w _
  first|(guard_hyp I:Ix 0; go_enter Tryz.func170,Tryz.ntmps170)|(guard_hyp I:Ix 1; go_enter Tryz.func308,Tryz.ntmps308)|(guard_hyp I:Ix 2; go_enter Tryz.func188,Tryz.ntmps188)|(guard_hyp I:Ix 3; go_enter Tryz.func224,Tryz.ntmps224)|(guard_hyp I:Ix 4; go_enter Tryz.func241,Tryz.ntmps241)|(guard_hyp I:Ix 5; go_enter Tryz.func361,Tryz.ntmps361)
  go_wp2_with (fail)
  refine wp_region_lex (fun w'=>w'.cell? ⟨cb,0,none⟩=some (.func (.func f) #[] caps)) [0,3,0,1,0,2,0,2,4] (by kernel_rfl) (by kernel_rfl) (by kernel_rfl) (HS.out) (fun Q' hQ'=>?_)
  simp only [List.zip_cons_cons,List.zip_nil_right]
  repeat((first|(refine wpX_silent ?_ fun K hK=>?_;rfl;apply Exists.intro;refine ⟨fun w'=>?_,?_⟩;go_simp;exact⟨rfl,rfl⟩)|(refine wpX_read ?_ fun K hK=>?_;rfl;apply Exists.intro;refine ⟨?_,?_⟩;go_simp;exact⟨rfl,rfl⟩)|(refine wpX_float ?_ fun K hK=>?_;rfl;apply Exists.intro;refine ⟨fun w' hw'=>?_,?_⟩;(try dsimp only at hw');go_simp;exact⟨rfl,rfl⟩)|(refine wpX_not ?_ fun K hK=>?_;rfl));go_simp;refine hK _ _ ?_;clear hK K)
  refine wpX_keeps ?_ (fun K hK=>?_)
  ·rfl
  go_wp2_with (fail)
  refine HG.out.mono ?_
  rintro e w1 ⟨rfl,hw⟩
  obtain rfl:=hw.symm
  go_simp
  refine hK _ _ ⟨rfl,HS.out,?_⟩
  clear hK K
  repeat((first|(refine wpX_silent ?_ fun K hK=>?_;rfl;apply Exists.intro;refine ⟨fun w'=>?_,?_⟩;go_simp;exact⟨rfl,rfl⟩)|(refine wpX_read ?_ fun K hK=>?_;rfl;apply Exists.intro;refine ⟨?_,?_⟩;go_simp;exact⟨rfl,rfl⟩)|(refine wpX_float ?_ fun K hK=>?_;rfl;apply Exists.intro;refine ⟨fun w' hw'=>?_,?_⟩;(try dsimp only at hw');go_simp;exact⟨rfl,rfl⟩)|(refine wpX_not ?_ fun K hK=>?_;rfl));go_simp;refine hK _ _ ?_;clear hK K)
  refine wpX_keeps ?_ (fun K hK=>?_)
  ·rfl
  first|(guard_hyp I:Ix 0; refine wp_load_mid 33 (.tmp 12) rfl b o rfl u.toList _ (by simpa using RG.out) Tryz.underlying33 rfl (by rw [Array.length_toList,US.out]; kernel_rfl) ?_)|(guard_hyp I:Ix 1; refine wp_load_mid 33 (.tmp 12) rfl b o rfl u.toList _ (by simpa using RG.out) Tryz.underlying33 rfl (by rw [Array.length_toList,US.out]; kernel_rfl) ?_)|(guard_hyp I:Ix 2; refine wp_load_mid 35 (.tmp 12) rfl b o rfl u.toList _ (by simpa using RG.out) Tryz.underlying35 rfl (by rw [Array.length_toList,US.out]; kernel_rfl) ?_)|(guard_hyp I:Ix 3; refine wp_load_mid 66 (.tmp 12) rfl b o rfl u.toList _ (by simpa using RG.out) Tryz.underlying66 rfl (by rw [Array.length_toList,US.out]; kernel_rfl) ?_)|(guard_hyp I:Ix 4; refine wp_load_mid 69 (.tmp 12) rfl b o rfl u.toList _ (by simpa using RG.out) Tryz.underlying69 rfl (by rw [Array.length_toList,US.out]; kernel_rfl) ?_)|(guard_hyp I:Ix 5; refine wp_load_mid 69 (.tmp 12) rfl b o rfl u.toList _ (by simpa using RG.out) Tryz.underlying69 rfl (by rw [Array.length_toList,US.out]; kernel_rfl) ?_)
  rw [Array.toArray_toList]
  refine hK _ _ ⟨rfl,HS.out,?_⟩
  clear hK K
  repeat((first|(refine wpX_silent ?_ fun K hK=>?_;rfl;apply Exists.intro;refine ⟨fun w'=>?_,?_⟩;go_simp;exact⟨rfl,rfl⟩)|(refine wpX_read ?_ fun K hK=>?_;rfl;apply Exists.intro;refine ⟨?_,?_⟩;go_simp;exact⟨rfl,rfl⟩)|(refine wpX_float ?_ fun K hK=>?_;rfl;apply Exists.intro;refine ⟨fun w' hw'=>?_,?_⟩;(try dsimp only at hw');go_simp;exact⟨rfl,rfl⟩)|(refine wpX_not ?_ fun K hK=>?_;rfl));go_simp;refine hK _ _ ?_;clear hK K)
  refine wpX_heavy rfl (fun K hK=>?_)
  go_wp2_with (fail)
  refine HP.out.mono ?_
  rintro e w2 ⟨rfl,hm⟩
  have HM:=lh hm
  clear hm
  go_simp
  refine hK _ _ ⟨rfl,?_⟩
  clear hK K
  refine wpX_nil (hQ' _ _ ?_)
  go_wp2
  go_end0
  exact ⟨rfl,HM.out.pre_drew⟩
theorem field_put_cardCard_entryKept:field_put_FldE_P 6 113 170:=field_put_FldE_A.1 ⟨⟩
theorem field_put_cardCard_offerProp:field_put_FldE_P 6 35 308:=field_put_FldE_A.2.1 ⟨⟩
theorem field_put_offerProp_groupCached:field_put_FldE_P 11 231 188:=field_put_FldE_A.2.2.1 ⟨⟩
theorem field_put_scheduleEpoch_groupState:field_put_FldE_P 13 75 224:=field_put_FldE_A.2.2.2.1 ⟨⟩
theorem field_put_ratchetState_groupState:field_put_FldE_P 3 75 241:=field_put_FldE_A.2.2.2.2.1 ⟨⟩
theorem field_put_ratchetState_groupPast:field_put_FldE_P 3 342 361:=field_put_FldE_A.2.2.2.2.2 ⟨⟩
def field_get_FldE_P (p0_:Nat) (p1_:Nat) (p2_:Nat):Prop:=∀ {α β:Type} (c:Cod β) (hf:Fair c) (hm:Many c p0_) (o N:Nat) (ho:o+p0_≤N) (fld:α→β) (set:β→α→α) (W:World) (cb gb:Nat) (pv gv g:Value) (T2 T3:TypeId) (hp:GetOk W gv c) (hg:GetterOk p1_ N g o) (hcb:W.heap[cb]?=some (.cells #[pv,gv] T2 (0,0))) (hgb:W.heap[gb]?=some (.cells #[g] T3 (0,0))),
  PGet W p1_ N (.func (.func p2_) #[] #[.pointer (some ⟨cb,0,none⟩),.pointer (some ⟨gb,0,none⟩)]) (aggP c o p0_ fld set)
set_option maxHeartbeats 9600000 in
set_option maxRecDepth 100000 in
theorem field_get_FldE_A:(Ix 0→field_get_FldE_P 6 113 171)∧(Ix 1→field_get_FldE_P 6 35 309)∧(Ix 2→field_get_FldE_P 11 231 189)∧(Ix 3→field_get_FldE_P 13 75 225)∧(Ix 4→field_get_FldE_P 3 75 242)∧(Ix 5→field_get_FldE_P 3 342 362):=by
 refine ⟨?_,?_,?_,?_,?_,?_⟩
 all_goals
  intro I α β c hf hm o N ho fld set W cb gb pv gv g T2 T3 hp hg hcb hgb
  first|(guard_hyp I:Ix 0; refine ⟨_,_,rfl,Proofs.enters_of Tryz.func171 (by kernel_rfl) rfl,?_⟩)|(guard_hyp I:Ix 1; refine ⟨_,_,rfl,Proofs.enters_of Tryz.func309 (by kernel_rfl) rfl,?_⟩)|(guard_hyp I:Ix 2; refine ⟨_,_,rfl,Proofs.enters_of Tryz.func189 (by kernel_rfl) rfl,?_⟩)|(guard_hyp I:Ix 3; refine ⟨_,_,rfl,Proofs.enters_of Tryz.func225 (by kernel_rfl) rfl,?_⟩)|(guard_hyp I:Ix 4; refine ⟨_,_,rfl,Proofs.enters_of Tryz.func242 (by kernel_rfl) rfl,?_⟩)|(guard_hyp I:Ix 5; refine ⟨_,_,rfl,Proofs.enters_of Tryz.func362 (by kernel_rfl) rfl,?_⟩)
  intro q d s w b cs hq hbW hne hw hb hs hr hd
  obtain ⟨f,caps,rfl,he,hp⟩:=hp
  obtain ⟨fg,rfl,hge,hg⟩:=hg
  unfold Proofs.Enters at he hge
  have HP:=lh (hp q d s w.drew hq hw hr hd)
  have HG:=lh (hg b cs w.drew hb hs)
  have c0:=cellOf (j:=1) (hw.blk hcb)
  have c1:=cellOf (j:=0) (hw.blk hgb)
  simp at c0 c1
  have HS:Hid (w.cell? ⟨cb,1,none⟩=some (.func (.func f) #[] caps)):=lh c0
  have HB:=lh hb
  have HN:=lh hs
  have HO:=lh ho
  have HNE:=lh hne
  have HF:=lh hf
  have HMN:=lh hm
  clear hp hg hcb hgb hw hb hs hr hf hm hq hbW hne hd ho
  show Calls Tryz.prog _ #[.pointer (some ⟨q,0,none⟩),.pointer (some ⟨b,0,none⟩),.pointer (some ⟨cb,0,none⟩),.pointer (some ⟨gb,0,none⟩)] w _
  first|(guard_hyp I:Ix 0; go_enter Tryz.func171,Tryz.ntmps171)|(guard_hyp I:Ix 1; go_enter Tryz.func309,Tryz.ntmps309)|(guard_hyp I:Ix 2; go_enter Tryz.func189,Tryz.ntmps189)|(guard_hyp I:Ix 3; go_enter Tryz.func225,Tryz.ntmps225)|(guard_hyp I:Ix 4; go_enter Tryz.func242,Tryz.ntmps242)|(guard_hyp I:Ix 5; go_enter Tryz.func362,Tryz.ntmps362)
  go_wp2_with (fail)
  refine wp_region_lex (fun w'=>w'.cell? ⟨cb,1,none⟩=some (.func (.func f) #[] caps)) [1,0,2,0,3,0,4,0,4] (by kernel_rfl) (by kernel_rfl) (by kernel_rfl) (HS.out) (fun Q' hQ'=>?_)
  simp only [List.zip_cons_cons,List.zip_nil_right]
  repeat((first|(refine wpX_silent ?_ fun K hK=>?_;rfl;apply Exists.intro;refine ⟨fun w'=>?_,?_⟩;go_simp;exact⟨rfl,rfl⟩)|(refine wpX_read ?_ fun K hK=>?_;rfl;apply Exists.intro;refine ⟨?_,?_⟩;go_simp;exact⟨rfl,rfl⟩)|(refine wpX_float ?_ fun K hK=>?_;rfl;apply Exists.intro;refine ⟨fun w' hw'=>?_,?_⟩;(try dsimp only at hw');go_simp;exact⟨rfl,rfl⟩)|(refine wpX_not ?_ fun K hK=>?_;rfl));go_simp;refine hK _ _ ?_;clear hK K)
  refine wpX_keeps ?_ (fun K hK=>?_)
  ·rfl
  go_wp2_with (fail)
  refine HG.out.mono ?_
  rintro e w1 ⟨rfl,hw⟩
  obtain rfl:=hw.symm
  go_simp
  refine hK _ _ ⟨rfl,HS.out,?_⟩
  clear hK K
  repeat((first|(refine wpX_silent ?_ fun K hK=>?_;rfl;apply Exists.intro;refine ⟨fun w'=>?_,?_⟩;go_simp;exact⟨rfl,rfl⟩)|(refine wpX_read ?_ fun K hK=>?_;rfl;apply Exists.intro;refine ⟨?_,?_⟩;go_simp;exact⟨rfl,rfl⟩)|(refine wpX_float ?_ fun K hK=>?_;rfl;apply Exists.intro;refine ⟨fun w' hw'=>?_,?_⟩;(try dsimp only at hw');go_simp;exact⟨rfl,rfl⟩)|(refine wpX_not ?_ fun K hK=>?_;rfl));go_simp;refine hK _ _ ?_;clear hK K)
  refine wpX_heavy rfl (fun K hK=>?_)
  go_wp2_with (fail)
  refine HP.out.mono ?_
  rintro e w2 ⟨v,rfl,hm2,hv⟩
  have HM:=lh hm2
  obtain ⟨vs,rfl,hvs,hva⟩:=HMN.out _ _ _ _ hv
  have VS:=lh hvs
  have VA:=lh hva
  have HV:=lh hv
  have HB2:=lh (hm2.2.blk HB.out HNE.out)
  clear hm2 hv hvs hva
  go_simp
  refine hK _ _ ⟨rfl,?_⟩
  clear hK K
  repeat((first|(refine wpX_silent ?_ fun K hK=>?_;rfl;apply Exists.intro;refine ⟨fun w'=>?_,?_⟩;go_simp;exact⟨rfl,rfl⟩)|(refine wpX_read ?_ fun K hK=>?_;rfl;apply Exists.intro;refine ⟨?_,?_⟩;go_simp;exact⟨rfl,rfl⟩)|(refine wpX_float ?_ fun K hK=>?_;rfl;apply Exists.intro;refine ⟨fun w' hw'=>?_,?_⟩;(try dsimp only at hw');go_simp;exact⟨rfl,rfl⟩)|(refine wpX_not ?_ fun K hK=>?_;rfl));go_simp;refine hK _ _ ?_;clear hK K)
  refine wpX_heavy rfl (fun K hK=>?_)
  first|(guard_hyp I:Ix 0; refine wp_store_mid 33 (.tmp 13) (.tmp 12) rfl b o vs rfl rfl (there_blk HB2.out (by rw [VS.out,HN.out]; exact HO.out)) (by rw [VS.out]; kernel_rfl) VA.out ?_)|(guard_hyp I:Ix 1; refine wp_store_mid 33 (.tmp 13) (.tmp 12) rfl b o vs rfl rfl (there_blk HB2.out (by rw [VS.out,HN.out]; exact HO.out)) (by rw [VS.out]; kernel_rfl) VA.out ?_)|(guard_hyp I:Ix 2; refine wp_store_mid 35 (.tmp 13) (.tmp 12) rfl b o vs rfl rfl (there_blk HB2.out (by rw [VS.out,HN.out]; exact HO.out)) (by rw [VS.out]; kernel_rfl) VA.out ?_)|(guard_hyp I:Ix 3; refine wp_store_mid 66 (.tmp 13) (.tmp 12) rfl b o vs rfl rfl (there_blk HB2.out (by rw [VS.out,HN.out]; exact HO.out)) (by rw [VS.out]; kernel_rfl) VA.out ?_)|(guard_hyp I:Ix 4; refine wp_store_mid 69 (.tmp 13) (.tmp 12) rfl b o vs rfl rfl (there_blk HB2.out (by rw [VS.out,HN.out]; exact HO.out)) (by rw [VS.out]; kernel_rfl) VA.out ?_)|(guard_hyp I:Ix 5; refine wp_store_mid 69 (.tmp 13) (.tmp 12) rfl b o vs rfl rfl (there_blk HB2.out (by rw [VS.out,HN.out]; exact HO.out)) (by rw [VS.out]; kernel_rfl) VA.out ?_)
  go_simp
  refine hK _ _ ⟨rfl,?_⟩
  clear hK K
  refine wpX_nil (hQ' _ _ ?_)
  go_wp2
  go_end0
  have hk:Kept w2 (w2.setCells b o vs.toList) (fun k=>k=b):=setCells_kept vs.toList o w2
  have hbl:=blk_lt HB.out
  refine ⟨rfl,.agg vs,?_,?_,setCells_blk (w:=w2) vs.toList cs o w2 HB2.out,?_⟩
  ·obtain ⟨a,h1,h2,h3⟩:=HM.out.1
   exact ⟨a,hk.blk h1 (Ne.symm HNE.out),h2,h3⟩
  ·refine Kept.trans (G:=fun k=>k=b) ?_ hk (fun k hk=>.inl (.inr hk))
   have h:=HM.out.2
   exact ⟨h.os,h.tape,h.output,h.size,fun k hk hn=>h.block k hk (fun e=>hn (.inl e))⟩
  ·have hsz:(w2.setCells b o vs.toList).heap.size=w2.heap.size:=setCells_size vs.toList o w2
   refine HF.out.mono (fun k hk=>⟨hk.1,by rw [hsz]; exact hk.2⟩) (HF.out.keep HV.out (fun k h1 h2=>hk.block k h1 (fun e=>?_)))
   have:=h2.1
   have hbl2:b < w.drew.heap.size:=hbl
   omega
theorem field_get_cardCard_entryKept:field_get_FldE_P 6 113 171:=field_get_FldE_A.1 ⟨⟩
theorem field_get_cardCard_offerProp:field_get_FldE_P 6 35 309:=field_get_FldE_A.2.1 ⟨⟩
theorem field_get_offerProp_groupCached:field_get_FldE_P 11 231 189:=field_get_FldE_A.2.2.1 ⟨⟩
theorem field_get_scheduleEpoch_groupState:field_get_FldE_P 13 75 225:=field_get_FldE_A.2.2.2.1 ⟨⟩
theorem field_get_ratchetState_groupState:field_get_FldE_P 3 75 242:=field_get_FldE_A.2.2.2.2.1 ⟨⟩
theorem field_get_ratchetState_groupPast:field_get_FldE_P 3 342 362:=field_get_FldE_A.2.2.2.2.2 ⟨⟩
end Go.Proofs.YtogkkfdkeefjnaaGreatDoor.Codec
