/-
  Lists' codecs, made: whatever is done behind, they are codecs. Records' codecs, made: whatever is done behind, they are codecs. Parts that are numbers, made. Flags' codec, made; what a builder's last store leaves.
-/
import Derived.Test.YtogkkfdkeefjnaaGreatDoorA16
import Derived.Test.YtogkkfdkeefjnaaGreatDoorA19
import Derived.Test.YtogkkfdkeefjnaaGreatDoorA17
import Derived.Test.YtogkkfdkeefjnaaGreatDoorA18
import Derived.Test.YtogkkfdkeefjnaaGreatDoorA20
import Derived.Test.YtogkkfdkeefjnaaGreatDoorA08
namespace Go.Proofs.YtogkkfdkeefjnaaGreatDoor.Codec
open Go.RowKit Go.Proofs.YtogkkfdkeefjnaaGreatDoorBase Go.Proofs.YtogkkfdkeefjnaaGreatDoorLex2 Go.Proofs.YtogkkfdkeefjnaaGreatDoorNum
set_option linter.unusedVariables false
set_option maxRecDepth 100000
set_option linter.unusedSimpArgs false
def listofN_LstNa_P (p0_:Nat) (p1_:Nat):Prop:=∀ (pv gv:Value) (m:Int) (w:World),
  Calls Tryz.prog p0_ #[.agg #[pv,gv],.int .i64 m] w fun r w'=>∃ a b,r=.returned (.agg #[a,b])∧a.oneCell'=true∧b.oneCell'=true∧Kept w w' (fun _=>False)∧∀ W',From w.heap.size w' W'→∀ {α:Type} (c:Cod α),Fair c→Many c p1_→IsCodec W' (.agg #[pv,gv]) c→IsCodec W' (.agg #[a,b]) (listN c p1_ (bnd m))
set_option maxHeartbeats 14400000 in
theorem listofN_LstNa_A:(Ix 0→listofN_LstNa_P 88 8)∧(Ix 1→listofN_LstNa_P 206 6)∧(Ix 2→listofN_LstNa_P 219 2)∧(Ix 3→listofN_LstNa_P 341 2)∧(Ix 4→listofN_LstNa_P 349 4)∧(Ix 5→listofN_LstNa_P 265 12)∧(Ix 6→listofN_LstNa_P 268 2)∧(Ix 7→listofN_LstNa_P 275 8)∧(Ix 8→listofN_LstNa_P 104 29):=by
 refine ⟨?_,?_,?_,?_,?_,?_,?_,?_,?_⟩
 all_goals
  intro I pv gv m w
  first|(guard_hyp I:Ix 0; go_enter Tryz.func88,Tryz.ntmps88)|(guard_hyp I:Ix 1; go_enter Tryz.func206,Tryz.ntmps206)|(guard_hyp I:Ix 2; go_enter Tryz.func219,Tryz.ntmps219)|(guard_hyp I:Ix 3; go_enter Tryz.func341,Tryz.ntmps341)|(guard_hyp I:Ix 4; go_enter Tryz.func349,Tryz.ntmps349)|(guard_hyp I:Ix 5; go_enter Tryz.func265,Tryz.ntmps265)|(guard_hyp I:Ix 6; go_enter Tryz.func268,Tryz.ntmps268)|(guard_hyp I:Ix 7; go_enter Tryz.func275,Tryz.ntmps275)|(guard_hyp I:Ix 8; go_enter Tryz.func104,Tryz.ntmps104)
  go_wp2_with (go_at_call 162; refine (bound_any m _).mono ?_; rintro e w1 ⟨rfl,rfl⟩)
  first|(guard_hyp I:Ix 0; refine bodyPost_ret (results_cell_row rfl _ _ _ _ _ _ _ rfl (heap_alloc3_new _ _ _ _) Tryz.underlying154 rfl (by kernel_rfl)) rfl ?_)|(guard_hyp I:Ix 1; refine bodyPost_ret (results_cell_row rfl _ _ _ _ _ _ _ rfl (heap_alloc3_new _ _ _ _) Tryz.underlying273 rfl (by kernel_rfl)) rfl ?_)|(guard_hyp I:Ix 2; refine bodyPost_ret (results_cell_row rfl _ _ _ _ _ _ _ rfl (heap_alloc3_new _ _ _ _) Tryz.underlying286 rfl (by kernel_rfl)) rfl ?_)|(guard_hyp I:Ix 3; refine bodyPost_ret (results_cell_row rfl _ _ _ _ _ _ _ rfl (heap_alloc3_new _ _ _ _) Tryz.underlying460 rfl (by kernel_rfl)) rfl ?_)|(guard_hyp I:Ix 4; refine bodyPost_ret (results_cell_row rfl _ _ _ _ _ _ _ rfl (heap_alloc3_new _ _ _ _) Tryz.underlying477 rfl (by kernel_rfl)) rfl ?_)|(guard_hyp I:Ix 5; refine bodyPost_ret (results_cell_row rfl _ _ _ _ _ _ _ rfl (heap_alloc3_new _ _ _ _) Tryz.underlying315 rfl (by kernel_rfl)) rfl ?_)|(guard_hyp I:Ix 6; refine bodyPost_ret (results_cell_row rfl _ _ _ _ _ _ _ rfl (heap_alloc3_new _ _ _ _) Tryz.underlying323 rfl (by kernel_rfl)) rfl ?_)|(guard_hyp I:Ix 7; refine bodyPost_ret (results_cell_row rfl _ _ _ _ _ _ _ rfl (heap_alloc3_new _ _ _ _) Tryz.underlying339 rfl (by kernel_rfl)) rfl ?_)|(guard_hyp I:Ix 8; refine bodyPost_ret (results_cell_row rfl _ _ _ _ _ _ _ rfl (heap_alloc3_new _ _ _ _) Tryz.underlying180 rfl (by kernel_rfl)) rfl ?_)
  have hk {a b c:Obj}:=al3_kept w a b c
  refine ⟨_,_,rfl,rfl,rfl,hk,fun W' hW α c hf hm hc=>?_⟩
  have b1:=hW.blk (k:=w.heap.size+1) (by omega) ((Below.heap_alloc _ _ _ (by simp)).trans (heap_alloc2_new w _ _))
  have b2:=hW.blk (k:=w.heap.size) (by omega) ((Below.heap_alloc _ _ _ (by simp; omega)).trans ((Below.heap_alloc _ _ _ (by simp)).trans (heap_alloc_new w _)))
  first|(guard_hyp I:Ix 0; exact list_codec_entryKept c hf hm _ _ _ _ (bnd_le m) pv gv 159 (isCodec_agg hc).1 (isCodec_agg hc).2 (cellOf (j:=0) b1) (blk_lt b1) b2)|(guard_hyp I:Ix 1; exact list_codec_apiVertex c hf hm _ _ _ _ (bnd_le m) pv gv 278 (isCodec_agg hc).1 (isCodec_agg hc).2 (cellOf (j:=0) b1) (blk_lt b1) b2)|(guard_hyp I:Ix 2; exact list_codec_kemSecret c hf hm _ _ _ _ (bnd_le m) pv gv 291 (isCodec_agg hc).1 (isCodec_agg hc).2 (cellOf (j:=0) b1) (blk_lt b1) b2)|(guard_hyp I:Ix 3; exact list_codec_ratchetKey c hf hm _ _ _ _ (bnd_le m) pv gv 428 (isCodec_agg hc).1 (isCodec_agg hc).2 (cellOf (j:=0) b1) (blk_lt b1) b2)|(guard_hyp I:Ix 4; exact list_codec_ratchetChain c hf hm _ _ _ _ (bnd_le m) pv gv 442 (isCodec_agg hc).1 (isCodec_agg hc).2 (cellOf (j:=0) b1) (blk_lt b1) b2)|(guard_hyp I:Ix 5; exact list_codec_groupCached c hf hm _ _ _ _ (bnd_le m) pv gv 228 (isCodec_agg hc).1 (isCodec_agg hc).2 (cellOf (j:=0) b1) (blk_lt b1) b2)|(guard_hyp I:Ix 6; exact list_codec_groupUpdate c hf hm _ _ _ _ (bnd_le m) pv gv 250 (isCodec_agg hc).1 (isCodec_agg hc).2 (cellOf (j:=0) b1) (blk_lt b1) b2)|(guard_hyp I:Ix 7; exact list_codec_groupPast c hf hm _ _ _ _ (bnd_le m) pv gv 346 (isCodec_agg hc).1 (isCodec_agg hc).2 (cellOf (j:=0) b1) (blk_lt b1) b2)|(guard_hyp I:Ix 8; exact list_codec_groupState c hf hm _ _ _ _ (bnd_le m) pv gv 185 (isCodec_agg hc).1 (isCodec_agg hc).2 (cellOf (j:=0) b1) (blk_lt b1) b2)
theorem listofN_entryKept:listofN_LstNa_P 88 8:=listofN_LstNa_A.1 ⟨⟩
theorem listofN_apiVertex:listofN_LstNa_P 206 6:=listofN_LstNa_A.2.1 ⟨⟩
theorem listofN_kemSecret:listofN_LstNa_P 219 2:=listofN_LstNa_A.2.2.1 ⟨⟩
theorem listofN_ratchetKey:listofN_LstNa_P 341 2:=listofN_LstNa_A.2.2.2.1 ⟨⟩
theorem listofN_ratchetChain:listofN_LstNa_P 349 4:=listofN_LstNa_A.2.2.2.2.1 ⟨⟩
theorem listofN_groupCached:listofN_LstNa_P 265 12:=listofN_LstNa_A.2.2.2.2.2.1 ⟨⟩
theorem listofN_groupUpdate:listofN_LstNa_P 268 2:=listofN_LstNa_A.2.2.2.2.2.2.1 ⟨⟩
theorem listofN_groupPast:listofN_LstNa_P 275 8:=listofN_LstNa_A.2.2.2.2.2.2.2.1 ⟨⟩
theorem listofN_groupState:listofN_LstNa_P 104 29:=listofN_LstNa_A.2.2.2.2.2.2.2.2 ⟨⟩
def listN_LstNb_P (p0_:Nat) (p1_:Nat):Prop:=∀ (pv gv:Value) (w:World),
  Calls Tryz.prog p0_ #[.agg #[pv,gv]] w fun r w'=>∃ a b,r=.returned (.agg #[a,b])∧a.oneCell'=true∧b.oneCell'=true∧Kept w w' (fun _=>False)∧∀ W',From w.heap.size w' W'→∀ {α:Type} (c:Cod α),Fair c→Many c p1_→IsCodec W' (.agg #[pv,gv]) c→IsCodec W' (.agg #[a,b]) (listN c p1_ 65536)
set_option maxHeartbeats 1800000 in
theorem listN_LstNb_A:(Ix 0→listN_LstNb_P 58 8)∧(Ix 1→listN_LstNb_P 121 6)∧(Ix 2→listN_LstNb_P 125 2)∧(Ix 3→listN_LstNb_P 254 2)∧(Ix 4→listN_LstNb_P 262 4)∧(Ix 5→listN_LstNb_P 138 12)∧(Ix 6→listN_LstNb_P 141 2)∧(Ix 7→listN_LstNb_P 147 8)∧(Ix 8→listN_LstNb_P 66 29):=by
 refine ⟨?_,?_,?_,?_,?_,?_,?_,?_,?_⟩
 all_goals
  intro I pv gv w
  first|(guard_hyp I:Ix 0; go_enter Tryz.func58,Tryz.ntmps58)|(guard_hyp I:Ix 1; go_enter Tryz.func121,Tryz.ntmps121)|(guard_hyp I:Ix 2; go_enter Tryz.func125,Tryz.ntmps125)|(guard_hyp I:Ix 3; go_enter Tryz.func254,Tryz.ntmps254)|(guard_hyp I:Ix 4; go_enter Tryz.func262,Tryz.ntmps262)|(guard_hyp I:Ix 5; go_enter Tryz.func138,Tryz.ntmps138)|(guard_hyp I:Ix 6; go_enter Tryz.func141,Tryz.ntmps141)|(guard_hyp I:Ix 7; go_enter Tryz.func147,Tryz.ntmps147)|(guard_hyp I:Ix 8; go_enter Tryz.func66,Tryz.ntmps66)
  go_wp2_with (fail)
  first|(guard_hyp I:Ix 0; refine (listofN_entryKept pv gv _ _).mono ?_)|(guard_hyp I:Ix 1; refine (listofN_apiVertex pv gv _ _).mono ?_)|(guard_hyp I:Ix 2; refine (listofN_kemSecret pv gv _ _).mono ?_)|(guard_hyp I:Ix 3; refine (listofN_ratchetKey pv gv _ _).mono ?_)|(guard_hyp I:Ix 4; refine (listofN_ratchetChain pv gv _ _).mono ?_)|(guard_hyp I:Ix 5; refine (listofN_groupCached pv gv _ _).mono ?_)|(guard_hyp I:Ix 6; refine (listofN_groupUpdate pv gv _ _).mono ?_)|(guard_hyp I:Ix 7; refine (listofN_groupPast pv gv _ _).mono ?_)|(guard_hyp I:Ix 8; refine (listofN_groupState pv gv _ _).mono ?_)
  rintro e w1 ⟨a,b,rfl,ha,hb,hk,hc⟩
  have hz:=hk.blk (heap_alloc2_new w _ _) (fun h=>h)
  have k1:Kept w w1 (fun _=>False):=(((Kept.refl w (fun _=>False)).alloc _).alloc _).trans hk (fun _ h=>h.elim)
  have hsz {a b:Obj}:((w.alloc a).alloc b).heap.size=w.heap.size+2:=by simp
  rw [hsz] at hc
  have HZ:=lh hz
  have K1:=lh k1
  have HC:=lh hc
  have HA:=lh ha
  have HBB:=lh hb
  clear hk hc hz k1 ha hb
  first|(guard_hyp I:Ix 0; go_wp2_with (first | refine wpList_store_row rfl 154 (.tmp 2) (.tmp 4) rfl (w.heap.size+1) #[a,b] rfl rfl _ _ HZ.out (by kernel_rfl) rfl (by simp [HA.out,HBB.out]) ?_))|(guard_hyp I:Ix 1; go_wp2_with (first | refine wpList_store_row rfl 273 (.tmp 2) (.tmp 4) rfl (w.heap.size+1) #[a,b] rfl rfl _ _ HZ.out (by kernel_rfl) rfl (by simp [HA.out,HBB.out]) ?_))|(guard_hyp I:Ix 2; go_wp2_with (first | refine wpList_store_row rfl 286 (.tmp 2) (.tmp 4) rfl (w.heap.size+1) #[a,b] rfl rfl _ _ HZ.out (by kernel_rfl) rfl (by simp [HA.out,HBB.out]) ?_))|(guard_hyp I:Ix 3; go_wp2_with (first | refine wpList_store_row rfl 460 (.tmp 2) (.tmp 4) rfl (w.heap.size+1) #[a,b] rfl rfl _ _ HZ.out (by kernel_rfl) rfl (by simp [HA.out,HBB.out]) ?_))|(guard_hyp I:Ix 4; go_wp2_with (first | refine wpList_store_row rfl 477 (.tmp 2) (.tmp 4) rfl (w.heap.size+1) #[a,b] rfl rfl _ _ HZ.out (by kernel_rfl) rfl (by simp [HA.out,HBB.out]) ?_))|(guard_hyp I:Ix 5; go_wp2_with (first | refine wpList_store_row rfl 315 (.tmp 2) (.tmp 4) rfl (w.heap.size+1) #[a,b] rfl rfl _ _ HZ.out (by kernel_rfl) rfl (by simp [HA.out,HBB.out]) ?_))|(guard_hyp I:Ix 6; go_wp2_with (first | refine wpList_store_row rfl 323 (.tmp 2) (.tmp 4) rfl (w.heap.size+1) #[a,b] rfl rfl _ _ HZ.out (by kernel_rfl) rfl (by simp [HA.out,HBB.out]) ?_))|(guard_hyp I:Ix 7; go_wp2_with (first | refine wpList_store_row rfl 339 (.tmp 2) (.tmp 4) rfl (w.heap.size+1) #[a,b] rfl rfl _ _ HZ.out (by kernel_rfl) rfl (by simp [HA.out,HBB.out]) ?_))|(guard_hyp I:Ix 8; go_wp2_with (first | refine wpList_store_row rfl 180 (.tmp 2) (.tmp 4) rfl (w.heap.size+1) #[a,b] rfl rfl _ _ HZ.out (by kernel_rfl) rfl (by simp [HA.out,HBB.out]) ?_))
  first|(guard_hyp I:Ix 0; have hsr:=setRow_heap w1 (w.heap.size+1) _ #[a,b] 154 (0,0) HZ.out)|(guard_hyp I:Ix 1; have hsr:=setRow_heap w1 (w.heap.size+1) _ #[a,b] 273 (0,0) HZ.out)|(guard_hyp I:Ix 2; have hsr:=setRow_heap w1 (w.heap.size+1) _ #[a,b] 286 (0,0) HZ.out)|(guard_hyp I:Ix 3; have hsr:=setRow_heap w1 (w.heap.size+1) _ #[a,b] 460 (0,0) HZ.out)|(guard_hyp I:Ix 4; have hsr:=setRow_heap w1 (w.heap.size+1) _ #[a,b] 477 (0,0) HZ.out)|(guard_hyp I:Ix 5; have hsr:=setRow_heap w1 (w.heap.size+1) _ #[a,b] 315 (0,0) HZ.out)|(guard_hyp I:Ix 6; have hsr:=setRow_heap w1 (w.heap.size+1) _ #[a,b] 323 (0,0) HZ.out)|(guard_hyp I:Ix 7; have hsr:=setRow_heap w1 (w.heap.size+1) _ #[a,b] 339 (0,0) HZ.out)|(guard_hyp I:Ix 8; have hsr:=setRow_heap w1 (w.heap.size+1) _ #[a,b] 180 (0,0) HZ.out)
  have kr:Kept w1 (w1.setRow (w.heap.size+1) #[a,b]) (fun j=>j=w.heap.size+1):=⟨rfl,rfl,rfl,by simp,fun j _ hj=>setRow_other w1 (w.heap.size+1) j _ hj⟩
  first|(guard_hyp I:Ix 0; refine bodyPost_ret (results_cell_row rfl _ _ _ _ _ _ _ rfl hsr Tryz.underlying154 rfl (by kernel_rfl)) rfl ?_)|(guard_hyp I:Ix 1; refine bodyPost_ret (results_cell_row rfl _ _ _ _ _ _ _ rfl hsr Tryz.underlying273 rfl (by kernel_rfl)) rfl ?_)|(guard_hyp I:Ix 2; refine bodyPost_ret (results_cell_row rfl _ _ _ _ _ _ _ rfl hsr Tryz.underlying286 rfl (by kernel_rfl)) rfl ?_)|(guard_hyp I:Ix 3; refine bodyPost_ret (results_cell_row rfl _ _ _ _ _ _ _ rfl hsr Tryz.underlying460 rfl (by kernel_rfl)) rfl ?_)|(guard_hyp I:Ix 4; refine bodyPost_ret (results_cell_row rfl _ _ _ _ _ _ _ rfl hsr Tryz.underlying477 rfl (by kernel_rfl)) rfl ?_)|(guard_hyp I:Ix 5; refine bodyPost_ret (results_cell_row rfl _ _ _ _ _ _ _ rfl hsr Tryz.underlying315 rfl (by kernel_rfl)) rfl ?_)|(guard_hyp I:Ix 6; refine bodyPost_ret (results_cell_row rfl _ _ _ _ _ _ _ rfl hsr Tryz.underlying323 rfl (by kernel_rfl)) rfl ?_)|(guard_hyp I:Ix 7; refine bodyPost_ret (results_cell_row rfl _ _ _ _ _ _ _ rfl hsr Tryz.underlying339 rfl (by kernel_rfl)) rfl ?_)|(guard_hyp I:Ix 8; refine bodyPost_ret (results_cell_row rfl _ _ _ _ _ _ _ rfl hsr Tryz.underlying180 rfl (by kernel_rfl)) rfl ?_)
  refine ⟨a,b,rfl,HA.out,HBB.out,K1.out.trans kr (fun j h=>.inr (by omega)),fun W' hW α c hf hm hcc=>?_⟩
  exact HC.out W' (hW.pre (b2:=w.heap.size+2) (kr.mono (fun k h=>by omega)) (by omega)) c hf hm hcc
theorem listN_entryKept:listN_LstNb_P 58 8:=listN_LstNb_A.1 ⟨⟩
theorem listN_apiVertex:listN_LstNb_P 121 6:=listN_LstNb_A.2.1 ⟨⟩
theorem listN_kemSecret:listN_LstNb_P 125 2:=listN_LstNb_A.2.2.1 ⟨⟩
theorem listN_ratchetKey:listN_LstNb_P 254 2:=listN_LstNb_A.2.2.2.1 ⟨⟩
theorem listN_ratchetChain:listN_LstNb_P 262 4:=listN_LstNb_A.2.2.2.2.1 ⟨⟩
theorem listN_groupCached:listN_LstNb_P 138 12:=listN_LstNb_A.2.2.2.2.2.1 ⟨⟩
theorem listN_groupUpdate:listN_LstNb_P 141 2:=listN_LstNb_A.2.2.2.2.2.2.1 ⟨⟩
theorem listN_groupPast:listN_LstNb_P 147 8:=listN_LstNb_A.2.2.2.2.2.2.2.1 ⟨⟩
theorem listN_groupState:listN_LstNb_P 66 29:=listN_LstNb_A.2.2.2.2.2.2.2.2 ⟨⟩
set_option maxHeartbeats 1600000 in
theorem listofN_int (pv gv:Value) (m:Int) (w:World) :
  Calls Tryz.prog 98 #[.agg #[pv,gv],.int .i64 m] w fun r w'=>∃ a b,r=.returned (.agg #[a,b])∧a.oneCell'=true∧b.oneCell'=true∧Kept w w' (fun _=>False)∧∀ W',From w.heap.size w' W'→∀ {α:Type} (c:Cod α),Fair c→One c→IsCodec W' (.agg #[pv,gv]) c→IsCodec W' (.agg #[a,b]) (listC c (bnd m)):=by
 go_enter Tryz.func98,Tryz.ntmps98
 go_wp2_with (go_at_call 162; refine (bound_any m _).mono ?_; rintro e w1 ⟨rfl,rfl⟩)
 refine bodyPost_ret (results_cell_row rfl _ _ _ _ _ _ _ rfl (heap_alloc3_new _ _ _ _) Tryz.underlying167 rfl (by kernel_rfl)) rfl ?_
 have hk {a b c:Obj}:=al3_kept w a b c
 refine ⟨_,_,rfl,rfl,rfl,hk,fun W' hW α c hf hm hc=>?_⟩
 have b1:=hW.blk (k:=w.heap.size+1) (by omega) ((Below.heap_alloc _ _ _ (by simp)).trans (heap_alloc2_new w _ _))
 have b2:=hW.blk (k:=w.heap.size) (by omega) ((Below.heap_alloc _ _ _ (by simp; omega)).trans ((Below.heap_alloc _ _ _ (by simp)).trans (heap_alloc_new w _)))
 exact list_codec_int c hf hm _ _ _ _ (bnd_le m) pv gv 172 (isCodec_agg hc).1 (isCodec_agg hc).2 (cellOf (j:=0) b1) (blk_lt b1) b2
theorem listN_int (pv gv:Value) (w:World) :
  Calls Tryz.prog 62 #[.agg #[pv,gv]] w fun r w'=>∃ a b,r=.returned (.agg #[a,b])∧a.oneCell'=true∧b.oneCell'=true∧Kept w w' (fun _=>False)∧∀ W',From w.heap.size w' W'→∀ {α:Type} (c:Cod α),Fair c→One c→IsCodec W' (.agg #[pv,gv]) c→IsCodec W' (.agg #[a,b]) (listC c 65536):=by
 go_enter Tryz.func62,Tryz.ntmps62
 go_wp2_with (fail)
 refine (listofN_int pv gv _ _).mono ?_
 rintro e w1 ⟨a,b,rfl,ha,hb,hk,hc⟩
 have hz:=hk.blk (heap_alloc2_new w _ _) (fun h=>h)
 have k1:Kept w w1 (fun _=>False):=(((Kept.refl w (fun _=>False)).alloc _).alloc _).trans hk (fun _ h=>h.elim)
 have hsz {a b:Obj}:((w.alloc a).alloc b).heap.size=w.heap.size+2:=by simp
 rw [hsz] at hc
 have HZ:=lh hz
 have K1:=lh k1
 have HC:=lh hc
 have HA:=lh ha
 have HBB:=lh hb
 clear hk hc hz k1 ha hb
 go_wp2_with (first | refine wpList_store_row rfl 167 (.tmp 2) (.tmp 4) rfl (w.heap.size+1) #[a,b] rfl rfl _ _ HZ.out (by kernel_rfl) rfl (by simp [HA.out,HBB.out]) ?_)
 have hsr:=setRow_heap w1 (w.heap.size+1) _ #[a,b] 167 (0,0) HZ.out
 have kr:Kept w1 (w1.setRow (w.heap.size+1) #[a,b]) (fun j=>j=w.heap.size+1):=⟨rfl,rfl,rfl,by simp,fun j _ hj=>setRow_other w1 (w.heap.size+1) j _ hj⟩
 refine bodyPost_ret (results_cell_row rfl _ _ _ _ _ _ _ rfl hsr Tryz.underlying167 rfl (by kernel_rfl)) rfl ?_
 refine ⟨a,b,rfl,HA.out,HBB.out,K1.out.trans kr (fun j h=>.inr (by omega)),fun W' hW α c hf hm hcc=>?_⟩
 exact HC.out W' (hW.pre (b2:=w.heap.size+2) (kr.mono (fun k h=>by omega)) (by omega)) c hf hm hcc
end Go.Proofs.YtogkkfdkeefjnaaGreatDoor.Codec
namespace Go.Proofs.YtogkkfdkeefjnaaGreatDoor.Codec
open Go.RowKit Go.Proofs.YtogkkfdkeefjnaaGreatDoorBase Go.Proofs.YtogkkfdkeefjnaaGreatDoorLex2 Go.Proofs.YtogkkfdkeefjnaaGreatDoorNum
set_option linter.unusedVariables false
set_option maxRecDepth 100000
set_option linter.unusedSimpArgs false
def recordN_RecNa_P (p0_:Nat) (p1_:Nat) (p2_:Nat):Prop:=∀ (pa n cp:Nat) (hn:n≤cp) (hcm:cp≤maxLen) (w:World),
  Calls Tryz.prog p0_ #[.slice (some ⟨pa,0,none⟩) n cp] w fun r w'=>∃ a b,r=.returned (.agg #[a,b])∧a.oneCell'=true∧b.oneCell'=true∧Kept w w' (fun _=>False)∧∀ W',From w.heap.size w' W'→∀ {α:Type} (ps:List (Prt α)),ps.length=n→(∀ p∈ps,PFair p1_ p)→ps.Pairwise (fun p p'=>Off p1_ p p')→∀ (x0:α),n≤1000→PartsAt W' p2_ p1_ pa ps→IsCodec W' (.agg #[a,b]) (recC p1_ ps x0)
set_option maxHeartbeats 22400000 in
theorem recordN_RecNa_A:(Ix 0→recordN_RecNa_P 172 6 33)∧(Ix 1→recordN_RecNa_P 89 8 113)∧(Ix 2→recordN_RecNa_P 207 6 117)∧(Ix 3→recordN_RecNa_P 220 2 124)∧(Ix 4→recordN_RecNa_P 226 13 66)∧(Ix 5→recordN_RecNa_P 243 2 431)∧(Ix 6→recordN_RecNa_P 247 4 446)∧(Ix 7→recordN_RecNa_P 255 3 69)∧(Ix 8→recordN_RecNa_P 190 11 35)∧(Ix 9→recordN_RecNa_P 276 8 342)∧(Ix 10→recordN_RecNa_P 105 12 231)∧(Ix 11→recordN_RecNa_P 111 2 253)∧(Ix 12→recordN_RecNa_P 152 29 75)∧(Ix 13→recordN_RecNa_P 55 3 61):=by
 refine ⟨?_,?_,?_,?_,?_,?_,?_,?_,?_,?_,?_,?_,?_,?_⟩
 all_goals
  intro I pa n cp hn hcm w
  first|(guard_hyp I:Ix 0; go_enter Tryz.func172,Tryz.ntmps172)|(guard_hyp I:Ix 1; go_enter Tryz.func89,Tryz.ntmps89)|(guard_hyp I:Ix 2; go_enter Tryz.func207,Tryz.ntmps207)|(guard_hyp I:Ix 3; go_enter Tryz.func220,Tryz.ntmps220)|(guard_hyp I:Ix 4; go_enter Tryz.func226,Tryz.ntmps226)|(guard_hyp I:Ix 5; go_enter Tryz.func243,Tryz.ntmps243)|(guard_hyp I:Ix 6; go_enter Tryz.func247,Tryz.ntmps247)|(guard_hyp I:Ix 7; go_enter Tryz.func255,Tryz.ntmps255)|(guard_hyp I:Ix 8; go_enter Tryz.func190,Tryz.ntmps190)|(guard_hyp I:Ix 9; go_enter Tryz.func276,Tryz.ntmps276)|(guard_hyp I:Ix 10; go_enter Tryz.func105,Tryz.ntmps105)|(guard_hyp I:Ix 11; go_enter Tryz.func111,Tryz.ntmps111)|(guard_hyp I:Ix 12; go_enter Tryz.func152,Tryz.ntmps152)|(guard_hyp I:Ix 13; go_enter Tryz.func55,Tryz.ntmps55)
  go_wp2
  first|(guard_hyp I:Ix 0; refine bodyPost_ret (results_cell_row rfl _ _ _ _ _ _ _ rfl (heap_alloc2_new _ _ _) Tryz.underlying218 rfl (by kernel_rfl)) rfl ?_)|(guard_hyp I:Ix 1; refine bodyPost_ret (results_cell_row rfl _ _ _ _ _ _ _ rfl (heap_alloc2_new _ _ _) Tryz.underlying159 rfl (by kernel_rfl)) rfl ?_)|(guard_hyp I:Ix 2; refine bodyPost_ret (results_cell_row rfl _ _ _ _ _ _ _ rfl (heap_alloc2_new _ _ _) Tryz.underlying278 rfl (by kernel_rfl)) rfl ?_)|(guard_hyp I:Ix 3; refine bodyPost_ret (results_cell_row rfl _ _ _ _ _ _ _ rfl (heap_alloc2_new _ _ _) Tryz.underlying291 rfl (by kernel_rfl)) rfl ?_)|(guard_hyp I:Ix 4; refine bodyPost_ret (results_cell_row rfl _ _ _ _ _ _ _ rfl (heap_alloc2_new _ _ _) Tryz.underlying299 rfl (by kernel_rfl)) rfl ?_)|(guard_hyp I:Ix 5; refine bodyPost_ret (results_cell_row rfl _ _ _ _ _ _ _ rfl (heap_alloc2_new _ _ _) Tryz.underlying428 rfl (by kernel_rfl)) rfl ?_)|(guard_hyp I:Ix 6; refine bodyPost_ret (results_cell_row rfl _ _ _ _ _ _ _ rfl (heap_alloc2_new _ _ _) Tryz.underlying442 rfl (by kernel_rfl)) rfl ?_)|(guard_hyp I:Ix 7; refine bodyPost_ret (results_cell_row rfl _ _ _ _ _ _ _ rfl (heap_alloc2_new _ _ _) Tryz.underlying307 rfl (by kernel_rfl)) rfl ?_)|(guard_hyp I:Ix 8; refine bodyPost_ret (results_cell_row rfl _ _ _ _ _ _ _ rfl (heap_alloc2_new _ _ _) Tryz.underlying243 rfl (by kernel_rfl)) rfl ?_)|(guard_hyp I:Ix 9; refine bodyPost_ret (results_cell_row rfl _ _ _ _ _ _ _ rfl (heap_alloc2_new _ _ _) Tryz.underlying346 rfl (by kernel_rfl)) rfl ?_)|(guard_hyp I:Ix 10; refine bodyPost_ret (results_cell_row rfl _ _ _ _ _ _ _ rfl (heap_alloc2_new _ _ _) Tryz.underlying228 rfl (by kernel_rfl)) rfl ?_)|(guard_hyp I:Ix 11; refine bodyPost_ret (results_cell_row rfl _ _ _ _ _ _ _ rfl (heap_alloc2_new _ _ _) Tryz.underlying250 rfl (by kernel_rfl)) rfl ?_)|(guard_hyp I:Ix 12; refine bodyPost_ret (results_cell_row rfl _ _ _ _ _ _ _ rfl (heap_alloc2_new _ _ _) Tryz.underlying185 rfl (by kernel_rfl)) rfl ?_)|(guard_hyp I:Ix 13; refine bodyPost_ret (results_cell_row rfl _ _ _ _ _ _ _ rfl (heap_alloc2_new _ _ _) Tryz.underlying93 rfl (by kernel_rfl)) rfl ?_)
  refine ⟨_,_,rfl,rfl,rfl,((Kept.refl _ _).alloc _).alloc _,fun W' hW α ps hl hf hoff x0 h1 hpa=>?_⟩
  subst hl
  have b2:=hW.blk (k:=w.heap.size) (by omega) (heap_alloc2_fst _ _ _)
  first|(guard_hyp I:Ix 0; exact ⟨_,_,rfl,rec_put_cardCard ps 6 (fun p hp=>(hf p hp).fair) x0 _ _ pa cp _ (by kernel_rfl) h1 hpa b2,rec_get_cardCard ps hf hoff x0 _ _ pa cp _ h1 hpa b2⟩)|(guard_hyp I:Ix 1; exact ⟨_,_,rfl,rec_put_entryKept ps 8 (fun p hp=>(hf p hp).fair) x0 _ _ pa cp _ (by kernel_rfl) h1 hpa b2,rec_get_entryKept ps hf hoff x0 _ _ pa cp _ h1 hpa b2⟩)|(guard_hyp I:Ix 2; exact ⟨_,_,rfl,rec_put_apiVertex ps 6 (fun p hp=>(hf p hp).fair) x0 _ _ pa cp _ (by kernel_rfl) h1 hpa b2,rec_get_apiVertex ps hf hoff x0 _ _ pa cp _ h1 hpa b2⟩)|(guard_hyp I:Ix 3; exact ⟨_,_,rfl,rec_put_kemSecret ps 2 (fun p hp=>(hf p hp).fair) x0 _ _ pa cp _ (by kernel_rfl) h1 hpa b2,rec_get_kemSecret ps hf hoff x0 _ _ pa cp _ h1 hpa b2⟩)|(guard_hyp I:Ix 4; exact ⟨_,_,rfl,rec_put_scheduleEpoch ps 13 (fun p hp=>(hf p hp).fair) x0 _ _ pa cp _ (by kernel_rfl) h1 hpa b2,rec_get_scheduleEpoch ps hf hoff x0 _ _ pa cp _ h1 hpa b2⟩)|(guard_hyp I:Ix 5; exact ⟨_,_,rfl,rec_put_ratchetKey ps 2 (fun p hp=>(hf p hp).fair) x0 _ _ pa cp _ (by kernel_rfl) h1 hpa b2,rec_get_ratchetKey ps hf hoff x0 _ _ pa cp _ h1 hpa b2⟩)|(guard_hyp I:Ix 6; exact ⟨_,_,rfl,rec_put_ratchetChain ps 4 (fun p hp=>(hf p hp).fair) x0 _ _ pa cp _ (by kernel_rfl) h1 hpa b2,rec_get_ratchetChain ps hf hoff x0 _ _ pa cp _ h1 hpa b2⟩)|(guard_hyp I:Ix 7; exact ⟨_,_,rfl,rec_put_ratchetState ps 3 (fun p hp=>(hf p hp).fair) x0 _ _ pa cp _ (by kernel_rfl) h1 hpa b2,rec_get_ratchetState ps hf hoff x0 _ _ pa cp _ h1 hpa b2⟩)|(guard_hyp I:Ix 8; exact ⟨_,_,rfl,rec_put_offerProp ps 11 (fun p hp=>(hf p hp).fair) x0 _ _ pa cp _ (by kernel_rfl) h1 hpa b2,rec_get_offerProp ps hf hoff x0 _ _ pa cp _ h1 hpa b2⟩)|(guard_hyp I:Ix 9; exact ⟨_,_,rfl,rec_put_groupPast ps 8 (fun p hp=>(hf p hp).fair) x0 _ _ pa cp _ (by kernel_rfl) h1 hpa b2,rec_get_groupPast ps hf hoff x0 _ _ pa cp _ h1 hpa b2⟩)|(guard_hyp I:Ix 10; exact ⟨_,_,rfl,rec_put_groupCached ps 12 (fun p hp=>(hf p hp).fair) x0 _ _ pa cp _ (by kernel_rfl) h1 hpa b2,rec_get_groupCached ps hf hoff x0 _ _ pa cp _ h1 hpa b2⟩)|(guard_hyp I:Ix 11; exact ⟨_,_,rfl,rec_put_groupUpdate ps 2 (fun p hp=>(hf p hp).fair) x0 _ _ pa cp _ (by kernel_rfl) h1 hpa b2,rec_get_groupUpdate ps hf hoff x0 _ _ pa cp _ h1 hpa b2⟩)|(guard_hyp I:Ix 12; exact ⟨_,_,rfl,rec_put_groupState ps 29 (fun p hp=>(hf p hp).fair) x0 _ _ pa cp _ (by kernel_rfl) h1 hpa b2,rec_get_groupState ps hf hoff x0 _ _ pa cp _ h1 hpa b2⟩)|(guard_hyp I:Ix 13; exact ⟨_,_,rfl,rec_put_memberSnapshot ps 3 (fun p hp=>(hf p hp).fair) x0 _ _ pa cp _ (by kernel_rfl) h1 hpa b2,rec_get_memberSnapshot ps hf hoff x0 _ _ pa cp _ h1 hpa b2⟩)
theorem recordN_cardCard:recordN_RecNa_P 172 6 33:=recordN_RecNa_A.1 ⟨⟩
theorem recordN_entryKept:recordN_RecNa_P 89 8 113:=recordN_RecNa_A.2.1 ⟨⟩
theorem recordN_apiVertex:recordN_RecNa_P 207 6 117:=recordN_RecNa_A.2.2.1 ⟨⟩
theorem recordN_kemSecret:recordN_RecNa_P 220 2 124:=recordN_RecNa_A.2.2.2.1 ⟨⟩
theorem recordN_scheduleEpoch:recordN_RecNa_P 226 13 66:=recordN_RecNa_A.2.2.2.2.1 ⟨⟩
theorem recordN_ratchetKey:recordN_RecNa_P 243 2 431:=recordN_RecNa_A.2.2.2.2.2.1 ⟨⟩
theorem recordN_ratchetChain:recordN_RecNa_P 247 4 446:=recordN_RecNa_A.2.2.2.2.2.2.1 ⟨⟩
theorem recordN_ratchetState:recordN_RecNa_P 255 3 69:=recordN_RecNa_A.2.2.2.2.2.2.2.1 ⟨⟩
theorem recordN_offerProp:recordN_RecNa_P 190 11 35:=recordN_RecNa_A.2.2.2.2.2.2.2.2.1 ⟨⟩
theorem recordN_groupPast:recordN_RecNa_P 276 8 342:=recordN_RecNa_A.2.2.2.2.2.2.2.2.2.1 ⟨⟩
theorem recordN_groupCached:recordN_RecNa_P 105 12 231:=recordN_RecNa_A.2.2.2.2.2.2.2.2.2.2.1 ⟨⟩
theorem recordN_groupUpdate:recordN_RecNa_P 111 2 253:=recordN_RecNa_A.2.2.2.2.2.2.2.2.2.2.2.1 ⟨⟩
theorem recordN_groupState:recordN_RecNa_P 152 29 75:=recordN_RecNa_A.2.2.2.2.2.2.2.2.2.2.2.2.1 ⟨⟩
theorem recordN_memberSnapshot:recordN_RecNa_P 55 3 61:=recordN_RecNa_A.2.2.2.2.2.2.2.2.2.2.2.2.2 ⟨⟩
end Go.Proofs.YtogkkfdkeefjnaaGreatDoor.Codec
namespace Go.Proofs.YtogkkfdkeefjnaaGreatDoor.Codec
open Go.RowKit Go.Proofs.YtogkkfdkeefjnaaGreatDoorBase Go.Proofs.YtogkkfdkeefjnaaGreatDoorLex2 Go.Proofs.YtogkkfdkeefjnaaGreatDoorNum
set_option linter.unusedVariables false
set_option maxRecDepth 100000
set_option linter.unusedSimpArgs false
def numberN_NumNa_P (p0_:Nat) (p1_:Nat):Prop:=∀ (fg:FuncId) (hge:Proofs.Enters Tryz.prog fg) (w:World),
  Calls Tryz.prog p0_ #[.func (.func fg) #[] #[]] w fun r w'=>∃ a b,r=.returned (.agg #[a,b])∧a.oneCell'=true∧b.oneCell'=true∧Kept w w' (fun _=>False)∧∀ W',From w.heap.size w' W'→∀ {α:Type} (o N:Nat),o < N→∀ (fld:α→Int) (set:Int→α→α),GetterOk p1_ N (.func (.func fg) #[] #[]) o →
   PPut W' p1_ N a (oneP sgnC o fld set)∧PGet W' p1_ N b (oneP sgnC o fld set)
set_option maxHeartbeats 20800000 in
theorem numberN_NumNa_A:(Ix 0→numberN_NumNa_P 173 33)∧(Ix 1→numberN_NumNa_P 93 113)∧(Ix 2→numberN_NumNa_P 210 117)∧(Ix 3→numberN_NumNa_P 221 124)∧(Ix 4→numberN_NumNa_P 227 66)∧(Ix 5→numberN_NumNa_P 244 431)∧(Ix 6→numberN_NumNa_P 248 446)∧(Ix 7→numberN_NumNa_P 256 69)∧(Ix 8→numberN_NumNa_P 191 35)∧(Ix 9→numberN_NumNa_P 277 342)∧(Ix 10→numberN_NumNa_P 109 231)∧(Ix 11→numberN_NumNa_P 112 253)∧(Ix 12→numberN_NumNa_P 115 75):=by
 refine ⟨?_,?_,?_,?_,?_,?_,?_,?_,?_,?_,?_,?_,?_⟩
 all_goals
  intro I fg hge w
  first|(guard_hyp I:Ix 0; go_enter Tryz.func173,Tryz.ntmps173)|(guard_hyp I:Ix 1; go_enter Tryz.func93,Tryz.ntmps93)|(guard_hyp I:Ix 2; go_enter Tryz.func210,Tryz.ntmps210)|(guard_hyp I:Ix 3; go_enter Tryz.func221,Tryz.ntmps221)|(guard_hyp I:Ix 4; go_enter Tryz.func227,Tryz.ntmps227)|(guard_hyp I:Ix 5; go_enter Tryz.func244,Tryz.ntmps244)|(guard_hyp I:Ix 6; go_enter Tryz.func248,Tryz.ntmps248)|(guard_hyp I:Ix 7; go_enter Tryz.func256,Tryz.ntmps256)|(guard_hyp I:Ix 8; go_enter Tryz.func191,Tryz.ntmps191)|(guard_hyp I:Ix 9; go_enter Tryz.func277,Tryz.ntmps277)|(guard_hyp I:Ix 10; go_enter Tryz.func109,Tryz.ntmps109)|(guard_hyp I:Ix 11; go_enter Tryz.func112,Tryz.ntmps112)|(guard_hyp I:Ix 12; go_enter Tryz.func115,Tryz.ntmps115)
  go_wp2_with (fail)
  refine (signed_new _).mono ?_
  rintro e w1 ⟨pv,gv,rfl,-,-,hcv,hk⟩
  have h0:=hk.blk (heap_alloc_new w _) (fun h=>h)
  have k1:Kept w w1 (fun _=>False):=((Kept.refl w (fun _=>False)).alloc _).trans hk (fun _ h=>h.elim)
  have hsz {a:Obj}:(w.alloc a).heap.size=w.heap.size+1:=by simp
  rw [hsz] at hcv
  have HCV:=lh hcv
  have H0:=lh h0
  have K1:=lh k1
  have L1:=lh (blk_lt h0)
  clear hcv h0 k1 hk hsz
  go_wp2_with (fail)
  first|(guard_hyp I:Ix 0; refine (fieldN_int_cardCard fg hge pv gv _).mono ?_)|(guard_hyp I:Ix 1; refine (fieldN_int_entryKept fg hge pv gv _).mono ?_)|(guard_hyp I:Ix 2; refine (fieldN_int_apiVertex fg hge pv gv _).mono ?_)|(guard_hyp I:Ix 3; refine (fieldN_int_kemSecret fg hge pv gv _).mono ?_)|(guard_hyp I:Ix 4; refine (fieldN_int_scheduleEpoch fg hge pv gv _).mono ?_)|(guard_hyp I:Ix 5; refine (fieldN_int_ratchetKey fg hge pv gv _).mono ?_)|(guard_hyp I:Ix 6; refine (fieldN_int_ratchetChain fg hge pv gv _).mono ?_)|(guard_hyp I:Ix 7; refine (fieldN_int_ratchetState fg hge pv gv _).mono ?_)|(guard_hyp I:Ix 8; refine (fieldN_int_offerProp fg hge pv gv _).mono ?_)|(guard_hyp I:Ix 9; refine (fieldN_int_groupPast fg hge pv gv _).mono ?_)|(guard_hyp I:Ix 10; refine (fieldN_int_groupCached fg hge pv gv _).mono ?_)|(guard_hyp I:Ix 11; refine (fieldN_int_groupUpdate fg hge pv gv _).mono ?_)|(guard_hyp I:Ix 12; refine (fieldN_int_groupState fg hge pv gv _).mono ?_)
  rintro e w2 ⟨a,b,rfl,ha,hb,hk,hc⟩
  have h0:=hk.blk H0.out (fun h=>h)
  have H2:=lh h0
  have K2:=lh hk
  have HC:=lh hc
  have HA:=lh ha
  have HBB:=lh hb
  clear h0 hk hc ha hb
  first|(guard_hyp I:Ix 0; go_wp2_with (first | refine wpList_store_row rfl 378 (.tmp 2) (.tmp 5) rfl w.heap.size #[a,b] rfl rfl _ _ H2.out (by kernel_rfl) rfl (by simp [HA.out,HBB.out]) ?_))|(guard_hyp I:Ix 1; go_wp2_with (first | refine wpList_store_row rfl 210 (.tmp 2) (.tmp 5) rfl w.heap.size #[a,b] rfl rfl _ _ H2.out (by kernel_rfl) rfl (by simp [HA.out,HBB.out]) ?_))|(guard_hyp I:Ix 2; go_wp2_with (first | refine wpList_store_row rfl 401 (.tmp 2) (.tmp 5) rfl w.heap.size #[a,b] rfl rfl _ _ H2.out (by kernel_rfl) rfl (by simp [HA.out,HBB.out]) ?_))|(guard_hyp I:Ix 3; go_wp2_with (first | refine wpList_store_row rfl 414 (.tmp 2) (.tmp 5) rfl w.heap.size #[a,b] rfl rfl _ _ H2.out (by kernel_rfl) rfl (by simp [HA.out,HBB.out]) ?_))|(guard_hyp I:Ix 4; go_wp2_with (first | refine wpList_store_row rfl 422 (.tmp 2) (.tmp 5) rfl w.heap.size #[a,b] rfl rfl _ _ H2.out (by kernel_rfl) rfl (by simp [HA.out,HBB.out]) ?_))|(guard_hyp I:Ix 5; go_wp2_with (first | refine wpList_store_row rfl 435 (.tmp 2) (.tmp 5) rfl w.heap.size #[a,b] rfl rfl _ _ H2.out (by kernel_rfl) rfl (by simp [HA.out,HBB.out]) ?_))|(guard_hyp I:Ix 6; go_wp2_with (first | refine wpList_store_row rfl 450 (.tmp 2) (.tmp 5) rfl w.heap.size #[a,b] rfl rfl _ _ H2.out (by kernel_rfl) rfl (by simp [HA.out,HBB.out]) ?_))|(guard_hyp I:Ix 7; go_wp2_with (first | refine wpList_store_row rfl 466 (.tmp 2) (.tmp 5) rfl w.heap.size #[a,b] rfl rfl _ _ H2.out (by kernel_rfl) rfl (by simp [HA.out,HBB.out]) ?_))|(guard_hyp I:Ix 8; go_wp2_with (first | refine wpList_store_row rfl 387 (.tmp 2) (.tmp 5) rfl w.heap.size #[a,b] rfl rfl _ _ H2.out (by kernel_rfl) rfl (by simp [HA.out,HBB.out]) ?_))|(guard_hyp I:Ix 9; go_wp2_with (first | refine wpList_store_row rfl 486 (.tmp 2) (.tmp 5) rfl w.heap.size #[a,b] rfl rfl _ _ H2.out (by kernel_rfl) rfl (by simp [HA.out,HBB.out]) ?_))|(guard_hyp I:Ix 10; go_wp2_with (first | refine wpList_store_row rfl 235 (.tmp 2) (.tmp 5) rfl w.heap.size #[a,b] rfl rfl _ _ H2.out (by kernel_rfl) rfl (by simp [HA.out,HBB.out]) ?_))|(guard_hyp I:Ix 11; go_wp2_with (first | refine wpList_store_row rfl 257 (.tmp 2) (.tmp 5) rfl w.heap.size #[a,b] rfl rfl _ _ H2.out (by kernel_rfl) rfl (by simp [HA.out,HBB.out]) ?_))|(guard_hyp I:Ix 12; go_wp2_with (first | refine wpList_store_row rfl 264 (.tmp 2) (.tmp 5) rfl w.heap.size #[a,b] rfl rfl _ _ H2.out (by kernel_rfl) rfl (by simp [HA.out,HBB.out]) ?_))
  first|(guard_hyp I:Ix 0; have hsr:=setRow_heap w2 w.heap.size _ #[a,b] 378 (0,0) H2.out)|(guard_hyp I:Ix 1; have hsr:=setRow_heap w2 w.heap.size _ #[a,b] 210 (0,0) H2.out)|(guard_hyp I:Ix 2; have hsr:=setRow_heap w2 w.heap.size _ #[a,b] 401 (0,0) H2.out)|(guard_hyp I:Ix 3; have hsr:=setRow_heap w2 w.heap.size _ #[a,b] 414 (0,0) H2.out)|(guard_hyp I:Ix 4; have hsr:=setRow_heap w2 w.heap.size _ #[a,b] 422 (0,0) H2.out)|(guard_hyp I:Ix 5; have hsr:=setRow_heap w2 w.heap.size _ #[a,b] 435 (0,0) H2.out)|(guard_hyp I:Ix 6; have hsr:=setRow_heap w2 w.heap.size _ #[a,b] 450 (0,0) H2.out)|(guard_hyp I:Ix 7; have hsr:=setRow_heap w2 w.heap.size _ #[a,b] 466 (0,0) H2.out)|(guard_hyp I:Ix 8; have hsr:=setRow_heap w2 w.heap.size _ #[a,b] 387 (0,0) H2.out)|(guard_hyp I:Ix 9; have hsr:=setRow_heap w2 w.heap.size _ #[a,b] 486 (0,0) H2.out)|(guard_hyp I:Ix 10; have hsr:=setRow_heap w2 w.heap.size _ #[a,b] 235 (0,0) H2.out)|(guard_hyp I:Ix 11; have hsr:=setRow_heap w2 w.heap.size _ #[a,b] 257 (0,0) H2.out)|(guard_hyp I:Ix 12; have hsr:=setRow_heap w2 w.heap.size _ #[a,b] 264 (0,0) H2.out)
  have kr:Kept w2 (w2.setRow w.heap.size #[a,b]) (fun j=>j=w.heap.size):=⟨rfl,rfl,rfl,by simp,fun j _ hj=>setRow_other w2 w.heap.size j _ hj⟩
  first|(guard_hyp I:Ix 0; refine bodyPost_ret (results_cell_row rfl _ _ _ _ _ _ _ rfl hsr Tryz.underlying378 rfl (by kernel_rfl)) rfl ?_)|(guard_hyp I:Ix 1; refine bodyPost_ret (results_cell_row rfl _ _ _ _ _ _ _ rfl hsr Tryz.underlying210 rfl (by kernel_rfl)) rfl ?_)|(guard_hyp I:Ix 2; refine bodyPost_ret (results_cell_row rfl _ _ _ _ _ _ _ rfl hsr Tryz.underlying401 rfl (by kernel_rfl)) rfl ?_)|(guard_hyp I:Ix 3; refine bodyPost_ret (results_cell_row rfl _ _ _ _ _ _ _ rfl hsr Tryz.underlying414 rfl (by kernel_rfl)) rfl ?_)|(guard_hyp I:Ix 4; refine bodyPost_ret (results_cell_row rfl _ _ _ _ _ _ _ rfl hsr Tryz.underlying422 rfl (by kernel_rfl)) rfl ?_)|(guard_hyp I:Ix 5; refine bodyPost_ret (results_cell_row rfl _ _ _ _ _ _ _ rfl hsr Tryz.underlying435 rfl (by kernel_rfl)) rfl ?_)|(guard_hyp I:Ix 6; refine bodyPost_ret (results_cell_row rfl _ _ _ _ _ _ _ rfl hsr Tryz.underlying450 rfl (by kernel_rfl)) rfl ?_)|(guard_hyp I:Ix 7; refine bodyPost_ret (results_cell_row rfl _ _ _ _ _ _ _ rfl hsr Tryz.underlying466 rfl (by kernel_rfl)) rfl ?_)|(guard_hyp I:Ix 8; refine bodyPost_ret (results_cell_row rfl _ _ _ _ _ _ _ rfl hsr Tryz.underlying387 rfl (by kernel_rfl)) rfl ?_)|(guard_hyp I:Ix 9; refine bodyPost_ret (results_cell_row rfl _ _ _ _ _ _ _ rfl hsr Tryz.underlying486 rfl (by kernel_rfl)) rfl ?_)|(guard_hyp I:Ix 10; refine bodyPost_ret (results_cell_row rfl _ _ _ _ _ _ _ rfl hsr Tryz.underlying235 rfl (by kernel_rfl)) rfl ?_)|(guard_hyp I:Ix 11; refine bodyPost_ret (results_cell_row rfl _ _ _ _ _ _ _ rfl hsr Tryz.underlying257 rfl (by kernel_rfl)) rfl ?_)|(guard_hyp I:Ix 12; refine bodyPost_ret (results_cell_row rfl _ _ _ _ _ _ _ rfl hsr Tryz.underlying264 rfl (by kernel_rfl)) rfl ?_)
  refine ⟨a,b,rfl,HA.out,HBB.out,(K1.out.trans K2.out (fun _ h=>h.elim)).trans kr (fun j h=>.inr (by omega)),fun W' hW α o N ho fld set hg=>?_⟩
  have hl:=L1.out
  have h1:From w1.heap.size w2 W':=hW.pre (kr.mono (fun k h=>by omega)) (by omega)
  have h2:From (w.heap.size+1) w1 W':=hW.pre (b2:=w.heap.size+1) (Kept.mono (F:=fun j=>j=w.heap.size) ((K2.out.mono (fun _ h=>h.elim)).trans kr (fun k h=>.inl h)) (fun k h=>by omega)) (by omega)
  exact HC.out W' h1 sgnC sgnC_fair sgnC_one o N ho fld set (HCV.out W' h2) hg
theorem numberN_cardCard:numberN_NumNa_P 173 33:=numberN_NumNa_A.1 ⟨⟩
theorem numberN_entryKept:numberN_NumNa_P 93 113:=numberN_NumNa_A.2.1 ⟨⟩
theorem numberN_apiVertex:numberN_NumNa_P 210 117:=numberN_NumNa_A.2.2.1 ⟨⟩
theorem numberN_kemSecret:numberN_NumNa_P 221 124:=numberN_NumNa_A.2.2.2.1 ⟨⟩
theorem numberN_scheduleEpoch:numberN_NumNa_P 227 66:=numberN_NumNa_A.2.2.2.2.1 ⟨⟩
theorem numberN_ratchetKey:numberN_NumNa_P 244 431:=numberN_NumNa_A.2.2.2.2.2.1 ⟨⟩
theorem numberN_ratchetChain:numberN_NumNa_P 248 446:=numberN_NumNa_A.2.2.2.2.2.2.1 ⟨⟩
theorem numberN_ratchetState:numberN_NumNa_P 256 69:=numberN_NumNa_A.2.2.2.2.2.2.2.1 ⟨⟩
theorem numberN_offerProp:numberN_NumNa_P 191 35:=numberN_NumNa_A.2.2.2.2.2.2.2.2.1 ⟨⟩
theorem numberN_groupPast:numberN_NumNa_P 277 342:=numberN_NumNa_A.2.2.2.2.2.2.2.2.2.1 ⟨⟩
theorem numberN_groupCached:numberN_NumNa_P 109 231:=numberN_NumNa_A.2.2.2.2.2.2.2.2.2.2.1 ⟨⟩
theorem numberN_groupUpdate:numberN_NumNa_P 112 253:=numberN_NumNa_A.2.2.2.2.2.2.2.2.2.2.2.1 ⟨⟩
theorem numberN_groupState:numberN_NumNa_P 115 75:=numberN_NumNa_A.2.2.2.2.2.2.2.2.2.2.2.2 ⟨⟩
end Go.Proofs.YtogkkfdkeefjnaaGreatDoor.Codec
namespace Go.Proofs.YtogkkfdkeefjnaaGreatDoor.Codec
open Go.RowKit Go.Proofs.YtogkkfdkeefjnaaGreatDoorBase Go.Proofs.YtogkkfdkeefjnaaGreatDoorLex2 Go.Proofs.YtogkkfdkeefjnaaGreatDoorNum
set_option linter.unusedVariables false
set_option maxRecDepth 100000
set_option linter.unusedSimpArgs false
theorem From.call {b s:Nat} {w1 wL wf W':World} (hW:From b wf W') (hL:Kept w1 wL (fun _=>False)) (kr:Kept wL wf (fun j=>j=b)) (hs:b < s):From s w1 W' :=
 hW.pre (Kept.mono (F:=fun j=>j=b) ((hL.mono (fun _ h=>h.elim)).trans kr (fun k h=>.inl h)) (fun k h=>by omega)) (Nat.le_of_lt hs)
theorem flag_new (w:World):Calls Tryz.prog 144 #[] w fun r w'=>∃ a b,r=.returned (.agg #[a,b])∧a.oneCell'=true∧b.oneCell'=true∧Kept w w' (fun _=>False)∧∀ W',From w.heap.size w' W'→IsCodec W' (.agg #[a,b]) flagC:=by
 go_enter Tryz.func144,Tryz.ntmps144
 go_wp2
 refine bodyPost_ret (results_cell_row rfl _ _ _ _ _ _ _ rfl (heap_alloc_new _ _) Tryz.underlying331 rfl (by kernel_rfl)) rfl ?_
 refine ⟨_,_,rfl,rfl,rfl,(Kept.refl _ _).alloc _,fun W' _=>⟨_,_,rfl,⟨_,_,rfl,Proofs.enters_of Tryz.func271 (by kernel_rfl) rfl,?_⟩,⟨_,_,rfl,Proofs.enters_of Tryz.func272 (by kernel_rfl) rfl,?_⟩⟩⟩
 ·intro B p F s w x v hB hw hv h hr
  have hv':v=.bool x:=hv
  subst hv'
  rw [Array.append_empty]
  exact flag_put B p F s w x h hr
 ·intro p d s w hp hw h hd
  rw [Array.append_empty]
  exact flag_get p d s w h hd
theorem signed_flip {w w':World} {pv gv:Value} (h:(∀ W',From w.heap.size w' W'→IsCodec W' (.agg #[pv,gv]) sgnC)∧Kept w w' (fun _=>False)):Kept w w' (fun _=>False)∧∀ W',From w.heap.size w' W'→IsCodec W' (.agg #[pv,gv]) sgnC:=⟨h.2,h.1⟩
theorem signed_made (w:World):Calls Tryz.prog 63 #[] w fun r w'=>∃ a b,r=.returned (.agg #[a,b])∧a.oneCell'=true∧b.oneCell'=true∧Kept w w' (fun _=>False)∧∀ W',From w.heap.size w' W'→IsCodec W' (.agg #[a,b]) sgnC:=by
 refine (signed_new w).mono ?_
 rintro e w' ⟨a,b,rfl,h1,h2,h3⟩
 exact ⟨a,b,rfl,h1,h2,signed_flip h3⟩
end Go.Proofs.YtogkkfdkeefjnaaGreatDoor.Codec
