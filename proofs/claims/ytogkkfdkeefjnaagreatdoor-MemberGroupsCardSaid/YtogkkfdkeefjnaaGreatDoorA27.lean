/-
  An epoch's secrets, derived, walked. A tree of one leaf, and its ratchets, made, walked.
-/
import Derived.Test.YtogkkfdkeefjnaaGreatDoorA26
namespace Go.Proofs.YtogkkfdkeefjnaaGreatDoor.Term
open Go.RowKit Go.Sort Go.Proofs.YtogkkfdkeefjnaaGreatDoorBase Go.Proofs.YtogkkfdkeefjnaaGreatDoorLex2 Go.Proofs.YtogkkfdkeefjnaaGreatDoor.Dec
open Go.Proofs.YtogkkfdkeefjnaaGreatDoor.Codec (setRow_new)
set_option linter.unusedVariables false
set_option maxRecDepth 100000
set_option linter.unusedSimpArgs false
/-- The store behind some calls, and a function's own blocks X, which it may write. -/
def TNX (w0 wb w1:World) (p:Nat) (F X:Nat→Prop) (s:TS):Prop:=∃ F',SAt w0 w1 p F' s∧(∀ k,F' k→F k∨wb.heap.size≤k)∧Kept wb w1 (fun k=>F k∨X k)
section
variable {w0 wb w1 w2 : World} {p : Nat} {F X : Nat → Prop} {s : TS} {f : Nat} {args : Array Value}
theorem TNX.start (h:SAt w0 wb p F s):TNX w0 wb wb p F X s:=⟨F,h,fun k hk=>.inl hk,Kept.refl _ _⟩
theorem TNX.call (hX:∀ k,X k→¬ F k∧k < wb.heap.size) (hT:TNX w0 wb w1 p F X s) (hC:∀ F1,SAt w0 w1 p F1 s→Calls Tryz.prog f args w1 (TT w0 w1 p F1)) :
  Calls Tryz.prog f args w1 fun e w'=>∃ (t:Nat) (s':TS),e=.returned (.int .i64 t)∧t≤262144∧TNX w0 wb w' p F X s'∧∀ b o,w1.heap[b]?=some o→X b→w'.heap[b]?=some o:=by
 obtain ⟨F1,h1,b1,k1⟩:=hT
 refine (hC F1 h1).mono ?_
 rintro e w' ⟨t,s',rfl,ht,F2,h2,b2,k2⟩
 refine ⟨t,s',rfl,ht,⟨F2,h2,fun k hk=>(b2 k hk).elim (b1 k) (fun h=>.inr (Nat.le_trans k1.size h)),k1.trans k2 (fun k hk=>(b1 k hk).imp .inl id)⟩,fun b o hb hx=>k2.blk hb (fun hf=>?_)⟩
 have:=hX b hx
 rcases b1 b hf with h | h
 ·exact this.1 h
 ·omega
theorem TNX.upd (hX:∀ k,X k→¬ F k∧k < wb.heap.size) (hB:∀ k,X k→w0.heap.size≤k) (hT:TNX w0 wb w1 p F X s) (hk:Kept w1 w2 X):TNX w0 wb w2 p F X s:=by
 obtain ⟨F1,h1,b1,k1⟩:=hT
 refine ⟨F1,h1.keptG hk (fun k hf hx=>?_) hB,b1,k1.trans hk (fun k hx=>.inl (.inr hx))⟩
 have:=hX k hx
 rcases b1 k hf with h | h
 ·exact this.1 h
 ·omega
end
/-- An epoch's secrets, some terms each. -/
def EpOk (E:Array Value):Prop:=E.size=13∧∀ j,j < 13→∃ t:Nat,t≤262144∧E[j]?=some (.int .i64 t)
theorem EpOk.set {E:Array Value} (h:EpOk E) {j t:Nat} (hj:j < 13) (ht:t≤262144):EpOk (E.setIfInBounds j (.int .i64 t)):=by
 refine ⟨by simp [h.1],fun i hi=>?_⟩
 rw [Array.getElem?_setIfInBounds]
 by_cases e:j=i
 ·subst e
  exact ⟨t,ht,by rw [if_pos rfl,if_pos (by rw [h.1]; exact hj)]⟩
 ·rw [if_neg e]
  exact h.2 i hi
def joinArr (be:Nat):Array Value:=#[.pointer (some ⟨be,4,none⟩),.string ⟨#[105,110,105,116]⟩,.pointer (some ⟨be,5,none⟩),.string ⟨#[100,97,116,97]⟩,.pointer (some ⟨be,6,none⟩),.string ⟨#[114,97,116,99,104,101,116,115]⟩,.pointer (some ⟨be,7,none⟩),.string ⟨#[101,120,112,111,114,116,101,114]⟩,.pointer (some ⟨be,8,none⟩),.string ⟨#[101,120,116,101,114,110,97,108]⟩,.pointer (some ⟨be,9,none⟩),.string ⟨#[99,111,110,102,105,114,109]⟩,.pointer (some ⟨be,10,none⟩),.string ⟨#[109,101,109,98,101,114,115,104,105,112]⟩,.pointer (some ⟨be,11,none⟩),.string ⟨#[114,101,115,117,109,112,116,105,111,110]⟩,.pointer (some ⟨be,12,none⟩),.string ⟨#[97,117,116,104,101,110,116,105,99,97,116,111,114]⟩]
def joinLab (k:Nat):ByteArray:=[⟨#[105,110,105,116]⟩,⟨#[100,97,116,97]⟩,⟨#[114,97,116,99,104,101,116,115]⟩,⟨#[101,120,112,111,114,116,101,114]⟩,⟨#[101,120,116,101,114,110,97,108]⟩,⟨#[99,111,110,102,105,114,109]⟩,⟨#[109,101,109,98,101,114,115,104,105,112]⟩,⟨#[114,101,115,117,109,112,116,105,111,110]⟩,⟨#[97,117,116,104,101,110,116,105,99,97,116,111,114]⟩].getD k ⟨#[]⟩
theorem joinLab_le (k:Nat):(joinLab k).size≤9223372036854775807:=by
 match k with
 | 0 | 1 | 2 | 3 | 4 | 5 | 6 | 7 | 8=>decide
 | k+9=>exact Nat.zero_le _
theorem join_index (be k:Nat) (hk:k < 9) (w:World):(Instr.index 366 (.agg (joinArr be)) (.int .i64 k)).run Tryz.prog w=.ok (.agg #[.pointer (some ⟨be,4+k,none⟩),.string (joinLab k)]) w:=by
 match k,hk with
 | 0,_=>show _=_; kernel_rfl
 | 1,_=>show _=_; kernel_rfl
 | 2,_=>show _=_; kernel_rfl
 | 3,_=>show _=_; kernel_rfl
 | 4,_=>show _=_; kernel_rfl
 | 5,_=>show _=_; kernel_rfl
 | 6,_=>show _=_; kernel_rfl
 | 7,_=>show _=_; kernel_rfl
 | 8,_=>show _=_; kernel_rfl
 | k+9,h=>exact absurd h (by omega)
theorem TNX.glue {w0 wb w1 w2:World} {p:Nat} {F F1 X:Nat→Prop} {s2:TS} (b1:∀ k,F1 k→F k∨wb.heap.size≤k) (k1:Kept wb w1 (fun k=>F k∨X k)) (hn:TNext w0 w1 w2 p F1 s2):TNX w0 wb w2 p F X s2:=by
 obtain ⟨F2,h2,b2,k2⟩:=hn
 exact ⟨F2,h2,fun k hk=>(b2 k hk).elim (b1 k) (fun h=>.inr (Nat.le_trans k1.size h)),k1.trans k2 (fun k hk=>(b1 k hk).imp .inl id)⟩
theorem TNX.out {w0 w wb w1:World} {p:Nat} {F F2 X:Nat→Prop} {s:TS} (hT:TNX w0 wb w1 p F2 X s) (hk:Kept w wb F) (hF:∀ k,F2 k→F k∨w.heap.size≤k) (hX:∀ k,X k→w.heap.size≤k):TNext w0 w w1 p F s:=by
 obtain ⟨F1,h1,b1,k1⟩:=hT
 exact ⟨F1,h1,fun k hf=>(b1 k hf).elim (hF k) (fun h=>.inr (Nat.le_trans hk.size h)),hk.trans k1 (fun k h=>h.elim (hF k) (fun h=>.inr (hX k h)))⟩
theorem EpOk.all {E:Array Value} (h:EpOk E):E.all (·.oneCell')=true:=by
 refine Array.all_eq_true_iff_forall_mem.2 (fun u hu=>?_)
 obtain ⟨j,hj⟩:=Array.getElem?_of_mem hu
 obtain ⟨t,_,ht⟩:=h.2 j (by have:=(Array.getElem?_eq_some_iff.1 hj).1; have:=h.1; omega)
 rw [hj] at ht
 obtain rfl:=Option.some.inj ht
 rfl
theorem EpOk.four {a b c d:Nat} (ha:a≤262144) (hb:b≤262144) (hc:c≤262144) (hd:d≤262144):EpOk #[.int .i64 a,.int .i64 b,.int .i64 c,.int .i64 d,.int .i64 0,.int .i64 0,.int .i64 0,.int .i64 0,.int .i64 0,.int .i64 0,.int .i64 0,.int .i64 0,.int .i64 0]:=by
 refine ⟨rfl,fun j hj=>?_⟩
 match j,hj with
 | 0,_=>exact ⟨a,ha,rfl⟩
 | 1,_=>exact ⟨b,hb,rfl⟩
 | 2,_=>exact ⟨c,hc,rfl⟩
 | 3,_=>exact ⟨d,hd,rfl⟩
 | 4,_=>exact ⟨0,by decide,rfl⟩
 | 5,_=>exact ⟨0,by decide,rfl⟩
 | 6,_=>exact ⟨0,by decide,rfl⟩
 | 7,_=>exact ⟨0,by decide,rfl⟩
 | 8,_=>exact ⟨0,by decide,rfl⟩
 | 9,_=>exact ⟨0,by decide,rfl⟩
 | 10,_=>exact ⟨0,by decide,rfl⟩
 | 11,_=>exact ⟨0,by decide,rfl⟩
 | 12,_=>exact ⟨0,by decide,rfl⟩
 | k+13,h=>exact absurd h (by omega)
set_option maxHeartbeats 12800000 in
theorem join_any {w0 w:World} {p:Nat} {F:Nat→Prop} {s:TS} (j sh cx:Nat) (h:SAt w0 w p F s) (hj:j≤262144) :
  Calls Tryz.prog 73 #[.pointer (some ⟨p,0,none⟩),.int .i64 j,.int .i64 sh,.int .i64 cx] w fun e w'=>∃ E s',e=.returned (.agg E)∧EpOk E∧TNext w0 w w' p F s':=by
 have kA:=(Kept.refl w (fun _=>False)).alloc (.cells #[.int .i64 0,.int .i64 0,.int .i64 0,.int .i64 0,.int .i64 0,.int .i64 0,.int .i64 0,.int .i64 0,.int .i64 0,.int .i64 0,.int .i64 0,.int .i64 0,.int .i64 0] 66)
 have N0:=lh (TNext.refl (h.kept kA))
 have HR0:=lh (heap_alloc_new w (.cells #[.int .i64 0,.int .i64 0,.int .i64 0,.int .i64 0,.int .i64 0,.int .i64 0,.int .i64 0,.int .i64 0,.int .i64 0,.int .i64 0,.int .i64 0,.int .i64 0,.int .i64 0] 66))
 have NF:=lh (show ¬ F w.heap.size from fun hf=>absurd (h.at_.lt _ hf) (Nat.lt_irrefl _))
 have KA:=lh kA
 have BS:=lh (show w0.heap.size≤w.heap.size from h.bel.size)
 have AS:=lh (show w.heap.size < (w.alloc (.cells #[.int .i64 0,.int .i64 0,.int .i64 0,.int .i64 0,.int .i64 0,.int .i64 0,.int .i64 0,.int .i64 0,.int .i64 0,.int .i64 0,.int .i64 0,.int .i64 0,.int .i64 0] 66)).heap.size by simp)
 obtain ⟨wA,hwA⟩:∃ wA,w.alloc (.cells #[.int .i64 0,.int .i64 0,.int .i64 0,.int .i64 0,.int .i64 0,.int .i64 0,.int .i64 0,.int .i64 0,.int .i64 0,.int .i64 0,.int .i64 0,.int .i64 0,.int .i64 0] 66)=wA:=⟨_,rfl⟩
 obtain ⟨br,hbr⟩:∃ br,w.heap.size=br:=⟨_,rfl⟩
 have HJ:=lh hj
 have HWA:=lh hwA
 have HBR:=lh hbr
 rw [hwA] at N0 HR0 KA AS
 rw [hbr] at HR0 NF BS AS
 clear h hj kA hwA hbr
 go_enter Tryz.func73,Tryz.ntmps73
 go_wp2_with (fail)
 rw [HWA.out,HBR.out]
 refine (N0.out.tt fun F1 h1=>text_tt ⟨#[]⟩ h1 (Nat.zero_le _)).mono ?_
 rintro e1 w1 ⟨t1,s1,rfl,l1,hn⟩
 have N1:=lh hn
 clear hn l1
 go_wp2_with (fail)
 refine (N1.out.tt fun F1 h1=>kdf_tt ⟨#[109,101,109,98,101,114]⟩ j sh h1 (by decide)).mono ?_
 rintro e2 w2 ⟨t2,s2,rfl,l2,hn⟩
 have HR2:=lh (hn.blk HR0.out NF.out)
 obtain ⟨F2,h2,b2,k2⟩:=hn
 have L2:=lh l2
 obtain ⟨K9,H9⟩:=setRow_new (w:=w2) (Z:=#[.int .i64 0,.int .i64 0,.int .i64 0,.int .i64 0,.int .i64 0,.int .i64 0,.int .i64 0,.int .i64 0,.int .i64 0,.int .i64 0,.int .i64 0,.int .i64 0,.int .i64 0]) (cs:=#[.int .i64 j,.int .i64 t2,.int .i64 0,.int .i64 0,.int .i64 0,.int .i64 0,.int .i64 0,.int .i64 0,.int .i64 0,.int .i64 0,.int .i64 0,.int .i64 0,.int .i64 0]) (T:=66)
 have HZ:=lh (heap_alloc_new w2 (.cells #[.int .i64 0,.int .i64 0,.int .i64 0,.int .i64 0,.int .i64 0,.int .i64 0,.int .i64 0,.int .i64 0,.int .i64 0,.int .i64 0,.int .i64 0,.int .i64 0,.int .i64 0] 66))
 have HE:=lh H9
 have SB:=lh (show w2.heap.size < ((w2.alloc (.cells #[.int .i64 0,.int .i64 0,.int .i64 0,.int .i64 0,.int .i64 0,.int .i64 0,.int .i64 0,.int .i64 0,.int .i64 0,.int .i64 0,.int .i64 0,.int .i64 0,.int .i64 0] 66)).setRow w2.heap.size #[.int .i64 j,.int .i64 t2,.int .i64 0,.int .i64 0,.int .i64 0,.int .i64 0,.int .i64 0,.int .i64 0,.int .i64 0,.int .i64 0,.int .i64 0,.int .i64 0,.int .i64 0]).heap.size from blk_lt H9)
 obtain ⟨wb,hwb⟩:∃ wb,(w2.alloc (.cells #[.int .i64 0,.int .i64 0,.int .i64 0,.int .i64 0,.int .i64 0,.int .i64 0,.int .i64 0,.int .i64 0,.int .i64 0,.int .i64 0,.int .i64 0,.int .i64 0,.int .i64 0] 66)).setRow w2.heap.size #[.int .i64 j,.int .i64 t2,.int .i64 0,.int .i64 0,.int .i64 0,.int .i64 0,.int .i64 0,.int .i64 0,.int .i64 0,.int .i64 0,.int .i64 0,.int .i64 0,.int .i64 0]=wb:=⟨_,rfl⟩
 have HWB:=lh hwb
 have H2:=lh (show SAt w0 wb p F2 s2 from hwb ▸ h2.kept K9)
 have KB:=lh (show Kept wA wb F from hwb ▸ k2.trans K9 (fun _ h=>h.elim))
 have B2:=lh b2
 have F2L:=lh (show ∀ k,F2 k→k < w2.heap.size from h2.at_.lt)
 have SA2:=lh k2.size
 have HRB:=lh (show wb.heap[br]?=_ from hwb ▸ K9.blk HR2.out (fun h=>h))
 rw [hwb] at HE SB
 clear l2 h2 b2 k2 K9 H9 hwb HR0 N0 N1
 go_wp2_with (first|(refine wpList_store_row rfl 66 (.tmp 10) (.tmp 20) rfl w2.heap.size #[.int .i64 j,.int .i64 t2,.int .i64 0,.int .i64 0,.int .i64 0,.int .i64 0,.int .i64 0,.int .i64 0,.int .i64 0,.int .i64 0,.int .i64 0,.int .i64 0,.int .i64 0] rfl rfl _ _ HZ.out (by kernel_rfl) rfl (by simp [Value.oneCell']) ?_; rw [HWB.out]; apply hold))
 unfold Hold
 obtain ⟨be,hbe⟩:∃ be,w2.heap.size=be:=⟨_,rfl⟩
 rw [hbe] at HE SB F2L SA2 ⊢
 have HX:=lh (show ∀ k,(k=br∨k=be)→¬ F2 k∧k < wb.heap.size from by
  have h1:=AS.out
  have h3:=SA2.out
  have h4:=SB.out
  rintro k (rfl | rfl)
  ·refine ⟨fun hf=>?_,by omega⟩
   rcases B2.out _ hf with h | h
   ·exact NF.out h
   ·omega
  ·exact ⟨fun hf=>absurd (F2L.out _ hf) (Nat.lt_irrefl _),h4⟩)
 have HB:=lh (show ∀ k,(k=br∨k=be)→w0.heap.size≤k from by
  have h1:=AS.out
  have h3:=SA2.out
  have h5:=BS.out
  rintro k (rfl | rfl) <;> omega)
 have NBE:=lh (show br≠be from by have h1:=AS.out; have h3:=SA2.out; omega)
 have T0:=lh (TNX.start (X:=fun k=>k=br∨k=be) H2.out)
 clear hbe HZ HWB H2 F2L HR2
 have c1:=cellOf (j:=1) HE.out
 have c2:=cellOf (j:=2) HE.out
 simp at c1 c2
 go_wp2_with (fail)
 refine (T0.out.call HX.out fun F1 h1=>kdf_tt ⟨#[119,101,108,99,111,109,101]⟩ t2 t1 h1 (by decide)).mono ?_
 rintro e3 w3 ⟨t3,s3,rfl,l3,hn,hkeep⟩
 have T1:=lh hn
 have L3:=lh l3
 have HE:=lh (hkeep be _ HE.out (.inr rfl))
 have HRB:=lh (hkeep br _ HRB.out (.inl rfl))
 clear hn l3 hkeep c1 c2 T0
 have c1:=cellOf (j:=1) HE.out
 have c2:=cellOf (j:=2) HE.out
 have f2:=freeOf (j:=2) HE.out
 simp at c1 c2
 have U:=lh (show Kept w3 (w3.setCell ⟨be,2,none⟩ (.int .i64 t3)) (fun k=>k=br∨k=be) from (Kept.refl w3 _).setCell (.inl (.inr rfl)) _)
 have T2:=lh (T1.out.upd HX.out HB.out U.out)
 have HE3:=lh (blk_set HE.out 2 (.int .i64 t3))
 have HRB3:=lh (blk_far HRB.out (p:=⟨be,2,none⟩) NBE.out (.int .i64 t3))
 clear U T1 HE HRB
 go_wp2_with (fail)
 obtain ⟨w4,hw4⟩:∃ w4,w3.setCell ⟨be,2,none⟩ (.int .i64 t3)=w4:=⟨_,rfl⟩
 rw [hw4] at T2 HE3 HRB3 ⊢
 clear hw4 c1 c2 f2
 refine (T2.out.call HX.out fun F1 h1=>kdf_tt ⟨#[101,112,111,99,104]⟩ t2 cx h1 (by decide)).mono ?_
 rintro e5 w5 ⟨t4,s4,rfl,l4,hn,hkeep⟩
 have T3:=lh hn
 have L4:=lh l4
 have HE:=lh (hkeep be _ HE3.out (.inr rfl))
 have HRB:=lh (hkeep br _ HRB3.out (.inl rfl))
 clear hn l4 hkeep T2 HE3 HRB3
 have c3:=cellOf (j:=3) HE.out
 have f3:=freeOf (j:=3) HE.out
 simp at c3
 have U:=lh (show Kept w5 (w5.setCell ⟨be,3,none⟩ (.int .i64 t4)) (fun k=>k=br∨k=be) from (Kept.refl w5 _).setCell (.inl (.inr rfl)) _)
 have T4:=lh (T3.out.upd HX.out HB.out U.out)
 have HE5:=lh (blk_set HE.out 3 (.int .i64 t4))
 have HRB5:=lh (blk_far HRB.out (p:=⟨be,3,none⟩) NBE.out (.int .i64 t4))
 clear U T3 HE HRB
 go_wp2
 obtain ⟨w6,hw6⟩:∃ w6,w5.setCell ⟨be,3,none⟩ (.int .i64 t4)=w6:=⟨_,rfl⟩
 rw [hw6] at T4 HE5 HRB5 ⊢
 clear hw6 c3 f3
 have E0:=lh (EpOk.four HJ.out L2.out L3.out L4.out)
 have HE5:Hid (w6.heap[be]?=some (.cells #[.int .i64 j,.int .i64 t2,.int .i64 t3,.int .i64 t4,.int .i64 0,.int .i64 0,.int .i64 0,.int .i64 0,.int .i64 0,.int .i64 0,.int .i64 0,.int .i64 0,.int .i64 0] 66 (0,0))):=lh HE5.out
 go_loopw [52] (fun iv wr=>∃ (k:Nat) (E:Array Value) (s':TS),k≤9∧iv=.int .i64 k∧EpOk E∧wr.heap[be]?=some (.cells E 66 (0,0))∧wr.heap[br]?=some (.cells #[.int .i64 0,.int .i64 0,.int .i64 0,.int .i64 0,.int .i64 0,.int .i64 0,.int .i64 0,.int .i64 0,.int .i64 0,.int .i64 0,.int .i64 0,.int .i64 0,.int .i64 0] 66 (0,0))∧TNX w0 wb wr p F2 (fun k=>k=br∨k=be) s') (fun iv _=>(9 - intOf iv).toNat)
 case atStart=>exact ⟨0,_,_,by decide,rfl,E0.out,HE5.out,HRB5.out,T4.out⟩
 case round=>
  obtain ⟨k,E,s',hk,rfl,hE,hb,hrb,ht⟩:=hrel
  have HE:=lh hE
  have HBE:=lh hb
  have HRB:=lh hrb
  have TT:=lh ht
  clear hE hb hrb ht E0 HE5 HRB5 T4 HJ L2 L3 L4
  by_cases hlast:k=9
  ·subst hlast
   have HI:=lh (show (Tryz.prog.info? 66).map (·.size)=some E.size by rw [HE.out.1]; kernel_rfl)
   clear hk
   go_wp2_with (first | refine wpList_load_row rfl 66 (.tmp 10) rfl be rfl _ E _ _ HBE.out Tryz.underlying66 rfl HI.out ?_ | refine wpList_store_row rfl 66 (.tmp 8) (.tmp 66) rfl br E rfl rfl _ _ HRB.out HI.out (by rw [HE.out.1]; rfl) HE.out.all ?_)
   have hsr:=setRow_heap wr br _ E 66 (0,0) HRB.out
   have kr:Kept wr (wr.setRow br E) (fun j=>j=br∨j=be):=⟨rfl,rfl,rfl,by simp,fun j _ hj=>setRow_other wr br j _ (fun h=>hj (.inl h))⟩
   refine bodyPost_ret (results_cell_row rfl _ _ _ _ _ _ _ rfl hsr Tryz.underlying66 rfl HI.out) rfl ?_
   have hbr:=HBR.out
   have ha:=AS.out
   have hsa:=SA2.out
   refine ⟨E,s',rfl,HE.out,TNX.out (TT.out.upd HX.out HB.out kr) ((KA.out.mono (fun _ h=>h.elim)).trans KB.out (fun k h=>.inl h)) (fun k hf=>(B2.out k hf).imp id (fun h=>by omega)) ?_⟩
   rintro k (rfl | rfl) <;> omega
  ·have hk9:k < 9:=by omega
   clear hk hlast
   have q1:(k:Int) < 9:=by omega
   have q0:¬ (9:Int)≤k:=by omega
   have hidx:=join_index be k hk9 wr
   have hlab:=joinLab_le k
   obtain ⟨lab,hl⟩:∃ lab,joinLab k=lab:=⟨_,rfl⟩
   rw [hl] at hidx hlab
   have hidx2:=hidx
   unfold joinArr at hidx
   have HLAB:=lh hlab
   have HK9:=lh hk9
   obtain ⟨K7,H7⟩:=setRow_new (w:=wr) (Z:=#[.pointer none,.string ⟨#[]⟩]) (cs:=#[.pointer (some ⟨be,4+k,none⟩),.string lab]) (T:=365)
   have HZ:=lh (heap_alloc_new wr (.cells #[.pointer none,.string ⟨#[]⟩] 365))
   obtain ⟨w7,hw7⟩:∃ w7,(wr.alloc (.cells #[.pointer none,.string ⟨#[]⟩] 365)).setRow wr.heap.size #[.pointer (some ⟨be,4+k,none⟩),.string lab]=w7:=⟨_,rfl⟩
   have HW7:=lh hw7
   rw [hw7] at K7 H7
   have HD:=lh H7
   have KD:=lh K7
   clear hl hidx2 hlab hk9 hw7 K7 H7
   go_wp2_with (first|(refine wpList_store_row rfl 365 (.tmp 12) (.tmp 54) rfl wr.heap.size #[.pointer (some ⟨be,4+k,none⟩),.string lab] rfl rfl _ _ HZ.out (by kernel_rfl) rfl (by simp [Value.oneCell']) ?_; rw [HW7.out]))
   obtain ⟨F1,h1,b1,k1⟩:=TT.out
   have NFD:=lh (show ¬ F1 wr.heap.size from fun hf=>absurd (h1.at_.lt _ hf) (Nat.lt_irrefl _))
   have NFX:=lh (show ∀ k,(k=br∨k=be)→¬ F1 k from fun k hk hf=>by
    have:=HX.out k hk
    rcases b1 k hf with h | h
    ·exact this.1 h
    ·omega)
   have H1:=lh (h1.kept KD.out)
   have B1:=lh b1
   have K1:=lh (k1.trans KD.out (fun _ h=>h.elim))
   have HBE:=kb KD.out HBE
   have HRB:=kb KD.out HRB
   obtain ⟨bd,hbd⟩:∃ bd,wr.heap.size=bd:=⟨_,rfl⟩
   rw [hbd] at HD NFD ⊢
   obtain ⟨t5,l5,he3⟩:=HE.out.2 3 (by decide)
   have L5:=lh l5
   clear h1 b1 k1 TT HZ HW7 KD hbd l5
   have c0:=cellOf (j:=0) HD.out
   have c1:=cellOf (j:=1) HD.out
   have c3:=cellOf (j:=3) HBE.out
   rw [he3] at c3
   clear he3
   simp at c0 c1
   refine wp_region_lex (fun w'=>w'.cell? ⟨bd,0,none⟩=some (.pointer (some ⟨be,4+k,none⟩))) [0,3,0,0,1,0,1,0,2,0,4] (by kernel_rfl) (by kernel_rfl) (by kernel_rfl) (c0) (fun Q' hQ'=>?_)
   simp only [List.zip_cons_cons,List.zip_nil_right]
   have H1:=lh (show SAt w0 w7.drew p F1 s' from H1.out.kept ((Kept.refl w7 _).drew))
   have K1:Hid (Kept wb w7.drew _):=lh (K1.out.drew)
   have HBE:Hid (w7.drew.heap[be]?=_):=lh HBE.out
   have HRB:Hid (w7.drew.heap[br]?=_):=lh HRB.out
   have HD:Hid (w7.drew.heap[bd]?=_):=lh HD.out
   have c0:w7.drew.cell? ⟨bd,0,none⟩=_:=c0
   have c1:w7.drew.cell? ⟨bd,1,none⟩=_:=c1
   have c3:w7.drew.cell? ⟨be,3,none⟩=_:=c3
   obtain ⟨w8,hw8⟩:∃ w8,w7.drew=w8:=⟨_,rfl⟩
   rw [hw8] at H1 K1 HBE HRB HD c0 c1 c3 ⊢
   clear hw8
   repeat((first|(refine wpX_silent ?_ fun K hK=>?_;rfl;apply Exists.intro;refine ⟨fun w'=>?_,?_⟩;go_simp;exact⟨rfl,rfl⟩)|(refine wpX_read ?_ fun K hK=>?_;rfl;apply Exists.intro;refine ⟨?_,?_⟩;go_simp;exact⟨rfl,rfl⟩)|(refine wpX_float ?_ fun K hK=>?_;rfl;apply Exists.intro;refine ⟨fun w' hw'=>?_,?_⟩;(try dsimp only at hw');go_simp;exact⟨rfl,rfl⟩)|(refine wpX_not ?_ fun K hK=>?_;rfl));go_simp;refine hK _ _ ?_;clear hK K)
   refine wpX_keeps ?_ (fun K hK=>?_)
   ·rfl
   go_wp2_with (fail)
   refine (kdf_tt lab t5 t1 H1.out HLAB.out).mono ?_
   rintro e9 w9 ⟨t6,s6,rfl,l6,hn⟩
   have HD:=lh (hn.blk HD.out NFD.out)
   have HBE:=lh (hn.blk HBE.out (NFX.out be (.inr rfl)))
   have HRB:=lh (hn.blk HRB.out (NFX.out br (.inl rfl)))
   have T6:=lh (TNX.glue B1.out K1.out hn)
   have L6:=lh l6
   clear hn l6 c0 c1 c3 H1 B1 K1
   have c0:=cellOf (j:=0) HD.out
   simp at c0
   go_simp
   refine hK _ _ ⟨rfl,c0,?_⟩
   clear hK K
   repeat((first|(refine wpX_silent ?_ fun K hK=>?_;rfl;apply Exists.intro;refine ⟨fun w'=>?_,?_⟩;go_simp;exact⟨rfl,rfl⟩)|(refine wpX_read ?_ fun K hK=>?_;rfl;apply Exists.intro;refine ⟨?_,?_⟩;go_simp;exact⟨rfl,rfl⟩)|(refine wpX_float ?_ fun K hK=>?_;rfl;apply Exists.intro;refine ⟨fun w' hw'=>?_,?_⟩;(try dsimp only at hw');go_simp;exact⟨rfl,rfl⟩)|(refine wpX_not ?_ fun K hK=>?_;rfl));go_simp;refine hK _ _ ?_;clear hK K)
   refine wpX_heavy ?_ (fun K hK=>?_)
   ·rfl
   have U:=lh (show Kept w9 (w9.setCell ⟨be,4+k,none⟩ (.int .i64 t6)) (fun k=>k=br∨k=be) from (Kept.refl w9 _).setCell (.inl (.inr rfl)) _)
   refine Codec.wp_store_cell 3 (.tmp 64) (.tmp 63) rfl be (4+k) (.int .i64 t6) rfl rfl rfl _ _ HBE.out (by rw [HE.out.1]; have:=HK9.out; omega) (by kernel_rfl) ?_
   go_simp
   refine hK _ _ ⟨rfl,?_⟩
   clear hK K
   refine wpX_nil (hQ' _ _ ?_)
   go_wp2
   go_roundw
   case rel=>
    have hk9:=HK9.out
    exact ⟨k+1,E.setIfInBounds (4+k) (.int .i64 t6),s6,by omega,by go_num,HE.out.set (by omega) L6.out,blk_set HBE.out _ _,blk_far HRB.out (p:=⟨be,4+k,none⟩) NBE.out _,T6.out.upd HX.out HB.out U.out⟩
   case measure=>have hk9:=HK9.out; simp [intOf]; omega
set_option maxHeartbeats 1600000 in
theorem next_any {w0 w:World} {p:Nat} {F:Nat→Prop} {s:TS} (i c sh cx:Nat) (h:SAt w0 w p F s) :
  Calls Tryz.prog 44 #[.pointer (some ⟨p,0,none⟩),.int .i64 i,.int .i64 c,.int .i64 sh,.int .i64 cx] w fun e w'=>∃ E s',e=.returned (.agg E)∧EpOk E∧TNext w0 w w' p F s':=by
 have kA:=(Kept.refl w (fun _=>False)).alloc (.cells #[.int .i64 0,.int .i64 0,.int .i64 0,.int .i64 0,.int .i64 0,.int .i64 0,.int .i64 0,.int .i64 0,.int .i64 0,.int .i64 0,.int .i64 0,.int .i64 0,.int .i64 0] 66)
 have N0:=lh (TNext.refl (h.kept kA))
 have HR0:=lh (heap_alloc_new w (.cells #[.int .i64 0,.int .i64 0,.int .i64 0,.int .i64 0,.int .i64 0,.int .i64 0,.int .i64 0,.int .i64 0,.int .i64 0,.int .i64 0,.int .i64 0,.int .i64 0,.int .i64 0] 66))
 have NF:=lh (show ¬ F w.heap.size from fun hf=>absurd (h.at_.lt _ hf) (Nat.lt_irrefl _))
 have KA:=lh kA
 have BS:=lh (show w0.heap.size≤w.heap.size from h.bel.size)
 obtain ⟨wA,hwA⟩:∃ wA,w.alloc (.cells #[.int .i64 0,.int .i64 0,.int .i64 0,.int .i64 0,.int .i64 0,.int .i64 0,.int .i64 0,.int .i64 0,.int .i64 0,.int .i64 0,.int .i64 0,.int .i64 0,.int .i64 0] 66)=wA:=⟨_,rfl⟩
 have HWA:=lh hwA
 rw [hwA] at N0 HR0 KA
 clear h kA hwA
 go_enter Tryz.func44,Tryz.ntmps44
 go_wp2_with (fail)
 rw [HWA.out]
 refine (N0.out.tt fun F1 h1=>kdf_tt ⟨#[106,111,105,110,101,114]⟩ i c h1 (by decide)).mono ?_
 rintro e1 w1 ⟨t1,s1,rfl,l1,hn⟩
 obtain ⟨F1,h1,b1,k1⟩:=hn
 have J:=lh (join_any t1 sh cx h1 l1)
 have HR1:=lh (k1.blk HR0.out NF.out)
 have B1:=lh b1
 have K1:=lh k1
 have AS:=lh (show w.heap.size < wA.heap.size from blk_lt HR0.out)
 clear h1 b1 k1 l1
 go_wp2_with (fail)
 refine J.out.mono ?_
 rintro e2 w2 ⟨E,s2,rfl,hE,hn⟩
 have HE:=lh hE
 have NF1:=lh (show ¬ F1 w.heap.size from fun hf=>by
  have:=AS.out
  rcases B1.out _ hf with h | h
  ·exact NF.out h
  ·omega)
 have HR:=lh (hn.blk HR1.out NF1.out)
 have N2:=lh (TNext.trans B1.out K1.out hn)
 have HI:=lh (show (Tryz.prog.info? 66).map (·.size)=some E.size by rw [hE.1]; kernel_rfl)
 clear hE hn J N0 HR0 HR1
 go_wp2_with (first | refine wpList_store_row rfl 66 (.tmp 10) (.tmp 18) rfl w.heap.size E rfl rfl _ _ HR.out HI.out (by rw [HE.out.1]; rfl) HE.out.all ?_)
 have hsr:=setRow_heap w2 w.heap.size _ E 66 (0,0) HR.out
 have kr:Kept w2 (w2.setRow w.heap.size E) (fun j=>j=w.heap.size):=⟨rfl,rfl,rfl,by simp,fun j _ hj=>setRow_other w2 w.heap.size j _ hj⟩
 refine bodyPost_ret (results_cell_row rfl _ _ _ _ _ _ _ rfl hsr Tryz.underlying66 rfl HI.out) rfl ?_
 refine ⟨E,s2,rfl,HE.out,?_⟩
 obtain ⟨F2,h2,b2,k2⟩:=N2.out
 have ha:=AS.out
 have hb:=BS.out
 refine ⟨F2,h2.keptG kr (fun k hf hk=>?_) (fun k hk=>by omega),fun k hk=>(b2 k hk).imp id (fun h=>by omega),((KA.out.mono (fun _ h=>h.elim)).trans k2 (fun k h=>.inl h)).trans kr (fun k hk=>.inr (by omega))⟩
 subst hk
 rcases b2 _ hf with h | h
 ·exact NF.out h
 ·omega
end Go.Proofs.YtogkkfdkeefjnaaGreatDoor.Term
namespace Go.Proofs.YtogkkfdkeefjnaaGreatDoor.Term
open Go.RowKit Go.Sort Go.Proofs.YtogkkfdkeefjnaaGreatDoorBase Go.Proofs.YtogkkfdkeefjnaaGreatDoorLex2 Go.Proofs.YtogkkfdkeefjnaaGreatDoor.Dec
open Go.Proofs.YtogkkfdkeefjnaaGreatDoor.Codec (setRow_new)
set_option linter.unusedVariables false
set_option maxRecDepth 100000
set_option linter.unusedSimpArgs false
def newCells (k cl sg:Int):Array Value:=#[.bool false,.int .i64 k,.int .i64 cl,.int .i64 sg,.int .i64 0,.slice none 0 0]
theorem wpList_store_cell {P:Program} {ops:Array Oper} {rest:List Oper} {o:Oper} {a:Act} {w:World} {Q:Exit→Act→World→Prop} (hgd:o.guard=none) (ty:TypeId) (x y:Operand) (ho:o.op=.store ty x y) (b j:Nat) (v:Value) (hx:a.eval x=.pointer (some ⟨b,j,none⟩)) (hy:a.eval y=v) (h1:v.oneCell'=true)
  (t:TypeId) (cs:Array Value) (hb:w.heap[b]?=some (.cells cs t (0,0))) (hj:j < cs.size) (hi:(P.info? ty).map (·.size)=some 1) (h:wpList P ops Q rest (a.put o.dst undef) (w.setCell ⟨b,j,none⟩ v)):wpList P ops Q (o :: rest) a w :=
 wpList_plain hgd fun _ hK=>Codec.wp_store_cell ty x y ho b j v hx hy h1 t cs hb hj hi (hK _ _ h)
set_option maxHeartbeats 1600000 in
theorem leaf_any (k cl sg:Int) (w:World):Calls Tryz.prog 72 #[.agg (newCells k cl sg)] w fun e w'=>e=.returned (.agg (vertCells k cl sg))∧Kept w w' (fun _=>False):=by
 have h0:=heap_alloc2_old w (.cells (newCells k cl sg) 117) (.cells #[.bool false,.int .i64 0,.int .i64 0,.int .i64 0,.int .i64 0,.slice none 0 0] 117)
 have hr:=heap_alloc2_new w (.cells (newCells k cl sg) 117) (.cells #[.bool false,.int .i64 0,.int .i64 0,.int .i64 0,.int .i64 0,.slice none 0 0] 117)
 have kk:=(((Kept.refl w (fun _=>False)).alloc (.cells (newCells k cl sg) 117)).alloc (.cells #[.bool false,.int .i64 0,.int .i64 0,.int .i64 0,.int .i64 0,.slice none 0 0] 117))
 obtain ⟨w1,hw1⟩:∃ w1,(w.alloc (.cells (newCells k cl sg) 117)).alloc (.cells #[.bool false,.int .i64 0,.int .i64 0,.int .i64 0,.int .i64 0,.slice none 0 0] 117)=w1:=⟨_,rfl⟩
 rw [hw1] at h0 hr kk
 have h1:=blk_set h0 0 (.bool true)
 have k1:=kk.setCell (p:=⟨w.heap.size,0,none⟩) (.inr (Nat.le_refl _)) (.bool true)
 have hr1:=blk_far hr (p:=⟨w.heap.size,0,none⟩) (by simp) (.bool true)
 obtain ⟨w2,hw2⟩:∃ w2,w1.setCell ⟨w.heap.size,0,none⟩ (.bool true)=w2:=⟨_,rfl⟩
 rw [hw2] at h1 k1 hr1
 have h2:=blk_set h1 5 (.slice none 0 0)
 have k2:=k1.setCell (p:=⟨w.heap.size,5,none⟩) (.inr (Nat.le_refl _)) (.slice none 0 0)
 have hr2:=blk_far hr1 (p:=⟨w.heap.size,5,none⟩) (by simp) (.slice none 0 0)
 obtain ⟨w3,hw3⟩:∃ w3,w2.setCell ⟨w.heap.size,5,none⟩ (.slice none 0 0)=w3:=⟨_,rfl⟩
 rw [hw3] at h2 k2 hr2
 have HW1:=lh hw1
 have HW2:=lh hw2
 have HW3:=lh hw3
 have H0:=lh h0
 have H1:=lh h1
 have H2:Hid (w3.heap[w.heap.size]?=some (.cells (vertCells k cl sg) 117 (0,0))):=lh h2
 have HR:=lh hr2
 have K2:=lh k2
 clear hw1 hw2 hw3 h0 h1 h2 hr hr1 hr2 kk k1 k2
 go_enter Tryz.func72,Tryz.ntmps72
 go_wp2_with (first|(rw [HW1.out]; refine wpList_store_cell rfl 4 (.tmp 3) (.const (.bool true)) rfl w.heap.size 0 (.bool true) rfl rfl rfl _ _ H0.out (by simp [newCells]) (by kernel_rfl) ?_; rw [HW2.out])|(refine wpList_store_cell rfl 22 (.tmp 4) (.const (.slice none 0 0)) rfl w.heap.size 5 (.slice none 0 0) rfl rfl rfl _ _ H1.out (by simp [newCells]) (by kernel_rfl) ?_; rw [HW3.out]) | refine wpList_load_row rfl 117 (.tmp 1) rfl w.heap.size rfl _ (vertCells k cl sg) _ _ H2.out Tryz.underlying117 rfl (by kernel_rfl) ?_|(refine wpList_store_row rfl 117 (.tmp 2) (.tmp 5) rfl (w.heap.size+1) (vertCells k cl sg) rfl rfl _ _ HR.out (by kernel_rfl) rfl (by simp [vertCells,Value.oneCell']) ?_; apply hold))
 unfold Hold
 rename_i K hK
 refine (show K _ _ from hK _ _ ?_)
 refine wp_ret ?_
 have hsr:=setRow_heap w3 (w.heap.size+1) _ (vertCells k cl sg) 117 (0,0) HR.out
 refine bodyPost_ret (results_cell_row rfl _ _ _ _ _ _ _ rfl hsr Tryz.underlying117 rfl (by kernel_rfl)) rfl ?_
 exact ⟨rfl,K2.out.trans (G:=fun j=>j=w.heap.size+1) ⟨rfl,rfl,rfl,by simp,fun j _ hj=>setRow_other w3 (w.heap.size+1) j _ hj⟩ (fun j h=>.inr (by omega))⟩
theorem treenew_any (k cl sg:Int) (w:World):Calls Tryz.prog 42 #[.agg (newCells k cl sg)] w fun e w'=>∃ bt,e=.returned (.slice (some ⟨bt,0,none⟩) 1 1)∧w'.heap[bt]?=some (.cells (vertCells k cl sg) 117 (0,0))∧w.heap.size≤bt∧Kept w w' (fun _=>False):=by
 have L:=fun v=>leaf_any k cl sg v
 have LL:=lh L
 clear L
 unfold newCells at LL ⊢
 go_enter Tryz.func42,Tryz.ntmps42
 go_wp2_with (fail)
 refine (LL.out _).mono ?_
 rintro e w1 ⟨rfl,hk⟩
 have K:=lh (((Kept.refl w (fun _=>False)).alloc (.cells #[.bool false,.int .i64 k,.int .i64 cl,.int .i64 sg,.int .i64 0,.slice none 0 0] 117)).trans hk (fun _ h=>h.elim))
 clear hk
 unfold vertCells
 go_wp2
 go_ret
 exact ⟨w1.heap.size,rfl,heap_alloc_new _ _,K.out.size,K.out.alloc _⟩
theorem mk_one (w:World):(Instr.makeSlice 22 (.int .i64 1) (.int .i64 1)).run Tryz.prog w=.ok (.slice (some ⟨w.heap.size,0,none⟩) 1 1) (w.alloc (.cells #[.int .i64 0] 3)):=by kernel_rfl
set_option maxHeartbeats 1600000 in
theorem ratnew_any (r:Int) (w:World):Calls Tryz.prog 80 #[.int .i64 1,.int .i64 r] w fun e w'=>∃ bn,e=.returned (.agg #[.int .i64 1,.slice (some ⟨bn,0,none⟩) 1 1,.slice none 0 0])∧w'.heap[bn]?=some (.cells #[.int .i64 r] 3 (0,0))∧w.heap.size≤bn∧Kept w w' (fun _=>False):=by
 have hmk:=@mk_one
 go_enter Tryz.func80,Tryz.ntmps80
 go_wp2_with (fail)
 refine bodyPost_ret (results_cell_row rfl _ _ _ _ _ _ _ rfl ((Below.heap_alloc _ _ _ (by simp; omega)).trans (heap_alloc2_old w _ _)) Tryz.underlying69 rfl (by kernel_rfl)) rfl ?_
 exact ⟨w.heap.size+1,rfl,(Below.heap_alloc _ _ _ (by simp)).trans (heap_alloc2_new w _ _),Nat.le_succ _,(((Kept.refl w (fun _=>False)).alloc _).alloc _).alloc _⟩
end Go.Proofs.YtogkkfdkeefjnaaGreatDoor.Term
