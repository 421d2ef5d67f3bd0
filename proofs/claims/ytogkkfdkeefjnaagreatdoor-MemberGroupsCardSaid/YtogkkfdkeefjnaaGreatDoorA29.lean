/-
  A group, founded, walked.
-/
import Derived.Test.YtogkkfdkeefjnaaGreatDoorA28
namespace Go.Proofs.YtogkkfdkeefjnaaGreatDoor.Term
open Go.RowKit Go.Sort Go.Proofs.YtogkkfdkeefjnaaGreatDoorBase Go.Proofs.YtogkkfdkeefjnaaGreatDoorLex2 Go.Proofs.YtogkkfdkeefjnaaGreatDoor.Dec
open Go.Proofs.YtogkkfdkeefjnaaGreatDoor.Codec (setRow_new)
set_option linter.unusedVariables false
set_option maxRecDepth 100000
set_option linter.unusedSimpArgs false
theorem TNext.callE {w0 w w1:World} {p:Nat} {F:Nat→Prop} {s:TS} {f:Nat} {args:Array Value} (hT:TNext w0 w w1 p F s) (hC:∀ F1,SAt w0 w1 p F1 s→Calls Tryz.prog f args w1 fun e w'=>∃ E s',e=.returned (.agg E)∧EpOk E∧TNext w0 w1 w' p F1 s') :
  Calls Tryz.prog f args w1 fun e w'=>∃ E s',e=.returned (.agg E)∧EpOk E∧TNext w0 w w' p F s':=by
 obtain ⟨F1,s1,b1,k1⟩:=hT
 refine (hC F1 s1).mono ?_
 rintro e w' ⟨E,s',rfl,hE,hn⟩
 exact ⟨E,s',rfl,hE,TNext.trans b1 k1 hn⟩
/-- An epoch's secrets by their names. -/
def EpB (e0 e1 e2 e3 e4 e5 e6 e7 e8 e9 e10 e11 e12:Nat):Prop:=e0≤262144∧e1≤262144∧e2≤262144∧e3≤262144∧e4≤262144∧e5≤262144∧e6≤262144∧e7≤262144∧e8≤262144∧e9≤262144∧e10≤262144∧e11≤262144∧e12≤262144
theorem EpOk.lit {E:Array Value} (h:EpOk E):∃ e0 e1 e2 e3 e4 e5 e6 e7 e8 e9 e10 e11 e12:Nat,E=#[.int .i64 e0,.int .i64 e1,.int .i64 e2,.int .i64 e3,.int .i64 e4,.int .i64 e5,.int .i64 e6,.int .i64 e7,.int .i64 e8,.int .i64 e9,.int .i64 e10,.int .i64 e11,.int .i64 e12]∧EpB e0 e1 e2 e3 e4 e5 e6 e7 e8 e9 e10 e11 e12:=by
 obtain ⟨e0,b0,h0⟩:=h.2 0 (by decide)
 obtain ⟨e1,b1,h1⟩:=h.2 1 (by decide)
 obtain ⟨e2,b2,h2⟩:=h.2 2 (by decide)
 obtain ⟨e3,b3,h3⟩:=h.2 3 (by decide)
 obtain ⟨e4,b4,h4⟩:=h.2 4 (by decide)
 obtain ⟨e5,b5,h5⟩:=h.2 5 (by decide)
 obtain ⟨e6,b6,h6⟩:=h.2 6 (by decide)
 obtain ⟨e7,b7,h7⟩:=h.2 7 (by decide)
 obtain ⟨e8,b8,h8⟩:=h.2 8 (by decide)
 obtain ⟨e9,b9,h9⟩:=h.2 9 (by decide)
 obtain ⟨e10,b10,h10⟩:=h.2 10 (by decide)
 obtain ⟨e11,b11,h11⟩:=h.2 11 (by decide)
 obtain ⟨e12,b12,h12⟩:=h.2 12 (by decide)
 refine ⟨e0,e1,e2,e3,e4,e5,e6,e7,e8,e9,e10,e11,e12,Array.ext_getElem? fun j=>?_,b0,b1,b2,b3,b4,b5,b6,b7,b8,b9,b10,b11,b12⟩
 match j with
 | 0=>rw [h0]; rfl
 | 1=>rw [h1]; rfl
 | 2=>rw [h2]; rfl
 | 3=>rw [h3]; rfl
 | 4=>rw [h4]; rfl
 | 5=>rw [h5]; rfl
 | 6=>rw [h6]; rfl
 | 7=>rw [h7]; rfl
 | 8=>rw [h8]; rfl
 | 9=>rw [h9]; rfl
 | 10=>rw [h10]; rfl
 | 11=>rw [h11]; rfl
 | 12=>rw [h12]; rfl
 | j+13=>rw [Array.getElem?_eq_none (by rw [h.1]; omega)]; rfl
/-- What a founder's call leaves. -/
structure Made (w0 w w':World) (p:Nat) (F:Nat→Prop) (id cl:Int) (cs:Array Value):Prop where
 it:∃ (bt bs bn k sg lf e0 e1 e2 e3 e4 e5 e6 e7 e8 e9 e10 e11 e12 cf t1 t2:Nat) (F':Nat→Prop) (s':TS),cs=foundCells id bt bs e0 e1 e2 e3 e4 e5 e6 e7 e8 e9 e10 e11 e12 cf t1 t2 bn∧EpB e0 e1 e2 e3 e4 e5 e6 e7 e8 e9 e10 e11 e12∧k≤262144∧sg≤262144∧lf≤262144∧cf≤262144∧t1≤262144∧t2≤262144 ∧
  SAt w0 w' p F' s'∧(∀ k,F' k→F k∨w.heap.size≤k)∧Kept w w' F ∧
  w'.heap[bt]?=some (.cells (vertCells k cl sg) 117 (0,0))∧w'.heap[bs]?=some (.cells #[.int .i64 0,.int .i64 lf] 124 (0,0))∧w'.heap[bn]?=some (.cells #[.int .i64 e6] 3 (0,0)) ∧
  w.heap.size≤bt∧w.heap.size≤bs∧w.heap.size≤bn∧¬ F' bt∧¬ F' bs∧¬ F' bn
set_option maxHeartbeats 12800000 in
theorem create_any {w0 w:World} {p:Nat} {F:Nat→Prop} {s:TS} (id cl sig now:Int) (A1 A2:Option Addr) (n1 c1 n2 c2:Nat) (h:SAt w0 w p F s) (hc:I64 cl) (hid:I64 id) :
  Calls Tryz.prog 23 #[.agg #[.pointer (some ⟨p,0,none⟩),.int .i64 cl,.int .i64 sig,.slice A1 n1 c1,.int .i64 now,.slice A2 n2 c2],.int .i64 id] w fun e w'=>∃ cs,e=.returned (.agg cs)∧Made w0 w w' p F id cl cs:=by
 have hx:=heap_alloc2_old w (.cells #[.pointer (some ⟨p,0,none⟩),.int .i64 cl,.int .i64 sig,.slice A1 n1 c1,.int .i64 now,.slice A2 n2 c2] 78) (.cells #[.int .i64 0,.int .i64 0,.int .i64 0,.slice none 0 0,.slice none 0 0,.int .i64 0,.int .i64 0,.int .i64 0,.int .i64 0,.int .i64 0,.int .i64 0,.int .i64 0,.int .i64 0,.int .i64 0,.int .i64 0,.int .i64 0,.int .i64 0,.int .i64 0,.int .i64 0,.int .i64 0,.int .i64 0,.int .i64 0,.slice none 0 0,.slice none 0 0,.slice none 0 0,.slice none 0 0,.bool false,.slice none 0 0,.pointer none] 75)
 have hr:=heap_alloc2_new w (.cells #[.pointer (some ⟨p,0,none⟩),.int .i64 cl,.int .i64 sig,.slice A1 n1 c1,.int .i64 now,.slice A2 n2 c2] 78) (.cells #[.int .i64 0,.int .i64 0,.int .i64 0,.slice none 0 0,.slice none 0 0,.int .i64 0,.int .i64 0,.int .i64 0,.int .i64 0,.int .i64 0,.int .i64 0,.int .i64 0,.int .i64 0,.int .i64 0,.int .i64 0,.int .i64 0,.int .i64 0,.int .i64 0,.int .i64 0,.int .i64 0,.int .i64 0,.int .i64 0,.slice none 0 0,.slice none 0 0,.slice none 0 0,.slice none 0 0,.bool false,.slice none 0 0,.pointer none] 75)
 have ka:=((Kept.refl w (fun _=>False)).alloc (.cells #[.pointer (some ⟨p,0,none⟩),.int .i64 cl,.int .i64 sig,.slice A1 n1 c1,.int .i64 now,.slice A2 n2 c2] 78)).alloc (.cells #[.int .i64 0,.int .i64 0,.int .i64 0,.slice none 0 0,.slice none 0 0,.int .i64 0,.int .i64 0,.int .i64 0,.int .i64 0,.int .i64 0,.int .i64 0,.int .i64 0,.int .i64 0,.int .i64 0,.int .i64 0,.int .i64 0,.int .i64 0,.int .i64 0,.int .i64 0,.int .i64 0,.int .i64 0,.int .i64 0,.slice none 0 0,.slice none 0 0,.slice none 0 0,.slice none 0 0,.bool false,.slice none 0 0,.pointer none] 75)
 have N:=lh (TNext.refl (h.kept ka))
 have NX:=lh (show ¬ F w.heap.size from fun hf=>absurd (h.at_.lt _ hf) (Nat.lt_irrefl _))
 have NR:=lh (show ¬ F (w.heap.size+1) from fun hf=>absurd (h.at_.lt _ hf) (by omega))
 have BS:=lh (show w0.heap.size≤w.heap.size from h.bel.size)
 obtain ⟨bx,hbx⟩:∃ bx,w.heap.size=bx:=⟨_,rfl⟩
 have HBX:=lh hbx
 obtain ⟨br,hbr⟩:∃ br,bx+1=br:=⟨_,rfl⟩
 have HBR:=lh hbr
 obtain ⟨wA,hwA⟩:∃ wA,(w.alloc (.cells #[.pointer (some ⟨p,0,none⟩),.int .i64 cl,.int .i64 sig,.slice A1 n1 c1,.int .i64 now,.slice A2 n2 c2] 78)).alloc (.cells #[.int .i64 0,.int .i64 0,.int .i64 0,.slice none 0 0,.slice none 0 0,.int .i64 0,.int .i64 0,.int .i64 0,.int .i64 0,.int .i64 0,.int .i64 0,.int .i64 0,.int .i64 0,.int .i64 0,.int .i64 0,.int .i64 0,.int .i64 0,.int .i64 0,.int .i64 0,.int .i64 0,.int .i64 0,.int .i64 0,.slice none 0 0,.slice none 0 0,.slice none 0 0,.slice none 0 0,.bool false,.slice none 0 0,.pointer none] 75)=wA:=⟨_,rfl⟩
 have HWA:=lh hwA
 rw [hwA] at hx hr N ka
 rw [hbx] at hr NR hx NX
 rw [hbr] at hr NR
 have HX:=lh hx
 have HR:=lh hr
 have KA:=lh ka
 have HC:=lh hc
 have HI:=lh hid
 have LR:=lh (blk_lt hr)
 have LX:=lh (blk_lt hx)
 have c0:=cellOf (j:=0) hx
 have c1:=cellOf (j:=1) hx
 have c2:=cellOf (j:=2) hx
 simp at c0 c1 c2
 clear h hc hid hx hr ka hbx hbr hwA
 go_enter Tryz.func23,Tryz.ntmps23
 go_wp2_with (fail)
 rw [HWA.out]
 rw [HBX.out]
 rw [HBR.out]
 refine (N.out.tt fun F1 h1=>fresh_tt h1).mono ?_
 rintro e x1 ⟨lf,s1,rfl,l1,hn⟩
 replace N:=lh hn
 have L1:=lh l1
 clear hn l1 c0
 go_wp2_with (fail)
 refine (N.out.tt fun F1 h1=>fresh_tt h1).mono ?_
 rintro e x2 ⟨ini,s2,rfl,l2,hn⟩
 replace N:=lh hn
 have c1:=cellOf (j:=1) (hn.blk HX.out NX.out)
 have c2:=cellOf (j:=2) (hn.blk HX.out NX.out)
 simp at c1 c2
 clear hn l2
 go_wp2
 refine wp_region_lex (fun w'=>w'.cell? ⟨bx,1,none⟩=some (.int .i64 cl)∧w'.cell? ⟨bx,2,none⟩=some (.int .i64 sig)) [0,0,2,0,3,0,0,3,2,4,4,0] (by kernel_rfl) (by kernel_rfl) (by kernel_rfl) (⟨c1,c2⟩) (fun Q' hQ'=>?_)
 simp only [List.zip_cons_cons,List.zip_nil_right]
 replace N:=lh N.out.drew
 replace c1:x2.drew.cell? ⟨bx,1,none⟩=_:=c1
 replace c2:x2.drew.cell? ⟨bx,2,none⟩=_:=c2
 obtain ⟨x3,hx3⟩:∃ x3,x2.drew=x3:=⟨_,rfl⟩
 rw [hx3] at N c1 c2 ⊢
 clear hx3
 repeat((first|(refine wpX_silent ?_ fun K hK=>?_;rfl;apply Exists.intro;refine ⟨fun w'=>?_,?_⟩;go_simp;exact⟨rfl,rfl⟩)|(refine wpX_read ?_ fun K hK=>?_;rfl;apply Exists.intro;refine ⟨?_,?_⟩;go_simp;exact⟨rfl,rfl⟩)|(refine wpX_float ?_ fun K hK=>?_;rfl;apply Exists.intro;refine ⟨fun w' hw'=>?_,?_⟩;(try dsimp only at hw');go_simp;exact⟨rfl,rfl⟩)|(refine wpX_not ?_ fun K hK=>?_;rfl));go_simp;refine hK _ _ ?_;clear hK K)
 refine wpX_keeps ?_ (fun K hK=>?_)
 ·rfl
 go_wp2_with (fail)
 refine (N.out.tt fun F1 h1=>pub_tt lf h1).mono ?_
 rintro e x4 ⟨k,s4,rfl,lk,hn⟩
 replace N:=lh hn
 have LK:=lh lk
 clear c1 c2
 have c1:=cellOf (j:=1) (hn.blk HX.out NX.out)
 have c2:=cellOf (j:=2) (hn.blk HX.out NX.out)
 simp at c1 c2
 clear hn lk
 go_simp
 refine hK _ _ ⟨rfl,⟨c1,c2⟩,?_⟩
 clear hK K
 repeat((first|(refine wpX_silent ?_ fun K hK=>?_;rfl;apply Exists.intro;refine ⟨fun w'=>?_,?_⟩;go_simp;exact⟨rfl,rfl⟩)|(refine wpX_read ?_ fun K hK=>?_;rfl;apply Exists.intro;refine ⟨?_,?_⟩;go_simp;exact⟨rfl,rfl⟩)|(refine wpX_float ?_ fun K hK=>?_;rfl;apply Exists.intro;refine ⟨fun w' hw'=>?_,?_⟩;(try dsimp only at hw');go_simp;exact⟨rfl,rfl⟩)|(refine wpX_not ?_ fun K hK=>?_;rfl));go_simp;refine hK _ _ ?_;clear hK K)
 refine wpX_keeps ?_ (fun K hK=>?_)
 ·rfl
 go_wp2_with (fail)
 refine (N.out.tt fun F1 h1=>pub_tt sig h1).mono ?_
 rintro e x5 ⟨sg,s5,rfl,lsg,hn⟩
 replace N:=lh hn
 have LSG:=lh lsg
 clear c1 c2
 have c1:=cellOf (j:=1) (hn.blk HX.out NX.out)
 have c2:=cellOf (j:=2) (hn.blk HX.out NX.out)
 simp at c1 c2
 clear hn lsg
 go_simp
 refine hK _ _ ⟨rfl,⟨c1,c2⟩,?_⟩
 clear hK K
 repeat((first|(refine wpX_silent ?_ fun K hK=>?_;rfl;apply Exists.intro;refine ⟨fun w'=>?_,?_⟩;go_simp;exact⟨rfl,rfl⟩)|(refine wpX_read ?_ fun K hK=>?_;rfl;apply Exists.intro;refine ⟨?_,?_⟩;go_simp;exact⟨rfl,rfl⟩)|(refine wpX_float ?_ fun K hK=>?_;rfl;apply Exists.intro;refine ⟨fun w' hw'=>?_,?_⟩;(try dsimp only at hw');go_simp;exact⟨rfl,rfl⟩)|(refine wpX_not ?_ fun K hK=>?_;rfl));go_simp;refine hK _ _ ?_;clear hK K)
 refine wpX_heavy ?_ (fun K hK=>?_)
 ·rfl
 clear c1 c2
 go_wp2
 repeat((first|(refine wpX_silent ?_ fun K hK=>?_;rfl;apply Exists.intro;refine ⟨fun w'=>?_,?_⟩;go_simp;exact⟨rfl,rfl⟩)|(refine wpX_read ?_ fun K hK=>?_;rfl;apply Exists.intro;refine ⟨?_,?_⟩;go_simp;exact⟨rfl,rfl⟩)|(refine wpX_float ?_ fun K hK=>?_;rfl;apply Exists.intro;refine ⟨fun w' hw'=>?_,?_⟩;(try dsimp only at hw');go_simp;exact⟨rfl,rfl⟩)|(refine wpX_not ?_ fun K hK=>?_;rfl));go_simp;refine hK _ _ ?_;clear hK K)
 refine wpX_heavy ?_ (fun K hK=>?_)
 ·rfl
 go_wp2_with (fail)
 refine (treenew_any k cl sg _).mono ?_
 rintro e x6 ⟨bt,rfl,hbt,hle,hk⟩
 obtain ⟨F1,h1,b1,k1⟩:=N.out
 have NT:=lh (show ¬ F1 bt from fun hf=>by have:=h1.at_.lt _ hf; omega)
 have HT:=lh hbt
 have B1:=lh b1
 have K1:=lh (k1.trans hk (fun _ h=>h.elim))
 have GT:=lh (Nat.le_trans (Nat.le_trans KA.out.size k1.size) hle)
 replace HR:=lh (hk.blk (k1.blk HR.out NR.out) (fun h=>h))
 replace NR:=lh (show ¬ F1 br from fun hf=>(b1 _ hf).elim NR.out (fun h=>by have:=LR.out; omega))
 replace N:=lh (TNext.refl (h1.kept hk))
 replace LR:=lh (blk_lt HR.out)
 have LT:=lh (blk_lt hbt)
 clear h1 b1 k1 hbt hle hk HX NX LX
 go_simp
 refine hK _ _ ⟨rfl,?_⟩
 clear hK K
 repeat((first|(refine wpX_silent ?_ fun K hK=>?_;rfl;apply Exists.intro;refine ⟨fun w'=>?_,?_⟩;go_simp;exact⟨rfl,rfl⟩)|(refine wpX_read ?_ fun K hK=>?_;rfl;apply Exists.intro;refine ⟨?_,?_⟩;go_simp;exact⟨rfl,rfl⟩)|(refine wpX_float ?_ fun K hK=>?_;rfl;apply Exists.intro;refine ⟨fun w' hw'=>?_,?_⟩;(try dsimp only at hw');go_simp;exact⟨rfl,rfl⟩)|(refine wpX_not ?_ fun K hK=>?_;rfl));go_simp;refine hK _ _ ?_;clear hK K)
 refine wpX_nil (hQ' _ _ ?_)
 clear hQ' Q'
 go_wp2_with (fail)
 refine (N.out.tt fun F1 h1=>text_tt ⟨#[]⟩ h1 (Nat.zero_le _)).mono ?_
 rintro e x7 ⟨cf,s7,rfl,lcf,hn⟩
 replace N:=lh hn
 have LCF:=lh lcf
 clear hn lcf
 go_wp2_with (fail)
 have HTN:=lh (N.out.blk HT.out NT.out)
 have HTM:=HTN
 refine (N.out.tt fun F1 h1=>tree_leaf bt k sg cl h1 HTN.out LK.out LSG.out HC.out).mono ?_
 rintro e x8 ⟨tt,s8,rfl,l8,hn⟩
 replace N:=lh hn
 clear hn l8 HTN HTM
 go_wp2_with (fail)
 refine (N.out.tt fun F1 h1=>context_tt id 0 tt cf h1 HI.out (by unfold I64; decide)).mono ?_
 rintro e x9 ⟨tc,s9,rfl,l9,hn⟩
 replace N:=lh hn
 clear hn l9
 go_wp2_with (fail)
 refine (N.out.callE fun F1 h1=>next_any ini cf cf tc h1).mono ?_
 rintro e x10 ⟨E,s10,rfl,hE,hn⟩
 obtain ⟨e0,e1,e2,e3,e4,e5,e6,e7,e8,e9,e10,e11,e12,rfl,hEB⟩:=hE.lit
 have EB:=lh hEB
 obtain ⟨F2,h2,b2,k2⟩:=hn
 obtain ⟨K9,H9⟩:=setRow_new (w:=x10) (Z:=#[.int .i64 0,.int .i64 0,.int .i64 0,.int .i64 0,.int .i64 0,.int .i64 0,.int .i64 0,.int .i64 0,.int .i64 0,.int .i64 0,.int .i64 0,.int .i64 0,.int .i64 0]) (cs:=#[.int .i64 e0,.int .i64 e1,.int .i64 e2,.int .i64 e3,.int .i64 e4,.int .i64 e5,.int .i64 e6,.int .i64 e7,.int .i64 e8,.int .i64 e9,.int .i64 e10,.int .i64 e11,.int .i64 e12]) (T:=66)
 have HZ:=lh (heap_alloc_new x10 (.cells #[.int .i64 0,.int .i64 0,.int .i64 0,.int .i64 0,.int .i64 0,.int .i64 0,.int .i64 0,.int .i64 0,.int .i64 0,.int .i64 0,.int .i64 0,.int .i64 0,.int .i64 0] 66))
 obtain ⟨xC,hxC⟩:∃ xC,(x10.alloc (.cells #[.int .i64 0,.int .i64 0,.int .i64 0,.int .i64 0,.int .i64 0,.int .i64 0,.int .i64 0,.int .i64 0,.int .i64 0,.int .i64 0,.int .i64 0,.int .i64 0,.int .i64 0] 66)).setRow x10.heap.size #[.int .i64 e0,.int .i64 e1,.int .i64 e2,.int .i64 e3,.int .i64 e4,.int .i64 e5,.int .i64 e6,.int .i64 e7,.int .i64 e8,.int .i64 e9,.int .i64 e10,.int .i64 e11,.int .i64 e12]=xC:=⟨_,rfl⟩
 have HXC:=lh hxC
 rw [hxC] at K9 H9
 have HE:=lh H9
 have NE:=lh (show ¬ F2 x10.heap.size from fun hf=>absurd (h2.at_.lt _ hf) (Nat.lt_irrefl _))
 have B2:=lh (show ∀ k,F2 k→F k∨wA.heap.size≤k from fun k hf=>(b2 k hf).elim (B1.out k) (fun h=>.inr (Nat.le_trans K1.out.size h)))
 have K2:=lh ((K1.out.trans k2 (fun k hf=>B1.out k hf)).trans K9 (fun _ h=>h.elim))
 replace HR:=lh (K9.blk (k2.blk HR.out NR.out) (fun h=>h))
 replace HT:=lh (K9.blk (k2.blk HT.out NT.out) (fun h=>h))
 replace NR:=lh (show ¬ F2 br from fun hf=>(b2 _ hf).elim NR.out (fun h=>by have:=LR.out; omega))
 replace NT:=lh (show ¬ F2 bt from fun hf=>(b2 _ hf).elim NT.out (fun h=>by have:=LT.out; omega))
 have H2:=lh (h2.kept K9)
 clear hE hEB h2 b2 k2 K9 H9 hxC N B1 K1
 go_wp2_with (first|(refine wpList_store_row rfl 66 (.tmp 10) (.tmp 41) rfl x10.heap.size #[.int .i64 e0,.int .i64 e1,.int .i64 e2,.int .i64 e3,.int .i64 e4,.int .i64 e5,.int .i64 e6,.int .i64 e7,.int .i64 e8,.int .i64 e9,.int .i64 e10,.int .i64 e11,.int .i64 e12] rfl rfl _ _ HZ.out (by kernel_rfl) rfl (by simp [Value.oneCell']) ?_; rw [HXC.out]; apply hold))
 unfold Hold
 obtain ⟨be,hbe⟩:∃ be,x10.heap.size=be:=⟨_,rfl⟩
 rw [hbe] at HE NE ⊢
 clear hbe HZ HXC
 go_wp2
 refine wp_region_tree (fun w'=>w'.heap[be]?=some (.cells #[.int .i64 e0,.int .i64 e1,.int .i64 e2,.int .i64 e3,.int .i64 e4,.int .i64 e5,.int .i64 e6,.int .i64 e7,.int .i64 e8,.int .i64 e9,.int .i64 e10,.int .i64 e11,.int .i64 e12] 66 (0,0))) [0,0,0,0,0,2,3,0,0,3,0,2,0,4,4] (ones [0,1,2,3,4,6,7,8,9,10] (.two 5 11 (ones [11,12,13,14] .nil) (ones [5,12,13,14] .nil))) (by kernel_rfl) (by kernel_rfl) (by kernel_rfl) HE.out (fun Q' hQ'=>?_)
 replace H2:Hid (SAt w0 xC.drew p F2 s10):=lh (H2.out.kept ((Kept.refl xC _).drew))
 replace HR:Hid (xC.drew.heap[br]?=_):=lh HR.out
 replace HT:Hid (xC.drew.heap[bt]?=_):=lh HT.out
 replace HE:Hid (xC.drew.heap[be]?=_):=lh HE.out
 replace K2:=lh K2.out.drew
 obtain ⟨y0,hy0⟩:∃ y0,xC.drew=y0:=⟨_,rfl⟩
 rw [hy0] at H2 HR HT HE K2 ⊢
 clear hy0
 have hcell:∀ (w':World) (j:Nat),w'.heap[be]?=some (.cells #[.int .i64 e0,.int .i64 e1,.int .i64 e2,.int .i64 e3,.int .i64 e4,.int .i64 e5,.int .i64 e6,.int .i64 e7,.int .i64 e8,.int .i64 e9,.int .i64 e10,.int .i64 e11,.int .i64 e12] 66 (0,0))→w'.cell? ⟨be,j,none⟩=#[.int .i64 e0,.int .i64 e1,.int .i64 e2,.int .i64 e3,.int .i64 e4,.int .i64 e5,.int .i64 e6,.int .i64 e7,.int .i64 e8,.int .i64 e9,.int .i64 e10,.int .i64 e11,.int .i64 e12][j]?:=fun w' j h=>cellOf h
 have d0:∀ w':World,w'.heap[be]?=some (.cells #[.int .i64 e0,.int .i64 e1,.int .i64 e2,.int .i64 e3,.int .i64 e4,.int .i64 e5,.int .i64 e6,.int .i64 e7,.int .i64 e8,.int .i64 e9,.int .i64 e10,.int .i64 e11,.int .i64 e12] 66 (0,0))→w'.cell? ⟨be,0,none⟩=some (.int .i64 e0):=fun w' h=>hcell w' 0 h
 have d1:∀ w':World,w'.heap[be]?=some (.cells #[.int .i64 e0,.int .i64 e1,.int .i64 e2,.int .i64 e3,.int .i64 e4,.int .i64 e5,.int .i64 e6,.int .i64 e7,.int .i64 e8,.int .i64 e9,.int .i64 e10,.int .i64 e11,.int .i64 e12] 66 (0,0))→w'.cell? ⟨be,1,none⟩=some (.int .i64 e1):=fun w' h=>hcell w' 1 h
 have d2:∀ w':World,w'.heap[be]?=some (.cells #[.int .i64 e0,.int .i64 e1,.int .i64 e2,.int .i64 e3,.int .i64 e4,.int .i64 e5,.int .i64 e6,.int .i64 e7,.int .i64 e8,.int .i64 e9,.int .i64 e10,.int .i64 e11,.int .i64 e12] 66 (0,0))→w'.cell? ⟨be,2,none⟩=some (.int .i64 e2):=fun w' h=>hcell w' 2 h
 have d3:∀ w':World,w'.heap[be]?=some (.cells #[.int .i64 e0,.int .i64 e1,.int .i64 e2,.int .i64 e3,.int .i64 e4,.int .i64 e5,.int .i64 e6,.int .i64 e7,.int .i64 e8,.int .i64 e9,.int .i64 e10,.int .i64 e11,.int .i64 e12] 66 (0,0))→w'.cell? ⟨be,3,none⟩=some (.int .i64 e3):=fun w' h=>hcell w' 3 h
 have d4:∀ w':World,w'.heap[be]?=some (.cells #[.int .i64 e0,.int .i64 e1,.int .i64 e2,.int .i64 e3,.int .i64 e4,.int .i64 e5,.int .i64 e6,.int .i64 e7,.int .i64 e8,.int .i64 e9,.int .i64 e10,.int .i64 e11,.int .i64 e12] 66 (0,0))→w'.cell? ⟨be,4,none⟩=some (.int .i64 e4):=fun w' h=>hcell w' 4 h
 have d5:∀ w':World,w'.heap[be]?=some (.cells #[.int .i64 e0,.int .i64 e1,.int .i64 e2,.int .i64 e3,.int .i64 e4,.int .i64 e5,.int .i64 e6,.int .i64 e7,.int .i64 e8,.int .i64 e9,.int .i64 e10,.int .i64 e11,.int .i64 e12] 66 (0,0))→w'.cell? ⟨be,5,none⟩=some (.int .i64 e5):=fun w' h=>hcell w' 5 h
 have d6:∀ w':World,w'.heap[be]?=some (.cells #[.int .i64 e0,.int .i64 e1,.int .i64 e2,.int .i64 e3,.int .i64 e4,.int .i64 e5,.int .i64 e6,.int .i64 e7,.int .i64 e8,.int .i64 e9,.int .i64 e10,.int .i64 e11,.int .i64 e12] 66 (0,0))→w'.cell? ⟨be,6,none⟩=some (.int .i64 e6):=fun w' h=>hcell w' 6 h
 have d7:∀ w':World,w'.heap[be]?=some (.cells #[.int .i64 e0,.int .i64 e1,.int .i64 e2,.int .i64 e3,.int .i64 e4,.int .i64 e5,.int .i64 e6,.int .i64 e7,.int .i64 e8,.int .i64 e9,.int .i64 e10,.int .i64 e11,.int .i64 e12] 66 (0,0))→w'.cell? ⟨be,7,none⟩=some (.int .i64 e7):=fun w' h=>hcell w' 7 h
 have d8:∀ w':World,w'.heap[be]?=some (.cells #[.int .i64 e0,.int .i64 e1,.int .i64 e2,.int .i64 e3,.int .i64 e4,.int .i64 e5,.int .i64 e6,.int .i64 e7,.int .i64 e8,.int .i64 e9,.int .i64 e10,.int .i64 e11,.int .i64 e12] 66 (0,0))→w'.cell? ⟨be,8,none⟩=some (.int .i64 e8):=fun w' h=>hcell w' 8 h
 have d9:∀ w':World,w'.heap[be]?=some (.cells #[.int .i64 e0,.int .i64 e1,.int .i64 e2,.int .i64 e3,.int .i64 e4,.int .i64 e5,.int .i64 e6,.int .i64 e7,.int .i64 e8,.int .i64 e9,.int .i64 e10,.int .i64 e11,.int .i64 e12] 66 (0,0))→w'.cell? ⟨be,9,none⟩=some (.int .i64 e9):=fun w' h=>hcell w' 9 h
 have d10:∀ w':World,w'.heap[be]?=some (.cells #[.int .i64 e0,.int .i64 e1,.int .i64 e2,.int .i64 e3,.int .i64 e4,.int .i64 e5,.int .i64 e6,.int .i64 e7,.int .i64 e8,.int .i64 e9,.int .i64 e10,.int .i64 e11,.int .i64 e12] 66 (0,0))→w'.cell? ⟨be,10,none⟩=some (.int .i64 e10):=fun w' h=>hcell w' 10 h
 have d11:∀ w':World,w'.heap[be]?=some (.cells #[.int .i64 e0,.int .i64 e1,.int .i64 e2,.int .i64 e3,.int .i64 e4,.int .i64 e5,.int .i64 e6,.int .i64 e7,.int .i64 e8,.int .i64 e9,.int .i64 e10,.int .i64 e11,.int .i64 e12] 66 (0,0))→w'.cell? ⟨be,11,none⟩=some (.int .i64 e11):=fun w' h=>hcell w' 11 h
 have d12:∀ w':World,w'.heap[be]?=some (.cells #[.int .i64 e0,.int .i64 e1,.int .i64 e2,.int .i64 e3,.int .i64 e4,.int .i64 e5,.int .i64 e6,.int .i64 e7,.int .i64 e8,.int .i64 e9,.int .i64 e10,.int .i64 e11,.int .i64 e12] 66 (0,0))→w'.cell? ⟨be,12,none⟩=some (.int .i64 e12):=fun w' h=>hcell w' 12 h
 clear hcell
 refine wpT_ones rfl [0,1,2,3,4,6,7,8,9,10] _ _ (by rfl) ?_
 simp only [pick,List.zip_cons_cons,List.zip_nil_right,List.filterMap_cons,List.filterMap_nil,List.getElem?_cons_zero,List.getElem?_cons_succ]
 repeat((first|(refine wpX_silent ?_ fun K hK=>?_;rfl;apply Exists.intro;refine ⟨fun w'=>?_,?_⟩;go_simp;exact⟨rfl,rfl⟩)|(refine wpX_read ?_ fun K hK=>?_;rfl;apply Exists.intro;refine ⟨?_,?_⟩;go_simp;exact⟨rfl,rfl⟩)|(refine wpX_float ?_ fun K hK=>?_;rfl;apply Exists.intro;refine ⟨fun w' hw'=>?_,?_⟩;(try dsimp only at hw');go_simp;exact⟨rfl,rfl⟩)|(refine wpX_not ?_ fun K hK=>?_;rfl));go_simp;refine hK _ _ ?_;clear hK K)
 refine wpX_nil ?_
 clear d0 d1 d2 d3 d4 d5 d6 d7 d8 d9 d10 d11 d12
 refine wpT_two rfl (by rfl) (by rfl) ?_ ?_
 ·simp only [pick,List.zip_cons_cons,List.zip_nil_right,List.filterMap_cons,List.filterMap_nil,List.getElem?_cons_zero,List.getElem?_cons_succ]
  refine wpX_keeps ?_ (fun K hK=>?_)
  ·rfl
  have ky:=(Kept.refl y0 (fun _=>False)).alloc (.cells #[.int .i64 0,.int .i64 lf] 124)
  have hq0:=heap_alloc_new y0 (.cells #[.int .i64 0,.int .i64 lf] 124)
  have NB:=lh (show ¬ F2 y0.heap.size from fun hf=>absurd (H2.out.at_.lt _ hf) (Nat.lt_irrefl _))
  have GB:=lh (show w.heap.size≤y0.heap.size from Nat.le_trans KA.out.size K2.out.size)
  replace HE:=kb ky HE
  replace HR:=kb ky HR
  replace HT:=kb ky HT
  replace H2:=lh (H2.out.kept ky)
  replace K2:=kt K2 ky
  have HB:=lh hq0
  clear ky hq0
  go_wp2
  obtain ⟨bs,hq⟩:∃ bs,y0.heap.size=bs:=⟨_,rfl⟩
  obtain ⟨y9,hy⟩:∃ y9,y0.alloc (.cells #[.int .i64 0,.int .i64 lf] 124)=y9:=⟨_,rfl⟩
  rw [hy] at HE HR HT HB H2 K2 ⊢
  rw [hq] at HB NB GB ⊢
  clear hq hy
  refine ⟨HE.out,?_⟩
  replace NE:=NE
  refine wpX_keeps ?_ (fun K hK=>?_)
  ·rfl
  go_wp2_with (fail)
  refine (confirmation_tt #[.int .i64 e0,.int .i64 e1,.int .i64 e2,.int .i64 e3,.int .i64 e4,.int .i64 e5,.int .i64 e6,.int .i64 e7,.int .i64 e8,.int .i64 e9,.int .i64 e10,.int .i64 e11,.int .i64 e12] e9 cf H2.out rfl rfl).mono ?_
  rintro e y5 ⟨co,s11,rfl,lco,F3,h3,b3,k3⟩
  have H3:=lh h3
  have B3:=lh (show ∀ k,F3 k→F k∨wA.heap.size≤k from fun k hf=>(b3 k hf).elim (B2.out k) (fun h=>.inr (Nat.le_trans K2.out.size h)))
  have K3:=lh (K2.out.trans k3 (fun k hf=>B2.out k hf))
  have ltR:=blk_lt HR.out
  have ltT:=blk_lt HT.out
  replace HE:=lh (k3.blk HE.out NE.out)
  replace HR:=lh (k3.blk HR.out NR.out)
  replace HT:=lh (k3.blk HT.out NT.out)
  replace NR:=lh (show ¬ F3 br from fun hf=>(b3 _ hf).elim NR.out (fun h=>by omega))
  replace NT:=lh (show ¬ F3 bt from fun hf=>(b3 _ hf).elim NT.out (fun h=>by omega))
  have ltB:=blk_lt HB.out
  replace HB:=lh (k3.blk HB.out NB.out)
  replace NB:=lh (show ¬ F3 bs from fun hf=>(b3 _ hf).elim NB.out (fun h=>by omega))
  clear ltB
  clear h3 b3 k3 lco ltR ltT
  go_simp
  refine hK _ _ ⟨rfl,HE.out,?_⟩
  clear hK K
  repeat((first|(refine wpX_silent ?_ fun K hK=>?_;rfl;apply Exists.intro;refine ⟨fun w'=>?_,?_⟩;go_simp;exact⟨rfl,rfl⟩)|(refine wpX_read ?_ fun K hK=>?_;rfl;apply Exists.intro;refine ⟨?_,?_⟩;go_simp;exact⟨rfl,rfl⟩)|(refine wpX_float ?_ fun K hK=>?_;rfl;apply Exists.intro;refine ⟨fun w' hw'=>?_,?_⟩;(try dsimp only at hw');go_simp;exact⟨rfl,rfl⟩)|(refine wpX_not ?_ fun K hK=>?_;rfl));go_simp;refine hK _ _ ?_;clear hK K)
  refine wpX_heavy ?_ (fun K hK=>?_)
  ·rfl
  go_wp2_with (fail)
  refine (found_any id bt k sg cl bs e0 e1 e2 e3 e4 e5 e6 e7 e8 e9 e10 e11 e12 cf co H3.out HT.out NT.out LK.out LSG.out HC.out HI.out).mono ?_
  rintro e y6 ⟨t1,t2,bn,s12,rfl,lt1,lt2,hbn,gbn,F4,h4,b4,k4,nbn⟩
  have neT:Hid (br≠bt):=lh (by
   rintro rfl
   have h1:=HR.out
   rw [HT.out] at h1
   simp at h1)
  have neB:Hid (br≠bs):=lh (by
   rintro rfl
   have h1:=HR.out
   rw [HB.out] at h1
   simp at h1)
  have ltR:=blk_lt HR.out
  have ltT:=blk_lt HT.out
  have ltB:=blk_lt HB.out
  have hr6:=k4.blk HR.out NR.out
  have neN:Hid (br≠bn):=lh (by
   rintro rfl
   rw [hbn] at hr6
   simp at hr6)
  have ht6:=k4.blk HT.out NT.out
  have hb6:=k4.blk HB.out NB.out
  have nr4:¬ F4 br:=fun hf=>(b4 _ hf).elim NR.out (fun h=>by omega)
  have nt4:¬ F4 bt:=fun hf=>(b4 _ hf).elim NT.out (fun h=>by omega)
  have nb4:¬ F4 bs:=fun hf=>(b4 _ hf).elim NB.out (fun h=>by omega)
  have k6:=K3.out.trans k4 (fun k hf=>B3.out k hf)
  have b6:∀ k,F4 k→F k∨wA.heap.size≤k:=fun k hf=>(b4 k hf).elim (B3.out k) (fun h=>.inr (Nat.le_trans K3.out.size h))
  have gn:w.heap.size≤bn:=Nat.le_trans (Nat.le_trans KA.out.size K3.out.size) gbn
  have hsr:=setRow_heap y6 br _ (foundCells id bt bs e0 e1 e2 e3 e4 e5 e6 e7 e8 e9 e10 e11 e12 cf t1 t2 bn) 75 (0,0) hr6
  have kr:Kept y6 (y6.setRow br (foundCells id bt bs e0 e1 e2 e3 e4 e5 e6 e7 e8 e9 e10 e11 e12 cf t1 t2 bn)) (fun j=>j=br):=⟨rfl,rfl,rfl,by simp,fun j _ hj=>setRow_other y6 br j _ hj⟩
  have bs0:=BS.out
  have hx0:=HBX.out
  have hr0:=HBR.out
  have MADE:=lh (show Made w0 w (y6.setRow br (foundCells id bt bs e0 e1 e2 e3 e4 e5 e6 e7 e8 e9 e10 e11 e12 cf t1 t2 bn)) p F id cl (foundCells id bt bs e0 e1 e2 e3 e4 e5 e6 e7 e8 e9 e10 e11 e12 cf t1 t2 bn) from
   ⟨bt,bs,bn,k,sg,lf,e0,e1,e2,e3,e4,e5,e6,e7,e8,e9,e10,e11,e12,cf,t1,t2,F4,s12,rfl,EB.out,LK.out,LSG.out,L1.out,LCF.out,lt1,lt2,
    h4.keptG kr (fun k hf hk=>nr4 (hk ▸ hf)) (fun k hk=>by omega),fun k hf=>(b6 k hf).imp (fun h=>h) (fun h=>Nat.le_trans KA.out.size h),(((KA.out.mono (fun _ h=>h.elim)).trans k6 (fun k h=>.inl h)).trans kr (fun k hk=>.inr (by omega))),
    kr.blk ht6 (fun h=>neT.out h.symm),kr.blk hb6 (fun h=>neB.out h.symm),kr.blk hbn (fun h=>neN.out h.symm),GT.out,GB.out,gn,nt4,nb4,nbn⟩)
  have HR6:=lh hr6
  have HSR:=lh hsr
  clear hbn gbn h4 b4 k4 nbn lt1 lt2 ltR ltT ltB hr6 ht6 hb6 nr4 nt4 nb4 k6 b6 gn hsr kr bs0 hx0 hr0
  go_simp
  refine hK _ _ ⟨rfl,?_⟩
  clear hK K
  repeat((first|(refine wpX_silent ?_ fun K hK=>?_;rfl;apply Exists.intro;refine ⟨fun w'=>?_,?_⟩;go_simp;exact⟨rfl,rfl⟩)|(refine wpX_read ?_ fun K hK=>?_;rfl;apply Exists.intro;refine ⟨?_,?_⟩;go_simp;exact⟨rfl,rfl⟩)|(refine wpX_float ?_ fun K hK=>?_;rfl;apply Exists.intro;refine ⟨fun w' hw'=>?_,?_⟩;(try dsimp only at hw');go_simp;exact⟨rfl,rfl⟩)|(refine wpX_not ?_ fun K hK=>?_;rfl));go_simp;refine hK _ _ ?_;clear hK K)
  refine wpX_heavy ?_ (fun K hK=>?_)
  ·rfl
  refine wp_store_row 75 (.tmp 4) (.tmp 55) rfl br (foundCells id bt bs e0 e1 e2 e3 e4 e5 e6 e7 e8 e9 e10 e11 e12 cf t1 t2 bn) rfl rfl _ _ HR6.out (by kernel_rfl) rfl (by simp [foundCells,Value.oneCell']) ?_
  go_simp
  refine hK _ _ ⟨rfl,?_⟩
  clear hK K
  refine wpX_nil (hQ' _ _ ?_)
  obtain ⟨y7,hy7⟩:∃ y7,y6.setRow br (foundCells id bt bs e0 e1 e2 e3 e4 e5 e6 e7 e8 e9 e10 e11 e12 cf t1 t2 bn)=y7:=⟨_,rfl⟩
  rw [hy7] at MADE HSR ⊢
  clear hy7
  go_wp2
  refine bodyPost_ret (results_cell_row rfl _ _ _ _ _ _ _ rfl HSR.out Tryz.underlying75 rfl (by kernel_rfl)) rfl ?_
  exact ⟨_,rfl,MADE.out⟩
 ·simp only [pick,List.zip_cons_cons,List.zip_nil_right,List.filterMap_cons,List.filterMap_nil,List.getElem?_cons_zero,List.getElem?_cons_succ]
  refine wpX_keeps ?_ (fun K hK=>?_)
  ·rfl
  go_wp2_with (fail)
  refine (confirmation_tt #[.int .i64 e0,.int .i64 e1,.int .i64 e2,.int .i64 e3,.int .i64 e4,.int .i64 e5,.int .i64 e6,.int .i64 e7,.int .i64 e8,.int .i64 e9,.int .i64 e10,.int .i64 e11,.int .i64 e12] e9 cf H2.out rfl rfl).mono ?_
  rintro e y5 ⟨co,s11,rfl,lco,F3,h3,b3,k3⟩
  have H3:=lh h3
  have B3:=lh (show ∀ k,F3 k→F k∨wA.heap.size≤k from fun k hf=>(b3 k hf).elim (B2.out k) (fun h=>.inr (Nat.le_trans K2.out.size h)))
  have K3:=lh (K2.out.trans k3 (fun k hf=>B2.out k hf))
  have ltR:=blk_lt HR.out
  have ltT:=blk_lt HT.out
  replace HE:=lh (k3.blk HE.out NE.out)
  replace HR:=lh (k3.blk HR.out NR.out)
  replace HT:=lh (k3.blk HT.out NT.out)
  replace NR:=lh (show ¬ F3 br from fun hf=>(b3 _ hf).elim NR.out (fun h=>by omega))
  replace NT:=lh (show ¬ F3 bt from fun hf=>(b3 _ hf).elim NT.out (fun h=>by omega))
  clear h3 b3 k3 lco ltR ltT
  go_simp
  refine hK _ _ ⟨rfl,HE.out,?_⟩
  clear hK K
  refine wpX_keeps ?_ (fun K hK=>?_)
  ·rfl
  have ky:=(Kept.refl y5 (fun _=>False)).alloc (.cells #[.int .i64 0,.int .i64 lf] 124)
  have hq0:=heap_alloc_new y5 (.cells #[.int .i64 0,.int .i64 lf] 124)
  have NB:=lh (show ¬ F3 y5.heap.size from fun hf=>absurd (H3.out.at_.lt _ hf) (Nat.lt_irrefl _))
  have GB:=lh (show w.heap.size≤y5.heap.size from Nat.le_trans KA.out.size K3.out.size)
  replace HE:=kb ky HE
  replace HR:=kb ky HR
  replace HT:=kb ky HT
  replace H3:=lh (H3.out.kept ky)
  replace K3:=kt K3 ky
  have HB:=lh hq0
  clear ky hq0
  go_wp2
  obtain ⟨bs,hq⟩:∃ bs,y5.heap.size=bs:=⟨_,rfl⟩
  obtain ⟨y9,hy⟩:∃ y9,y5.alloc (.cells #[.int .i64 0,.int .i64 lf] 124)=y9:=⟨_,rfl⟩
  rw [hy] at HE HR HT HB H3 K3 ⊢
  rw [hq] at HB NB GB ⊢
  clear hq hy
  refine ⟨HE.out,?_⟩
  repeat((first|(refine wpX_silent ?_ fun K hK=>?_;rfl;apply Exists.intro;refine ⟨fun w'=>?_,?_⟩;go_simp;exact⟨rfl,rfl⟩)|(refine wpX_read ?_ fun K hK=>?_;rfl;apply Exists.intro;refine ⟨?_,?_⟩;go_simp;exact⟨rfl,rfl⟩)|(refine wpX_float ?_ fun K hK=>?_;rfl;apply Exists.intro;refine ⟨fun w' hw'=>?_,?_⟩;(try dsimp only at hw');go_simp;exact⟨rfl,rfl⟩)|(refine wpX_not ?_ fun K hK=>?_;rfl));go_simp;refine hK _ _ ?_;clear hK K)
  refine wpX_heavy ?_ (fun K hK=>?_)
  ·rfl
  go_wp2_with (fail)
  refine (found_any id bt k sg cl bs e0 e1 e2 e3 e4 e5 e6 e7 e8 e9 e10 e11 e12 cf co H3.out HT.out NT.out LK.out LSG.out HC.out HI.out).mono ?_
  rintro e y6 ⟨t1,t2,bn,s12,rfl,lt1,lt2,hbn,gbn,F4,h4,b4,k4,nbn⟩
  have neT:Hid (br≠bt):=lh (by
   rintro rfl
   have h1:=HR.out
   rw [HT.out] at h1
   simp at h1)
  have neB:Hid (br≠bs):=lh (by
   rintro rfl
   have h1:=HR.out
   rw [HB.out] at h1
   simp at h1)
  have ltR:=blk_lt HR.out
  have ltT:=blk_lt HT.out
  have ltB:=blk_lt HB.out
  have hr6:=k4.blk HR.out NR.out
  have neN:Hid (br≠bn):=lh (by
   rintro rfl
   rw [hbn] at hr6
   simp at hr6)
  have ht6:=k4.blk HT.out NT.out
  have hb6:=k4.blk HB.out NB.out
  have nr4:¬ F4 br:=fun hf=>(b4 _ hf).elim NR.out (fun h=>by omega)
  have nt4:¬ F4 bt:=fun hf=>(b4 _ hf).elim NT.out (fun h=>by omega)
  have nb4:¬ F4 bs:=fun hf=>(b4 _ hf).elim NB.out (fun h=>by omega)
  have k6:=K3.out.trans k4 (fun k hf=>B3.out k hf)
  have b6:∀ k,F4 k→F k∨wA.heap.size≤k:=fun k hf=>(b4 k hf).elim (B3.out k) (fun h=>.inr (Nat.le_trans K3.out.size h))
  have gn:w.heap.size≤bn:=Nat.le_trans (Nat.le_trans KA.out.size K3.out.size) gbn
  have hsr:=setRow_heap y6 br _ (foundCells id bt bs e0 e1 e2 e3 e4 e5 e6 e7 e8 e9 e10 e11 e12 cf t1 t2 bn) 75 (0,0) hr6
  have kr:Kept y6 (y6.setRow br (foundCells id bt bs e0 e1 e2 e3 e4 e5 e6 e7 e8 e9 e10 e11 e12 cf t1 t2 bn)) (fun j=>j=br):=⟨rfl,rfl,rfl,by simp,fun j _ hj=>setRow_other y6 br j _ hj⟩
  have bs0:=BS.out
  have hx0:=HBX.out
  have hr0:=HBR.out
  have MADE:=lh (show Made w0 w (y6.setRow br (foundCells id bt bs e0 e1 e2 e3 e4 e5 e6 e7 e8 e9 e10 e11 e12 cf t1 t2 bn)) p F id cl (foundCells id bt bs e0 e1 e2 e3 e4 e5 e6 e7 e8 e9 e10 e11 e12 cf t1 t2 bn) from
   ⟨bt,bs,bn,k,sg,lf,e0,e1,e2,e3,e4,e5,e6,e7,e8,e9,e10,e11,e12,cf,t1,t2,F4,s12,rfl,EB.out,LK.out,LSG.out,L1.out,LCF.out,lt1,lt2,
    h4.keptG kr (fun k hf hk=>nr4 (hk ▸ hf)) (fun k hk=>by omega),fun k hf=>(b6 k hf).imp (fun h=>h) (fun h=>Nat.le_trans KA.out.size h),(((KA.out.mono (fun _ h=>h.elim)).trans k6 (fun k h=>.inl h)).trans kr (fun k hk=>.inr (by omega))),
    kr.blk ht6 (fun h=>neT.out h.symm),kr.blk hb6 (fun h=>neB.out h.symm),kr.blk hbn (fun h=>neN.out h.symm),GT.out,GB.out,gn,nt4,nb4,nbn⟩)
  have HR6:=lh hr6
  have HSR:=lh hsr
  clear hbn gbn h4 b4 k4 nbn lt1 lt2 ltR ltT ltB hr6 ht6 hb6 nr4 nt4 nb4 k6 b6 gn hsr kr bs0 hx0 hr0
  go_simp
  refine hK _ _ ⟨rfl,?_⟩
  clear hK K
  repeat((first|(refine wpX_silent ?_ fun K hK=>?_;rfl;apply Exists.intro;refine ⟨fun w'=>?_,?_⟩;go_simp;exact⟨rfl,rfl⟩)|(refine wpX_read ?_ fun K hK=>?_;rfl;apply Exists.intro;refine ⟨?_,?_⟩;go_simp;exact⟨rfl,rfl⟩)|(refine wpX_float ?_ fun K hK=>?_;rfl;apply Exists.intro;refine ⟨fun w' hw'=>?_,?_⟩;(try dsimp only at hw');go_simp;exact⟨rfl,rfl⟩)|(refine wpX_not ?_ fun K hK=>?_;rfl));go_simp;refine hK _ _ ?_;clear hK K)
  refine wpX_heavy ?_ (fun K hK=>?_)
  ·rfl
  refine wp_store_row 75 (.tmp 4) (.tmp 55) rfl br (foundCells id bt bs e0 e1 e2 e3 e4 e5 e6 e7 e8 e9 e10 e11 e12 cf t1 t2 bn) rfl rfl _ _ HR6.out (by kernel_rfl) rfl (by simp [foundCells,Value.oneCell']) ?_
  go_simp
  refine hK _ _ ⟨rfl,?_⟩
  clear hK K
  refine wpX_nil (hQ' _ _ ?_)
  obtain ⟨y7,hy7⟩:∃ y7,y6.setRow br (foundCells id bt bs e0 e1 e2 e3 e4 e5 e6 e7 e8 e9 e10 e11 e12 cf t1 t2 bn)=y7:=⟨_,rfl⟩
  rw [hy7] at MADE HSR ⊢
  clear hy7
  go_wp2
  refine bodyPost_ret (results_cell_row rfl _ _ _ _ _ _ _ rfl HSR.out Tryz.underlying75 rfl (by kernel_rfl)) rfl ?_
  exact ⟨_,rfl,MADE.out⟩
end Go.Proofs.YtogkkfdkeefjnaaGreatDoor.Term
