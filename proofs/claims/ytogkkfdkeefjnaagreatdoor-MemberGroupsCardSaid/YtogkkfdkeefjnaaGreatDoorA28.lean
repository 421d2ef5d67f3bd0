/-
  A group's state, founded, walked.
-/
import Derived.Test.YtogkkfdkeefjnaaGreatDoorA27
import Derived.Test.YtogkkfdkeefjnaaGreatDoorA22
namespace Go.Proofs.YtogkkfdkeefjnaaGreatDoor.Term
open Go.RowKit Go.Sort Go.Proofs.YtogkkfdkeefjnaaGreatDoorBase Go.Proofs.YtogkkfdkeefjnaaGreatDoorLex2 Go.Proofs.YtogkkfdkeefjnaaGreatDoor.Dec
open Go.Proofs.YtogkkfdkeefjnaaGreatDoor.Codec (setRow_new)
set_option linter.unusedVariables false
set_option maxRecDepth 100000
set_option linter.unusedSimpArgs false
def factCells (id:Int) (bt bs:Nat) (e0 e1 e2 e3 e4 e5 e6 e7 e8 e9 e10 e11 e12:Nat) (cf co:Nat):Array Value:=#[.int .i64 id,.int .i64 0,.int .i64 0,.slice (some ⟨bt,0,none⟩) 1 1,.slice (some ⟨bs,0,none⟩) 1 1,.int .i64 e0,.int .i64 e1,.int .i64 e2,.int .i64 e3,.int .i64 e4,.int .i64 e5,.int .i64 e6,.int .i64 e7,.int .i64 e8,.int .i64 e9,.int .i64 e10,.int .i64 e11,.int .i64 e12,.int .i64 cf,.int .i64 co,.bool false]
/-- A state's cells, as they are built. -/
def madeCells (id:Int) (bt bs:Nat) (e0 e1 e2 e3 e4 e5 e6 e7 e8 e9 e10 e11 e12:Nat) (cf t1 t2 bn:Nat):Array Value:=#[.int .i64 id,.int .i64 0,.int .i64 0,.slice (some ⟨bt,0,none⟩) 1 1,.slice (some ⟨bs,0,none⟩) 1 1,.int .i64 e0,.int .i64 e1,.int .i64 e2,.int .i64 e3,.int .i64 e4,.int .i64 e5,.int .i64 e6,.int .i64 e7,.int .i64 e8,.int .i64 e9,.int .i64 e10,.int .i64 e11,.int .i64 e12,.int .i64 cf,.int .i64 t1,.int .i64 t2,.int .i64 1,.slice (some ⟨bn,0,none⟩) 1 1,.slice none 0 0,.slice none 0 0,.slice none 0 0,.bool false,.slice none 0 0,.pointer none]
/-- A state's cells. -/
def foundCells (id:Int) (bt bs:Nat) (e0 e1 e2 e3 e4 e5 e6 e7 e8 e9 e10 e11 e12:Nat) (cf t1 t2 bn:Nat):Array Value:=#[.int .i64 id,.int .i64 0,.int .i64 0,.slice (some ⟨bt,0,none⟩) 1 1,.slice (some ⟨bs,0,none⟩) 1 1,.int .i64 0,.int .i64 0,.int .i64 0,.int .i64 0,.int .i64 e4,.int .i64 e5,.int .i64 0,.int .i64 e7,.int .i64 e8,.int .i64 e9,.int .i64 e10,.int .i64 e11,.int .i64 e12,.int .i64 cf,.int .i64 t1,.int .i64 t2,.int .i64 1,.slice (some ⟨bn,0,none⟩) 1 1,.slice none 0 0,.slice none 0 0,.slice none 0 0,.bool false,.slice none 0 0,.pointer none]
theorem found_end {w0 w x0 x u:World} {p q br:Nat} {F F2:Nat→Prop} {s:TS} (KA:Kept w x0 (fun _=>False)) (H2:SAt w0 x p F2 s) (B2:∀ k,F2 k→F k∨x0.heap.size≤k) (K2:Kept x0 x F) (ku:Kept x u (fun k=>k=q∨k=br)) (hq:w.heap.size≤q) (hr:w.heap.size≤br) (nq:¬ F2 q) (nr:¬ F2 br) (hw:w0.heap.size≤w.heap.size) :
  ∃ F',SAt w0 u p F' s∧(∀ k,F' k→F k∨w.heap.size≤k)∧Kept w u F∧∀ k,F' k→F2 k:=by
 refine ⟨F2,H2.keptG ku (fun k hf hk=>?_) (fun k hk=>?_),fun k hf=>(B2 k hf).imp id (fun h=>Nat.le_trans KA.size h),((KA.mono (fun _ h=>h.elim)).trans K2 (fun k h=>.inl h)).trans ku (fun k hk=>.inr ?_),fun k h=>h⟩
 ·rcases hk with rfl | rfl
  ·exact nq hf
  ·exact nr hf
 ·rcases hk with rfl | rfl <;> omega
 ·rcases hk with rfl | rfl <;> assumption
set_option maxHeartbeats 12800000 in
theorem found_any {w0 w:World} {p:Nat} {F:Nat→Prop} {s:TS} (id:Int) (bt k sg:Nat) (cl:Int) (bs:Nat) (e0 e1 e2 e3 e4 e5 e6 e7 e8 e9 e10 e11 e12:Nat) (cf co:Nat) (h:SAt w0 w p F s) (hb:w.heap[bt]?=some (.cells (vertCells k cl sg) 117 (0,0))) (hbF:¬ F bt) (hk:k≤262144) (hs:sg≤262144) (hc:I64 cl) (hid:I64 id) :
  Calls Tryz.prog 47 #[.pointer (some ⟨p,0,none⟩),.agg (factCells id bt bs e0 e1 e2 e3 e4 e5 e6 e7 e8 e9 e10 e11 e12 cf co)] w fun e w'=>∃ t1 t2 bn s',e=.returned (.agg (foundCells id bt bs e0 e1 e2 e3 e4 e5 e6 e7 e8 e9 e10 e11 e12 cf t1 t2 bn))∧t1≤262144∧t2≤262144∧w'.heap[bn]?=some (.cells #[.int .i64 e6] 3 (0,0))∧w.heap.size≤bn∧∃ F',SAt w0 w' p F' s'∧(∀ k,F' k→F k∨w.heap.size≤k)∧Kept w w' F∧¬ F' bn:=by
 have hx:=heap_alloc2_old w (.cells (factCells id bt bs e0 e1 e2 e3 e4 e5 e6 e7 e8 e9 e10 e11 e12 cf co) 127) (.cells #[.int .i64 0,.int .i64 0,.int .i64 0,.slice none 0 0,.slice none 0 0,.int .i64 0,.int .i64 0,.int .i64 0,.int .i64 0,.int .i64 0,.int .i64 0,.int .i64 0,.int .i64 0,.int .i64 0,.int .i64 0,.int .i64 0,.int .i64 0,.int .i64 0,.int .i64 0,.int .i64 0,.int .i64 0,.int .i64 0,.slice none 0 0,.slice none 0 0,.slice none 0 0,.slice none 0 0,.bool false,.slice none 0 0,.pointer none] 75)
 have hr:=heap_alloc2_new w (.cells (factCells id bt bs e0 e1 e2 e3 e4 e5 e6 e7 e8 e9 e10 e11 e12 cf co) 127) (.cells #[.int .i64 0,.int .i64 0,.int .i64 0,.slice none 0 0,.slice none 0 0,.int .i64 0,.int .i64 0,.int .i64 0,.int .i64 0,.int .i64 0,.int .i64 0,.int .i64 0,.int .i64 0,.int .i64 0,.int .i64 0,.int .i64 0,.int .i64 0,.int .i64 0,.int .i64 0,.int .i64 0,.int .i64 0,.int .i64 0,.slice none 0 0,.slice none 0 0,.slice none 0 0,.slice none 0 0,.bool false,.slice none 0 0,.pointer none] 75)
 have ka:=((Kept.refl w (fun _=>False)).alloc (.cells (factCells id bt bs e0 e1 e2 e3 e4 e5 e6 e7 e8 e9 e10 e11 e12 cf co) 127)).alloc (.cells #[.int .i64 0,.int .i64 0,.int .i64 0,.slice none 0 0,.slice none 0 0,.int .i64 0,.int .i64 0,.int .i64 0,.int .i64 0,.int .i64 0,.int .i64 0,.int .i64 0,.int .i64 0,.int .i64 0,.int .i64 0,.int .i64 0,.int .i64 0,.int .i64 0,.int .i64 0,.int .i64 0,.int .i64 0,.int .i64 0,.slice none 0 0,.slice none 0 0,.slice none 0 0,.slice none 0 0,.bool false,.slice none 0 0,.pointer none] 75)
 have HA:=lh (h.kept ka)
 have NX:=lh (show ¬ F w.heap.size from fun hf=>absurd (h.at_.lt _ hf) (Nat.lt_irrefl _))
 have NR:=lh (show ¬ F (w.heap.size+1) from fun hf=>absurd (h.at_.lt _ hf) (by omega))
 have NT:=lh hbF
 have HT:=lh (ka.blk hb (fun h=>h))
 have BS:=lh (show w0.heap.size≤w.heap.size from h.bel.size)
 obtain ⟨bx,hbx⟩:∃ bx,w.heap.size=bx:=⟨_,rfl⟩
 have HBX:=lh hbx
 obtain ⟨br,hbr⟩:∃ br,bx+1=br:=⟨_,rfl⟩
 have HBR:=lh hbr
 obtain ⟨wA,hwA⟩:∃ wA,(w.alloc (.cells (factCells id bt bs e0 e1 e2 e3 e4 e5 e6 e7 e8 e9 e10 e11 e12 cf co) 127)).alloc (.cells #[.int .i64 0,.int .i64 0,.int .i64 0,.slice none 0 0,.slice none 0 0,.int .i64 0,.int .i64 0,.int .i64 0,.int .i64 0,.int .i64 0,.int .i64 0,.int .i64 0,.int .i64 0,.int .i64 0,.int .i64 0,.int .i64 0,.int .i64 0,.int .i64 0,.int .i64 0,.int .i64 0,.int .i64 0,.int .i64 0,.slice none 0 0,.slice none 0 0,.slice none 0 0,.slice none 0 0,.bool false,.slice none 0 0,.pointer none] 75)=wA:=⟨_,rfl⟩
 have HWA:=lh hwA
 rw [hwA] at hx hr HA HT ka
 rw [hbx] at hr NR
 rw [hbr] at hr NR
 rw [hbx] at hx NX
 have HX:=lh hx
 have HR:=lh hr
 have KA:=lh ka
 have HK:=lh hk
 have HSG:=lh hs
 have HC:=lh hc
 have HI:=lh hid
 clear h hb hbF hk hs hc hid hx hr ka hbx hbr hwA
 go_enter Tryz.func47,Tryz.ntmps47
 go_wp2_with (fail)
 rw [HWA.out]
 rw [HBX.out]
 rw [HBR.out]
 refine wp_region_tree (fun w'=>w'.heap[bx]?=some (.cells (factCells id bt bs e0 e1 e2 e3 e4 e5 e6 e7 e8 e9 e10 e11 e12 cf co) 127 (0,0))) [0,3,0,3,0,3,0,3,0,3,0,3,0,3,0,3,0,0,3,0,3,2,0,0,3,0,3,0,0,3,2,0,3,2,0,3,2,0,0,3,2,0,2,2] (ones [0,1,2,3,4,5,6,7,8,9,10,11,12,13,14,15,16,17,18,19,20,22,23,24,25,26,27,28,29,31,32,34,35,37,38,39] (.two 21 42 (ones [] (.two 30 42 (ones [] (.two 33 42 (ones [] (.two 36 42 (ones [] (.two 40 42 (ones [41,42,43] .nil) (ones [40,41,43] .nil))) (ones [36,40,41,43] .nil))) (ones [33,36,40,41,43] .nil))) (ones [30,33,36,40,41,43] .nil))) (ones [21,30,33,36,40,41,43] .nil))) (by kernel_rfl) (by kernel_rfl) (by kernel_rfl) HX.out (fun Q' hQ'=>?_)
 have HA:Hid (SAt w0 wA.drew p F s):=lh (HA.out.kept ((Kept.refl wA _).drew))
 have HX:Hid (wA.drew.heap[bx]?=_):=lh HX.out
 have HR:Hid (wA.drew.heap[br]?=_):=lh HR.out
 have HT:Hid (wA.drew.heap[bt]?=_):=lh HT.out
 have KA:Hid (Kept w wA.drew (fun _=>False)):=lh KA.out.drew
 obtain ⟨x0,hx0⟩:∃ x0,wA.drew=x0:=⟨_,rfl⟩
 rw [hx0] at HA HX HR HT KA ⊢
 clear hx0
 have hcell:∀ (w':World) (j:Nat),w'.heap[bx]?=some (.cells (factCells id bt bs e0 e1 e2 e3 e4 e5 e6 e7 e8 e9 e10 e11 e12 cf co) 127 (0,0))→w'.cell? ⟨bx,j,none⟩=(factCells id bt bs e0 e1 e2 e3 e4 e5 e6 e7 e8 e9 e10 e11 e12 cf co)[j]?:=fun w' j h=>cellOf h
 have c0:∀ w':World,w'.heap[bx]?=some (.cells (factCells id bt bs e0 e1 e2 e3 e4 e5 e6 e7 e8 e9 e10 e11 e12 cf co) 127 (0,0))→w'.cell? ⟨bx,0,none⟩=some (.int .i64 id):=fun w' h=>hcell w' 0 h
 have c1:∀ w':World,w'.heap[bx]?=some (.cells (factCells id bt bs e0 e1 e2 e3 e4 e5 e6 e7 e8 e9 e10 e11 e12 cf co) 127 (0,0))→w'.cell? ⟨bx,1,none⟩=some (.int .i64 0):=fun w' h=>hcell w' 1 h
 have c2:∀ w':World,w'.heap[bx]?=some (.cells (factCells id bt bs e0 e1 e2 e3 e4 e5 e6 e7 e8 e9 e10 e11 e12 cf co) 127 (0,0))→w'.cell? ⟨bx,2,none⟩=some (.int .i64 0):=fun w' h=>hcell w' 2 h
 have c3:∀ w':World,w'.heap[bx]?=some (.cells (factCells id bt bs e0 e1 e2 e3 e4 e5 e6 e7 e8 e9 e10 e11 e12 cf co) 127 (0,0))→w'.cell? ⟨bx,3,none⟩=some (.slice (some ⟨bt,0,none⟩) 1 1):=fun w' h=>hcell w' 3 h
 have c4:∀ w':World,w'.heap[bx]?=some (.cells (factCells id bt bs e0 e1 e2 e3 e4 e5 e6 e7 e8 e9 e10 e11 e12 cf co) 127 (0,0))→w'.cell? ⟨bx,4,none⟩=some (.slice (some ⟨bs,0,none⟩) 1 1):=fun w' h=>hcell w' 4 h
 have c5:∀ w':World,w'.heap[bx]?=some (.cells (factCells id bt bs e0 e1 e2 e3 e4 e5 e6 e7 e8 e9 e10 e11 e12 cf co) 127 (0,0))→w'.cell? ⟨bx,5,none⟩=some (.int .i64 e0):=fun w' h=>hcell w' 5 h
 have c6:∀ w':World,w'.heap[bx]?=some (.cells (factCells id bt bs e0 e1 e2 e3 e4 e5 e6 e7 e8 e9 e10 e11 e12 cf co) 127 (0,0))→w'.cell? ⟨bx,6,none⟩=some (.int .i64 e1):=fun w' h=>hcell w' 6 h
 have c7:∀ w':World,w'.heap[bx]?=some (.cells (factCells id bt bs e0 e1 e2 e3 e4 e5 e6 e7 e8 e9 e10 e11 e12 cf co) 127 (0,0))→w'.cell? ⟨bx,7,none⟩=some (.int .i64 e2):=fun w' h=>hcell w' 7 h
 have c8:∀ w':World,w'.heap[bx]?=some (.cells (factCells id bt bs e0 e1 e2 e3 e4 e5 e6 e7 e8 e9 e10 e11 e12 cf co) 127 (0,0))→w'.cell? ⟨bx,8,none⟩=some (.int .i64 e3):=fun w' h=>hcell w' 8 h
 have c9:∀ w':World,w'.heap[bx]?=some (.cells (factCells id bt bs e0 e1 e2 e3 e4 e5 e6 e7 e8 e9 e10 e11 e12 cf co) 127 (0,0))→w'.cell? ⟨bx,9,none⟩=some (.int .i64 e4):=fun w' h=>hcell w' 9 h
 have c10:∀ w':World,w'.heap[bx]?=some (.cells (factCells id bt bs e0 e1 e2 e3 e4 e5 e6 e7 e8 e9 e10 e11 e12 cf co) 127 (0,0))→w'.cell? ⟨bx,10,none⟩=some (.int .i64 e5):=fun w' h=>hcell w' 10 h
 have c11:∀ w':World,w'.heap[bx]?=some (.cells (factCells id bt bs e0 e1 e2 e3 e4 e5 e6 e7 e8 e9 e10 e11 e12 cf co) 127 (0,0))→w'.cell? ⟨bx,11,none⟩=some (.int .i64 e6):=fun w' h=>hcell w' 11 h
 have c12:∀ w':World,w'.heap[bx]?=some (.cells (factCells id bt bs e0 e1 e2 e3 e4 e5 e6 e7 e8 e9 e10 e11 e12 cf co) 127 (0,0))→w'.cell? ⟨bx,12,none⟩=some (.int .i64 e7):=fun w' h=>hcell w' 12 h
 have c13:∀ w':World,w'.heap[bx]?=some (.cells (factCells id bt bs e0 e1 e2 e3 e4 e5 e6 e7 e8 e9 e10 e11 e12 cf co) 127 (0,0))→w'.cell? ⟨bx,13,none⟩=some (.int .i64 e8):=fun w' h=>hcell w' 13 h
 have c14:∀ w':World,w'.heap[bx]?=some (.cells (factCells id bt bs e0 e1 e2 e3 e4 e5 e6 e7 e8 e9 e10 e11 e12 cf co) 127 (0,0))→w'.cell? ⟨bx,14,none⟩=some (.int .i64 e9):=fun w' h=>hcell w' 14 h
 have c15:∀ w':World,w'.heap[bx]?=some (.cells (factCells id bt bs e0 e1 e2 e3 e4 e5 e6 e7 e8 e9 e10 e11 e12 cf co) 127 (0,0))→w'.cell? ⟨bx,15,none⟩=some (.int .i64 e10):=fun w' h=>hcell w' 15 h
 have c16:∀ w':World,w'.heap[bx]?=some (.cells (factCells id bt bs e0 e1 e2 e3 e4 e5 e6 e7 e8 e9 e10 e11 e12 cf co) 127 (0,0))→w'.cell? ⟨bx,16,none⟩=some (.int .i64 e11):=fun w' h=>hcell w' 16 h
 have c17:∀ w':World,w'.heap[bx]?=some (.cells (factCells id bt bs e0 e1 e2 e3 e4 e5 e6 e7 e8 e9 e10 e11 e12 cf co) 127 (0,0))→w'.cell? ⟨bx,17,none⟩=some (.int .i64 e12):=fun w' h=>hcell w' 17 h
 have c18:∀ w':World,w'.heap[bx]?=some (.cells (factCells id bt bs e0 e1 e2 e3 e4 e5 e6 e7 e8 e9 e10 e11 e12 cf co) 127 (0,0))→w'.cell? ⟨bx,18,none⟩=some (.int .i64 cf):=fun w' h=>hcell w' 18 h
 have c19:∀ w':World,w'.heap[bx]?=some (.cells (factCells id bt bs e0 e1 e2 e3 e4 e5 e6 e7 e8 e9 e10 e11 e12 cf co) 127 (0,0))→w'.cell? ⟨bx,19,none⟩=some (.int .i64 co):=fun w' h=>hcell w' 19 h
 have c20:∀ w':World,w'.heap[bx]?=some (.cells (factCells id bt bs e0 e1 e2 e3 e4 e5 e6 e7 e8 e9 e10 e11 e12 cf co) 127 (0,0))→w'.cell? ⟨bx,20,none⟩=some (.bool false):=fun w' h=>hcell w' 20 h
 clear hcell
 refine wpT_ones rfl [0,1,2,3,4,5,6,7,8,9,10,11,12,13,14,15,16,17,18,19,20,22,23,24,25,26,27,28,29,31,32,34,35,37,38,39] _ _ (by rfl) ?_
 simp only [pick,List.zip_cons_cons,List.zip_nil_right,List.filterMap_cons,List.filterMap_nil,List.getElem?_cons_zero,List.getElem?_cons_succ]
 repeat((first|(refine wpX_silent ?_ fun K hK=>?_;rfl;apply Exists.intro;refine ⟨fun w'=>?_,?_⟩;go_simp;exact⟨rfl,rfl⟩)|(refine wpX_read ?_ fun K hK=>?_;rfl;apply Exists.intro;refine ⟨?_,?_⟩;go_simp;exact⟨rfl,rfl⟩)|(refine wpX_float ?_ fun K hK=>?_;rfl;apply Exists.intro;refine ⟨fun w' hw'=>?_,?_⟩;(try dsimp only at hw');go_simp;exact⟨rfl,rfl⟩)|(refine wpX_not ?_ fun K hK=>?_;rfl));go_simp;refine hK _ _ ?_;clear hK K)
 refine wpX_nil ?_
 clear c0 c1 c2 c3 c4 c5 c6 c7 c8 c9 c10 c11 c12 c13 c14 c15 c16 c17 c18 c19 c20
 have N:=lh (TNext.refl HA.out)
 have LX:=lh (blk_lt HX.out)
 have LR:=lh (blk_lt HR.out)
 have LT:=lh (blk_lt HT.out)
 have QX:=lh (show bx=w.heap.size from HBX.out.symm)
 have QR:=lh (show br=w.heap.size+1 from by have h1:=HBR.out; have h2:=HBX.out; omega)
 clear HA
 refine wpT_two rfl (by rfl) (by rfl) ?_ ?_
 rotate_left
 ·simp only [pick,List.zip_cons_cons,List.zip_nil_right,List.filterMap_cons,List.filterMap_nil,List.getElem?_cons_zero,List.getElem?_cons_succ]
  refine wpX_keeps ?_ (fun K hK=>?_)
  ·rfl
  have ky:=(Kept.refl x0 (fun _=>False)).alloc (.cells #[.int .i64 0,.int .i64 0,.int .i64 0,.slice none 0 0,.slice none 0 0,.int .i64 0,.int .i64 0,.int .i64 0,.int .i64 0,.int .i64 0,.int .i64 0,.int .i64 0,.int .i64 0,.int .i64 0,.int .i64 0,.int .i64 0,.int .i64 0,.int .i64 0,.int .i64 0,.int .i64 0,.int .i64 0,.int .i64 0,.slice none 0 0,.slice none 0 0,.slice none 0 0,.slice none 0 0,.bool false,.slice none 0 0,.pointer none] 75)
  have hq0:=heap_alloc_new x0 (.cells #[.int .i64 0,.int .i64 0,.int .i64 0,.slice none 0 0,.slice none 0 0,.int .i64 0,.int .i64 0,.int .i64 0,.int .i64 0,.int .i64 0,.int .i64 0,.int .i64 0,.int .i64 0,.int .i64 0,.int .i64 0,.int .i64 0,.int .i64 0,.int .i64 0,.int .i64 0,.int .i64 0,.int .i64 0,.int .i64 0,.slice none 0 0,.slice none 0 0,.slice none 0 0,.slice none 0 0,.bool false,.slice none 0 0,.pointer none] 75)
  obtain ⟨F1,h1,b1,k1⟩:=N.out
  have NQ:=lh (show ¬ F1 x0.heap.size from fun hf=>absurd (h1.at_.lt _ hf) (Nat.lt_irrefl _))
  have B1:=lh b1
  have K1:=lh (k1.trans ky (fun _ h=>h.elim))
  replace HX:=lh (ky.blk (k1.blk HX.out NX.out) (fun h=>h))
  replace HR:=lh (ky.blk (k1.blk HR.out NR.out) (fun h=>h))
  replace HT:=lh (ky.blk (k1.blk HT.out NT.out) (fun h=>h))
  replace NX:=lh (show ¬ F1 bx from fun hf=>(b1 _ hf).elim NX.out (fun h=>by have:=LX.out; omega))
  replace NR:=lh (show ¬ F1 br from fun hf=>(b1 _ hf).elim NR.out (fun h=>by have:=LR.out; omega))
  replace NT:=lh (show ¬ F1 bt from fun hf=>(b1 _ hf).elim NT.out (fun h=>by have:=LT.out; omega))
  replace N:=lh (TNext.refl (h1.kept ky))
  have HQ:=lh hq0
  have QG:=lh (show w.heap.size≤x0.heap.size from Nat.le_trans KA.out.size k1.size)
  have QHk:=lh k1.size
  clear h1 b1 k1 ky hq0
  go_wp2
  obtain ⟨q,hq⟩:∃ q,x0.heap.size=q:=⟨_,rfl⟩
  obtain ⟨x1,hy⟩:∃ x1,x0.alloc (.cells #[.int .i64 0,.int .i64 0,.int .i64 0,.slice none 0 0,.slice none 0 0,.int .i64 0,.int .i64 0,.int .i64 0,.int .i64 0,.int .i64 0,.int .i64 0,.int .i64 0,.int .i64 0,.int .i64 0,.int .i64 0,.int .i64 0,.int .i64 0,.int .i64 0,.int .i64 0,.int .i64 0,.int .i64 0,.int .i64 0,.slice none 0 0,.slice none 0 0,.slice none 0 0,.slice none 0 0,.bool false,.slice none 0 0,.pointer none] 75)=x1:=⟨_,rfl⟩
  rw [hy] at HX HR HT N HQ K1 ⊢
  have QH:=lh (show x0.heap.size≤q from Nat.le_trans QHk.out (Nat.le_of_eq hq))
  rw [hq] at HQ NQ QG ⊢
  have YR:=lh (blk_lt HR.out)
  have YQ:=lh (blk_lt HQ.out)
  clear hq hy
  refine ⟨HX.out,?_⟩
  refine wpX_keeps ?_ (fun K hK=>?_)
  ·rfl
  go_wp2_with (fail)
  refine (N.out.tt fun F1 h1=>interim_tt cf co h1).mono ?_
  rintro e x2 ⟨t2,s2,rfl,l2,hn⟩
  replace N:=lh hn
  have L2:=lh l2
  clear hn l2
  have SX:x2.heap[bx]?=_:=N.out.blk HX.out NX.out
  go_simp
  refine hK _ _ ⟨rfl,SX,?_⟩
  clear hK K SX
  refine wpX_keeps ?_ (fun K hK=>?_)
  ·rfl
  go_wp2_with (fail)
  have HTN:=lh (N.out.blk HT.out NT.out)
  refine (N.out.tt fun F1 h1=>tree_leaf bt k sg cl h1 HTN.out HK.out HSG.out HC.out).mono ?_
  rintro e x3 ⟨t3,s3,rfl,l3,hn⟩
  replace N:=lh hn
  have L3:=lh l3
  clear hn l3
  clear HTN
  have SX:x3.heap[bx]?=_:=N.out.blk HX.out NX.out
  go_simp
  refine hK _ _ ⟨rfl,SX,?_⟩
  clear hK K SX
  refine wpX_keeps ?_ (fun K hK=>?_)
  ·rfl
  go_wp2_with (fail)
  refine (N.out.tt fun F1 h1=>context_tt id 0 t3 cf h1 HI.out (by unfold I64; decide)).mono ?_
  rintro e x4 ⟨t4,s4,rfl,l4,hn⟩
  replace N:=lh hn
  have L4:=lh l4
  clear hn l4
  have SX:x4.heap[bx]?=_:=N.out.blk HX.out NX.out
  go_simp
  refine hK _ _ ⟨rfl,SX,?_⟩
  clear hK K SX
  refine wpX_keeps ?_ (fun K hK=>?_)
  ·rfl
  go_wp2_with (fail)
  refine (leaves_one _ _ _).mono ?_
  rintro e w' ⟨rfl,hw⟩
  obtain rfl:=hw.symm
  clear hw
  have SX:x4.heap[bx]?=_:=N.out.blk HX.out NX.out
  go_simp
  refine hK _ _ ⟨rfl,SX,?_⟩
  clear hK K SX
  refine wpX_keeps ?_ (fun K hK=>?_)
  ·rfl
  go_wp2_with (fail)
  refine (ratnew_any e6 _).mono ?_
  rintro e x6 ⟨bn,rfl,hbn,hle,hk⟩
  obtain ⟨F2,h2,b2,k2⟩:=N.out
  have H2:=lh h2
  have B2:=lh (show ∀ k,F2 k→F k∨x0.heap.size≤k from fun k hf=>(b2 k hf).elim (B1.out k) (fun h=>.inr (Nat.le_trans K1.out.size h)))
  have K2:=lh (K1.out.trans k2 (fun k hf=>B1.out k hf))
  replace HX:=lh (k2.blk HX.out NX.out)
  replace HR:=lh (k2.blk HR.out NR.out)
  replace HQ:=lh (k2.blk HQ.out NQ.out)
  have hqlt:=blk_lt HQ.out
  replace NR:=lh (show ¬ F2 br from fun hf=>(b2 _ hf).elim NR.out (fun h=>by have:=YR.out; omega))
  replace NQ:=lh (show ¬ F2 q from fun hf=>(b2 _ hf).elim NQ.out (fun h=>by have:=YQ.out; omega))
  clear h2 b2 k2 N hqlt
  have LKP:=lh K2.out.size
  have LF:=lh (show ∀ k,F2 k→k < x4.heap.size from H2.out.at_.lt)
  replace H2:=lh (H2.out.kept hk)
  replace K2:=kt K2 hk
  have HN:=lh hbn
  have LN:=lh hle
  have LK:=lh LKP.out
  replace HX:=kb hk HX
  replace HR:=kb hk HR
  replace HQ:=kb hk HQ
  clear hbn hle hk
  go_simp
  refine hK _ _ ⟨rfl,HX.out,?_⟩
  clear hK K
  repeat((first|(refine wpX_silent ?_ fun K hK=>?_;rfl;apply Exists.intro;refine ⟨fun w'=>?_,?_⟩;go_simp;exact⟨rfl,rfl⟩)|(refine wpX_read ?_ fun K hK=>?_;rfl;apply Exists.intro;refine ⟨?_,?_⟩;go_simp;exact⟨rfl,rfl⟩)|(refine wpX_float ?_ fun K hK=>?_;rfl;apply Exists.intro;refine ⟨fun w' hw'=>?_,?_⟩;(try dsimp only at hw');go_simp;exact⟨rfl,rfl⟩)|(refine wpX_not ?_ fun K hK=>?_;rfl));go_simp;refine hK _ _ ?_;clear hK K)
  refine wpX_keeps ?_ (fun K hK=>?_)
  ·rfl
  have hne:bx≠q:=by
   rintro rfl
   have h1:=HX.out
   rw [HQ.out] at h1
   simp [factCells] at h1
  have NBR:Hid (br≠q):=lh (by
   have h1:=QH.out
   have h2:=LR.out
   omega)
  have NBN:Hid (bn≠q∧bn≠br):=lh (by
   refine ⟨?_,?_⟩
   ·rintro rfl
    have h1:=HN.out
    rw [HQ.out] at h1
    simp at h1
   ·rintro rfl
    have h1:=HN.out
    rw [HR.out] at h1
    simp at h1)
  have hu0:=setRow_heap x6 q _ (madeCells id bt bs e0 e1 e2 e3 e4 e5 e6 e7 e8 e9 e10 e11 e12 cf t2 t4 bn) 75 (0,0) HQ.out
  have hr0:=setRow_other x6 q br (madeCells id bt bs e0 e1 e2 e3 e4 e5 e6 e7 e8 e9 e10 e11 e12 cf t2 t4 bn) NBR.out
  have hn0:=setRow_other x6 q bn (madeCells id bt bs e0 e1 e2 e3 e4 e5 e6 e7 e8 e9 e10 e11 e12 cf t2 t4 bn) NBN.out.1
  have hx0:=setRow_other x6 q bx (madeCells id bt bs e0 e1 e2 e3 e4 e5 e6 e7 e8 e9 e10 e11 e12 cf t2 t4 bn) hne
  rw [HR.out] at hr0
  rw [HN.out] at hn0
  rw [HX.out] at hx0
  have ku0:Kept x6 (x6.setRow q (madeCells id bt bs e0 e1 e2 e3 e4 e5 e6 e7 e8 e9 e10 e11 e12 cf t2 t4 bn)) (fun k=>k=q∨k=br):=⟨rfl,rfl,rfl,by simp,fun j _ hj=>setRow_other x6 q j _ (fun h=>hj (.inl h))⟩
  refine wp_store_row 75 (.tmp 5) (.tmp 47) rfl q (madeCells id bt bs e0 e1 e2 e3 e4 e5 e6 e7 e8 e9 e10 e11 e12 cf t2 t4 bn) rfl rfl _ _ HQ.out (by kernel_rfl) rfl (by simp [madeCells,Value.oneCell']) ?_
  obtain ⟨u0,hw0⟩:∃ u0,x6.setRow q (madeCells id bt bs e0 e1 e2 e3 e4 e5 e6 e7 e8 e9 e10 e11 e12 cf t2 t4 bn)=u0:=⟨_,rfl⟩
  rw [hw0] at hu0 hr0 hn0 hx0 ku0 ⊢
  go_simp
  refine hK _ _ ⟨rfl,hx0,?_⟩
  clear hK K hw0 hx0 hne
  have hu1:=blk_set hu0 5 (.int .i64 0)
  have hr1:=blk_far hr0 (p:=⟨q,5,none⟩) NBR.out (.int .i64 0)
  have hn1:=blk_far hn0 (p:=⟨q,5,none⟩) NBN.out.1 (.int .i64 0)
  have ku1:=ku0.setCell (p:=⟨q,5,none⟩) (.inl (.inl rfl)) (.int .i64 0)
  obtain ⟨u1,hw1⟩:∃ u1,u0.setCell ⟨q,5,none⟩ (.int .i64 0)=u1:=⟨_,rfl⟩
  rw [hw1] at hu1 hr1 hn1 ku1
  have HU0:=lh hu0
  have HW1:=lh hw1
  clear hu0 hr0 hn0 ku0 hw1
  have hu2:=blk_set hu1 6 (.int .i64 0)
  have hr2:=blk_far hr1 (p:=⟨q,6,none⟩) NBR.out (.int .i64 0)
  have hn2:=blk_far hn1 (p:=⟨q,6,none⟩) NBN.out.1 (.int .i64 0)
  have ku2:=ku1.setCell (p:=⟨q,6,none⟩) (.inl (.inl rfl)) (.int .i64 0)
  obtain ⟨u2,hw2⟩:∃ u2,u1.setCell ⟨q,6,none⟩ (.int .i64 0)=u2:=⟨_,rfl⟩
  rw [hw2] at hu2 hr2 hn2 ku2
  have HU1:=lh hu1
  have HW2:=lh hw2
  clear hu1 hr1 hn1 ku1 hw2
  have hu3:=blk_set hu2 7 (.int .i64 0)
  have hr3:=blk_far hr2 (p:=⟨q,7,none⟩) NBR.out (.int .i64 0)
  have hn3:=blk_far hn2 (p:=⟨q,7,none⟩) NBN.out.1 (.int .i64 0)
  have ku3:=ku2.setCell (p:=⟨q,7,none⟩) (.inl (.inl rfl)) (.int .i64 0)
  obtain ⟨u3,hw3⟩:∃ u3,u2.setCell ⟨q,7,none⟩ (.int .i64 0)=u3:=⟨_,rfl⟩
  rw [hw3] at hu3 hr3 hn3 ku3
  have HU2:=lh hu2
  have HW3:=lh hw3
  clear hu2 hr2 hn2 ku2 hw3
  have hu4:=blk_set hu3 8 (.int .i64 0)
  have hr4:=blk_far hr3 (p:=⟨q,8,none⟩) NBR.out (.int .i64 0)
  have hn4:=blk_far hn3 (p:=⟨q,8,none⟩) NBN.out.1 (.int .i64 0)
  have ku4:=ku3.setCell (p:=⟨q,8,none⟩) (.inl (.inl rfl)) (.int .i64 0)
  obtain ⟨u4,hw4⟩:∃ u4,u3.setCell ⟨q,8,none⟩ (.int .i64 0)=u4:=⟨_,rfl⟩
  rw [hw4] at hu4 hr4 hn4 ku4
  have HU3:=lh hu3
  have HW4:=lh hw4
  clear hu3 hr3 hn3 ku3 hw4
  have hu5:=blk_set hu4 11 (.int .i64 0)
  have hr5:=blk_far hr4 (p:=⟨q,11,none⟩) NBR.out (.int .i64 0)
  have hn5:=blk_far hn4 (p:=⟨q,11,none⟩) NBN.out.1 (.int .i64 0)
  have ku5:=ku4.setCell (p:=⟨q,11,none⟩) (.inl (.inl rfl)) (.int .i64 0)
  obtain ⟨u5,hw5⟩:∃ u5,u4.setCell ⟨q,11,none⟩ (.int .i64 0)=u5:=⟨_,rfl⟩
  rw [hw5] at hu5 hr5 hn5 ku5
  have HU4:=lh hu4
  have HW5:=lh hw5
  clear hu4 hr4 hn4 ku4 hw5
  have HU5:Hid (u5.heap[q]?=some (.cells (foundCells id bt bs e0 e1 e2 e3 e4 e5 e6 e7 e8 e9 e10 e11 e12 cf t2 t4 bn) 75 (0,0))):=lh hu5
  have HR5:=lh hr5
  have HN5:=lh hn5
  have KU5:=lh ku5
  clear hu5 hr5 hn5 ku5
  refine wpX_nil (hQ' _ _ ?_)
  go_wp2_with (first|(refine wpList_store_cell rfl 3 (.tmp 49) (.const (.int .i64 0)) rfl q 5 (.int .i64 0) rfl rfl rfl _ _ HU0.out (by simp [madeCells]) (by kernel_rfl) ?_; rw [HW1.out])|(refine wpList_store_cell rfl 3 (.tmp 51) (.const (.int .i64 0)) rfl q 6 (.int .i64 0) rfl rfl rfl _ _ HU1.out (by simp [madeCells]) (by kernel_rfl) ?_; rw [HW2.out])|(refine wpList_store_cell rfl 3 (.tmp 53) (.const (.int .i64 0)) rfl q 7 (.int .i64 0) rfl rfl rfl _ _ HU2.out (by simp [madeCells]) (by kernel_rfl) ?_; rw [HW3.out])|(refine wpList_store_cell rfl 3 (.tmp 55) (.const (.int .i64 0)) rfl q 8 (.int .i64 0) rfl rfl rfl _ _ HU3.out (by simp [madeCells]) (by kernel_rfl) ?_; rw [HW4.out])|(refine wpList_store_cell rfl 3 (.tmp 57) (.const (.int .i64 0)) rfl q 11 (.int .i64 0) rfl rfl rfl _ _ HU4.out (by simp [madeCells]) (by kernel_rfl) ?_; rw [HW5.out]) | refine wpList_load_row rfl 75 (.tmp 5) rfl q rfl _ (foundCells id bt bs e0 e1 e2 e3 e4 e5 e6 e7 e8 e9 e10 e11 e12 cf t2 t4 bn) _ _ HU5.out Tryz.underlying75 rfl (by kernel_rfl) ?_|(refine wpList_store_row rfl 75 (.tmp 4) (.tmp 58) rfl br (foundCells id bt bs e0 e1 e2 e3 e4 e5 e6 e7 e8 e9 e10 e11 e12 cf t2 t4 bn) rfl rfl _ _ HR5.out (by kernel_rfl) rfl (by simp [foundCells,Value.oneCell']) ?_; apply hold))
  unfold Hold
  rename_i K hK
  refine (show K _ _ from hK _ _ ?_)
  refine wp_ret ?_
  have hsr:=setRow_heap u5 br _ (foundCells id bt bs e0 e1 e2 e3 e4 e5 e6 e7 e8 e9 e10 e11 e12 cf t2 t4 bn) 75 (0,0) HR5.out
  refine bodyPost_ret (results_cell_row rfl _ _ _ _ _ _ _ rfl hsr Tryz.underlying75 rfl (by kernel_rfl)) rfl ?_
  have hnb:=setRow_other u5 br bn (foundCells id bt bs e0 e1 e2 e3 e4 e5 e6 e7 e8 e9 e10 e11 e12 cf t2 t4 bn) NBN.out.2
  rw [HN5.out] at hnb
  have kf:=KU5.out.trans (F:=fun k=>k=q∨k=br) (G:=fun k=>k=br) (w2:=u5.setRow br (foundCells id bt bs e0 e1 e2 e3 e4 e5 e6 e7 e8 e9 e10 e11 e12 cf t2 t4 bn)) ⟨rfl,rfl,rfl,by simp,fun j _ hj=>setRow_other u5 br j _ hj⟩ (fun k h=>.inl (.inr h))
  obtain ⟨F',a1,a2,a3,a4⟩:=found_end KA.out H2.out B2.out K2.out kf QG.out (by have:=QR.out; omega) NQ.out NR.out BS.out
  have hbn:=LN.out
  refine ⟨t2,t4,bn,_,rfl,L2.out,L4.out,hnb,Nat.le_trans (Nat.le_trans KA.out.size LK.out) hbn,F',a1,a2,a3,fun hf=>?_⟩
  have:=LF.out _ (a4 _ hf)
  omega
 simp only [pick,List.zip_cons_cons,List.zip_nil_right,List.filterMap_cons,List.filterMap_nil,List.getElem?_cons_zero,List.getElem?_cons_succ]
 refine wpX_keeps ?_ (fun K hK=>?_)
 ·rfl
 go_wp2_with (fail)
 refine (N.out.tt fun F1 h1=>interim_tt cf co h1).mono ?_
 rintro e x7 ⟨t7,s7,rfl,l7,hn⟩
 replace N:=lh hn
 have L7:=lh l7
 clear hn l7
 have SX:x7.heap[bx]?=_:=N.out.blk HX.out NX.out
 go_simp
 refine hK _ _ ⟨rfl,SX,?_⟩
 clear hK K SX
 refine wpX_nil ?_
 refine wpT_two rfl (by rfl) (by rfl) ?_ ?_
 rotate_left
 ·simp only [pick,List.zip_cons_cons,List.zip_nil_right,List.filterMap_cons,List.filterMap_nil,List.getElem?_cons_zero,List.getElem?_cons_succ]
  refine wpX_keeps ?_ (fun K hK=>?_)
  ·rfl
  have ky:=(Kept.refl x7 (fun _=>False)).alloc (.cells #[.int .i64 0,.int .i64 0,.int .i64 0,.slice none 0 0,.slice none 0 0,.int .i64 0,.int .i64 0,.int .i64 0,.int .i64 0,.int .i64 0,.int .i64 0,.int .i64 0,.int .i64 0,.int .i64 0,.int .i64 0,.int .i64 0,.int .i64 0,.int .i64 0,.int .i64 0,.int .i64 0,.int .i64 0,.int .i64 0,.slice none 0 0,.slice none 0 0,.slice none 0 0,.slice none 0 0,.bool false,.slice none 0 0,.pointer none] 75)
  have hq0:=heap_alloc_new x7 (.cells #[.int .i64 0,.int .i64 0,.int .i64 0,.slice none 0 0,.slice none 0 0,.int .i64 0,.int .i64 0,.int .i64 0,.int .i64 0,.int .i64 0,.int .i64 0,.int .i64 0,.int .i64 0,.int .i64 0,.int .i64 0,.int .i64 0,.int .i64 0,.int .i64 0,.int .i64 0,.int .i64 0,.int .i64 0,.int .i64 0,.slice none 0 0,.slice none 0 0,.slice none 0 0,.slice none 0 0,.bool false,.slice none 0 0,.pointer none] 75)
  obtain ⟨F1,h1,b1,k1⟩:=N.out
  have NQ:=lh (show ¬ F1 x7.heap.size from fun hf=>absurd (h1.at_.lt _ hf) (Nat.lt_irrefl _))
  have B1:=lh b1
  have K1:=lh (k1.trans ky (fun _ h=>h.elim))
  replace HX:=lh (ky.blk (k1.blk HX.out NX.out) (fun h=>h))
  replace HR:=lh (ky.blk (k1.blk HR.out NR.out) (fun h=>h))
  replace HT:=lh (ky.blk (k1.blk HT.out NT.out) (fun h=>h))
  replace NX:=lh (show ¬ F1 bx from fun hf=>(b1 _ hf).elim NX.out (fun h=>by have:=LX.out; omega))
  replace NR:=lh (show ¬ F1 br from fun hf=>(b1 _ hf).elim NR.out (fun h=>by have:=LR.out; omega))
  replace NT:=lh (show ¬ F1 bt from fun hf=>(b1 _ hf).elim NT.out (fun h=>by have:=LT.out; omega))
  replace N:=lh (TNext.refl (h1.kept ky))
  have HQ:=lh hq0
  have QG:=lh (show w.heap.size≤x7.heap.size from Nat.le_trans KA.out.size k1.size)
  have QHk:=lh k1.size
  clear h1 b1 k1 ky hq0
  go_wp2
  obtain ⟨q,hq⟩:∃ q,x7.heap.size=q:=⟨_,rfl⟩
  obtain ⟨x8,hy⟩:∃ x8,x7.alloc (.cells #[.int .i64 0,.int .i64 0,.int .i64 0,.slice none 0 0,.slice none 0 0,.int .i64 0,.int .i64 0,.int .i64 0,.int .i64 0,.int .i64 0,.int .i64 0,.int .i64 0,.int .i64 0,.int .i64 0,.int .i64 0,.int .i64 0,.int .i64 0,.int .i64 0,.int .i64 0,.int .i64 0,.int .i64 0,.int .i64 0,.slice none 0 0,.slice none 0 0,.slice none 0 0,.slice none 0 0,.bool false,.slice none 0 0,.pointer none] 75)=x8:=⟨_,rfl⟩
  rw [hy] at HX HR HT N HQ K1 ⊢
  have QH:=lh (show x0.heap.size≤q from Nat.le_trans QHk.out (Nat.le_of_eq hq))
  rw [hq] at HQ NQ QG ⊢
  have YR:=lh (blk_lt HR.out)
  have YQ:=lh (blk_lt HQ.out)
  clear hq hy
  refine ⟨HX.out,?_⟩
  refine wpX_keeps ?_ (fun K hK=>?_)
  ·rfl
  go_wp2_with (fail)
  have HTN:=lh (N.out.blk HT.out NT.out)
  refine (N.out.tt fun F1 h1=>tree_leaf bt k sg cl h1 HTN.out HK.out HSG.out HC.out).mono ?_
  rintro e x9 ⟨t9,s9,rfl,l9,hn⟩
  replace N:=lh hn
  have L9:=lh l9
  clear hn l9
  clear HTN
  have SX:x9.heap[bx]?=_:=N.out.blk HX.out NX.out
  go_simp
  refine hK _ _ ⟨rfl,SX,?_⟩
  clear hK K SX
  refine wpX_keeps ?_ (fun K hK=>?_)
  ·rfl
  go_wp2_with (fail)
  refine (N.out.tt fun F1 h1=>context_tt id 0 t9 cf h1 HI.out (by unfold I64; decide)).mono ?_
  rintro e x10 ⟨t10,s10,rfl,l10,hn⟩
  replace N:=lh hn
  have L10:=lh l10
  clear hn l10
  have SX:x10.heap[bx]?=_:=N.out.blk HX.out NX.out
  go_simp
  refine hK _ _ ⟨rfl,SX,?_⟩
  clear hK K SX
  refine wpX_keeps ?_ (fun K hK=>?_)
  ·rfl
  go_wp2_with (fail)
  refine (leaves_one _ _ _).mono ?_
  rintro e w' ⟨rfl,hw⟩
  obtain rfl:=hw.symm
  clear hw
  have SX:x10.heap[bx]?=_:=N.out.blk HX.out NX.out
  go_simp
  refine hK _ _ ⟨rfl,SX,?_⟩
  clear hK K SX
  refine wpX_keeps ?_ (fun K hK=>?_)
  ·rfl
  go_wp2_with (fail)
  refine (ratnew_any e6 _).mono ?_
  rintro e x12 ⟨bn,rfl,hbn,hle,hk⟩
  obtain ⟨F2,h2,b2,k2⟩:=N.out
  have H2:=lh h2
  have B2:=lh (show ∀ k,F2 k→F k∨x0.heap.size≤k from fun k hf=>(b2 k hf).elim (B1.out k) (fun h=>.inr (Nat.le_trans K1.out.size h)))
  have K2:=lh (K1.out.trans k2 (fun k hf=>B1.out k hf))
  replace HX:=lh (k2.blk HX.out NX.out)
  replace HR:=lh (k2.blk HR.out NR.out)
  replace HQ:=lh (k2.blk HQ.out NQ.out)
  have hqlt:=blk_lt HQ.out
  replace NR:=lh (show ¬ F2 br from fun hf=>(b2 _ hf).elim NR.out (fun h=>by have:=YR.out; omega))
  replace NQ:=lh (show ¬ F2 q from fun hf=>(b2 _ hf).elim NQ.out (fun h=>by have:=YQ.out; omega))
  clear h2 b2 k2 N hqlt
  have LKP:=lh K2.out.size
  have LF:=lh (show ∀ k,F2 k→k < x10.heap.size from H2.out.at_.lt)
  replace H2:=lh (H2.out.kept hk)
  replace K2:=kt K2 hk
  have HN:=lh hbn
  have LN:=lh hle
  have LK:=lh LKP.out
  replace HX:=kb hk HX
  replace HR:=kb hk HR
  replace HQ:=kb hk HQ
  clear hbn hle hk
  go_simp
  refine hK _ _ ⟨rfl,HX.out,?_⟩
  clear hK K
  repeat((first|(refine wpX_silent ?_ fun K hK=>?_;rfl;apply Exists.intro;refine ⟨fun w'=>?_,?_⟩;go_simp;exact⟨rfl,rfl⟩)|(refine wpX_read ?_ fun K hK=>?_;rfl;apply Exists.intro;refine ⟨?_,?_⟩;go_simp;exact⟨rfl,rfl⟩)|(refine wpX_float ?_ fun K hK=>?_;rfl;apply Exists.intro;refine ⟨fun w' hw'=>?_,?_⟩;(try dsimp only at hw');go_simp;exact⟨rfl,rfl⟩)|(refine wpX_not ?_ fun K hK=>?_;rfl));go_simp;refine hK _ _ ?_;clear hK K)
  refine wpX_keeps ?_ (fun K hK=>?_)
  ·rfl
  have hne:bx≠q:=by
   rintro rfl
   have h1:=HX.out
   rw [HQ.out] at h1
   simp [factCells] at h1
  have NBR:Hid (br≠q):=lh (by
   have h1:=QH.out
   have h2:=LR.out
   omega)
  have NBN:Hid (bn≠q∧bn≠br):=lh (by
   refine ⟨?_,?_⟩
   ·rintro rfl
    have h1:=HN.out
    rw [HQ.out] at h1
    simp at h1
   ·rintro rfl
    have h1:=HN.out
    rw [HR.out] at h1
    simp at h1)
  have hu0:=setRow_heap x12 q _ (madeCells id bt bs e0 e1 e2 e3 e4 e5 e6 e7 e8 e9 e10 e11 e12 cf t7 t10 bn) 75 (0,0) HQ.out
  have hr0:=setRow_other x12 q br (madeCells id bt bs e0 e1 e2 e3 e4 e5 e6 e7 e8 e9 e10 e11 e12 cf t7 t10 bn) NBR.out
  have hn0:=setRow_other x12 q bn (madeCells id bt bs e0 e1 e2 e3 e4 e5 e6 e7 e8 e9 e10 e11 e12 cf t7 t10 bn) NBN.out.1
  have hx0:=setRow_other x12 q bx (madeCells id bt bs e0 e1 e2 e3 e4 e5 e6 e7 e8 e9 e10 e11 e12 cf t7 t10 bn) hne
  rw [HR.out] at hr0
  rw [HN.out] at hn0
  rw [HX.out] at hx0
  have ku0:Kept x12 (x12.setRow q (madeCells id bt bs e0 e1 e2 e3 e4 e5 e6 e7 e8 e9 e10 e11 e12 cf t7 t10 bn)) (fun k=>k=q∨k=br):=⟨rfl,rfl,rfl,by simp,fun j _ hj=>setRow_other x12 q j _ (fun h=>hj (.inl h))⟩
  refine wp_store_row 75 (.tmp 5) (.tmp 47) rfl q (madeCells id bt bs e0 e1 e2 e3 e4 e5 e6 e7 e8 e9 e10 e11 e12 cf t7 t10 bn) rfl rfl _ _ HQ.out (by kernel_rfl) rfl (by simp [madeCells,Value.oneCell']) ?_
  obtain ⟨u0,hw0⟩:∃ u0,x12.setRow q (madeCells id bt bs e0 e1 e2 e3 e4 e5 e6 e7 e8 e9 e10 e11 e12 cf t7 t10 bn)=u0:=⟨_,rfl⟩
  rw [hw0] at hu0 hr0 hn0 hx0 ku0 ⊢
  go_simp
  refine hK _ _ ⟨rfl,hx0,?_⟩
  clear hK K hw0 hx0 hne
  have hu1:=blk_set hu0 5 (.int .i64 0)
  have hr1:=blk_far hr0 (p:=⟨q,5,none⟩) NBR.out (.int .i64 0)
  have hn1:=blk_far hn0 (p:=⟨q,5,none⟩) NBN.out.1 (.int .i64 0)
  have ku1:=ku0.setCell (p:=⟨q,5,none⟩) (.inl (.inl rfl)) (.int .i64 0)
  obtain ⟨u1,hw1⟩:∃ u1,u0.setCell ⟨q,5,none⟩ (.int .i64 0)=u1:=⟨_,rfl⟩
  rw [hw1] at hu1 hr1 hn1 ku1
  have HU0:=lh hu0
  have HW1:=lh hw1
  clear hu0 hr0 hn0 ku0 hw1
  have hu2:=blk_set hu1 6 (.int .i64 0)
  have hr2:=blk_far hr1 (p:=⟨q,6,none⟩) NBR.out (.int .i64 0)
  have hn2:=blk_far hn1 (p:=⟨q,6,none⟩) NBN.out.1 (.int .i64 0)
  have ku2:=ku1.setCell (p:=⟨q,6,none⟩) (.inl (.inl rfl)) (.int .i64 0)
  obtain ⟨u2,hw2⟩:∃ u2,u1.setCell ⟨q,6,none⟩ (.int .i64 0)=u2:=⟨_,rfl⟩
  rw [hw2] at hu2 hr2 hn2 ku2
  have HU1:=lh hu1
  have HW2:=lh hw2
  clear hu1 hr1 hn1 ku1 hw2
  have hu3:=blk_set hu2 7 (.int .i64 0)
  have hr3:=blk_far hr2 (p:=⟨q,7,none⟩) NBR.out (.int .i64 0)
  have hn3:=blk_far hn2 (p:=⟨q,7,none⟩) NBN.out.1 (.int .i64 0)
  have ku3:=ku2.setCell (p:=⟨q,7,none⟩) (.inl (.inl rfl)) (.int .i64 0)
  obtain ⟨u3,hw3⟩:∃ u3,u2.setCell ⟨q,7,none⟩ (.int .i64 0)=u3:=⟨_,rfl⟩
  rw [hw3] at hu3 hr3 hn3 ku3
  have HU2:=lh hu2
  have HW3:=lh hw3
  clear hu2 hr2 hn2 ku2 hw3
  have hu4:=blk_set hu3 8 (.int .i64 0)
  have hr4:=blk_far hr3 (p:=⟨q,8,none⟩) NBR.out (.int .i64 0)
  have hn4:=blk_far hn3 (p:=⟨q,8,none⟩) NBN.out.1 (.int .i64 0)
  have ku4:=ku3.setCell (p:=⟨q,8,none⟩) (.inl (.inl rfl)) (.int .i64 0)
  obtain ⟨u4,hw4⟩:∃ u4,u3.setCell ⟨q,8,none⟩ (.int .i64 0)=u4:=⟨_,rfl⟩
  rw [hw4] at hu4 hr4 hn4 ku4
  have HU3:=lh hu3
  have HW4:=lh hw4
  clear hu3 hr3 hn3 ku3 hw4
  have hu5:=blk_set hu4 11 (.int .i64 0)
  have hr5:=blk_far hr4 (p:=⟨q,11,none⟩) NBR.out (.int .i64 0)
  have hn5:=blk_far hn4 (p:=⟨q,11,none⟩) NBN.out.1 (.int .i64 0)
  have ku5:=ku4.setCell (p:=⟨q,11,none⟩) (.inl (.inl rfl)) (.int .i64 0)
  obtain ⟨u5,hw5⟩:∃ u5,u4.setCell ⟨q,11,none⟩ (.int .i64 0)=u5:=⟨_,rfl⟩
  rw [hw5] at hu5 hr5 hn5 ku5
  have HU4:=lh hu4
  have HW5:=lh hw5
  clear hu4 hr4 hn4 ku4 hw5
  have HU5:Hid (u5.heap[q]?=some (.cells (foundCells id bt bs e0 e1 e2 e3 e4 e5 e6 e7 e8 e9 e10 e11 e12 cf t7 t10 bn) 75 (0,0))):=lh hu5
  have HR5:=lh hr5
  have HN5:=lh hn5
  have KU5:=lh ku5
  clear hu5 hr5 hn5 ku5
  refine wpX_nil (hQ' _ _ ?_)
  go_wp2_with (first|(refine wpList_store_cell rfl 3 (.tmp 49) (.const (.int .i64 0)) rfl q 5 (.int .i64 0) rfl rfl rfl _ _ HU0.out (by simp [madeCells]) (by kernel_rfl) ?_; rw [HW1.out])|(refine wpList_store_cell rfl 3 (.tmp 51) (.const (.int .i64 0)) rfl q 6 (.int .i64 0) rfl rfl rfl _ _ HU1.out (by simp [madeCells]) (by kernel_rfl) ?_; rw [HW2.out])|(refine wpList_store_cell rfl 3 (.tmp 53) (.const (.int .i64 0)) rfl q 7 (.int .i64 0) rfl rfl rfl _ _ HU2.out (by simp [madeCells]) (by kernel_rfl) ?_; rw [HW3.out])|(refine wpList_store_cell rfl 3 (.tmp 55) (.const (.int .i64 0)) rfl q 8 (.int .i64 0) rfl rfl rfl _ _ HU3.out (by simp [madeCells]) (by kernel_rfl) ?_; rw [HW4.out])|(refine wpList_store_cell rfl 3 (.tmp 57) (.const (.int .i64 0)) rfl q 11 (.int .i64 0) rfl rfl rfl _ _ HU4.out (by simp [madeCells]) (by kernel_rfl) ?_; rw [HW5.out]) | refine wpList_load_row rfl 75 (.tmp 5) rfl q rfl _ (foundCells id bt bs e0 e1 e2 e3 e4 e5 e6 e7 e8 e9 e10 e11 e12 cf t7 t10 bn) _ _ HU5.out Tryz.underlying75 rfl (by kernel_rfl) ?_|(refine wpList_store_row rfl 75 (.tmp 4) (.tmp 58) rfl br (foundCells id bt bs e0 e1 e2 e3 e4 e5 e6 e7 e8 e9 e10 e11 e12 cf t7 t10 bn) rfl rfl _ _ HR5.out (by kernel_rfl) rfl (by simp [foundCells,Value.oneCell']) ?_; apply hold))
  unfold Hold
  rename_i K hK
  refine (show K _ _ from hK _ _ ?_)
  refine wp_ret ?_
  have hsr:=setRow_heap u5 br _ (foundCells id bt bs e0 e1 e2 e3 e4 e5 e6 e7 e8 e9 e10 e11 e12 cf t7 t10 bn) 75 (0,0) HR5.out
  refine bodyPost_ret (results_cell_row rfl _ _ _ _ _ _ _ rfl hsr Tryz.underlying75 rfl (by kernel_rfl)) rfl ?_
  have hnb:=setRow_other u5 br bn (foundCells id bt bs e0 e1 e2 e3 e4 e5 e6 e7 e8 e9 e10 e11 e12 cf t7 t10 bn) NBN.out.2
  rw [HN5.out] at hnb
  have kf:=KU5.out.trans (F:=fun k=>k=q∨k=br) (G:=fun k=>k=br) (w2:=u5.setRow br (foundCells id bt bs e0 e1 e2 e3 e4 e5 e6 e7 e8 e9 e10 e11 e12 cf t7 t10 bn)) ⟨rfl,rfl,rfl,by simp,fun j _ hj=>setRow_other u5 br j _ hj⟩ (fun k h=>.inl (.inr h))
  obtain ⟨F',a1,a2,a3,a4⟩:=found_end KA.out H2.out B2.out K2.out kf QG.out (by have:=QR.out; omega) NQ.out NR.out BS.out
  have hbn:=LN.out
  refine ⟨t7,t10,bn,_,rfl,L7.out,L10.out,hnb,Nat.le_trans (Nat.le_trans KA.out.size LK.out) hbn,F',a1,a2,a3,fun hf=>?_⟩
  have:=LF.out _ (a4 _ hf)
  omega
 simp only [pick,List.zip_cons_cons,List.zip_nil_right,List.filterMap_cons,List.filterMap_nil,List.getElem?_cons_zero,List.getElem?_cons_succ]
 refine wpX_keeps ?_ (fun K hK=>?_)
 ·rfl
 go_wp2_with (fail)
 have HTN:=lh (N.out.blk HT.out NT.out)
 refine (N.out.tt fun F1 h1=>tree_leaf bt k sg cl h1 HTN.out HK.out HSG.out HC.out).mono ?_
 rintro e x13 ⟨t13,s13,rfl,l13,hn⟩
 replace N:=lh hn
 have L13:=lh l13
 clear hn l13
 clear HTN
 have SX:x13.heap[bx]?=_:=N.out.blk HX.out NX.out
 go_simp
 refine hK _ _ ⟨rfl,SX,?_⟩
 clear hK K SX
 refine wpX_nil ?_
 refine wpT_two rfl (by rfl) (by rfl) ?_ ?_
 rotate_left
 ·simp only [pick,List.zip_cons_cons,List.zip_nil_right,List.filterMap_cons,List.filterMap_nil,List.getElem?_cons_zero,List.getElem?_cons_succ]
  refine wpX_keeps ?_ (fun K hK=>?_)
  ·rfl
  have ky:=(Kept.refl x13 (fun _=>False)).alloc (.cells #[.int .i64 0,.int .i64 0,.int .i64 0,.slice none 0 0,.slice none 0 0,.int .i64 0,.int .i64 0,.int .i64 0,.int .i64 0,.int .i64 0,.int .i64 0,.int .i64 0,.int .i64 0,.int .i64 0,.int .i64 0,.int .i64 0,.int .i64 0,.int .i64 0,.int .i64 0,.int .i64 0,.int .i64 0,.int .i64 0,.slice none 0 0,.slice none 0 0,.slice none 0 0,.slice none 0 0,.bool false,.slice none 0 0,.pointer none] 75)
  have hq0:=heap_alloc_new x13 (.cells #[.int .i64 0,.int .i64 0,.int .i64 0,.slice none 0 0,.slice none 0 0,.int .i64 0,.int .i64 0,.int .i64 0,.int .i64 0,.int .i64 0,.int .i64 0,.int .i64 0,.int .i64 0,.int .i64 0,.int .i64 0,.int .i64 0,.int .i64 0,.int .i64 0,.int .i64 0,.int .i64 0,.int .i64 0,.int .i64 0,.slice none 0 0,.slice none 0 0,.slice none 0 0,.slice none 0 0,.bool false,.slice none 0 0,.pointer none] 75)
  obtain ⟨F1,h1,b1,k1⟩:=N.out
  have NQ:=lh (show ¬ F1 x13.heap.size from fun hf=>absurd (h1.at_.lt _ hf) (Nat.lt_irrefl _))
  have B1:=lh b1
  have K1:=lh (k1.trans ky (fun _ h=>h.elim))
  replace HX:=lh (ky.blk (k1.blk HX.out NX.out) (fun h=>h))
  replace HR:=lh (ky.blk (k1.blk HR.out NR.out) (fun h=>h))
  replace HT:=lh (ky.blk (k1.blk HT.out NT.out) (fun h=>h))
  replace NX:=lh (show ¬ F1 bx from fun hf=>(b1 _ hf).elim NX.out (fun h=>by have:=LX.out; omega))
  replace NR:=lh (show ¬ F1 br from fun hf=>(b1 _ hf).elim NR.out (fun h=>by have:=LR.out; omega))
  replace NT:=lh (show ¬ F1 bt from fun hf=>(b1 _ hf).elim NT.out (fun h=>by have:=LT.out; omega))
  replace N:=lh (TNext.refl (h1.kept ky))
  have HQ:=lh hq0
  have QG:=lh (show w.heap.size≤x13.heap.size from Nat.le_trans KA.out.size k1.size)
  have QHk:=lh k1.size
  clear h1 b1 k1 ky hq0
  go_wp2
  obtain ⟨q,hq⟩:∃ q,x13.heap.size=q:=⟨_,rfl⟩
  obtain ⟨x14,hy⟩:∃ x14,x13.alloc (.cells #[.int .i64 0,.int .i64 0,.int .i64 0,.slice none 0 0,.slice none 0 0,.int .i64 0,.int .i64 0,.int .i64 0,.int .i64 0,.int .i64 0,.int .i64 0,.int .i64 0,.int .i64 0,.int .i64 0,.int .i64 0,.int .i64 0,.int .i64 0,.int .i64 0,.int .i64 0,.int .i64 0,.int .i64 0,.int .i64 0,.slice none 0 0,.slice none 0 0,.slice none 0 0,.slice none 0 0,.bool false,.slice none 0 0,.pointer none] 75)=x14:=⟨_,rfl⟩
  rw [hy] at HX HR HT N HQ K1 ⊢
  have QH:=lh (show x0.heap.size≤q from Nat.le_trans QHk.out (Nat.le_of_eq hq))
  rw [hq] at HQ NQ QG ⊢
  have YR:=lh (blk_lt HR.out)
  have YQ:=lh (blk_lt HQ.out)
  clear hq hy
  refine ⟨HX.out,?_⟩
  refine wpX_keeps ?_ (fun K hK=>?_)
  ·rfl
  go_wp2_with (fail)
  refine (N.out.tt fun F1 h1=>context_tt id 0 t13 cf h1 HI.out (by unfold I64; decide)).mono ?_
  rintro e x15 ⟨t15,s15,rfl,l15,hn⟩
  replace N:=lh hn
  have L15:=lh l15
  clear hn l15
  have SX:x15.heap[bx]?=_:=N.out.blk HX.out NX.out
  go_simp
  refine hK _ _ ⟨rfl,SX,?_⟩
  clear hK K SX
  refine wpX_keeps ?_ (fun K hK=>?_)
  ·rfl
  go_wp2_with (fail)
  refine (leaves_one _ _ _).mono ?_
  rintro e w' ⟨rfl,hw⟩
  obtain rfl:=hw.symm
  clear hw
  have SX:x15.heap[bx]?=_:=N.out.blk HX.out NX.out
  go_simp
  refine hK _ _ ⟨rfl,SX,?_⟩
  clear hK K SX
  refine wpX_keeps ?_ (fun K hK=>?_)
  ·rfl
  go_wp2_with (fail)
  refine (ratnew_any e6 _).mono ?_
  rintro e x17 ⟨bn,rfl,hbn,hle,hk⟩
  obtain ⟨F2,h2,b2,k2⟩:=N.out
  have H2:=lh h2
  have B2:=lh (show ∀ k,F2 k→F k∨x0.heap.size≤k from fun k hf=>(b2 k hf).elim (B1.out k) (fun h=>.inr (Nat.le_trans K1.out.size h)))
  have K2:=lh (K1.out.trans k2 (fun k hf=>B1.out k hf))
  replace HX:=lh (k2.blk HX.out NX.out)
  replace HR:=lh (k2.blk HR.out NR.out)
  replace HQ:=lh (k2.blk HQ.out NQ.out)
  have hqlt:=blk_lt HQ.out
  replace NR:=lh (show ¬ F2 br from fun hf=>(b2 _ hf).elim NR.out (fun h=>by have:=YR.out; omega))
  replace NQ:=lh (show ¬ F2 q from fun hf=>(b2 _ hf).elim NQ.out (fun h=>by have:=YQ.out; omega))
  clear h2 b2 k2 N hqlt
  have LKP:=lh K2.out.size
  have LF:=lh (show ∀ k,F2 k→k < x15.heap.size from H2.out.at_.lt)
  replace H2:=lh (H2.out.kept hk)
  replace K2:=kt K2 hk
  have HN:=lh hbn
  have LN:=lh hle
  have LK:=lh LKP.out
  replace HX:=kb hk HX
  replace HR:=kb hk HR
  replace HQ:=kb hk HQ
  clear hbn hle hk
  go_simp
  refine hK _ _ ⟨rfl,HX.out,?_⟩
  clear hK K
  repeat((first|(refine wpX_silent ?_ fun K hK=>?_;rfl;apply Exists.intro;refine ⟨fun w'=>?_,?_⟩;go_simp;exact⟨rfl,rfl⟩)|(refine wpX_read ?_ fun K hK=>?_;rfl;apply Exists.intro;refine ⟨?_,?_⟩;go_simp;exact⟨rfl,rfl⟩)|(refine wpX_float ?_ fun K hK=>?_;rfl;apply Exists.intro;refine ⟨fun w' hw'=>?_,?_⟩;(try dsimp only at hw');go_simp;exact⟨rfl,rfl⟩)|(refine wpX_not ?_ fun K hK=>?_;rfl));go_simp;refine hK _ _ ?_;clear hK K)
  refine wpX_keeps ?_ (fun K hK=>?_)
  ·rfl
  have hne:bx≠q:=by
   rintro rfl
   have h1:=HX.out
   rw [HQ.out] at h1
   simp [factCells] at h1
  have NBR:Hid (br≠q):=lh (by
   have h1:=QH.out
   have h2:=LR.out
   omega)
  have NBN:Hid (bn≠q∧bn≠br):=lh (by
   refine ⟨?_,?_⟩
   ·rintro rfl
    have h1:=HN.out
    rw [HQ.out] at h1
    simp at h1
   ·rintro rfl
    have h1:=HN.out
    rw [HR.out] at h1
    simp at h1)
  have hu0:=setRow_heap x17 q _ (madeCells id bt bs e0 e1 e2 e3 e4 e5 e6 e7 e8 e9 e10 e11 e12 cf t7 t15 bn) 75 (0,0) HQ.out
  have hr0:=setRow_other x17 q br (madeCells id bt bs e0 e1 e2 e3 e4 e5 e6 e7 e8 e9 e10 e11 e12 cf t7 t15 bn) NBR.out
  have hn0:=setRow_other x17 q bn (madeCells id bt bs e0 e1 e2 e3 e4 e5 e6 e7 e8 e9 e10 e11 e12 cf t7 t15 bn) NBN.out.1
  have hx0:=setRow_other x17 q bx (madeCells id bt bs e0 e1 e2 e3 e4 e5 e6 e7 e8 e9 e10 e11 e12 cf t7 t15 bn) hne
  rw [HR.out] at hr0
  rw [HN.out] at hn0
  rw [HX.out] at hx0
  have ku0:Kept x17 (x17.setRow q (madeCells id bt bs e0 e1 e2 e3 e4 e5 e6 e7 e8 e9 e10 e11 e12 cf t7 t15 bn)) (fun k=>k=q∨k=br):=⟨rfl,rfl,rfl,by simp,fun j _ hj=>setRow_other x17 q j _ (fun h=>hj (.inl h))⟩
  refine wp_store_row 75 (.tmp 5) (.tmp 47) rfl q (madeCells id bt bs e0 e1 e2 e3 e4 e5 e6 e7 e8 e9 e10 e11 e12 cf t7 t15 bn) rfl rfl _ _ HQ.out (by kernel_rfl) rfl (by simp [madeCells,Value.oneCell']) ?_
  obtain ⟨u0,hw0⟩:∃ u0,x17.setRow q (madeCells id bt bs e0 e1 e2 e3 e4 e5 e6 e7 e8 e9 e10 e11 e12 cf t7 t15 bn)=u0:=⟨_,rfl⟩
  rw [hw0] at hu0 hr0 hn0 hx0 ku0 ⊢
  go_simp
  refine hK _ _ ⟨rfl,hx0,?_⟩
  clear hK K hw0 hx0 hne
  have hu1:=blk_set hu0 5 (.int .i64 0)
  have hr1:=blk_far hr0 (p:=⟨q,5,none⟩) NBR.out (.int .i64 0)
  have hn1:=blk_far hn0 (p:=⟨q,5,none⟩) NBN.out.1 (.int .i64 0)
  have ku1:=ku0.setCell (p:=⟨q,5,none⟩) (.inl (.inl rfl)) (.int .i64 0)
  obtain ⟨u1,hw1⟩:∃ u1,u0.setCell ⟨q,5,none⟩ (.int .i64 0)=u1:=⟨_,rfl⟩
  rw [hw1] at hu1 hr1 hn1 ku1
  have HU0:=lh hu0
  have HW1:=lh hw1
  clear hu0 hr0 hn0 ku0 hw1
  have hu2:=blk_set hu1 6 (.int .i64 0)
  have hr2:=blk_far hr1 (p:=⟨q,6,none⟩) NBR.out (.int .i64 0)
  have hn2:=blk_far hn1 (p:=⟨q,6,none⟩) NBN.out.1 (.int .i64 0)
  have ku2:=ku1.setCell (p:=⟨q,6,none⟩) (.inl (.inl rfl)) (.int .i64 0)
  obtain ⟨u2,hw2⟩:∃ u2,u1.setCell ⟨q,6,none⟩ (.int .i64 0)=u2:=⟨_,rfl⟩
  rw [hw2] at hu2 hr2 hn2 ku2
  have HU1:=lh hu1
  have HW2:=lh hw2
  clear hu1 hr1 hn1 ku1 hw2
  have hu3:=blk_set hu2 7 (.int .i64 0)
  have hr3:=blk_far hr2 (p:=⟨q,7,none⟩) NBR.out (.int .i64 0)
  have hn3:=blk_far hn2 (p:=⟨q,7,none⟩) NBN.out.1 (.int .i64 0)
  have ku3:=ku2.setCell (p:=⟨q,7,none⟩) (.inl (.inl rfl)) (.int .i64 0)
  obtain ⟨u3,hw3⟩:∃ u3,u2.setCell ⟨q,7,none⟩ (.int .i64 0)=u3:=⟨_,rfl⟩
  rw [hw3] at hu3 hr3 hn3 ku3
  have HU2:=lh hu2
  have HW3:=lh hw3
  clear hu2 hr2 hn2 ku2 hw3
  have hu4:=blk_set hu3 8 (.int .i64 0)
  have hr4:=blk_far hr3 (p:=⟨q,8,none⟩) NBR.out (.int .i64 0)
  have hn4:=blk_far hn3 (p:=⟨q,8,none⟩) NBN.out.1 (.int .i64 0)
  have ku4:=ku3.setCell (p:=⟨q,8,none⟩) (.inl (.inl rfl)) (.int .i64 0)
  obtain ⟨u4,hw4⟩:∃ u4,u3.setCell ⟨q,8,none⟩ (.int .i64 0)=u4:=⟨_,rfl⟩
  rw [hw4] at hu4 hr4 hn4 ku4
  have HU3:=lh hu3
  have HW4:=lh hw4
  clear hu3 hr3 hn3 ku3 hw4
  have hu5:=blk_set hu4 11 (.int .i64 0)
  have hr5:=blk_far hr4 (p:=⟨q,11,none⟩) NBR.out (.int .i64 0)
  have hn5:=blk_far hn4 (p:=⟨q,11,none⟩) NBN.out.1 (.int .i64 0)
  have ku5:=ku4.setCell (p:=⟨q,11,none⟩) (.inl (.inl rfl)) (.int .i64 0)
  obtain ⟨u5,hw5⟩:∃ u5,u4.setCell ⟨q,11,none⟩ (.int .i64 0)=u5:=⟨_,rfl⟩
  rw [hw5] at hu5 hr5 hn5 ku5
  have HU4:=lh hu4
  have HW5:=lh hw5
  clear hu4 hr4 hn4 ku4 hw5
  have HU5:Hid (u5.heap[q]?=some (.cells (foundCells id bt bs e0 e1 e2 e3 e4 e5 e6 e7 e8 e9 e10 e11 e12 cf t7 t15 bn) 75 (0,0))):=lh hu5
  have HR5:=lh hr5
  have HN5:=lh hn5
  have KU5:=lh ku5
  clear hu5 hr5 hn5 ku5
  refine wpX_nil (hQ' _ _ ?_)
  go_wp2_with (first|(refine wpList_store_cell rfl 3 (.tmp 49) (.const (.int .i64 0)) rfl q 5 (.int .i64 0) rfl rfl rfl _ _ HU0.out (by simp [madeCells]) (by kernel_rfl) ?_; rw [HW1.out])|(refine wpList_store_cell rfl 3 (.tmp 51) (.const (.int .i64 0)) rfl q 6 (.int .i64 0) rfl rfl rfl _ _ HU1.out (by simp [madeCells]) (by kernel_rfl) ?_; rw [HW2.out])|(refine wpList_store_cell rfl 3 (.tmp 53) (.const (.int .i64 0)) rfl q 7 (.int .i64 0) rfl rfl rfl _ _ HU2.out (by simp [madeCells]) (by kernel_rfl) ?_; rw [HW3.out])|(refine wpList_store_cell rfl 3 (.tmp 55) (.const (.int .i64 0)) rfl q 8 (.int .i64 0) rfl rfl rfl _ _ HU3.out (by simp [madeCells]) (by kernel_rfl) ?_; rw [HW4.out])|(refine wpList_store_cell rfl 3 (.tmp 57) (.const (.int .i64 0)) rfl q 11 (.int .i64 0) rfl rfl rfl _ _ HU4.out (by simp [madeCells]) (by kernel_rfl) ?_; rw [HW5.out]) | refine wpList_load_row rfl 75 (.tmp 5) rfl q rfl _ (foundCells id bt bs e0 e1 e2 e3 e4 e5 e6 e7 e8 e9 e10 e11 e12 cf t7 t15 bn) _ _ HU5.out Tryz.underlying75 rfl (by kernel_rfl) ?_|(refine wpList_store_row rfl 75 (.tmp 4) (.tmp 58) rfl br (foundCells id bt bs e0 e1 e2 e3 e4 e5 e6 e7 e8 e9 e10 e11 e12 cf t7 t15 bn) rfl rfl _ _ HR5.out (by kernel_rfl) rfl (by simp [foundCells,Value.oneCell']) ?_; apply hold))
  unfold Hold
  rename_i K hK
  refine (show K _ _ from hK _ _ ?_)
  refine wp_ret ?_
  have hsr:=setRow_heap u5 br _ (foundCells id bt bs e0 e1 e2 e3 e4 e5 e6 e7 e8 e9 e10 e11 e12 cf t7 t15 bn) 75 (0,0) HR5.out
  refine bodyPost_ret (results_cell_row rfl _ _ _ _ _ _ _ rfl hsr Tryz.underlying75 rfl (by kernel_rfl)) rfl ?_
  have hnb:=setRow_other u5 br bn (foundCells id bt bs e0 e1 e2 e3 e4 e5 e6 e7 e8 e9 e10 e11 e12 cf t7 t15 bn) NBN.out.2
  rw [HN5.out] at hnb
  have kf:=KU5.out.trans (F:=fun k=>k=q∨k=br) (G:=fun k=>k=br) (w2:=u5.setRow br (foundCells id bt bs e0 e1 e2 e3 e4 e5 e6 e7 e8 e9 e10 e11 e12 cf t7 t15 bn)) ⟨rfl,rfl,rfl,by simp,fun j _ hj=>setRow_other u5 br j _ hj⟩ (fun k h=>.inl (.inr h))
  obtain ⟨F',a1,a2,a3,a4⟩:=found_end KA.out H2.out B2.out K2.out kf QG.out (by have:=QR.out; omega) NQ.out NR.out BS.out
  have hbn:=LN.out
  refine ⟨t7,t15,bn,_,rfl,L7.out,L15.out,hnb,Nat.le_trans (Nat.le_trans KA.out.size LK.out) hbn,F',a1,a2,a3,fun hf=>?_⟩
  have:=LF.out _ (a4 _ hf)
  omega
 simp only [pick,List.zip_cons_cons,List.zip_nil_right,List.filterMap_cons,List.filterMap_nil,List.getElem?_cons_zero,List.getElem?_cons_succ]
 refine wpX_keeps ?_ (fun K hK=>?_)
 ·rfl
 go_wp2_with (fail)
 refine (N.out.tt fun F1 h1=>context_tt id 0 t13 cf h1 HI.out (by unfold I64; decide)).mono ?_
 rintro e x18 ⟨t18,s18,rfl,l18,hn⟩
 replace N:=lh hn
 have L18:=lh l18
 clear hn l18
 have SX:x18.heap[bx]?=_:=N.out.blk HX.out NX.out
 go_simp
 refine hK _ _ ⟨rfl,SX,?_⟩
 clear hK K SX
 refine wpX_nil ?_
 refine wpT_two rfl (by rfl) (by rfl) ?_ ?_
 rotate_left
 ·simp only [pick,List.zip_cons_cons,List.zip_nil_right,List.filterMap_cons,List.filterMap_nil,List.getElem?_cons_zero,List.getElem?_cons_succ]
  refine wpX_keeps ?_ (fun K hK=>?_)
  ·rfl
  have ky:=(Kept.refl x18 (fun _=>False)).alloc (.cells #[.int .i64 0,.int .i64 0,.int .i64 0,.slice none 0 0,.slice none 0 0,.int .i64 0,.int .i64 0,.int .i64 0,.int .i64 0,.int .i64 0,.int .i64 0,.int .i64 0,.int .i64 0,.int .i64 0,.int .i64 0,.int .i64 0,.int .i64 0,.int .i64 0,.int .i64 0,.int .i64 0,.int .i64 0,.int .i64 0,.slice none 0 0,.slice none 0 0,.slice none 0 0,.slice none 0 0,.bool false,.slice none 0 0,.pointer none] 75)
  have hq0:=heap_alloc_new x18 (.cells #[.int .i64 0,.int .i64 0,.int .i64 0,.slice none 0 0,.slice none 0 0,.int .i64 0,.int .i64 0,.int .i64 0,.int .i64 0,.int .i64 0,.int .i64 0,.int .i64 0,.int .i64 0,.int .i64 0,.int .i64 0,.int .i64 0,.int .i64 0,.int .i64 0,.int .i64 0,.int .i64 0,.int .i64 0,.int .i64 0,.slice none 0 0,.slice none 0 0,.slice none 0 0,.slice none 0 0,.bool false,.slice none 0 0,.pointer none] 75)
  obtain ⟨F1,h1,b1,k1⟩:=N.out
  have NQ:=lh (show ¬ F1 x18.heap.size from fun hf=>absurd (h1.at_.lt _ hf) (Nat.lt_irrefl _))
  have B1:=lh b1
  have K1:=lh (k1.trans ky (fun _ h=>h.elim))
  replace HX:=lh (ky.blk (k1.blk HX.out NX.out) (fun h=>h))
  replace HR:=lh (ky.blk (k1.blk HR.out NR.out) (fun h=>h))
  replace HT:=lh (ky.blk (k1.blk HT.out NT.out) (fun h=>h))
  replace NX:=lh (show ¬ F1 bx from fun hf=>(b1 _ hf).elim NX.out (fun h=>by have:=LX.out; omega))
  replace NR:=lh (show ¬ F1 br from fun hf=>(b1 _ hf).elim NR.out (fun h=>by have:=LR.out; omega))
  replace NT:=lh (show ¬ F1 bt from fun hf=>(b1 _ hf).elim NT.out (fun h=>by have:=LT.out; omega))
  replace N:=lh (TNext.refl (h1.kept ky))
  have HQ:=lh hq0
  have QG:=lh (show w.heap.size≤x18.heap.size from Nat.le_trans KA.out.size k1.size)
  have QHk:=lh k1.size
  clear h1 b1 k1 ky hq0
  go_wp2
  obtain ⟨q,hq⟩:∃ q,x18.heap.size=q:=⟨_,rfl⟩
  obtain ⟨x19,hy⟩:∃ x19,x18.alloc (.cells #[.int .i64 0,.int .i64 0,.int .i64 0,.slice none 0 0,.slice none 0 0,.int .i64 0,.int .i64 0,.int .i64 0,.int .i64 0,.int .i64 0,.int .i64 0,.int .i64 0,.int .i64 0,.int .i64 0,.int .i64 0,.int .i64 0,.int .i64 0,.int .i64 0,.int .i64 0,.int .i64 0,.int .i64 0,.int .i64 0,.slice none 0 0,.slice none 0 0,.slice none 0 0,.slice none 0 0,.bool false,.slice none 0 0,.pointer none] 75)=x19:=⟨_,rfl⟩
  rw [hy] at HX HR HT N HQ K1 ⊢
  have QH:=lh (show x0.heap.size≤q from Nat.le_trans QHk.out (Nat.le_of_eq hq))
  rw [hq] at HQ NQ QG ⊢
  have YR:=lh (blk_lt HR.out)
  have YQ:=lh (blk_lt HQ.out)
  clear hq hy
  refine ⟨HX.out,?_⟩
  refine wpX_keeps ?_ (fun K hK=>?_)
  ·rfl
  go_wp2_with (fail)
  refine (leaves_one _ _ _).mono ?_
  rintro e w' ⟨rfl,hw⟩
  obtain rfl:=hw.symm
  clear hw
  have SX:x19.heap[bx]?=_:=N.out.blk HX.out NX.out
  go_simp
  refine hK _ _ ⟨rfl,SX,?_⟩
  clear hK K SX
  refine wpX_keeps ?_ (fun K hK=>?_)
  ·rfl
  go_wp2_with (fail)
  refine (ratnew_any e6 _).mono ?_
  rintro e x21 ⟨bn,rfl,hbn,hle,hk⟩
  obtain ⟨F2,h2,b2,k2⟩:=N.out
  have H2:=lh h2
  have B2:=lh (show ∀ k,F2 k→F k∨x0.heap.size≤k from fun k hf=>(b2 k hf).elim (B1.out k) (fun h=>.inr (Nat.le_trans K1.out.size h)))
  have K2:=lh (K1.out.trans k2 (fun k hf=>B1.out k hf))
  replace HX:=lh (k2.blk HX.out NX.out)
  replace HR:=lh (k2.blk HR.out NR.out)
  replace HQ:=lh (k2.blk HQ.out NQ.out)
  have hqlt:=blk_lt HQ.out
  replace NR:=lh (show ¬ F2 br from fun hf=>(b2 _ hf).elim NR.out (fun h=>by have:=YR.out; omega))
  replace NQ:=lh (show ¬ F2 q from fun hf=>(b2 _ hf).elim NQ.out (fun h=>by have:=YQ.out; omega))
  clear h2 b2 k2 N hqlt
  have LKP:=lh K2.out.size
  have LF:=lh (show ∀ k,F2 k→k < x19.heap.size from H2.out.at_.lt)
  replace H2:=lh (H2.out.kept hk)
  replace K2:=kt K2 hk
  have HN:=lh hbn
  have LN:=lh hle
  have LK:=lh LKP.out
  replace HX:=kb hk HX
  replace HR:=kb hk HR
  replace HQ:=kb hk HQ
  clear hbn hle hk
  go_simp
  refine hK _ _ ⟨rfl,HX.out,?_⟩
  clear hK K
  repeat((first|(refine wpX_silent ?_ fun K hK=>?_;rfl;apply Exists.intro;refine ⟨fun w'=>?_,?_⟩;go_simp;exact⟨rfl,rfl⟩)|(refine wpX_read ?_ fun K hK=>?_;rfl;apply Exists.intro;refine ⟨?_,?_⟩;go_simp;exact⟨rfl,rfl⟩)|(refine wpX_float ?_ fun K hK=>?_;rfl;apply Exists.intro;refine ⟨fun w' hw'=>?_,?_⟩;(try dsimp only at hw');go_simp;exact⟨rfl,rfl⟩)|(refine wpX_not ?_ fun K hK=>?_;rfl));go_simp;refine hK _ _ ?_;clear hK K)
  refine wpX_keeps ?_ (fun K hK=>?_)
  ·rfl
  have hne:bx≠q:=by
   rintro rfl
   have h1:=HX.out
   rw [HQ.out] at h1
   simp [factCells] at h1
  have NBR:Hid (br≠q):=lh (by
   have h1:=QH.out
   have h2:=LR.out
   omega)
  have NBN:Hid (bn≠q∧bn≠br):=lh (by
   refine ⟨?_,?_⟩
   ·rintro rfl
    have h1:=HN.out
    rw [HQ.out] at h1
    simp at h1
   ·rintro rfl
    have h1:=HN.out
    rw [HR.out] at h1
    simp at h1)
  have hu0:=setRow_heap x21 q _ (madeCells id bt bs e0 e1 e2 e3 e4 e5 e6 e7 e8 e9 e10 e11 e12 cf t7 t18 bn) 75 (0,0) HQ.out
  have hr0:=setRow_other x21 q br (madeCells id bt bs e0 e1 e2 e3 e4 e5 e6 e7 e8 e9 e10 e11 e12 cf t7 t18 bn) NBR.out
  have hn0:=setRow_other x21 q bn (madeCells id bt bs e0 e1 e2 e3 e4 e5 e6 e7 e8 e9 e10 e11 e12 cf t7 t18 bn) NBN.out.1
  have hx0:=setRow_other x21 q bx (madeCells id bt bs e0 e1 e2 e3 e4 e5 e6 e7 e8 e9 e10 e11 e12 cf t7 t18 bn) hne
  rw [HR.out] at hr0
  rw [HN.out] at hn0
  rw [HX.out] at hx0
  have ku0:Kept x21 (x21.setRow q (madeCells id bt bs e0 e1 e2 e3 e4 e5 e6 e7 e8 e9 e10 e11 e12 cf t7 t18 bn)) (fun k=>k=q∨k=br):=⟨rfl,rfl,rfl,by simp,fun j _ hj=>setRow_other x21 q j _ (fun h=>hj (.inl h))⟩
  refine wp_store_row 75 (.tmp 5) (.tmp 47) rfl q (madeCells id bt bs e0 e1 e2 e3 e4 e5 e6 e7 e8 e9 e10 e11 e12 cf t7 t18 bn) rfl rfl _ _ HQ.out (by kernel_rfl) rfl (by simp [madeCells,Value.oneCell']) ?_
  obtain ⟨u0,hw0⟩:∃ u0,x21.setRow q (madeCells id bt bs e0 e1 e2 e3 e4 e5 e6 e7 e8 e9 e10 e11 e12 cf t7 t18 bn)=u0:=⟨_,rfl⟩
  rw [hw0] at hu0 hr0 hn0 hx0 ku0 ⊢
  go_simp
  refine hK _ _ ⟨rfl,hx0,?_⟩
  clear hK K hw0 hx0 hne
  have hu1:=blk_set hu0 5 (.int .i64 0)
  have hr1:=blk_far hr0 (p:=⟨q,5,none⟩) NBR.out (.int .i64 0)
  have hn1:=blk_far hn0 (p:=⟨q,5,none⟩) NBN.out.1 (.int .i64 0)
  have ku1:=ku0.setCell (p:=⟨q,5,none⟩) (.inl (.inl rfl)) (.int .i64 0)
  obtain ⟨u1,hw1⟩:∃ u1,u0.setCell ⟨q,5,none⟩ (.int .i64 0)=u1:=⟨_,rfl⟩
  rw [hw1] at hu1 hr1 hn1 ku1
  have HU0:=lh hu0
  have HW1:=lh hw1
  clear hu0 hr0 hn0 ku0 hw1
  have hu2:=blk_set hu1 6 (.int .i64 0)
  have hr2:=blk_far hr1 (p:=⟨q,6,none⟩) NBR.out (.int .i64 0)
  have hn2:=blk_far hn1 (p:=⟨q,6,none⟩) NBN.out.1 (.int .i64 0)
  have ku2:=ku1.setCell (p:=⟨q,6,none⟩) (.inl (.inl rfl)) (.int .i64 0)
  obtain ⟨u2,hw2⟩:∃ u2,u1.setCell ⟨q,6,none⟩ (.int .i64 0)=u2:=⟨_,rfl⟩
  rw [hw2] at hu2 hr2 hn2 ku2
  have HU1:=lh hu1
  have HW2:=lh hw2
  clear hu1 hr1 hn1 ku1 hw2
  have hu3:=blk_set hu2 7 (.int .i64 0)
  have hr3:=blk_far hr2 (p:=⟨q,7,none⟩) NBR.out (.int .i64 0)
  have hn3:=blk_far hn2 (p:=⟨q,7,none⟩) NBN.out.1 (.int .i64 0)
  have ku3:=ku2.setCell (p:=⟨q,7,none⟩) (.inl (.inl rfl)) (.int .i64 0)
  obtain ⟨u3,hw3⟩:∃ u3,u2.setCell ⟨q,7,none⟩ (.int .i64 0)=u3:=⟨_,rfl⟩
  rw [hw3] at hu3 hr3 hn3 ku3
  have HU2:=lh hu2
  have HW3:=lh hw3
  clear hu2 hr2 hn2 ku2 hw3
  have hu4:=blk_set hu3 8 (.int .i64 0)
  have hr4:=blk_far hr3 (p:=⟨q,8,none⟩) NBR.out (.int .i64 0)
  have hn4:=blk_far hn3 (p:=⟨q,8,none⟩) NBN.out.1 (.int .i64 0)
  have ku4:=ku3.setCell (p:=⟨q,8,none⟩) (.inl (.inl rfl)) (.int .i64 0)
  obtain ⟨u4,hw4⟩:∃ u4,u3.setCell ⟨q,8,none⟩ (.int .i64 0)=u4:=⟨_,rfl⟩
  rw [hw4] at hu4 hr4 hn4 ku4
  have HU3:=lh hu3
  have HW4:=lh hw4
  clear hu3 hr3 hn3 ku3 hw4
  have hu5:=blk_set hu4 11 (.int .i64 0)
  have hr5:=blk_far hr4 (p:=⟨q,11,none⟩) NBR.out (.int .i64 0)
  have hn5:=blk_far hn4 (p:=⟨q,11,none⟩) NBN.out.1 (.int .i64 0)
  have ku5:=ku4.setCell (p:=⟨q,11,none⟩) (.inl (.inl rfl)) (.int .i64 0)
  obtain ⟨u5,hw5⟩:∃ u5,u4.setCell ⟨q,11,none⟩ (.int .i64 0)=u5:=⟨_,rfl⟩
  rw [hw5] at hu5 hr5 hn5 ku5
  have HU4:=lh hu4
  have HW5:=lh hw5
  clear hu4 hr4 hn4 ku4 hw5
  have HU5:Hid (u5.heap[q]?=some (.cells (foundCells id bt bs e0 e1 e2 e3 e4 e5 e6 e7 e8 e9 e10 e11 e12 cf t7 t18 bn) 75 (0,0))):=lh hu5
  have HR5:=lh hr5
  have HN5:=lh hn5
  have KU5:=lh ku5
  clear hu5 hr5 hn5 ku5
  refine wpX_nil (hQ' _ _ ?_)
  go_wp2_with (first|(refine wpList_store_cell rfl 3 (.tmp 49) (.const (.int .i64 0)) rfl q 5 (.int .i64 0) rfl rfl rfl _ _ HU0.out (by simp [madeCells]) (by kernel_rfl) ?_; rw [HW1.out])|(refine wpList_store_cell rfl 3 (.tmp 51) (.const (.int .i64 0)) rfl q 6 (.int .i64 0) rfl rfl rfl _ _ HU1.out (by simp [madeCells]) (by kernel_rfl) ?_; rw [HW2.out])|(refine wpList_store_cell rfl 3 (.tmp 53) (.const (.int .i64 0)) rfl q 7 (.int .i64 0) rfl rfl rfl _ _ HU2.out (by simp [madeCells]) (by kernel_rfl) ?_; rw [HW3.out])|(refine wpList_store_cell rfl 3 (.tmp 55) (.const (.int .i64 0)) rfl q 8 (.int .i64 0) rfl rfl rfl _ _ HU3.out (by simp [madeCells]) (by kernel_rfl) ?_; rw [HW4.out])|(refine wpList_store_cell rfl 3 (.tmp 57) (.const (.int .i64 0)) rfl q 11 (.int .i64 0) rfl rfl rfl _ _ HU4.out (by simp [madeCells]) (by kernel_rfl) ?_; rw [HW5.out]) | refine wpList_load_row rfl 75 (.tmp 5) rfl q rfl _ (foundCells id bt bs e0 e1 e2 e3 e4 e5 e6 e7 e8 e9 e10 e11 e12 cf t7 t18 bn) _ _ HU5.out Tryz.underlying75 rfl (by kernel_rfl) ?_|(refine wpList_store_row rfl 75 (.tmp 4) (.tmp 58) rfl br (foundCells id bt bs e0 e1 e2 e3 e4 e5 e6 e7 e8 e9 e10 e11 e12 cf t7 t18 bn) rfl rfl _ _ HR5.out (by kernel_rfl) rfl (by simp [foundCells,Value.oneCell']) ?_; apply hold))
  unfold Hold
  rename_i K hK
  refine (show K _ _ from hK _ _ ?_)
  refine wp_ret ?_
  have hsr:=setRow_heap u5 br _ (foundCells id bt bs e0 e1 e2 e3 e4 e5 e6 e7 e8 e9 e10 e11 e12 cf t7 t18 bn) 75 (0,0) HR5.out
  refine bodyPost_ret (results_cell_row rfl _ _ _ _ _ _ _ rfl hsr Tryz.underlying75 rfl (by kernel_rfl)) rfl ?_
  have hnb:=setRow_other u5 br bn (foundCells id bt bs e0 e1 e2 e3 e4 e5 e6 e7 e8 e9 e10 e11 e12 cf t7 t18 bn) NBN.out.2
  rw [HN5.out] at hnb
  have kf:=KU5.out.trans (F:=fun k=>k=q∨k=br) (G:=fun k=>k=br) (w2:=u5.setRow br (foundCells id bt bs e0 e1 e2 e3 e4 e5 e6 e7 e8 e9 e10 e11 e12 cf t7 t18 bn)) ⟨rfl,rfl,rfl,by simp,fun j _ hj=>setRow_other u5 br j _ hj⟩ (fun k h=>.inl (.inr h))
  obtain ⟨F',a1,a2,a3,a4⟩:=found_end KA.out H2.out B2.out K2.out kf QG.out (by have:=QR.out; omega) NQ.out NR.out BS.out
  have hbn:=LN.out
  refine ⟨t7,t18,bn,_,rfl,L7.out,L18.out,hnb,Nat.le_trans (Nat.le_trans KA.out.size LK.out) hbn,F',a1,a2,a3,fun hf=>?_⟩
  have:=LF.out _ (a4 _ hf)
  omega
 simp only [pick,List.zip_cons_cons,List.zip_nil_right,List.filterMap_cons,List.filterMap_nil,List.getElem?_cons_zero,List.getElem?_cons_succ]
 refine wpX_keeps ?_ (fun K hK=>?_)
 ·rfl
 go_wp2_with (fail)
 refine (leaves_one _ _ _).mono ?_
 rintro e w' ⟨rfl,hw⟩
 obtain rfl:=hw.symm
 clear hw
 have SX:x18.heap[bx]?=_:=N.out.blk HX.out NX.out
 go_simp
 refine hK _ _ ⟨rfl,SX,?_⟩
 clear hK K SX
 refine wpX_nil ?_
 refine wpT_two rfl (by rfl) (by rfl) ?_ ?_
 rotate_left
 ·simp only [pick,List.zip_cons_cons,List.zip_nil_right,List.filterMap_cons,List.filterMap_nil,List.getElem?_cons_zero,List.getElem?_cons_succ]
  refine wpX_keeps ?_ (fun K hK=>?_)
  ·rfl
  have ky:=(Kept.refl x18 (fun _=>False)).alloc (.cells #[.int .i64 0,.int .i64 0,.int .i64 0,.slice none 0 0,.slice none 0 0,.int .i64 0,.int .i64 0,.int .i64 0,.int .i64 0,.int .i64 0,.int .i64 0,.int .i64 0,.int .i64 0,.int .i64 0,.int .i64 0,.int .i64 0,.int .i64 0,.int .i64 0,.int .i64 0,.int .i64 0,.int .i64 0,.int .i64 0,.slice none 0 0,.slice none 0 0,.slice none 0 0,.slice none 0 0,.bool false,.slice none 0 0,.pointer none] 75)
  have hq0:=heap_alloc_new x18 (.cells #[.int .i64 0,.int .i64 0,.int .i64 0,.slice none 0 0,.slice none 0 0,.int .i64 0,.int .i64 0,.int .i64 0,.int .i64 0,.int .i64 0,.int .i64 0,.int .i64 0,.int .i64 0,.int .i64 0,.int .i64 0,.int .i64 0,.int .i64 0,.int .i64 0,.int .i64 0,.int .i64 0,.int .i64 0,.int .i64 0,.slice none 0 0,.slice none 0 0,.slice none 0 0,.slice none 0 0,.bool false,.slice none 0 0,.pointer none] 75)
  obtain ⟨F1,h1,b1,k1⟩:=N.out
  have NQ:=lh (show ¬ F1 x18.heap.size from fun hf=>absurd (h1.at_.lt _ hf) (Nat.lt_irrefl _))
  have B1:=lh b1
  have K1:=lh (k1.trans ky (fun _ h=>h.elim))
  replace HX:=lh (ky.blk (k1.blk HX.out NX.out) (fun h=>h))
  replace HR:=lh (ky.blk (k1.blk HR.out NR.out) (fun h=>h))
  replace HT:=lh (ky.blk (k1.blk HT.out NT.out) (fun h=>h))
  replace NX:=lh (show ¬ F1 bx from fun hf=>(b1 _ hf).elim NX.out (fun h=>by have:=LX.out; omega))
  replace NR:=lh (show ¬ F1 br from fun hf=>(b1 _ hf).elim NR.out (fun h=>by have:=LR.out; omega))
  replace NT:=lh (show ¬ F1 bt from fun hf=>(b1 _ hf).elim NT.out (fun h=>by have:=LT.out; omega))
  replace N:=lh (TNext.refl (h1.kept ky))
  have HQ:=lh hq0
  have QG:=lh (show w.heap.size≤x18.heap.size from Nat.le_trans KA.out.size k1.size)
  have QHk:=lh k1.size
  clear h1 b1 k1 ky hq0
  go_wp2
  obtain ⟨q,hq⟩:∃ q,x18.heap.size=q:=⟨_,rfl⟩
  obtain ⟨x23,hy⟩:∃ x23,x18.alloc (.cells #[.int .i64 0,.int .i64 0,.int .i64 0,.slice none 0 0,.slice none 0 0,.int .i64 0,.int .i64 0,.int .i64 0,.int .i64 0,.int .i64 0,.int .i64 0,.int .i64 0,.int .i64 0,.int .i64 0,.int .i64 0,.int .i64 0,.int .i64 0,.int .i64 0,.int .i64 0,.int .i64 0,.int .i64 0,.int .i64 0,.slice none 0 0,.slice none 0 0,.slice none 0 0,.slice none 0 0,.bool false,.slice none 0 0,.pointer none] 75)=x23:=⟨_,rfl⟩
  rw [hy] at HX HR HT N HQ K1 ⊢
  have QH:=lh (show x0.heap.size≤q from Nat.le_trans QHk.out (Nat.le_of_eq hq))
  rw [hq] at HQ NQ QG ⊢
  have YR:=lh (blk_lt HR.out)
  have YQ:=lh (blk_lt HQ.out)
  clear hq hy
  refine ⟨HX.out,?_⟩
  refine wpX_keeps ?_ (fun K hK=>?_)
  ·rfl
  go_wp2_with (fail)
  refine (ratnew_any e6 _).mono ?_
  rintro e x24 ⟨bn,rfl,hbn,hle,hk⟩
  obtain ⟨F2,h2,b2,k2⟩:=N.out
  have H2:=lh h2
  have B2:=lh (show ∀ k,F2 k→F k∨x0.heap.size≤k from fun k hf=>(b2 k hf).elim (B1.out k) (fun h=>.inr (Nat.le_trans K1.out.size h)))
  have K2:=lh (K1.out.trans k2 (fun k hf=>B1.out k hf))
  replace HX:=lh (k2.blk HX.out NX.out)
  replace HR:=lh (k2.blk HR.out NR.out)
  replace HQ:=lh (k2.blk HQ.out NQ.out)
  have hqlt:=blk_lt HQ.out
  replace NR:=lh (show ¬ F2 br from fun hf=>(b2 _ hf).elim NR.out (fun h=>by have:=YR.out; omega))
  replace NQ:=lh (show ¬ F2 q from fun hf=>(b2 _ hf).elim NQ.out (fun h=>by have:=YQ.out; omega))
  clear h2 b2 k2 N hqlt
  have LKP:=lh K2.out.size
  have LF:=lh (show ∀ k,F2 k→k < x23.heap.size from H2.out.at_.lt)
  replace H2:=lh (H2.out.kept hk)
  replace K2:=kt K2 hk
  have HN:=lh hbn
  have LN:=lh hle
  have LK:=lh LKP.out
  replace HX:=kb hk HX
  replace HR:=kb hk HR
  replace HQ:=kb hk HQ
  clear hbn hle hk
  go_simp
  refine hK _ _ ⟨rfl,HX.out,?_⟩
  clear hK K
  repeat((first|(refine wpX_silent ?_ fun K hK=>?_;rfl;apply Exists.intro;refine ⟨fun w'=>?_,?_⟩;go_simp;exact⟨rfl,rfl⟩)|(refine wpX_read ?_ fun K hK=>?_;rfl;apply Exists.intro;refine ⟨?_,?_⟩;go_simp;exact⟨rfl,rfl⟩)|(refine wpX_float ?_ fun K hK=>?_;rfl;apply Exists.intro;refine ⟨fun w' hw'=>?_,?_⟩;(try dsimp only at hw');go_simp;exact⟨rfl,rfl⟩)|(refine wpX_not ?_ fun K hK=>?_;rfl));go_simp;refine hK _ _ ?_;clear hK K)
  refine wpX_keeps ?_ (fun K hK=>?_)
  ·rfl
  have hne:bx≠q:=by
   rintro rfl
   have h1:=HX.out
   rw [HQ.out] at h1
   simp [factCells] at h1
  have NBR:Hid (br≠q):=lh (by
   have h1:=QH.out
   have h2:=LR.out
   omega)
  have NBN:Hid (bn≠q∧bn≠br):=lh (by
   refine ⟨?_,?_⟩
   ·rintro rfl
    have h1:=HN.out
    rw [HQ.out] at h1
    simp at h1
   ·rintro rfl
    have h1:=HN.out
    rw [HR.out] at h1
    simp at h1)
  have hu0:=setRow_heap x24 q _ (madeCells id bt bs e0 e1 e2 e3 e4 e5 e6 e7 e8 e9 e10 e11 e12 cf t7 t18 bn) 75 (0,0) HQ.out
  have hr0:=setRow_other x24 q br (madeCells id bt bs e0 e1 e2 e3 e4 e5 e6 e7 e8 e9 e10 e11 e12 cf t7 t18 bn) NBR.out
  have hn0:=setRow_other x24 q bn (madeCells id bt bs e0 e1 e2 e3 e4 e5 e6 e7 e8 e9 e10 e11 e12 cf t7 t18 bn) NBN.out.1
  have hx0:=setRow_other x24 q bx (madeCells id bt bs e0 e1 e2 e3 e4 e5 e6 e7 e8 e9 e10 e11 e12 cf t7 t18 bn) hne
  rw [HR.out] at hr0
  rw [HN.out] at hn0
  rw [HX.out] at hx0
  have ku0:Kept x24 (x24.setRow q (madeCells id bt bs e0 e1 e2 e3 e4 e5 e6 e7 e8 e9 e10 e11 e12 cf t7 t18 bn)) (fun k=>k=q∨k=br):=⟨rfl,rfl,rfl,by simp,fun j _ hj=>setRow_other x24 q j _ (fun h=>hj (.inl h))⟩
  refine wp_store_row 75 (.tmp 5) (.tmp 47) rfl q (madeCells id bt bs e0 e1 e2 e3 e4 e5 e6 e7 e8 e9 e10 e11 e12 cf t7 t18 bn) rfl rfl _ _ HQ.out (by kernel_rfl) rfl (by simp [madeCells,Value.oneCell']) ?_
  obtain ⟨u0,hw0⟩:∃ u0,x24.setRow q (madeCells id bt bs e0 e1 e2 e3 e4 e5 e6 e7 e8 e9 e10 e11 e12 cf t7 t18 bn)=u0:=⟨_,rfl⟩
  rw [hw0] at hu0 hr0 hn0 hx0 ku0 ⊢
  go_simp
  refine hK _ _ ⟨rfl,hx0,?_⟩
  clear hK K hw0 hx0 hne
  have hu1:=blk_set hu0 5 (.int .i64 0)
  have hr1:=blk_far hr0 (p:=⟨q,5,none⟩) NBR.out (.int .i64 0)
  have hn1:=blk_far hn0 (p:=⟨q,5,none⟩) NBN.out.1 (.int .i64 0)
  have ku1:=ku0.setCell (p:=⟨q,5,none⟩) (.inl (.inl rfl)) (.int .i64 0)
  obtain ⟨u1,hw1⟩:∃ u1,u0.setCell ⟨q,5,none⟩ (.int .i64 0)=u1:=⟨_,rfl⟩
  rw [hw1] at hu1 hr1 hn1 ku1
  have HU0:=lh hu0
  have HW1:=lh hw1
  clear hu0 hr0 hn0 ku0 hw1
  have hu2:=blk_set hu1 6 (.int .i64 0)
  have hr2:=blk_far hr1 (p:=⟨q,6,none⟩) NBR.out (.int .i64 0)
  have hn2:=blk_far hn1 (p:=⟨q,6,none⟩) NBN.out.1 (.int .i64 0)
  have ku2:=ku1.setCell (p:=⟨q,6,none⟩) (.inl (.inl rfl)) (.int .i64 0)
  obtain ⟨u2,hw2⟩:∃ u2,u1.setCell ⟨q,6,none⟩ (.int .i64 0)=u2:=⟨_,rfl⟩
  rw [hw2] at hu2 hr2 hn2 ku2
  have HU1:=lh hu1
  have HW2:=lh hw2
  clear hu1 hr1 hn1 ku1 hw2
  have hu3:=blk_set hu2 7 (.int .i64 0)
  have hr3:=blk_far hr2 (p:=⟨q,7,none⟩) NBR.out (.int .i64 0)
  have hn3:=blk_far hn2 (p:=⟨q,7,none⟩) NBN.out.1 (.int .i64 0)
  have ku3:=ku2.setCell (p:=⟨q,7,none⟩) (.inl (.inl rfl)) (.int .i64 0)
  obtain ⟨u3,hw3⟩:∃ u3,u2.setCell ⟨q,7,none⟩ (.int .i64 0)=u3:=⟨_,rfl⟩
  rw [hw3] at hu3 hr3 hn3 ku3
  have HU2:=lh hu2
  have HW3:=lh hw3
  clear hu2 hr2 hn2 ku2 hw3
  have hu4:=blk_set hu3 8 (.int .i64 0)
  have hr4:=blk_far hr3 (p:=⟨q,8,none⟩) NBR.out (.int .i64 0)
  have hn4:=blk_far hn3 (p:=⟨q,8,none⟩) NBN.out.1 (.int .i64 0)
  have ku4:=ku3.setCell (p:=⟨q,8,none⟩) (.inl (.inl rfl)) (.int .i64 0)
  obtain ⟨u4,hw4⟩:∃ u4,u3.setCell ⟨q,8,none⟩ (.int .i64 0)=u4:=⟨_,rfl⟩
  rw [hw4] at hu4 hr4 hn4 ku4
  have HU3:=lh hu3
  have HW4:=lh hw4
  clear hu3 hr3 hn3 ku3 hw4
  have hu5:=blk_set hu4 11 (.int .i64 0)
  have hr5:=blk_far hr4 (p:=⟨q,11,none⟩) NBR.out (.int .i64 0)
  have hn5:=blk_far hn4 (p:=⟨q,11,none⟩) NBN.out.1 (.int .i64 0)
  have ku5:=ku4.setCell (p:=⟨q,11,none⟩) (.inl (.inl rfl)) (.int .i64 0)
  obtain ⟨u5,hw5⟩:∃ u5,u4.setCell ⟨q,11,none⟩ (.int .i64 0)=u5:=⟨_,rfl⟩
  rw [hw5] at hu5 hr5 hn5 ku5
  have HU4:=lh hu4
  have HW5:=lh hw5
  clear hu4 hr4 hn4 ku4 hw5
  have HU5:Hid (u5.heap[q]?=some (.cells (foundCells id bt bs e0 e1 e2 e3 e4 e5 e6 e7 e8 e9 e10 e11 e12 cf t7 t18 bn) 75 (0,0))):=lh hu5
  have HR5:=lh hr5
  have HN5:=lh hn5
  have KU5:=lh ku5
  clear hu5 hr5 hn5 ku5
  refine wpX_nil (hQ' _ _ ?_)
  go_wp2_with (first|(refine wpList_store_cell rfl 3 (.tmp 49) (.const (.int .i64 0)) rfl q 5 (.int .i64 0) rfl rfl rfl _ _ HU0.out (by simp [madeCells]) (by kernel_rfl) ?_; rw [HW1.out])|(refine wpList_store_cell rfl 3 (.tmp 51) (.const (.int .i64 0)) rfl q 6 (.int .i64 0) rfl rfl rfl _ _ HU1.out (by simp [madeCells]) (by kernel_rfl) ?_; rw [HW2.out])|(refine wpList_store_cell rfl 3 (.tmp 53) (.const (.int .i64 0)) rfl q 7 (.int .i64 0) rfl rfl rfl _ _ HU2.out (by simp [madeCells]) (by kernel_rfl) ?_; rw [HW3.out])|(refine wpList_store_cell rfl 3 (.tmp 55) (.const (.int .i64 0)) rfl q 8 (.int .i64 0) rfl rfl rfl _ _ HU3.out (by simp [madeCells]) (by kernel_rfl) ?_; rw [HW4.out])|(refine wpList_store_cell rfl 3 (.tmp 57) (.const (.int .i64 0)) rfl q 11 (.int .i64 0) rfl rfl rfl _ _ HU4.out (by simp [madeCells]) (by kernel_rfl) ?_; rw [HW5.out]) | refine wpList_load_row rfl 75 (.tmp 5) rfl q rfl _ (foundCells id bt bs e0 e1 e2 e3 e4 e5 e6 e7 e8 e9 e10 e11 e12 cf t7 t18 bn) _ _ HU5.out Tryz.underlying75 rfl (by kernel_rfl) ?_|(refine wpList_store_row rfl 75 (.tmp 4) (.tmp 58) rfl br (foundCells id bt bs e0 e1 e2 e3 e4 e5 e6 e7 e8 e9 e10 e11 e12 cf t7 t18 bn) rfl rfl _ _ HR5.out (by kernel_rfl) rfl (by simp [foundCells,Value.oneCell']) ?_; apply hold))
  unfold Hold
  rename_i K hK
  refine (show K _ _ from hK _ _ ?_)
  refine wp_ret ?_
  have hsr:=setRow_heap u5 br _ (foundCells id bt bs e0 e1 e2 e3 e4 e5 e6 e7 e8 e9 e10 e11 e12 cf t7 t18 bn) 75 (0,0) HR5.out
  refine bodyPost_ret (results_cell_row rfl _ _ _ _ _ _ _ rfl hsr Tryz.underlying75 rfl (by kernel_rfl)) rfl ?_
  have hnb:=setRow_other u5 br bn (foundCells id bt bs e0 e1 e2 e3 e4 e5 e6 e7 e8 e9 e10 e11 e12 cf t7 t18 bn) NBN.out.2
  rw [HN5.out] at hnb
  have kf:=KU5.out.trans (F:=fun k=>k=q∨k=br) (G:=fun k=>k=br) (w2:=u5.setRow br (foundCells id bt bs e0 e1 e2 e3 e4 e5 e6 e7 e8 e9 e10 e11 e12 cf t7 t18 bn)) ⟨rfl,rfl,rfl,by simp,fun j _ hj=>setRow_other u5 br j _ hj⟩ (fun k h=>.inl (.inr h))
  obtain ⟨F',a1,a2,a3,a4⟩:=found_end KA.out H2.out B2.out K2.out kf QG.out (by have:=QR.out; omega) NQ.out NR.out BS.out
  have hbn:=LN.out
  refine ⟨t7,t18,bn,_,rfl,L7.out,L18.out,hnb,Nat.le_trans (Nat.le_trans KA.out.size LK.out) hbn,F',a1,a2,a3,fun hf=>?_⟩
  have:=LF.out _ (a4 _ hf)
  omega
 simp only [pick,List.zip_cons_cons,List.zip_nil_right,List.filterMap_cons,List.filterMap_nil,List.getElem?_cons_zero,List.getElem?_cons_succ]
 refine wpX_keeps ?_ (fun K hK=>?_)
 ·rfl
 go_wp2_with (fail)
 refine (ratnew_any e6 _).mono ?_
 rintro e x25 ⟨bn,rfl,hbn,hle,hk⟩
 obtain ⟨F2,h2,b2,k2⟩:=N.out
 have H2:=lh h2
 have B2:=lh b2
 have K2:=lh k2
 replace HX:=lh (k2.blk HX.out NX.out)
 replace HR:=lh (k2.blk HR.out NR.out)
 replace NX:=lh (show ¬ F2 bx from fun hf=>(b2 _ hf).elim NX.out (fun h=>by have:=LX.out; omega))
 replace NR:=lh (show ¬ F2 br from fun hf=>(b2 _ hf).elim NR.out (fun h=>by have:=LR.out; omega))
 clear h2 b2 k2 N
 have LKP:=lh K2.out.size
 have LF:=lh (show ∀ k,F2 k→k < x18.heap.size from H2.out.at_.lt)
 replace H2:=lh (H2.out.kept hk)
 replace K2:=kt K2 hk
 have HN:=lh hbn
 have LN:=lh hle
 have LK:=lh LKP.out
 replace HX:=kb hk HX
 replace HR:=kb hk HR
 clear hbn hle hk
 go_simp
 refine hK _ _ ⟨rfl,HX.out,?_⟩
 clear hK K
 repeat((first|(refine wpX_silent ?_ fun K hK=>?_;rfl;apply Exists.intro;refine ⟨fun w'=>?_,?_⟩;go_simp;exact⟨rfl,rfl⟩)|(refine wpX_read ?_ fun K hK=>?_;rfl;apply Exists.intro;refine ⟨?_,?_⟩;go_simp;exact⟨rfl,rfl⟩)|(refine wpX_float ?_ fun K hK=>?_;rfl;apply Exists.intro;refine ⟨fun w' hw'=>?_,?_⟩;(try dsimp only at hw');go_simp;exact⟨rfl,rfl⟩)|(refine wpX_not ?_ fun K hK=>?_;rfl));go_simp;refine hK _ _ ?_;clear hK K)
 refine wpX_keeps ?_ (fun K hK=>?_)
 ·rfl
 have ky:=(Kept.refl x25 (fun _=>False)).alloc (.cells #[.int .i64 0,.int .i64 0,.int .i64 0,.slice none 0 0,.slice none 0 0,.int .i64 0,.int .i64 0,.int .i64 0,.int .i64 0,.int .i64 0,.int .i64 0,.int .i64 0,.int .i64 0,.int .i64 0,.int .i64 0,.int .i64 0,.int .i64 0,.int .i64 0,.int .i64 0,.int .i64 0,.int .i64 0,.int .i64 0,.slice none 0 0,.slice none 0 0,.slice none 0 0,.slice none 0 0,.bool false,.slice none 0 0,.pointer none] 75)
 have hq0:=heap_alloc_new x25 (.cells #[.int .i64 0,.int .i64 0,.int .i64 0,.slice none 0 0,.slice none 0 0,.int .i64 0,.int .i64 0,.int .i64 0,.int .i64 0,.int .i64 0,.int .i64 0,.int .i64 0,.int .i64 0,.int .i64 0,.int .i64 0,.int .i64 0,.int .i64 0,.int .i64 0,.int .i64 0,.int .i64 0,.int .i64 0,.int .i64 0,.slice none 0 0,.slice none 0 0,.slice none 0 0,.slice none 0 0,.bool false,.slice none 0 0,.pointer none] 75)
 have NQ:=lh (show ¬ F2 x25.heap.size from fun hf=>absurd (H2.out.at_.lt _ hf) (Nat.lt_irrefl _))
 have QG:=lh (show w.heap.size≤x25.heap.size from Nat.le_trans KA.out.size K2.out.size)
 have QHk:=lh K2.out.size
 replace HX:=kb ky HX
 replace HR:=kb ky HR
 replace HN:=kb ky HN
 replace H2:=lh (H2.out.kept ky)
 replace K2:=kt K2 ky
 have HQ:=lh hq0
 clear ky hq0
 go_wp2
 obtain ⟨q,hq⟩:∃ q,x25.heap.size=q:=⟨_,rfl⟩
 obtain ⟨x26,hy⟩:∃ x26,x25.alloc (.cells #[.int .i64 0,.int .i64 0,.int .i64 0,.slice none 0 0,.slice none 0 0,.int .i64 0,.int .i64 0,.int .i64 0,.int .i64 0,.int .i64 0,.int .i64 0,.int .i64 0,.int .i64 0,.int .i64 0,.int .i64 0,.int .i64 0,.int .i64 0,.int .i64 0,.int .i64 0,.int .i64 0,.int .i64 0,.int .i64 0,.slice none 0 0,.slice none 0 0,.slice none 0 0,.slice none 0 0,.bool false,.slice none 0 0,.pointer none] 75)=x26:=⟨_,rfl⟩
 rw [hy] at HX HR HN H2 K2 HQ ⊢
 have QH:=lh (show x0.heap.size≤q from Nat.le_trans QHk.out (Nat.le_of_eq hq))
 rw [hq] at HQ NQ QG ⊢
 clear hq hy
 refine ⟨HX.out,?_⟩
 repeat((first|(refine wpX_silent ?_ fun K hK=>?_;rfl;apply Exists.intro;refine ⟨fun w'=>?_,?_⟩;go_simp;exact⟨rfl,rfl⟩)|(refine wpX_read ?_ fun K hK=>?_;rfl;apply Exists.intro;refine ⟨?_,?_⟩;go_simp;exact⟨rfl,rfl⟩)|(refine wpX_float ?_ fun K hK=>?_;rfl;apply Exists.intro;refine ⟨fun w' hw'=>?_,?_⟩;(try dsimp only at hw');go_simp;exact⟨rfl,rfl⟩)|(refine wpX_not ?_ fun K hK=>?_;rfl));go_simp;refine hK _ _ ?_;clear hK K)
 refine wpX_keeps ?_ (fun K hK=>?_)
 ·rfl
 have hne:bx≠q:=by
  rintro rfl
  have h1:=HX.out
  rw [HQ.out] at h1
  simp [factCells] at h1
 have NBR:Hid (br≠q):=lh (by
  have h1:=QH.out
  have h2:=LR.out
  omega)
 have NBN:Hid (bn≠q∧bn≠br):=lh (by
  refine ⟨?_,?_⟩
  ·rintro rfl
   have h1:=HN.out
   rw [HQ.out] at h1
   simp at h1
  ·rintro rfl
   have h1:=HN.out
   rw [HR.out] at h1
   simp at h1)
 have hu0:=setRow_heap x26 q _ (madeCells id bt bs e0 e1 e2 e3 e4 e5 e6 e7 e8 e9 e10 e11 e12 cf t7 t18 bn) 75 (0,0) HQ.out
 have hr0:=setRow_other x26 q br (madeCells id bt bs e0 e1 e2 e3 e4 e5 e6 e7 e8 e9 e10 e11 e12 cf t7 t18 bn) NBR.out
 have hn0:=setRow_other x26 q bn (madeCells id bt bs e0 e1 e2 e3 e4 e5 e6 e7 e8 e9 e10 e11 e12 cf t7 t18 bn) NBN.out.1
 have hx0:=setRow_other x26 q bx (madeCells id bt bs e0 e1 e2 e3 e4 e5 e6 e7 e8 e9 e10 e11 e12 cf t7 t18 bn) hne
 rw [HR.out] at hr0
 rw [HN.out] at hn0
 rw [HX.out] at hx0
 have ku0:Kept x26 (x26.setRow q (madeCells id bt bs e0 e1 e2 e3 e4 e5 e6 e7 e8 e9 e10 e11 e12 cf t7 t18 bn)) (fun k=>k=q∨k=br):=⟨rfl,rfl,rfl,by simp,fun j _ hj=>setRow_other x26 q j _ (fun h=>hj (.inl h))⟩
 refine wp_store_row 75 (.tmp 5) (.tmp 47) rfl q (madeCells id bt bs e0 e1 e2 e3 e4 e5 e6 e7 e8 e9 e10 e11 e12 cf t7 t18 bn) rfl rfl _ _ HQ.out (by kernel_rfl) rfl (by simp [madeCells,Value.oneCell']) ?_
 obtain ⟨u0,hw0⟩:∃ u0,x26.setRow q (madeCells id bt bs e0 e1 e2 e3 e4 e5 e6 e7 e8 e9 e10 e11 e12 cf t7 t18 bn)=u0:=⟨_,rfl⟩
 rw [hw0] at hu0 hr0 hn0 hx0 ku0 ⊢
 go_simp
 refine hK _ _ ⟨rfl,hx0,?_⟩
 clear hK K hw0 hx0 hne
 have hu1:=blk_set hu0 5 (.int .i64 0)
 have hr1:=blk_far hr0 (p:=⟨q,5,none⟩) NBR.out (.int .i64 0)
 have hn1:=blk_far hn0 (p:=⟨q,5,none⟩) NBN.out.1 (.int .i64 0)
 have ku1:=ku0.setCell (p:=⟨q,5,none⟩) (.inl (.inl rfl)) (.int .i64 0)
 obtain ⟨u1,hw1⟩:∃ u1,u0.setCell ⟨q,5,none⟩ (.int .i64 0)=u1:=⟨_,rfl⟩
 rw [hw1] at hu1 hr1 hn1 ku1
 have HU0:=lh hu0
 have HW1:=lh hw1
 clear hu0 hr0 hn0 ku0 hw1
 have hu2:=blk_set hu1 6 (.int .i64 0)
 have hr2:=blk_far hr1 (p:=⟨q,6,none⟩) NBR.out (.int .i64 0)
 have hn2:=blk_far hn1 (p:=⟨q,6,none⟩) NBN.out.1 (.int .i64 0)
 have ku2:=ku1.setCell (p:=⟨q,6,none⟩) (.inl (.inl rfl)) (.int .i64 0)
 obtain ⟨u2,hw2⟩:∃ u2,u1.setCell ⟨q,6,none⟩ (.int .i64 0)=u2:=⟨_,rfl⟩
 rw [hw2] at hu2 hr2 hn2 ku2
 have HU1:=lh hu1
 have HW2:=lh hw2
 clear hu1 hr1 hn1 ku1 hw2
 have hu3:=blk_set hu2 7 (.int .i64 0)
 have hr3:=blk_far hr2 (p:=⟨q,7,none⟩) NBR.out (.int .i64 0)
 have hn3:=blk_far hn2 (p:=⟨q,7,none⟩) NBN.out.1 (.int .i64 0)
 have ku3:=ku2.setCell (p:=⟨q,7,none⟩) (.inl (.inl rfl)) (.int .i64 0)
 obtain ⟨u3,hw3⟩:∃ u3,u2.setCell ⟨q,7,none⟩ (.int .i64 0)=u3:=⟨_,rfl⟩
 rw [hw3] at hu3 hr3 hn3 ku3
 have HU2:=lh hu2
 have HW3:=lh hw3
 clear hu2 hr2 hn2 ku2 hw3
 have hu4:=blk_set hu3 8 (.int .i64 0)
 have hr4:=blk_far hr3 (p:=⟨q,8,none⟩) NBR.out (.int .i64 0)
 have hn4:=blk_far hn3 (p:=⟨q,8,none⟩) NBN.out.1 (.int .i64 0)
 have ku4:=ku3.setCell (p:=⟨q,8,none⟩) (.inl (.inl rfl)) (.int .i64 0)
 obtain ⟨u4,hw4⟩:∃ u4,u3.setCell ⟨q,8,none⟩ (.int .i64 0)=u4:=⟨_,rfl⟩
 rw [hw4] at hu4 hr4 hn4 ku4
 have HU3:=lh hu3
 have HW4:=lh hw4
 clear hu3 hr3 hn3 ku3 hw4
 have hu5:=blk_set hu4 11 (.int .i64 0)
 have hr5:=blk_far hr4 (p:=⟨q,11,none⟩) NBR.out (.int .i64 0)
 have hn5:=blk_far hn4 (p:=⟨q,11,none⟩) NBN.out.1 (.int .i64 0)
 have ku5:=ku4.setCell (p:=⟨q,11,none⟩) (.inl (.inl rfl)) (.int .i64 0)
 obtain ⟨u5,hw5⟩:∃ u5,u4.setCell ⟨q,11,none⟩ (.int .i64 0)=u5:=⟨_,rfl⟩
 rw [hw5] at hu5 hr5 hn5 ku5
 have HU4:=lh hu4
 have HW5:=lh hw5
 clear hu4 hr4 hn4 ku4 hw5
 have HU5:Hid (u5.heap[q]?=some (.cells (foundCells id bt bs e0 e1 e2 e3 e4 e5 e6 e7 e8 e9 e10 e11 e12 cf t7 t18 bn) 75 (0,0))):=lh hu5
 have HR5:=lh hr5
 have HN5:=lh hn5
 have KU5:=lh ku5
 clear hu5 hr5 hn5 ku5
 refine wpX_nil (hQ' _ _ ?_)
 go_wp2_with (first|(refine wpList_store_cell rfl 3 (.tmp 49) (.const (.int .i64 0)) rfl q 5 (.int .i64 0) rfl rfl rfl _ _ HU0.out (by simp [madeCells]) (by kernel_rfl) ?_; rw [HW1.out])|(refine wpList_store_cell rfl 3 (.tmp 51) (.const (.int .i64 0)) rfl q 6 (.int .i64 0) rfl rfl rfl _ _ HU1.out (by simp [madeCells]) (by kernel_rfl) ?_; rw [HW2.out])|(refine wpList_store_cell rfl 3 (.tmp 53) (.const (.int .i64 0)) rfl q 7 (.int .i64 0) rfl rfl rfl _ _ HU2.out (by simp [madeCells]) (by kernel_rfl) ?_; rw [HW3.out])|(refine wpList_store_cell rfl 3 (.tmp 55) (.const (.int .i64 0)) rfl q 8 (.int .i64 0) rfl rfl rfl _ _ HU3.out (by simp [madeCells]) (by kernel_rfl) ?_; rw [HW4.out])|(refine wpList_store_cell rfl 3 (.tmp 57) (.const (.int .i64 0)) rfl q 11 (.int .i64 0) rfl rfl rfl _ _ HU4.out (by simp [madeCells]) (by kernel_rfl) ?_; rw [HW5.out]) | refine wpList_load_row rfl 75 (.tmp 5) rfl q rfl _ (foundCells id bt bs e0 e1 e2 e3 e4 e5 e6 e7 e8 e9 e10 e11 e12 cf t7 t18 bn) _ _ HU5.out Tryz.underlying75 rfl (by kernel_rfl) ?_|(refine wpList_store_row rfl 75 (.tmp 4) (.tmp 58) rfl br (foundCells id bt bs e0 e1 e2 e3 e4 e5 e6 e7 e8 e9 e10 e11 e12 cf t7 t18 bn) rfl rfl _ _ HR5.out (by kernel_rfl) rfl (by simp [foundCells,Value.oneCell']) ?_; apply hold))
 unfold Hold
 rename_i K hK
 refine (show K _ _ from hK _ _ ?_)
 refine wp_ret ?_
 have hsr:=setRow_heap u5 br _ (foundCells id bt bs e0 e1 e2 e3 e4 e5 e6 e7 e8 e9 e10 e11 e12 cf t7 t18 bn) 75 (0,0) HR5.out
 refine bodyPost_ret (results_cell_row rfl _ _ _ _ _ _ _ rfl hsr Tryz.underlying75 rfl (by kernel_rfl)) rfl ?_
 have hnb:=setRow_other u5 br bn (foundCells id bt bs e0 e1 e2 e3 e4 e5 e6 e7 e8 e9 e10 e11 e12 cf t7 t18 bn) NBN.out.2
 rw [HN5.out] at hnb
 have kf:=KU5.out.trans (F:=fun k=>k=q∨k=br) (G:=fun k=>k=br) (w2:=u5.setRow br (foundCells id bt bs e0 e1 e2 e3 e4 e5 e6 e7 e8 e9 e10 e11 e12 cf t7 t18 bn)) ⟨rfl,rfl,rfl,by simp,fun j _ hj=>setRow_other u5 br j _ hj⟩ (fun k h=>.inl (.inr h))
 obtain ⟨F',a1,a2,a3,a4⟩:=found_end KA.out H2.out B2.out K2.out kf QG.out (by have:=QR.out; omega) NQ.out NR.out BS.out
 have hbn:=LN.out
 refine ⟨t7,t18,bn,_,rfl,L7.out,L18.out,hnb,Nat.le_trans (Nat.le_trans KA.out.size LK.out) hbn,F',a1,a2,a3,fun hf=>?_⟩
 have:=LF.out _ (a4 _ hf)
 omega
end Go.Proofs.YtogkkfdkeefjnaaGreatDoor.Term
