/-
  The codec of states, made. The codec of snapshots, made. Terms, more loosely: a call gives some term, the store goes on. Trees of one leaf: what the arithmetic says there; leaves, counted; a leaf, made. The hash of a tree of one leaf, walked.
-/
import Derived.Test.YtogkkfdkeefjnaaGreatDoorA25
import Derived.Test.YtogkkfdkeefjnaaGreatDoorA24
import Derived.Test.YtogkkfdkeefjnaaGreatDoorA03
import Derived.Test.YtogkkfdkeefjnaaGreatDoorA08
import Derived.Test.YtogkkfdkeefjnaaGreatDoorA01
import Derived.Deep.MidRow
import Derived.Deep.WholeRow
import Derived.Test.YtogkkfdkeefjnaaGreatDoorA15
namespace Go.Proofs.YtogkkfdkeefjnaaGreatDoor.Codec
open Go.RowKit Go.Proofs.YtogkkfdkeefjnaaGreatDoorBase Go.Proofs.YtogkkfdkeefjnaaGreatDoorLex2 Go.Proofs.YtogkkfdkeefjnaaGreatDoorNum
set_option linter.unusedVariables false
set_option maxRecDepth 100000
set_option linter.unusedSimpArgs false
theorem get_stf_pend:GetterOk 75 29 (.func (.func 150) #[] #[]) 28:=by
 refine ⟨_,rfl,Proofs.enters_of Tryz.func150 (by kernel_rfl) rfl,?_⟩
 intro b cs w hb hs
 clear hb hs
 go_enter Tryz.func150,Tryz.ntmps150
 go_wp2
 go_ret
 exact ⟨rfl,rfl⟩
theorem elem_part:Elem Tryz.prog 348 264 (.agg #[.nilFunc,.nilFunc]) 2 16:=⟨by kernel_rfl,by obtain ⟨i,h1,h2,h3,h4⟩:=info_parts (show (Tryz.prog.info? 264).map (fun i=>(i.zero,i.size,i.bytes))=some (some (.agg #[.nilFunc,.nilFunc]),2,16) by kernel_rfl); exact ⟨i,h1,h2,h3,h4⟩,rfl,by decide,by decide⟩
set_option maxHeartbeats 12800000 in
theorem states_one (w:World):Calls Tryz.prog 67 #[.int .i64 1] w fun r w'=>∃ a b,r=.returned (.agg #[a,b])∧a.oneCell'=true∧b.oneCell'=true∧Kept w w' (fun _=>False)∧∀ W',From w.heap.size w' W'→IsCodec W' (.agg #[a,b]) stfC:=by
 go_enter Tryz.func67,Tryz.ntmps67
 go_wp2_with (fail)
 have SZ:Hid ((w.alloc (.cells #[.nilFunc,.nilFunc] 185)).heap.size≤(w.alloc (.cells #[.nilFunc,.nilFunc] 185)).heap.size):=lh (Nat.le_refl _)
 have HR:=lh (heap_alloc_new w (.cells #[.nilFunc,.nilFunc] 185))
 have KW:=lh ((Kept.refl w (fun _=>False)).alloc (.cells #[.nilFunc,.nilFunc] 185))
 have B0:=lh (show w.heap.size < (w.alloc (.cells #[.nilFunc,.nilFunc] 185)).heap.size by simp)
 obtain ⟨b0,hb0⟩:∃ b0,(w.alloc (.cells #[.nilFunc,.nilFunc] 185)).heap.size=b0:=⟨_,rfl⟩
 obtain ⟨v0,hv0⟩:∃ v0,w.alloc (.cells #[.nilFunc,.nilFunc] 185)=v0:=⟨_,rfl⟩
 have SZ:Hid (b0≤(w.alloc (.cells #[.nilFunc,.nilFunc] 185)).heap.size):=lh (Nat.le_of_eq hb0.symm)
 rw [hb0] at B0
 rw [hv0] at SZ HR KW ⊢
 clear hb0 hv0
 refine (props_new _).mono ?_
 rintro e v1 ⟨a1,b1,rfl,-,-,hk,hc⟩
 have D1:=lh (fresh_from SZ.out hc)
 replace SZ:=szk SZ hk
 replace HR:=kb hk HR
 replace KW:=kt KW hk
 clear hk hc
 go_wp2_with (fail)
 refine (fieldN_offerProp_groupCached 107 (Proofs.enters_of Tryz.func107 (by kernel_rfl) rfl) a1 b1 _).mono ?_
 rintro e v2 ⟨a2,b2,rfl,-,-,hk,hc⟩
 have D2:=lh (fresh_from SZ.out hc)
 replace SZ:=szk SZ hk
 replace D1:=cy D1 hk
 replace HR:=kb hk HR
 replace KW:=kt KW hk
 clear hk hc
 have P2:Hid (∀ W',From b0 v2 W'→PPut W' 231 12 a2 cach_prop∧PGet W' 231 12 b2 cach_prop):=lh (fun W' hW=>D2.out W' hW (propC) propC_fair propC_many 0 12 (by decide) (fun x:CachD=>x.prop) (fun y x=>{ x with prop:=y }) (D1.out W' hW) get_cach_prop)
 clear D2 D1
 go_wp2_with (fail)
 refine (numberN_groupCached 110 (Proofs.enters_of Tryz.func110 (by kernel_rfl) rfl) _).mono ?_
 rintro e v3 ⟨a3,b3,rfl,-,-,hk,hc⟩
 have D3:=lh (fresh_from SZ.out hc)
 replace SZ:=szk SZ hk
 replace P2:=cy P2 hk
 replace HR:=kb hk HR
 replace KW:=kt KW hk
 clear hk hc
 have P3:Hid (∀ W',From b0 v3 W'→PPut W' 231 12 a3 cach_ref∧PGet W' 231 12 b3 cach_ref):=lh (fun W' hW=>D3.out W' hW 11 12 (by decide) (fun x:CachD=>x.ref) (fun y x=>{ x with ref:=y }) get_cach_ref)
 clear D3
 go_wp2_with (fail)
 have kq:=(Kept.refl v3 (fun _=>False)).alloc (.cells #[a2,b2,a3,b3] 235)
 have HP:=lh (heap_alloc_new v3 (.cells #[a2,b2,a3,b3] 235))
 have LP:=lh SZ.out
 replace P2:=cy P2 kq
 replace P3:=cy P3 kq
 replace HR:=kb kq HR
 replace KW:=kt KW kq
 replace SZ:=szk SZ kq
 obtain ⟨pb,hpb⟩:∃ pb,v3.heap.size=pb:=⟨_,rfl⟩
 obtain ⟨v4,hv⟩:∃ v4,v3.alloc (.cells #[a2,b2,a3,b3] 235)=v4:=⟨_,rfl⟩
 rw [hv] at SZ KW HP P2 P3 HR ⊢
 rw [hpb] at HP LP ⊢
 clear hpb hv kq
 refine (recordN_groupCached pb 2 2 (by decide) (by decide) _).mono ?_
 rintro e v5 ⟨a4,b4,rfl,ha,hb,hk,hc⟩
 have D4:=lh (fresh_from SZ.out hc)
 replace SZ:=szk SZ hk
 replace P2:=cy P2 hk
 replace P3:=cy P3 hk
 replace HR:=kb hk HR
 replace HP:=kb hk HP
 replace KW:=kt KW hk
 have A4:=lh ha
 have B4:=lh hb
 clear hk hc ha hb
 have CC:Hid (∀ W',From b0 v5 W'→IsCodec W' (.agg #[a4,b4]) cachC):=lh (fun W' hW=>by
   have hpa:W'.heap[pb]?=_:=hW.blk LP.out HP.out
   refine D4.out W' hW cachP rfl cachP_fair cachP_off CachZ (by decide) ⟨blk_lt hpa,fun k p hp=>?_⟩
   match k,hp with
   | 0,hp=>obtain rfl:=Option.some.inj hp; exact ⟨a2,b2,cellOf hpa,cellOf hpa,(P2.out W' hW).1,(P2.out W' hW).2⟩
   | 1,hp=>obtain rfl:=Option.some.inj hp; exact ⟨a3,b3,cellOf hpa,cellOf hpa,(P3.out W' hW).1,(P3.out W' hW).2⟩
   | k+2,hp=>simp [cachP] at hp)
 clear D4 P2 P3
 clear HP LP
 have HZ:=lh (heap_alloc_new v5 (.cells #[.nilFunc,.nilFunc] 228))
 obtain ⟨kq,hq⟩:=setRow_new (w:=v5) (Z:=#[.nilFunc,.nilFunc]) (cs:=#[a4,b4]) (T:=228)
 have KQ:=lh kq
 have HC:=lh hq
 clear kq hq
 go_wp2_with (first | refine wpList_store_row rfl 228 (.tmp 3) (.tmp 10) rfl v5.heap.size #[a4,b4] rfl rfl _ _ HZ.out (by kernel_rfl) rfl (by simp [A4.out,B4.out]) ?_)
 replace CC:=cy CC KQ.out
 replace HR:=kb KQ.out HR
 replace KW:=kt KW KQ.out
 replace SZ:=szk SZ KQ.out
 obtain ⟨qHC,hq⟩:∃ qHC,v5.heap.size=qHC:=⟨_,rfl⟩
 obtain ⟨v6,hv⟩:∃ v6,(v5.alloc (.cells #[.nilFunc,.nilFunc] 228)).setRow v5.heap.size #[a4,b4]=v6:=⟨_,rfl⟩
 rw [hv] at SZ KW HC CC HR ⊢
 rw [hq] at HC ⊢
 clear hv hq HZ KQ
 go_wp2_with (fail)
 refine (numberN_groupUpdate 113 (Proofs.enters_of Tryz.func113 (by kernel_rfl) rfl) _).mono ?_
 rintro e v7 ⟨a5,b5,rfl,-,-,hk,hc⟩
 have D5:=lh (fresh_from SZ.out hc)
 replace SZ:=szk SZ hk
 replace CC:=cy CC hk
 replace HR:=kb hk HR
 replace HC:=kb hk HC
 replace KW:=kt KW hk
 clear hk hc
 have P5:Hid (∀ W',From b0 v7 W'→PPut W' 253 2 a5 updt_key∧PGet W' 253 2 b5 updt_key):=lh (fun W' hW=>D5.out W' hW 0 2 (by decide) (fun x:UpdtD=>x.key) (fun y x=>{ x with key:=y }) get_updt_key)
 clear D5
 go_wp2_with (fail)
 refine (numberN_groupUpdate 114 (Proofs.enters_of Tryz.func114 (by kernel_rfl) rfl) _).mono ?_
 rintro e v8 ⟨a6,b6,rfl,-,-,hk,hc⟩
 have D6:=lh (fresh_from SZ.out hc)
 replace SZ:=szk SZ hk
 replace CC:=cy CC hk
 replace P5:=cy P5 hk
 replace HR:=kb hk HR
 replace HC:=kb hk HC
 replace KW:=kt KW hk
 clear hk hc
 have P6:Hid (∀ W',From b0 v8 W'→PPut W' 253 2 a6 updt_secret∧PGet W' 253 2 b6 updt_secret):=lh (fun W' hW=>D6.out W' hW 1 2 (by decide) (fun x:UpdtD=>x.secret) (fun y x=>{ x with secret:=y }) get_updt_secret)
 clear D6
 go_wp2_with (fail)
 have kq:=(Kept.refl v8 (fun _=>False)).alloc (.cells #[a5,b5,a6,b6] 257)
 have HP:=lh (heap_alloc_new v8 (.cells #[a5,b5,a6,b6] 257))
 have LP:=lh SZ.out
 replace CC:=cy CC kq
 replace P5:=cy P5 kq
 replace P6:=cy P6 kq
 replace HR:=kb kq HR
 replace HC:=kb kq HC
 replace KW:=kt KW kq
 replace SZ:=szk SZ kq
 obtain ⟨pb,hpb⟩:∃ pb,v8.heap.size=pb:=⟨_,rfl⟩
 obtain ⟨v9,hv⟩:∃ v9,v8.alloc (.cells #[a5,b5,a6,b6] 257)=v9:=⟨_,rfl⟩
 rw [hv] at SZ KW HP CC P5 P6 HR HC ⊢
 rw [hpb] at HP LP ⊢
 clear hpb hv kq
 refine (recordN_groupUpdate pb 2 2 (by decide) (by decide) _).mono ?_
 rintro e v10 ⟨a7,b7,rfl,ha,hb,hk,hc⟩
 have D7:=lh (fresh_from SZ.out hc)
 replace SZ:=szk SZ hk
 replace CC:=cy CC hk
 replace P5:=cy P5 hk
 replace P6:=cy P6 hk
 replace HR:=kb hk HR
 replace HC:=kb hk HC
 replace HP:=kb hk HP
 replace KW:=kt KW hk
 have A7:=lh ha
 have B7:=lh hb
 clear hk hc ha hb
 have CU:Hid (∀ W',From b0 v10 W'→IsCodec W' (.agg #[a7,b7]) updtC):=lh (fun W' hW=>by
   have hpa:W'.heap[pb]?=_:=hW.blk LP.out HP.out
   refine D7.out W' hW updtP rfl updtP_fair updtP_off UpdtZ (by decide) ⟨blk_lt hpa,fun k p hp=>?_⟩
   match k,hp with
   | 0,hp=>obtain rfl:=Option.some.inj hp; exact ⟨a5,b5,cellOf hpa,cellOf hpa,(P5.out W' hW).1,(P5.out W' hW).2⟩
   | 1,hp=>obtain rfl:=Option.some.inj hp; exact ⟨a6,b6,cellOf hpa,cellOf hpa,(P6.out W' hW).1,(P6.out W' hW).2⟩
   | k+2,hp=>simp [updtP] at hp)
 clear D7 P5 P6
 clear HP LP
 have HZ:=lh (heap_alloc_new v10 (.cells #[.nilFunc,.nilFunc] 250))
 obtain ⟨kq,hq⟩:=setRow_new (w:=v10) (Z:=#[.nilFunc,.nilFunc]) (cs:=#[a7,b7]) (T:=250)
 have KQ:=lh kq
 have HU:=lh hq
 clear kq hq
 go_wp2_with (first | refine wpList_store_row rfl 250 (.tmp 4) (.tmp 14) rfl v10.heap.size #[a7,b7] rfl rfl _ _ HZ.out (by kernel_rfl) rfl (by simp [A7.out,B7.out]) ?_)
 replace CC:=cy CC KQ.out
 replace CU:=cy CU KQ.out
 replace HR:=kb KQ.out HR
 replace HC:=kb KQ.out HC
 replace KW:=kt KW KQ.out
 replace SZ:=szk SZ KQ.out
 obtain ⟨qHU,hq⟩:∃ qHU,v10.heap.size=qHU:=⟨_,rfl⟩
 obtain ⟨v11,hv⟩:∃ v11,(v10.alloc (.cells #[.nilFunc,.nilFunc] 250)).setRow v10.heap.size #[a7,b7]=v11:=⟨_,rfl⟩
 rw [hv] at SZ KW HU CC CU HR HC ⊢
 rw [hq] at HU ⊢
 clear hv hq HZ KQ
 have c0:=cellOf (j:=0) HC.out
 have c1:=cellOf (j:=1) HC.out
 have c2:=cellOf (j:=0) HU.out
 have c3:=cellOf (j:=1) HU.out
 simp at c0 c1 c2 c3
 go_wp2_with (fail)
 refine wp_region_lex (fun w'=>w'.cell? ⟨qHC,0,none⟩=some a4∧w'.cell? ⟨qHC,1,none⟩=some b4∧w'.cell? ⟨qHU,0,none⟩=some a7∧w'.cell? ⟨qHU,1,none⟩=some b7) [2,2,2,2,2,2,2,2,2,2,2,2,2,2,2,2,3,2,2,3,4,4,4,4,4,4,4,4,0] (by kernel_rfl) (by kernel_rfl) (by kernel_rfl) (⟨c0,c1,c2,c3⟩) (fun Q' hQ'=>?_)
 simp only [List.zip_cons_cons,List.zip_nil_right]
 obtain ⟨v12,hv⟩:∃ v12,v11.drew=v12:=⟨_,rfl⟩
 have kq:=(Kept.refl v11 (fun _=>False)).drew
 replace SZ:Hid (b0≤v11.drew.heap.size):=lh SZ.out
 replace CC:=cy CC kq
 replace CU:=cy CU kq
 replace HR:=kb kq HR
 replace HC:=kb kq HC
 replace HU:=kb kq HU
 replace KW:=kt KW kq
 replace c0:v11.drew.cell? ⟨qHC,0,none⟩=some a4:=c0
 replace c1:v11.drew.cell? ⟨qHC,1,none⟩=some b4:=c1
 replace c2:v11.drew.cell? ⟨qHU,0,none⟩=some a7:=c2
 replace c3:v11.drew.cell? ⟨qHU,1,none⟩=some b7:=c3
 rw [hv] at SZ KW c0 c1 c2 c3 CC CU HR HC HU ⊢
 clear hv kq
 repeat((first|(refine wpX_silent ?_ fun K hK=>?_;rfl;apply Exists.intro;refine ⟨fun w'=>?_,?_⟩;go_simp;exact⟨rfl,rfl⟩)|(refine wpX_read ?_ fun K hK=>?_;rfl;apply Exists.intro;refine ⟨?_,?_⟩;go_simp;exact⟨rfl,rfl⟩)|(refine wpX_float ?_ fun K hK=>?_;rfl;apply Exists.intro;refine ⟨fun w' hw'=>?_,?_⟩;(try dsimp only at hw');go_simp;exact⟨rfl,rfl⟩)|(refine wpX_not ?_ fun K hK=>?_;rfl));go_simp;refine hK _ _ ?_;clear hK K)
 refine wpX_keeps ?_ (fun K hK=>?_)
 ·rfl
 go_wp2_with (fail)
 refine (numberN_groupState 116 (Proofs.enters_of Tryz.func116 (by kernel_rfl) rfl) _).mono ?_
 rintro e v13 ⟨a8,b8,rfl,-,-,hk,hc⟩
 have D8:=lh (fresh_from SZ.out hc)
 replace SZ:=szk SZ hk
 replace CC:=cy CC hk
 replace CU:=cy CU hk
 replace HR:=kb hk HR
 replace HC:=kb hk HC
 replace HU:=kb hk HU
 replace KW:=kt KW hk
 clear hk hc c0 c1 c2 c3
 have c0:=cellOf (j:=0) HC.out
 have c1:=cellOf (j:=1) HC.out
 have c2:=cellOf (j:=0) HU.out
 have c3:=cellOf (j:=1) HU.out
 simp at c0 c1 c2 c3
 go_simp
 refine hK _ _ ⟨rfl,⟨c0,c1,c2,c3⟩,?_⟩
 clear hK K
 have P8:Hid (∀ W',From b0 v13 W'→PPut W' 75 29 a8 stat_id∧PGet W' 75 29 b8 stat_id):=lh (fun W' hW=>D8.out W' hW 0 29 (by decide) (fun x:StatD=>x.id) (fun y x=>{ x with id:=y }) get_stat_id)
 clear D8
 repeat((first|(refine wpX_silent ?_ fun K hK=>?_;rfl;apply Exists.intro;refine ⟨fun w'=>?_,?_⟩;go_simp;exact⟨rfl,rfl⟩)|(refine wpX_read ?_ fun K hK=>?_;rfl;apply Exists.intro;refine ⟨?_,?_⟩;go_simp;exact⟨rfl,rfl⟩)|(refine wpX_float ?_ fun K hK=>?_;rfl;apply Exists.intro;refine ⟨fun w' hw'=>?_,?_⟩;(try dsimp only at hw');go_simp;exact⟨rfl,rfl⟩)|(refine wpX_not ?_ fun K hK=>?_;rfl));go_simp;refine hK _ _ ?_;clear hK K)
 refine wpX_keeps ?_ (fun K hK=>?_)
 ·rfl
 go_wp2_with (fail)
 refine (numberN_groupState 117 (Proofs.enters_of Tryz.func117 (by kernel_rfl) rfl) _).mono ?_
 rintro e v14 ⟨a9,b9,rfl,-,-,hk,hc⟩
 have D9:=lh (fresh_from SZ.out hc)
 replace SZ:=szk SZ hk
 replace CC:=cy CC hk
 replace CU:=cy CU hk
 replace P8:=cy P8 hk
 replace HR:=kb hk HR
 replace HC:=kb hk HC
 replace HU:=kb hk HU
 replace KW:=kt KW hk
 clear hk hc c0 c1 c2 c3
 have c0:=cellOf (j:=0) HC.out
 have c1:=cellOf (j:=1) HC.out
 have c2:=cellOf (j:=0) HU.out
 have c3:=cellOf (j:=1) HU.out
 simp at c0 c1 c2 c3
 go_simp
 refine hK _ _ ⟨rfl,⟨c0,c1,c2,c3⟩,?_⟩
 clear hK K
 have P9:Hid (∀ W',From b0 v14 W'→PPut W' 75 29 a9 stat_epoch∧PGet W' 75 29 b9 stat_epoch):=lh (fun W' hW=>D9.out W' hW 1 29 (by decide) (fun x:StatD=>x.epoch) (fun y x=>{ x with epoch:=y }) get_stat_epoch)
 clear D9
 repeat((first|(refine wpX_silent ?_ fun K hK=>?_;rfl;apply Exists.intro;refine ⟨fun w'=>?_,?_⟩;go_simp;exact⟨rfl,rfl⟩)|(refine wpX_read ?_ fun K hK=>?_;rfl;apply Exists.intro;refine ⟨?_,?_⟩;go_simp;exact⟨rfl,rfl⟩)|(refine wpX_float ?_ fun K hK=>?_;rfl;apply Exists.intro;refine ⟨fun w' hw'=>?_,?_⟩;(try dsimp only at hw');go_simp;exact⟨rfl,rfl⟩)|(refine wpX_not ?_ fun K hK=>?_;rfl));go_simp;refine hK _ _ ?_;clear hK K)
 refine wpX_keeps ?_ (fun K hK=>?_)
 ·rfl
 go_wp2_with (fail)
 refine (numberN_groupState 118 (Proofs.enters_of Tryz.func118 (by kernel_rfl) rfl) _).mono ?_
 rintro e v15 ⟨a10,b10,rfl,-,-,hk,hc⟩
 have D10:=lh (fresh_from SZ.out hc)
 replace SZ:=szk SZ hk
 replace CC:=cy CC hk
 replace CU:=cy CU hk
 replace P8:=cy P8 hk
 replace P9:=cy P9 hk
 replace HR:=kb hk HR
 replace HC:=kb hk HC
 replace HU:=kb hk HU
 replace KW:=kt KW hk
 clear hk hc c0 c1 c2 c3
 have c0:=cellOf (j:=0) HC.out
 have c1:=cellOf (j:=1) HC.out
 have c2:=cellOf (j:=0) HU.out
 have c3:=cellOf (j:=1) HU.out
 simp at c0 c1 c2 c3
 go_simp
 refine hK _ _ ⟨rfl,⟨c0,c1,c2,c3⟩,?_⟩
 clear hK K
 have P10:Hid (∀ W',From b0 v15 W'→PPut W' 75 29 a10 stat_me∧PGet W' 75 29 b10 stat_me):=lh (fun W' hW=>D10.out W' hW 2 29 (by decide) (fun x:StatD=>x.me) (fun y x=>{ x with me:=y }) get_stat_me)
 clear D10
 repeat((first|(refine wpX_silent ?_ fun K hK=>?_;rfl;apply Exists.intro;refine ⟨fun w'=>?_,?_⟩;go_simp;exact⟨rfl,rfl⟩)|(refine wpX_read ?_ fun K hK=>?_;rfl;apply Exists.intro;refine ⟨?_,?_⟩;go_simp;exact⟨rfl,rfl⟩)|(refine wpX_float ?_ fun K hK=>?_;rfl;apply Exists.intro;refine ⟨fun w' hw'=>?_,?_⟩;(try dsimp only at hw');go_simp;exact⟨rfl,rfl⟩)|(refine wpX_not ?_ fun K hK=>?_;rfl));go_simp;refine hK _ _ ?_;clear hK K)
 refine wpX_keeps ?_ (fun K hK=>?_)
 ·rfl
 go_wp2_with (fail)
 refine (verts_new _).mono ?_
 rintro e v16 ⟨a11,b11,rfl,-,-,hk,hc⟩
 have D11:=lh (fresh_from SZ.out hc)
 replace SZ:=szk SZ hk
 replace CC:=cy CC hk
 replace CU:=cy CU hk
 replace P8:=cy P8 hk
 replace P9:=cy P9 hk
 replace P10:=cy P10 hk
 replace HR:=kb hk HR
 replace HC:=kb hk HC
 replace HU:=kb hk HU
 replace KW:=kt KW hk
 clear hk hc c0 c1 c2 c3
 have c0:=cellOf (j:=0) HC.out
 have c1:=cellOf (j:=1) HC.out
 have c2:=cellOf (j:=0) HU.out
 have c3:=cellOf (j:=1) HU.out
 simp at c0 c1 c2 c3
 go_simp
 refine hK _ _ ⟨rfl,⟨c0,c1,c2,c3⟩,?_⟩
 clear hK K
 repeat((first|(refine wpX_silent ?_ fun K hK=>?_;rfl;apply Exists.intro;refine ⟨fun w'=>?_,?_⟩;go_simp;exact⟨rfl,rfl⟩)|(refine wpX_read ?_ fun K hK=>?_;rfl;apply Exists.intro;refine ⟨?_,?_⟩;go_simp;exact⟨rfl,rfl⟩)|(refine wpX_float ?_ fun K hK=>?_;rfl;apply Exists.intro;refine ⟨fun w' hw'=>?_,?_⟩;(try dsimp only at hw');go_simp;exact⟨rfl,rfl⟩)|(refine wpX_not ?_ fun K hK=>?_;rfl));go_simp;refine hK _ _ ?_;clear hK K)
 refine wpX_keeps ?_ (fun K hK=>?_)
 ·rfl
 go_wp2_with (fail)
 refine (listN_apiVertex a11 b11 _).mono ?_
 rintro e v17 ⟨a12,b12,rfl,-,-,hk,hc⟩
 have D12:=lh (fresh_from SZ.out hc)
 replace SZ:=szk SZ hk
 replace CC:=cy CC hk
 replace CU:=cy CU hk
 replace P8:=cy P8 hk
 replace P9:=cy P9 hk
 replace P10:=cy P10 hk
 replace D11:=cy D11 hk
 replace HR:=kb hk HR
 replace HC:=kb hk HC
 replace HU:=kb hk HU
 replace KW:=kt KW hk
 clear hk hc c0 c1 c2 c3
 have c0:=cellOf (j:=0) HC.out
 have c1:=cellOf (j:=1) HC.out
 have c2:=cellOf (j:=0) HU.out
 have c3:=cellOf (j:=1) HU.out
 simp at c0 c1 c2 c3
 go_simp
 refine hK _ _ ⟨rfl,⟨c0,c1,c2,c3⟩,?_⟩
 clear hK K
 repeat((first|(refine wpX_silent ?_ fun K hK=>?_;rfl;apply Exists.intro;refine ⟨fun w'=>?_,?_⟩;go_simp;exact⟨rfl,rfl⟩)|(refine wpX_read ?_ fun K hK=>?_;rfl;apply Exists.intro;refine ⟨?_,?_⟩;go_simp;exact⟨rfl,rfl⟩)|(refine wpX_float ?_ fun K hK=>?_;rfl;apply Exists.intro;refine ⟨fun w' hw'=>?_,?_⟩;(try dsimp only at hw');go_simp;exact⟨rfl,rfl⟩)|(refine wpX_not ?_ fun K hK=>?_;rfl));go_simp;refine hK _ _ ?_;clear hK K)
 refine wpX_keeps ?_ (fun K hK=>?_)
 ·rfl
 go_wp2_with (fail)
 refine (fieldN_lapiVertex_groupState 120 (Proofs.enters_of Tryz.func120 (by kernel_rfl) rfl) a12 b12 _).mono ?_
 rintro e v18 ⟨a13,b13,rfl,-,-,hk,hc⟩
 have D13:=lh (fresh_from SZ.out hc)
 replace SZ:=szk SZ hk
 replace CC:=cy CC hk
 replace CU:=cy CU hk
 replace P8:=cy P8 hk
 replace P9:=cy P9 hk
 replace P10:=cy P10 hk
 replace D11:=cy D11 hk
 replace D12:=cy D12 hk
 replace HR:=kb hk HR
 replace HC:=kb hk HC
 replace HU:=kb hk HU
 replace KW:=kt KW hk
 clear hk hc c0 c1 c2 c3
 have c0:=cellOf (j:=0) HC.out
 have c1:=cellOf (j:=1) HC.out
 have c2:=cellOf (j:=0) HU.out
 have c3:=cellOf (j:=1) HU.out
 simp at c0 c1 c2 c3
 go_simp
 refine hK _ _ ⟨rfl,⟨c0,c1,c2,c3⟩,?_⟩
 clear hK K
 have P13:Hid (∀ W',From b0 v18 W'→PPut W' 75 29 a13 stat_tree∧PGet W' 75 29 b13 stat_tree):=lh (fun W' hW=>D13.out W' hW (listN vertC 6 65536) (listN_fair vertC_fair 6 65536) (listN_one vertC 6 65536) 3 29 (by decide) (fun x:StatD=>x.tree) (fun y x=>{ x with tree:=y }) (D12.out W' hW vertC vertC_fair vertC_many (D11.out W' hW)) get_stat_tree)
 clear D13 D11 D12
 repeat((first|(refine wpX_silent ?_ fun K hK=>?_;rfl;apply Exists.intro;refine ⟨fun w'=>?_,?_⟩;go_simp;exact⟨rfl,rfl⟩)|(refine wpX_read ?_ fun K hK=>?_;rfl;apply Exists.intro;refine ⟨?_,?_⟩;go_simp;exact⟨rfl,rfl⟩)|(refine wpX_float ?_ fun K hK=>?_;rfl;apply Exists.intro;refine ⟨fun w' hw'=>?_,?_⟩;(try dsimp only at hw');go_simp;exact⟨rfl,rfl⟩)|(refine wpX_not ?_ fun K hK=>?_;rfl));go_simp;refine hK _ _ ?_;clear hK K)
 refine wpX_keeps ?_ (fun K hK=>?_)
 ·rfl
 go_wp2_with (fail)
 refine (secrs_new _).mono ?_
 rintro e v19 ⟨a14,b14,rfl,-,-,hk,hc⟩
 have D14:=lh (fresh_from SZ.out hc)
 replace SZ:=szk SZ hk
 replace CC:=cy CC hk
 replace CU:=cy CU hk
 replace P8:=cy P8 hk
 replace P9:=cy P9 hk
 replace P10:=cy P10 hk
 replace P13:=cy P13 hk
 replace HR:=kb hk HR
 replace HC:=kb hk HC
 replace HU:=kb hk HU
 replace KW:=kt KW hk
 clear hk hc c0 c1 c2 c3
 have c0:=cellOf (j:=0) HC.out
 have c1:=cellOf (j:=1) HC.out
 have c2:=cellOf (j:=0) HU.out
 have c3:=cellOf (j:=1) HU.out
 simp at c0 c1 c2 c3
 go_simp
 refine hK _ _ ⟨rfl,⟨c0,c1,c2,c3⟩,?_⟩
 clear hK K
 repeat((first|(refine wpX_silent ?_ fun K hK=>?_;rfl;apply Exists.intro;refine ⟨fun w'=>?_,?_⟩;go_simp;exact⟨rfl,rfl⟩)|(refine wpX_read ?_ fun K hK=>?_;rfl;apply Exists.intro;refine ⟨?_,?_⟩;go_simp;exact⟨rfl,rfl⟩)|(refine wpX_float ?_ fun K hK=>?_;rfl;apply Exists.intro;refine ⟨fun w' hw'=>?_,?_⟩;(try dsimp only at hw');go_simp;exact⟨rfl,rfl⟩)|(refine wpX_not ?_ fun K hK=>?_;rfl));go_simp;refine hK _ _ ?_;clear hK K)
 refine wpX_keeps ?_ (fun K hK=>?_)
 ·rfl
 go_wp2_with (fail)
 refine (listN_kemSecret a14 b14 _).mono ?_
 rintro e v20 ⟨a15,b15,rfl,-,-,hk,hc⟩
 have D15:=lh (fresh_from SZ.out hc)
 replace SZ:=szk SZ hk
 replace CC:=cy CC hk
 replace CU:=cy CU hk
 replace P8:=cy P8 hk
 replace P9:=cy P9 hk
 replace P10:=cy P10 hk
 replace P13:=cy P13 hk
 replace D14:=cy D14 hk
 replace HR:=kb hk HR
 replace HC:=kb hk HC
 replace HU:=kb hk HU
 replace KW:=kt KW hk
 clear hk hc c0 c1 c2 c3
 have c0:=cellOf (j:=0) HC.out
 have c1:=cellOf (j:=1) HC.out
 have c2:=cellOf (j:=0) HU.out
 have c3:=cellOf (j:=1) HU.out
 simp at c0 c1 c2 c3
 go_simp
 refine hK _ _ ⟨rfl,⟨c0,c1,c2,c3⟩,?_⟩
 clear hK K
 repeat((first|(refine wpX_silent ?_ fun K hK=>?_;rfl;apply Exists.intro;refine ⟨fun w'=>?_,?_⟩;go_simp;exact⟨rfl,rfl⟩)|(refine wpX_read ?_ fun K hK=>?_;rfl;apply Exists.intro;refine ⟨?_,?_⟩;go_simp;exact⟨rfl,rfl⟩)|(refine wpX_float ?_ fun K hK=>?_;rfl;apply Exists.intro;refine ⟨fun w' hw'=>?_,?_⟩;(try dsimp only at hw');go_simp;exact⟨rfl,rfl⟩)|(refine wpX_not ?_ fun K hK=>?_;rfl));go_simp;refine hK _ _ ?_;clear hK K)
 refine wpX_keeps ?_ (fun K hK=>?_)
 ·rfl
 go_wp2_with (fail)
 refine (fieldN_lkemSecret_groupState 124 (Proofs.enters_of Tryz.func124 (by kernel_rfl) rfl) a15 b15 _).mono ?_
 rintro e v21 ⟨a16,b16,rfl,-,-,hk,hc⟩
 have D16:=lh (fresh_from SZ.out hc)
 replace SZ:=szk SZ hk
 replace CC:=cy CC hk
 replace CU:=cy CU hk
 replace P8:=cy P8 hk
 replace P9:=cy P9 hk
 replace P10:=cy P10 hk
 replace P13:=cy P13 hk
 replace D14:=cy D14 hk
 replace D15:=cy D15 hk
 replace HR:=kb hk HR
 replace HC:=kb hk HC
 replace HU:=kb hk HU
 replace KW:=kt KW hk
 clear hk hc c0 c1 c2 c3
 have c0:=cellOf (j:=0) HC.out
 have c1:=cellOf (j:=1) HC.out
 have c2:=cellOf (j:=0) HU.out
 have c3:=cellOf (j:=1) HU.out
 simp at c0 c1 c2 c3
 go_simp
 refine hK _ _ ⟨rfl,⟨c0,c1,c2,c3⟩,?_⟩
 clear hK K
 have P16:Hid (∀ W',From b0 v21 W'→PPut W' 75 29 a16 stat_secrets∧PGet W' 75 29 b16 stat_secrets):=lh (fun W' hW=>D16.out W' hW (listN secrC 2 65536) (listN_fair secrC_fair 2 65536) (listN_one secrC 2 65536) 4 29 (by decide) (fun x:StatD=>x.secrets) (fun y x=>{ x with secrets:=y }) (D15.out W' hW secrC secrC_fair secrC_many (D14.out W' hW)) get_stat_secrets)
 clear D16 D14 D15
 repeat((first|(refine wpX_silent ?_ fun K hK=>?_;rfl;apply Exists.intro;refine ⟨fun w'=>?_,?_⟩;go_simp;exact⟨rfl,rfl⟩)|(refine wpX_read ?_ fun K hK=>?_;rfl;apply Exists.intro;refine ⟨?_,?_⟩;go_simp;exact⟨rfl,rfl⟩)|(refine wpX_float ?_ fun K hK=>?_;rfl;apply Exists.intro;refine ⟨fun w' hw'=>?_,?_⟩;(try dsimp only at hw');go_simp;exact⟨rfl,rfl⟩)|(refine wpX_not ?_ fun K hK=>?_;rfl));go_simp;refine hK _ _ ?_;clear hK K)
 refine wpX_keeps ?_ (fun K hK=>?_)
 ·rfl
 go_wp2_with (fail)
 refine (epocs_new _).mono ?_
 rintro e v22 ⟨a17,b17,rfl,-,-,hk,hc⟩
 have D17:=lh (fresh_from SZ.out hc)
 replace SZ:=szk SZ hk
 replace CC:=cy CC hk
 replace CU:=cy CU hk
 replace P8:=cy P8 hk
 replace P9:=cy P9 hk
 replace P10:=cy P10 hk
 replace P13:=cy P13 hk
 replace P16:=cy P16 hk
 replace HR:=kb hk HR
 replace HC:=kb hk HC
 replace HU:=kb hk HU
 replace KW:=kt KW hk
 clear hk hc c0 c1 c2 c3
 have c0:=cellOf (j:=0) HC.out
 have c1:=cellOf (j:=1) HC.out
 have c2:=cellOf (j:=0) HU.out
 have c3:=cellOf (j:=1) HU.out
 simp at c0 c1 c2 c3
 go_simp
 refine hK _ _ ⟨rfl,⟨c0,c1,c2,c3⟩,?_⟩
 clear hK K
 repeat((first|(refine wpX_silent ?_ fun K hK=>?_;rfl;apply Exists.intro;refine ⟨fun w'=>?_,?_⟩;go_simp;exact⟨rfl,rfl⟩)|(refine wpX_read ?_ fun K hK=>?_;rfl;apply Exists.intro;refine ⟨?_,?_⟩;go_simp;exact⟨rfl,rfl⟩)|(refine wpX_float ?_ fun K hK=>?_;rfl;apply Exists.intro;refine ⟨fun w' hw'=>?_,?_⟩;(try dsimp only at hw');go_simp;exact⟨rfl,rfl⟩)|(refine wpX_not ?_ fun K hK=>?_;rfl));go_simp;refine hK _ _ ?_;clear hK K)
 refine wpX_keeps ?_ (fun K hK=>?_)
 ·rfl
 go_wp2_with (fail)
 refine (fieldN_scheduleEpoch_groupState 128 (Proofs.enters_of Tryz.func128 (by kernel_rfl) rfl) a17 b17 _).mono ?_
 rintro e v23 ⟨a18,b18,rfl,-,-,hk,hc⟩
 have D18:=lh (fresh_from SZ.out hc)
 replace SZ:=szk SZ hk
 replace CC:=cy CC hk
 replace CU:=cy CU hk
 replace P8:=cy P8 hk
 replace P9:=cy P9 hk
 replace P10:=cy P10 hk
 replace P13:=cy P13 hk
 replace P16:=cy P16 hk
 replace D17:=cy D17 hk
 replace HR:=kb hk HR
 replace HC:=kb hk HC
 replace HU:=kb hk HU
 replace KW:=kt KW hk
 clear hk hc c0 c1 c2 c3
 have c0:=cellOf (j:=0) HC.out
 have c1:=cellOf (j:=1) HC.out
 have c2:=cellOf (j:=0) HU.out
 have c3:=cellOf (j:=1) HU.out
 simp at c0 c1 c2 c3
 go_simp
 refine hK _ _ ⟨rfl,⟨c0,c1,c2,c3⟩,?_⟩
 clear hK K
 have P18:Hid (∀ W',From b0 v23 W'→PPut W' 75 29 a18 stat_e∧PGet W' 75 29 b18 stat_e):=lh (fun W' hW=>D18.out W' hW (epocC) epocC_fair epocC_many 5 29 (by decide) (fun x:StatD=>x.e) (fun y x=>{ x with e:=y }) (D17.out W' hW) get_stat_e)
 clear D18 D17
 repeat((first|(refine wpX_silent ?_ fun K hK=>?_;rfl;apply Exists.intro;refine ⟨fun w'=>?_,?_⟩;go_simp;exact⟨rfl,rfl⟩)|(refine wpX_read ?_ fun K hK=>?_;rfl;apply Exists.intro;refine ⟨?_,?_⟩;go_simp;exact⟨rfl,rfl⟩)|(refine wpX_float ?_ fun K hK=>?_;rfl;apply Exists.intro;refine ⟨fun w' hw'=>?_,?_⟩;(try dsimp only at hw');go_simp;exact⟨rfl,rfl⟩)|(refine wpX_not ?_ fun K hK=>?_;rfl));go_simp;refine hK _ _ ?_;clear hK K)
 refine wpX_keeps ?_ (fun K hK=>?_)
 ·rfl
 go_wp2_with (fail)
 refine (numberN_groupState 130 (Proofs.enters_of Tryz.func130 (by kernel_rfl) rfl) _).mono ?_
 rintro e v24 ⟨a19,b19,rfl,-,-,hk,hc⟩
 have D19:=lh (fresh_from SZ.out hc)
 replace SZ:=szk SZ hk
 replace CC:=cy CC hk
 replace CU:=cy CU hk
 replace P8:=cy P8 hk
 replace P9:=cy P9 hk
 replace P10:=cy P10 hk
 replace P13:=cy P13 hk
 replace P16:=cy P16 hk
 replace P18:=cy P18 hk
 replace HR:=kb hk HR
 replace HC:=kb hk HC
 replace HU:=kb hk HU
 replace KW:=kt KW hk
 clear hk hc c0 c1 c2 c3
 have c0:=cellOf (j:=0) HC.out
 have c1:=cellOf (j:=1) HC.out
 have c2:=cellOf (j:=0) HU.out
 have c3:=cellOf (j:=1) HU.out
 simp at c0 c1 c2 c3
 go_simp
 refine hK _ _ ⟨rfl,⟨c0,c1,c2,c3⟩,?_⟩
 clear hK K
 have P19:Hid (∀ W',From b0 v24 W'→PPut W' 75 29 a19 stat_confirmed∧PGet W' 75 29 b19 stat_confirmed):=lh (fun W' hW=>D19.out W' hW 18 29 (by decide) (fun x:StatD=>x.confirmed) (fun y x=>{ x with confirmed:=y }) get_stat_confirmed)
 clear D19
 repeat((first|(refine wpX_silent ?_ fun K hK=>?_;rfl;apply Exists.intro;refine ⟨fun w'=>?_,?_⟩;go_simp;exact⟨rfl,rfl⟩)|(refine wpX_read ?_ fun K hK=>?_;rfl;apply Exists.intro;refine ⟨?_,?_⟩;go_simp;exact⟨rfl,rfl⟩)|(refine wpX_float ?_ fun K hK=>?_;rfl;apply Exists.intro;refine ⟨fun w' hw'=>?_,?_⟩;(try dsimp only at hw');go_simp;exact⟨rfl,rfl⟩)|(refine wpX_not ?_ fun K hK=>?_;rfl));go_simp;refine hK _ _ ?_;clear hK K)
 refine wpX_keeps ?_ (fun K hK=>?_)
 ·rfl
 go_wp2_with (fail)
 refine (numberN_groupState 131 (Proofs.enters_of Tryz.func131 (by kernel_rfl) rfl) _).mono ?_
 rintro e v25 ⟨a20,b20,rfl,-,-,hk,hc⟩
 have D20:=lh (fresh_from SZ.out hc)
 replace SZ:=szk SZ hk
 replace CC:=cy CC hk
 replace CU:=cy CU hk
 replace P8:=cy P8 hk
 replace P9:=cy P9 hk
 replace P10:=cy P10 hk
 replace P13:=cy P13 hk
 replace P16:=cy P16 hk
 replace P18:=cy P18 hk
 replace P19:=cy P19 hk
 replace HR:=kb hk HR
 replace HC:=kb hk HC
 replace HU:=kb hk HU
 replace KW:=kt KW hk
 clear hk hc c0 c1 c2 c3
 have c0:=cellOf (j:=0) HC.out
 have c1:=cellOf (j:=1) HC.out
 have c2:=cellOf (j:=0) HU.out
 have c3:=cellOf (j:=1) HU.out
 simp at c0 c1 c2 c3
 go_simp
 refine hK _ _ ⟨rfl,⟨c0,c1,c2,c3⟩,?_⟩
 clear hK K
 have P20:Hid (∀ W',From b0 v25 W'→PPut W' 75 29 a20 stat_interim∧PGet W' 75 29 b20 stat_interim):=lh (fun W' hW=>D20.out W' hW 19 29 (by decide) (fun x:StatD=>x.interim) (fun y x=>{ x with interim:=y }) get_stat_interim)
 clear D20
 repeat((first|(refine wpX_silent ?_ fun K hK=>?_;rfl;apply Exists.intro;refine ⟨fun w'=>?_,?_⟩;go_simp;exact⟨rfl,rfl⟩)|(refine wpX_read ?_ fun K hK=>?_;rfl;apply Exists.intro;refine ⟨?_,?_⟩;go_simp;exact⟨rfl,rfl⟩)|(refine wpX_float ?_ fun K hK=>?_;rfl;apply Exists.intro;refine ⟨fun w' hw'=>?_,?_⟩;(try dsimp only at hw');go_simp;exact⟨rfl,rfl⟩)|(refine wpX_not ?_ fun K hK=>?_;rfl));go_simp;refine hK _ _ ?_;clear hK K)
 refine wpX_keeps ?_ (fun K hK=>?_)
 ·rfl
 go_wp2_with (fail)
 refine (numberN_groupState 132 (Proofs.enters_of Tryz.func132 (by kernel_rfl) rfl) _).mono ?_
 rintro e v26 ⟨a21,b21,rfl,-,-,hk,hc⟩
 have D21:=lh (fresh_from SZ.out hc)
 replace SZ:=szk SZ hk
 replace CC:=cy CC hk
 replace CU:=cy CU hk
 replace P8:=cy P8 hk
 replace P9:=cy P9 hk
 replace P10:=cy P10 hk
 replace P13:=cy P13 hk
 replace P16:=cy P16 hk
 replace P18:=cy P18 hk
 replace P19:=cy P19 hk
 replace P20:=cy P20 hk
 replace HR:=kb hk HR
 replace HC:=kb hk HC
 replace HU:=kb hk HU
 replace KW:=kt KW hk
 clear hk hc c0 c1 c2 c3
 have c0:=cellOf (j:=0) HC.out
 have c1:=cellOf (j:=1) HC.out
 have c2:=cellOf (j:=0) HU.out
 have c3:=cellOf (j:=1) HU.out
 simp at c0 c1 c2 c3
 go_simp
 refine hK _ _ ⟨rfl,⟨c0,c1,c2,c3⟩,?_⟩
 clear hK K
 have P21:Hid (∀ W',From b0 v26 W'→PPut W' 75 29 a21 stat_context∧PGet W' 75 29 b21 stat_context):=lh (fun W' hW=>D21.out W' hW 20 29 (by decide) (fun x:StatD=>x.context) (fun y x=>{ x with context:=y }) get_stat_context)
 clear D21
 repeat((first|(refine wpX_silent ?_ fun K hK=>?_;rfl;apply Exists.intro;refine ⟨fun w'=>?_,?_⟩;go_simp;exact⟨rfl,rfl⟩)|(refine wpX_read ?_ fun K hK=>?_;rfl;apply Exists.intro;refine ⟨?_,?_⟩;go_simp;exact⟨rfl,rfl⟩)|(refine wpX_float ?_ fun K hK=>?_;rfl;apply Exists.intro;refine ⟨fun w' hw'=>?_,?_⟩;(try dsimp only at hw');go_simp;exact⟨rfl,rfl⟩)|(refine wpX_not ?_ fun K hK=>?_;rfl));go_simp;refine hK _ _ ?_;clear hK K)
 refine wpX_keeps ?_ (fun K hK=>?_)
 ·rfl
 go_wp2_with (fail)
 refine (ratss_new _).mono ?_
 rintro e v27 ⟨a22,b22,rfl,-,-,hk,hc⟩
 have D22:=lh (fresh_from SZ.out hc)
 replace SZ:=szk SZ hk
 replace CC:=cy CC hk
 replace CU:=cy CU hk
 replace P8:=cy P8 hk
 replace P9:=cy P9 hk
 replace P10:=cy P10 hk
 replace P13:=cy P13 hk
 replace P16:=cy P16 hk
 replace P18:=cy P18 hk
 replace P19:=cy P19 hk
 replace P20:=cy P20 hk
 replace P21:=cy P21 hk
 replace HR:=kb hk HR
 replace HC:=kb hk HC
 replace HU:=kb hk HU
 replace KW:=kt KW hk
 clear hk hc c0 c1 c2 c3
 have c0:=cellOf (j:=0) HC.out
 have c1:=cellOf (j:=1) HC.out
 have c2:=cellOf (j:=0) HU.out
 have c3:=cellOf (j:=1) HU.out
 simp at c0 c1 c2 c3
 go_simp
 refine hK _ _ ⟨rfl,⟨c0,c1,c2,c3⟩,?_⟩
 clear hK K
 repeat((first|(refine wpX_silent ?_ fun K hK=>?_;rfl;apply Exists.intro;refine ⟨fun w'=>?_,?_⟩;go_simp;exact⟨rfl,rfl⟩)|(refine wpX_read ?_ fun K hK=>?_;rfl;apply Exists.intro;refine ⟨?_,?_⟩;go_simp;exact⟨rfl,rfl⟩)|(refine wpX_float ?_ fun K hK=>?_;rfl;apply Exists.intro;refine ⟨fun w' hw'=>?_,?_⟩;(try dsimp only at hw');go_simp;exact⟨rfl,rfl⟩)|(refine wpX_not ?_ fun K hK=>?_;rfl));go_simp;refine hK _ _ ?_;clear hK K)
 refine wpX_keeps ?_ (fun K hK=>?_)
 ·rfl
 go_wp2_with (fail)
 refine (fieldN_ratchetState_groupState 134 (Proofs.enters_of Tryz.func134 (by kernel_rfl) rfl) a22 b22 _).mono ?_
 rintro e v28 ⟨a23,b23,rfl,-,-,hk,hc⟩
 have D23:=lh (fresh_from SZ.out hc)
 replace SZ:=szk SZ hk
 replace CC:=cy CC hk
 replace CU:=cy CU hk
 replace P8:=cy P8 hk
 replace P9:=cy P9 hk
 replace P10:=cy P10 hk
 replace P13:=cy P13 hk
 replace P16:=cy P16 hk
 replace P18:=cy P18 hk
 replace P19:=cy P19 hk
 replace P20:=cy P20 hk
 replace P21:=cy P21 hk
 replace D22:=cy D22 hk
 replace HR:=kb hk HR
 replace HC:=kb hk HC
 replace HU:=kb hk HU
 replace KW:=kt KW hk
 clear hk hc c0 c1 c2 c3
 have c0:=cellOf (j:=0) HC.out
 have c1:=cellOf (j:=1) HC.out
 have c2:=cellOf (j:=0) HU.out
 have c3:=cellOf (j:=1) HU.out
 simp at c0 c1 c2 c3
 go_simp
 refine hK _ _ ⟨rfl,⟨c0,c1,c2,c3⟩,?_⟩
 clear hK K
 have P23:Hid (∀ W',From b0 v28 W'→PPut W' 75 29 a23 stat_rat∧PGet W' 75 29 b23 stat_rat):=lh (fun W' hW=>D23.out W' hW (ratsC) ratsC_fair ratsC_many 21 29 (by decide) (fun x:StatD=>x.rat) (fun y x=>{ x with rat:=y }) (D22.out W' hW) get_stat_rat)
 clear D23 D22
 repeat((first|(refine wpX_silent ?_ fun K hK=>?_;rfl;apply Exists.intro;refine ⟨fun w'=>?_,?_⟩;go_simp;exact⟨rfl,rfl⟩)|(refine wpX_read ?_ fun K hK=>?_;rfl;apply Exists.intro;refine ⟨?_,?_⟩;go_simp;exact⟨rfl,rfl⟩)|(refine wpX_float ?_ fun K hK=>?_;rfl;apply Exists.intro;refine ⟨fun w' hw'=>?_,?_⟩;(try dsimp only at hw');go_simp;exact⟨rfl,rfl⟩)|(refine wpX_not ?_ fun K hK=>?_;rfl));go_simp;refine hK _ _ ?_;clear hK K)
 refine wpX_keeps ?_ (fun K hK=>?_)
 ·rfl
 go_wp2_with (fail)
 refine (listN_groupCached a4 b4 _).mono ?_
 rintro e v29 ⟨a24,b24,rfl,-,-,hk,hc⟩
 have D24:=lh (fresh_from SZ.out hc)
 replace SZ:=szk SZ hk
 replace CC:=cy CC hk
 replace CU:=cy CU hk
 replace P8:=cy P8 hk
 replace P9:=cy P9 hk
 replace P10:=cy P10 hk
 replace P13:=cy P13 hk
 replace P16:=cy P16 hk
 replace P18:=cy P18 hk
 replace P19:=cy P19 hk
 replace P20:=cy P20 hk
 replace P21:=cy P21 hk
 replace P23:=cy P23 hk
 replace HR:=kb hk HR
 replace HC:=kb hk HC
 replace HU:=kb hk HU
 replace KW:=kt KW hk
 clear hk hc c0 c1 c2 c3
 have c0:=cellOf (j:=0) HC.out
 have c1:=cellOf (j:=1) HC.out
 have c2:=cellOf (j:=0) HU.out
 have c3:=cellOf (j:=1) HU.out
 simp at c0 c1 c2 c3
 go_simp
 refine hK _ _ ⟨rfl,⟨c0,c1,c2,c3⟩,?_⟩
 clear hK K
 repeat((first|(refine wpX_silent ?_ fun K hK=>?_;rfl;apply Exists.intro;refine ⟨fun w'=>?_,?_⟩;go_simp;exact⟨rfl,rfl⟩)|(refine wpX_read ?_ fun K hK=>?_;rfl;apply Exists.intro;refine ⟨?_,?_⟩;go_simp;exact⟨rfl,rfl⟩)|(refine wpX_float ?_ fun K hK=>?_;rfl;apply Exists.intro;refine ⟨fun w' hw'=>?_,?_⟩;(try dsimp only at hw');go_simp;exact⟨rfl,rfl⟩)|(refine wpX_not ?_ fun K hK=>?_;rfl));go_simp;refine hK _ _ ?_;clear hK K)
 refine wpX_keeps ?_ (fun K hK=>?_)
 ·rfl
 go_wp2_with (fail)
 refine (fieldN_lgroupCached_groupState 137 (Proofs.enters_of Tryz.func137 (by kernel_rfl) rfl) a24 b24 _).mono ?_
 rintro e v30 ⟨a25,b25,rfl,-,-,hk,hc⟩
 have D25:=lh (fresh_from SZ.out hc)
 replace SZ:=szk SZ hk
 replace CC:=cy CC hk
 replace CU:=cy CU hk
 replace P8:=cy P8 hk
 replace P9:=cy P9 hk
 replace P10:=cy P10 hk
 replace P13:=cy P13 hk
 replace P16:=cy P16 hk
 replace P18:=cy P18 hk
 replace P19:=cy P19 hk
 replace P20:=cy P20 hk
 replace P21:=cy P21 hk
 replace P23:=cy P23 hk
 replace D24:=cy D24 hk
 replace HR:=kb hk HR
 replace HC:=kb hk HC
 replace HU:=kb hk HU
 replace KW:=kt KW hk
 clear hk hc c0 c1 c2 c3
 have c0:=cellOf (j:=0) HC.out
 have c1:=cellOf (j:=1) HC.out
 have c2:=cellOf (j:=0) HU.out
 have c3:=cellOf (j:=1) HU.out
 simp at c0 c1 c2 c3
 go_simp
 refine hK _ _ ⟨rfl,⟨c0,c1,c2,c3⟩,?_⟩
 clear hK K
 have P25:Hid (∀ W',From b0 v30 W'→PPut W' 75 29 a25 stat_cached∧PGet W' 75 29 b25 stat_cached):=lh (fun W' hW=>D25.out W' hW (listN cachC 12 65536) (listN_fair cachC_fair 12 65536) (listN_one cachC 12 65536) 24 29 (by decide) (fun x:StatD=>x.cached) (fun y x=>{ x with cached:=y }) (D24.out W' hW cachC cachC_fair cachC_many (CC.out W' hW)) get_stat_cached)
 clear D25 D24
 repeat((first|(refine wpX_silent ?_ fun K hK=>?_;rfl;apply Exists.intro;refine ⟨fun w'=>?_,?_⟩;go_simp;exact⟨rfl,rfl⟩)|(refine wpX_read ?_ fun K hK=>?_;rfl;apply Exists.intro;refine ⟨?_,?_⟩;go_simp;exact⟨rfl,rfl⟩)|(refine wpX_float ?_ fun K hK=>?_;rfl;apply Exists.intro;refine ⟨fun w' hw'=>?_,?_⟩;(try dsimp only at hw');go_simp;exact⟨rfl,rfl⟩)|(refine wpX_not ?_ fun K hK=>?_;rfl));go_simp;refine hK _ _ ?_;clear hK K)
 refine wpX_heavy ?_ (fun K hK=>?_)
 ·rfl
 go_wp2_with (fail)
 refine (listN_groupUpdate a7 b7 _).mono ?_
 rintro e v31 ⟨a26,b26,rfl,-,-,hk,hc⟩
 have D26:=lh (fresh_from SZ.out hc)
 replace SZ:=szk SZ hk
 replace CC:=cy CC hk
 replace CU:=cy CU hk
 replace P8:=cy P8 hk
 replace P9:=cy P9 hk
 replace P10:=cy P10 hk
 replace P13:=cy P13 hk
 replace P16:=cy P16 hk
 replace P18:=cy P18 hk
 replace P19:=cy P19 hk
 replace P20:=cy P20 hk
 replace P21:=cy P21 hk
 replace P23:=cy P23 hk
 replace P25:=cy P25 hk
 replace HR:=kb hk HR
 replace HC:=kb hk HC
 replace HU:=kb hk HU
 replace KW:=kt KW hk
 clear hk hc c0 c1 c2 c3
 have c0:=cellOf (j:=0) HC.out
 have c1:=cellOf (j:=1) HC.out
 have c2:=cellOf (j:=0) HU.out
 have c3:=cellOf (j:=1) HU.out
 simp at c0 c1 c2 c3
 go_simp
 refine hK _ _ ⟨rfl,?_⟩
 clear hK K
 repeat((first|(refine wpX_silent ?_ fun K hK=>?_;rfl;apply Exists.intro;refine ⟨fun w'=>?_,?_⟩;go_simp;exact⟨rfl,rfl⟩)|(refine wpX_read ?_ fun K hK=>?_;rfl;apply Exists.intro;refine ⟨?_,?_⟩;go_simp;exact⟨rfl,rfl⟩)|(refine wpX_float ?_ fun K hK=>?_;rfl;apply Exists.intro;refine ⟨fun w' hw'=>?_,?_⟩;(try dsimp only at hw');go_simp;exact⟨rfl,rfl⟩)|(refine wpX_not ?_ fun K hK=>?_;rfl));go_simp;refine hK _ _ ?_;clear hK K)
 refine wpX_heavy ?_ (fun K hK=>?_)
 ·rfl
 go_wp2_with (fail)
 refine (fieldN_lgroupUpdate_groupState 140 (Proofs.enters_of Tryz.func140 (by kernel_rfl) rfl) a26 b26 _).mono ?_
 rintro e v32 ⟨a27,b27,rfl,-,-,hk,hc⟩
 have D27:=lh (fresh_from SZ.out hc)
 replace SZ:=szk SZ hk
 replace CC:=cy CC hk
 replace CU:=cy CU hk
 replace P8:=cy P8 hk
 replace P9:=cy P9 hk
 replace P10:=cy P10 hk
 replace P13:=cy P13 hk
 replace P16:=cy P16 hk
 replace P18:=cy P18 hk
 replace P19:=cy P19 hk
 replace P20:=cy P20 hk
 replace P21:=cy P21 hk
 replace P23:=cy P23 hk
 replace P25:=cy P25 hk
 replace D26:=cy D26 hk
 replace HR:=kb hk HR
 replace HC:=kb hk HC
 replace HU:=kb hk HU
 replace KW:=kt KW hk
 clear hk hc c0 c1 c2 c3
 have c0:=cellOf (j:=0) HC.out
 have c1:=cellOf (j:=1) HC.out
 have c2:=cellOf (j:=0) HU.out
 have c3:=cellOf (j:=1) HU.out
 simp at c0 c1 c2 c3
 go_simp
 refine hK _ _ ⟨rfl,?_⟩
 clear hK K
 have P27:Hid (∀ W',From b0 v32 W'→PPut W' 75 29 a27 stat_updates∧PGet W' 75 29 b27 stat_updates):=lh (fun W' hW=>D27.out W' hW (listN updtC 2 65536) (listN_fair updtC_fair 2 65536) (listN_one updtC 2 65536) 25 29 (by decide) (fun x:StatD=>x.updates) (fun y x=>{ x with updates:=y }) (D26.out W' hW updtC updtC_fair updtC_many (CU.out W' hW)) get_stat_updates)
 clear D27 D26
 repeat((first|(refine wpX_silent ?_ fun K hK=>?_;rfl;apply Exists.intro;refine ⟨fun w'=>?_,?_⟩;go_simp;exact⟨rfl,rfl⟩)|(refine wpX_read ?_ fun K hK=>?_;rfl;apply Exists.intro;refine ⟨?_,?_⟩;go_simp;exact⟨rfl,rfl⟩)|(refine wpX_float ?_ fun K hK=>?_;rfl;apply Exists.intro;refine ⟨fun w' hw'=>?_,?_⟩;(try dsimp only at hw');go_simp;exact⟨rfl,rfl⟩)|(refine wpX_not ?_ fun K hK=>?_;rfl));go_simp;refine hK _ _ ?_;clear hK K)
 refine wpX_heavy ?_ (fun K hK=>?_)
 ·rfl
 go_wp2_with (fail)
 refine (flag_new _).mono ?_
 rintro e v33 ⟨a28,b28,rfl,-,-,hk,hc⟩
 have D28:=lh (fresh_from SZ.out hc)
 replace SZ:=szk SZ hk
 replace CC:=cy CC hk
 replace CU:=cy CU hk
 replace P8:=cy P8 hk
 replace P9:=cy P9 hk
 replace P10:=cy P10 hk
 replace P13:=cy P13 hk
 replace P16:=cy P16 hk
 replace P18:=cy P18 hk
 replace P19:=cy P19 hk
 replace P20:=cy P20 hk
 replace P21:=cy P21 hk
 replace P23:=cy P23 hk
 replace P25:=cy P25 hk
 replace P27:=cy P27 hk
 replace HR:=kb hk HR
 replace HC:=kb hk HC
 replace HU:=kb hk HU
 replace KW:=kt KW hk
 clear hk hc c0 c1 c2 c3
 have c0:=cellOf (j:=0) HC.out
 have c1:=cellOf (j:=1) HC.out
 have c2:=cellOf (j:=0) HU.out
 have c3:=cellOf (j:=1) HU.out
 simp at c0 c1 c2 c3
 go_simp
 refine hK _ _ ⟨rfl,?_⟩
 clear hK K
 repeat((first|(refine wpX_silent ?_ fun K hK=>?_;rfl;apply Exists.intro;refine ⟨fun w'=>?_,?_⟩;go_simp;exact⟨rfl,rfl⟩)|(refine wpX_read ?_ fun K hK=>?_;rfl;apply Exists.intro;refine ⟨?_,?_⟩;go_simp;exact⟨rfl,rfl⟩)|(refine wpX_float ?_ fun K hK=>?_;rfl;apply Exists.intro;refine ⟨fun w' hw'=>?_,?_⟩;(try dsimp only at hw');go_simp;exact⟨rfl,rfl⟩)|(refine wpX_not ?_ fun K hK=>?_;rfl));go_simp;refine hK _ _ ?_;clear hK K)
 refine wpX_heavy ?_ (fun K hK=>?_)
 ·rfl
 go_wp2_with (fail)
 refine (fieldN_bool_groupState 143 (Proofs.enters_of Tryz.func143 (by kernel_rfl) rfl) a28 b28 _).mono ?_
 rintro e v34 ⟨a29,b29,rfl,-,-,hk,hc⟩
 have D29:=lh (fresh_from SZ.out hc)
 replace SZ:=szk SZ hk
 replace CC:=cy CC hk
 replace CU:=cy CU hk
 replace P8:=cy P8 hk
 replace P9:=cy P9 hk
 replace P10:=cy P10 hk
 replace P13:=cy P13 hk
 replace P16:=cy P16 hk
 replace P18:=cy P18 hk
 replace P19:=cy P19 hk
 replace P20:=cy P20 hk
 replace P21:=cy P21 hk
 replace P23:=cy P23 hk
 replace P25:=cy P25 hk
 replace P27:=cy P27 hk
 replace D28:=cy D28 hk
 replace HR:=kb hk HR
 replace HC:=kb hk HC
 replace HU:=kb hk HU
 replace KW:=kt KW hk
 clear hk hc c0 c1 c2 c3
 have c0:=cellOf (j:=0) HC.out
 have c1:=cellOf (j:=1) HC.out
 have c2:=cellOf (j:=0) HU.out
 have c3:=cellOf (j:=1) HU.out
 simp at c0 c1 c2 c3
 go_simp
 refine hK _ _ ⟨rfl,?_⟩
 clear hK K
 have P29:Hid (∀ W',From b0 v34 W'→PPut W' 75 29 a29 stat_closed∧PGet W' 75 29 b29 stat_closed):=lh (fun W' hW=>D29.out W' hW (flagC) flagC_fair flagC_one 26 29 (by decide) (fun x:StatD=>x.closed) (fun y x=>{ x with closed:=y }) (D28.out W' hW) get_stat_closed)
 clear D29 D28
 repeat((first|(refine wpX_silent ?_ fun K hK=>?_;rfl;apply Exists.intro;refine ⟨fun w'=>?_,?_⟩;go_simp;exact⟨rfl,rfl⟩)|(refine wpX_read ?_ fun K hK=>?_;rfl;apply Exists.intro;refine ⟨?_,?_⟩;go_simp;exact⟨rfl,rfl⟩)|(refine wpX_float ?_ fun K hK=>?_;rfl;apply Exists.intro;refine ⟨fun w' hw'=>?_,?_⟩;(try dsimp only at hw');go_simp;exact⟨rfl,rfl⟩)|(refine wpX_not ?_ fun K hK=>?_;rfl));go_simp;refine hK _ _ ?_;clear hK K)
 refine wpX_heavy ?_ (fun K hK=>?_)
 ·rfl
 go_wp2_with (fail)
 refine (pasts_new _).mono ?_
 rintro e v35 ⟨a30,b30,rfl,-,-,hk,hc⟩
 have D30:=lh (fresh_from SZ.out hc)
 replace SZ:=szk SZ hk
 replace CC:=cy CC hk
 replace CU:=cy CU hk
 replace P8:=cy P8 hk
 replace P9:=cy P9 hk
 replace P10:=cy P10 hk
 replace P13:=cy P13 hk
 replace P16:=cy P16 hk
 replace P18:=cy P18 hk
 replace P19:=cy P19 hk
 replace P20:=cy P20 hk
 replace P21:=cy P21 hk
 replace P23:=cy P23 hk
 replace P25:=cy P25 hk
 replace P27:=cy P27 hk
 replace P29:=cy P29 hk
 replace HR:=kb hk HR
 replace HC:=kb hk HC
 replace HU:=kb hk HU
 replace KW:=kt KW hk
 clear hk hc c0 c1 c2 c3
 have c0:=cellOf (j:=0) HC.out
 have c1:=cellOf (j:=1) HC.out
 have c2:=cellOf (j:=0) HU.out
 have c3:=cellOf (j:=1) HU.out
 simp at c0 c1 c2 c3
 go_simp
 refine hK _ _ ⟨rfl,?_⟩
 clear hK K
 repeat((first|(refine wpX_silent ?_ fun K hK=>?_;rfl;apply Exists.intro;refine ⟨fun w'=>?_,?_⟩;go_simp;exact⟨rfl,rfl⟩)|(refine wpX_read ?_ fun K hK=>?_;rfl;apply Exists.intro;refine ⟨?_,?_⟩;go_simp;exact⟨rfl,rfl⟩)|(refine wpX_float ?_ fun K hK=>?_;rfl;apply Exists.intro;refine ⟨fun w' hw'=>?_,?_⟩;(try dsimp only at hw');go_simp;exact⟨rfl,rfl⟩)|(refine wpX_not ?_ fun K hK=>?_;rfl));go_simp;refine hK _ _ ?_;clear hK K)
 refine wpX_heavy ?_ (fun K hK=>?_)
 ·rfl
 go_wp2_with (fail)
 refine (listN_groupPast a30 b30 _).mono ?_
 rintro e v36 ⟨a31,b31,rfl,-,-,hk,hc⟩
 have D31:=lh (fresh_from SZ.out hc)
 replace SZ:=szk SZ hk
 replace CC:=cy CC hk
 replace CU:=cy CU hk
 replace P8:=cy P8 hk
 replace P9:=cy P9 hk
 replace P10:=cy P10 hk
 replace P13:=cy P13 hk
 replace P16:=cy P16 hk
 replace P18:=cy P18 hk
 replace P19:=cy P19 hk
 replace P20:=cy P20 hk
 replace P21:=cy P21 hk
 replace P23:=cy P23 hk
 replace P25:=cy P25 hk
 replace P27:=cy P27 hk
 replace P29:=cy P29 hk
 replace D30:=cy D30 hk
 replace HR:=kb hk HR
 replace HC:=kb hk HC
 replace HU:=kb hk HU
 replace KW:=kt KW hk
 clear hk hc c0 c1 c2 c3
 have c0:=cellOf (j:=0) HC.out
 have c1:=cellOf (j:=1) HC.out
 have c2:=cellOf (j:=0) HU.out
 have c3:=cellOf (j:=1) HU.out
 simp at c0 c1 c2 c3
 go_simp
 refine hK _ _ ⟨rfl,?_⟩
 clear hK K
 repeat((first|(refine wpX_silent ?_ fun K hK=>?_;rfl;apply Exists.intro;refine ⟨fun w'=>?_,?_⟩;go_simp;exact⟨rfl,rfl⟩)|(refine wpX_read ?_ fun K hK=>?_;rfl;apply Exists.intro;refine ⟨?_,?_⟩;go_simp;exact⟨rfl,rfl⟩)|(refine wpX_float ?_ fun K hK=>?_;rfl;apply Exists.intro;refine ⟨fun w' hw'=>?_,?_⟩;(try dsimp only at hw');go_simp;exact⟨rfl,rfl⟩)|(refine wpX_not ?_ fun K hK=>?_;rfl));go_simp;refine hK _ _ ?_;clear hK K)
 refine wpX_heavy ?_ (fun K hK=>?_)
 ·rfl
 go_wp2_with (fail)
 refine (fieldN_lgroupPast_groupState 146 (Proofs.enters_of Tryz.func146 (by kernel_rfl) rfl) a31 b31 _).mono ?_
 rintro e v37 ⟨a32,b32,rfl,-,-,hk,hc⟩
 have D32:=lh (fresh_from SZ.out hc)
 replace SZ:=szk SZ hk
 replace CC:=cy CC hk
 replace CU:=cy CU hk
 replace P8:=cy P8 hk
 replace P9:=cy P9 hk
 replace P10:=cy P10 hk
 replace P13:=cy P13 hk
 replace P16:=cy P16 hk
 replace P18:=cy P18 hk
 replace P19:=cy P19 hk
 replace P20:=cy P20 hk
 replace P21:=cy P21 hk
 replace P23:=cy P23 hk
 replace P25:=cy P25 hk
 replace P27:=cy P27 hk
 replace P29:=cy P29 hk
 replace D30:=cy D30 hk
 replace D31:=cy D31 hk
 replace HR:=kb hk HR
 replace HC:=kb hk HC
 replace HU:=kb hk HU
 replace KW:=kt KW hk
 clear hk hc c0 c1 c2 c3
 have c0:=cellOf (j:=0) HC.out
 have c1:=cellOf (j:=1) HC.out
 have c2:=cellOf (j:=0) HU.out
 have c3:=cellOf (j:=1) HU.out
 simp at c0 c1 c2 c3
 go_simp
 refine hK _ _ ⟨rfl,?_⟩
 clear hK K
 have P32:Hid (∀ W',From b0 v37 W'→PPut W' 75 29 a32 stat_past∧PGet W' 75 29 b32 stat_past):=lh (fun W' hW=>D32.out W' hW (listN pastC 8 65536) (listN_fair pastC_fair 8 65536) (listN_one pastC 8 65536) 27 29 (by decide) (fun x:StatD=>x.past) (fun y x=>{ x with past:=y }) (D31.out W' hW pastC pastC_fair pastC_many (D30.out W' hW)) get_stat_past)
 clear D32 D30 D31
 repeat((first|(refine wpX_silent ?_ fun K hK=>?_;rfl;apply Exists.intro;refine ⟨fun w'=>?_,?_⟩;go_simp;exact⟨rfl,rfl⟩)|(refine wpX_read ?_ fun K hK=>?_;rfl;apply Exists.intro;refine ⟨?_,?_⟩;go_simp;exact⟨rfl,rfl⟩)|(refine wpX_float ?_ fun K hK=>?_;rfl;apply Exists.intro;refine ⟨fun w' hw'=>?_,?_⟩;(try dsimp only at hw');go_simp;exact⟨rfl,rfl⟩)|(refine wpX_not ?_ fun K hK=>?_;rfl));go_simp;refine hK _ _ ?_;clear hK K)
 refine wpX_heavy ?_ (fun K hK=>?_)
 ·rfl
 have kq:=(Kept.refl v37 (fun _=>False)).alloc (.cells #[a8,b8,a9,b9,a10,b10,a13,b13,a16,b16,a18,b18,a19,b19,a20,b20,a21,b21,a23,b23,a25,b25,a27,b27,a29,b29,a32,b32] 264)
 have HP:=lh (heap_alloc_new v37 (.cells #[a8,b8,a9,b9,a10,b10,a13,b13,a16,b16,a18,b18,a19,b19,a20,b20,a21,b21,a23,b23,a25,b25,a27,b27,a29,b29,a32,b32] 264))
 have LP:=lh SZ.out
 have KP:=lh kq
 replace HR:=kb kq HR
 replace KW:=kt KW kq
 replace SZ:=szk SZ kq
 clear c0 c1 c2 c3 HC HU CC CU
 go_wp2
 obtain ⟨pb,hpb⟩:∃ pb,v37.heap.size=pb:=⟨_,rfl⟩
 obtain ⟨v38,hv⟩:∃ v38,v37.alloc (.cells #[a8,b8,a9,b9,a10,b10,a13,b13,a16,b16,a18,b18,a19,b19,a20,b20,a21,b21,a23,b23,a25,b25,a27,b27,a29,b29,a32,b32] 264)=v38:=⟨_,rfl⟩
 rw [hv] at SZ KW HP KP HR ⊢
 rw [hpb] at HP LP ⊢
 clear hpb hv kq
 repeat((first|(refine wpX_silent ?_ fun K hK=>?_;rfl;apply Exists.intro;refine ⟨fun w'=>?_,?_⟩;go_simp;exact⟨rfl,rfl⟩)|(refine wpX_read ?_ fun K hK=>?_;rfl;apply Exists.intro;refine ⟨?_,?_⟩;go_simp;exact⟨rfl,rfl⟩)|(refine wpX_float ?_ fun K hK=>?_;rfl;apply Exists.intro;refine ⟨fun w' hw'=>?_,?_⟩;(try dsimp only at hw');go_simp;exact⟨rfl,rfl⟩)|(refine wpX_not ?_ fun K hK=>?_;rfl));go_simp;refine hK _ _ ?_;clear hK K)
 refine wpX_nil (hQ' _ _ ?_)
 go_wp2_with (fail)
 refine (states_zero _).mono ?_
 rintro e v39 ⟨a33,b33,rfl,-,-,hk,hc⟩
 have D33:=lh (fresh_from SZ.out hc)
 replace SZ:=szk SZ hk
 replace HR:=kb hk HR
 replace HP:=kb hk HP
 replace KW:=kt KW hk
 replace KP:=kt KP hk
 clear hk hc
 go_wp2_with (fail)
 refine (maybe_new a33 b33 _).mono ?_
 rintro e v40 ⟨a34,b34,rfl,-,-,hk,hc⟩
 have D34:=lh (fresh_from SZ.out hc)
 replace SZ:=szk SZ hk
 replace HR:=kb hk HR
 replace HP:=kb hk HP
 replace KW:=kt KW hk
 replace KP:=kt KP hk
 replace D33:=cy D33 hk
 clear hk hc
 go_wp2_with (fail)
 refine (fieldN_pgroupState_groupState 150 (Proofs.enters_of Tryz.func150 (by kernel_rfl) rfl) a34 b34 _).mono ?_
 rintro e v41 ⟨a35,b35,rfl,ha,hb,hk,hc⟩
 have D35:=lh (fresh_from SZ.out hc)
 replace SZ:=szk SZ hk
 replace HR:=kb hk HR
 replace HP:=kb hk HP
 replace KW:=kt KW hk
 replace KP:=kt KP hk
 replace D33:=cy D33 hk
 replace D34:=cy D34 hk
 have A35:=lh ha
 have B35:=lh hb
 clear hk hc ha hb
 have kq:=(Kept.refl v41 (fun _=>False)).alloc (.cells #[a35,b35] 264)
 have SRC:=lh (show Src Tryz.prog 2 348 (.slice (some ⟨v41.heap.size,0,none⟩) 1 1) 1 [a35,b35] (v41.alloc (.cells #[a35,b35] 264)) from Src.ofSlice _ Tryz.underlying348 _ 1 1 _ rfl (fun j u hj=>by rw [Addr.add_lit,Nat.zero_add,cellOf (heap_alloc_new v41 _)]; simpa using hj) (by simp [A35.out,B35.out]))
 replace HR:=kb kq HR
 replace HP:=kb kq HP
 replace KW:=kt KW kq
 replace KP:=kt KP kq
 replace D33:=cy D33 kq
 replace D34:=cy D34 kq
 replace D35:=cy D35 kq
 replace SZ:=szk SZ kq
 have CL:=lh (show ∀ (j:Nat) (u:Value),[a8,b8,a9,b9,a10,b10,a13,b13,a16,b16,a18,b18,a19,b19,a20,b20,a21,b21,a23,b23,a25,b25,a27,b27,a29,b29,a32,b32][j]?=some u→(v41.alloc (.cells #[a35,b35] 264)).cell? ⟨pb,j,none⟩=some u from fun j u hj=>by rw [cellOf HP.out]; simpa using hj)
 go_wp2_with (first|(at_builtin; apply hold))
 unfold Hold
 obtain ⟨v42,hv⟩:∃ v42,v41.alloc (.cells #[a35,b35] 264)=v42:=⟨_,rfl⟩
 rw [hv] at SZ KW HP KP HR SRC CL D33 D34 D35 ⊢
 clear hv kq
 refine wpList_append_full _ rfl (.tmp 45) (.tmp 51) 348 348 rfl 264 (.agg #[.nilFunc,.nilFunc]) 2 16 elem_part pb 14 [a8,b8,a9,b9,a10,b10,a13,b13,a16,b16,a18,b18,a19,b19,a20,b20,a21,b21,a23,b23,a25,b25,a27,b27,a29,b29,a32,b32] rfl rfl CL.out _ 1 [a35,b35] rfl SRC.out (by decide) (by decide) (fun cp pcs h1 h2 h3=>?_)
 have kq:=((Kept.refl v42 (fun _=>False)).drew).alloc (.cells pcs 264)
 have HX:=lh (heap_alloc_new v42.drew (.cells pcs 264))
 have LX:=lh SZ.out
 replace HR:=kb kq HR
 replace KW:=kt KW kq
 replace KP:=kt KP kq
 replace D33:=cy D33 kq
 replace D34:=cy D34 kq
 replace D35:=cy D35 kq
 replace SZ:=szk SZ kq
 have H1:=lh h1
 have H2:=lh h2
 have H3:=lh h3
 obtain ⟨pc,hpc⟩:∃ pc,v42.heap.size=pc:=⟨_,rfl⟩
 obtain ⟨v43,hv⟩:∃ v43,v42.drew.alloc (.cells pcs 264)=v43:=⟨_,rfl⟩
 rw [hv] at SZ KW HX KP HR D33 D34 D35 ⊢
 replace HX:Hid (v43.heap[v42.heap.size]?=_):=lh HX.out
 rw [hpc] at HX LX ⊢
 clear hv kq hpc h1 h2 h3 SRC CL HP LP
 go_wp2_with (fail)
 refine (recordN_groupState pc 15 cp H1.out H2.out _).mono ?_
 rintro e v44 ⟨a36,b36,rfl,ha,hb,hk,hc⟩
 have D36:=lh (fresh_from SZ.out hc)
 replace SZ:=szk SZ hk
 replace HR:=kb hk HR
 replace HX:=kb hk HX
 replace KW:=kt KW hk
 replace KP:=kt KP hk
 replace D33:=cy D33 hk
 replace D34:=cy D34 hk
 replace D35:=cy D35 hk
 have A36:=lh ha
 have B36:=lh hb
 clear hk hc ha hb
 go_wp2_with (first|(refine wpList_store_row rfl 185 (.tmp 2) (.tmp 54) rfl w.heap.size #[a36,b36] rfl rfl _ _ HR.out (by kernel_rfl) rfl (by simp [A36.out,B36.out]) ?_; apply hold))
 unfold Hold
 rename_i K hK
 refine (show K _ _ from hK _ _ ?_)
 refine wp_ret ?_
 have hsr:=setRow_heap v44 w.heap.size _ #[a36,b36] 185 (0,0) HR.out
 have kr:Kept v44 (v44.setRow w.heap.size #[a36,b36]) (fun j=>j=w.heap.size):=⟨rfl,rfl,rfl,by simp,fun j _ hj=>setRow_other v44 w.heap.size j _ hj⟩
 refine bodyPost_ret (results_cell_row rfl _ _ _ _ _ _ _ rfl hsr Tryz.underlying185 rfl (by kernel_rfl)) rfl ?_
 refine ⟨a36,b36,rfl,A36.out,B36.out,KW.out.trans kr (fun j h=>.inr (by omega)),fun W' hW=>?_⟩
 have hb0:=B0.out
 have hF:From b0 v44 W':=hW.pre (kr.mono (fun k h=>by omega)) (by omega)
 have hpa:W'.heap[pc]?=_:=hF.blk LX.out HX.out
 have hF0:From b0 v37 W':=hF.pre (KP.out.mono (fun _ h=>h.elim)) (Nat.le_refl _)
 have Q8:=P8.out W' hF0
 have Q9:=P9.out W' hF0
 have Q10:=P10.out W' hF0
 have Q13:=P13.out W' hF0
 have Q16:=P16.out W' hF0
 have Q18:=P18.out W' hF0
 have Q19:=P19.out W' hF0
 have Q20:=P20.out W' hF0
 have Q21:=P21.out W' hF0
 have Q23:=P23.out W' hF0
 have Q25:=P25.out W' hF0
 have Q27:=P27.out W' hF0
 have Q29:=P29.out W' hF0
 have Q32:=P32.out W' hF0
 have QP:=D35.out W' hF pendC pendC_fair pendC_one 28 29 (by decide) (fun x:StfD=>x.pend) (fun y x=>{ x with pend:=y }) (D34.out W' hF (D33.out W' hF)) get_stf_pend
 refine D36.out W' hF stfP rfl stfP_fair stfP_off StfZ (by decide) ⟨blk_lt hpa,fun k p hp=>?_⟩
 match k,hp with
 | 0,hp=>obtain rfl:=Option.some.inj hp; exact ⟨a8,b8,(cellOf hpa).trans (H3.out 0 a8 rfl),(cellOf hpa).trans (H3.out 1 b8 rfl),lift_put Q8.1,lift_get Q8.2⟩
 | 1,hp=>obtain rfl:=Option.some.inj hp; exact ⟨a9,b9,(cellOf hpa).trans (H3.out 2 a9 rfl),(cellOf hpa).trans (H3.out 3 b9 rfl),lift_put Q9.1,lift_get Q9.2⟩
 | 2,hp=>obtain rfl:=Option.some.inj hp; exact ⟨a10,b10,(cellOf hpa).trans (H3.out 4 a10 rfl),(cellOf hpa).trans (H3.out 5 b10 rfl),lift_put Q10.1,lift_get Q10.2⟩
 | 3,hp=>obtain rfl:=Option.some.inj hp; exact ⟨a13,b13,(cellOf hpa).trans (H3.out 6 a13 rfl),(cellOf hpa).trans (H3.out 7 b13 rfl),lift_put Q13.1,lift_get Q13.2⟩
 | 4,hp=>obtain rfl:=Option.some.inj hp; exact ⟨a16,b16,(cellOf hpa).trans (H3.out 8 a16 rfl),(cellOf hpa).trans (H3.out 9 b16 rfl),lift_put Q16.1,lift_get Q16.2⟩
 | 5,hp=>obtain rfl:=Option.some.inj hp; exact ⟨a18,b18,(cellOf hpa).trans (H3.out 10 a18 rfl),(cellOf hpa).trans (H3.out 11 b18 rfl),lift_put Q18.1,lift_get Q18.2⟩
 | 6,hp=>obtain rfl:=Option.some.inj hp; exact ⟨a19,b19,(cellOf hpa).trans (H3.out 12 a19 rfl),(cellOf hpa).trans (H3.out 13 b19 rfl),lift_put Q19.1,lift_get Q19.2⟩
 | 7,hp=>obtain rfl:=Option.some.inj hp; exact ⟨a20,b20,(cellOf hpa).trans (H3.out 14 a20 rfl),(cellOf hpa).trans (H3.out 15 b20 rfl),lift_put Q20.1,lift_get Q20.2⟩
 | 8,hp=>obtain rfl:=Option.some.inj hp; exact ⟨a21,b21,(cellOf hpa).trans (H3.out 16 a21 rfl),(cellOf hpa).trans (H3.out 17 b21 rfl),lift_put Q21.1,lift_get Q21.2⟩
 | 9,hp=>obtain rfl:=Option.some.inj hp; exact ⟨a23,b23,(cellOf hpa).trans (H3.out 18 a23 rfl),(cellOf hpa).trans (H3.out 19 b23 rfl),lift_put Q23.1,lift_get Q23.2⟩
 | 10,hp=>obtain rfl:=Option.some.inj hp; exact ⟨a25,b25,(cellOf hpa).trans (H3.out 20 a25 rfl),(cellOf hpa).trans (H3.out 21 b25 rfl),lift_put Q25.1,lift_get Q25.2⟩
 | 11,hp=>obtain rfl:=Option.some.inj hp; exact ⟨a27,b27,(cellOf hpa).trans (H3.out 22 a27 rfl),(cellOf hpa).trans (H3.out 23 b27 rfl),lift_put Q27.1,lift_get Q27.2⟩
 | 12,hp=>obtain rfl:=Option.some.inj hp; exact ⟨a29,b29,(cellOf hpa).trans (H3.out 24 a29 rfl),(cellOf hpa).trans (H3.out 25 b29 rfl),lift_put Q29.1,lift_get Q29.2⟩
 | 13,hp=>obtain rfl:=Option.some.inj hp; exact ⟨a32,b32,(cellOf hpa).trans (H3.out 26 a32 rfl),(cellOf hpa).trans (H3.out 27 b32 rfl),lift_put Q32.1,lift_get Q32.2⟩
 | 14,hp=>obtain rfl:=Option.some.inj hp; exact ⟨a35,b35,(cellOf hpa).trans (H3.out 28 a35 rfl),(cellOf hpa).trans (H3.out 29 b35 rfl),QP.1,QP.2⟩
 | k+15,hp=>simp [stfP,statP] at hp
end Go.Proofs.YtogkkfdkeefjnaaGreatDoor.Codec
namespace Go.Proofs.YtogkkfdkeefjnaaGreatDoor.Codec
open Go.RowKit Go.Proofs.YtogkkfdkeefjnaaGreatDoorBase Go.Proofs.YtogkkfdkeefjnaaGreatDoorLex2 Go.Proofs.YtogkkfdkeefjnaaGreatDoorNum
set_option linter.unusedVariables false
set_option maxRecDepth 100000
set_option linter.unusedSimpArgs false
theorem get_snap_kept:GetterOk 61 3 (.func (.func 57) #[] #[]) 0:=by
 refine ⟨_,rfl,Proofs.enters_of Tryz.func57 (by kernel_rfl) rfl,?_⟩
 intro b cs w hb hs
 clear hb hs
 go_enter Tryz.func57,Tryz.ntmps57
 go_wp2
 go_ret
 exact ⟨rfl,rfl⟩
theorem get_snap_psks:GetterOk 61 3 (.func (.func 61) #[] #[]) 1:=by
 refine ⟨_,rfl,Proofs.enters_of Tryz.func61 (by kernel_rfl) rfl,?_⟩
 intro b cs w hb hs
 clear hb hs
 go_enter Tryz.func61,Tryz.ntmps61
 go_wp2
 go_ret
 exact ⟨rfl,rfl⟩
theorem get_snap_groups:GetterOk 61 3 (.func (.func 65) #[] #[]) 2:=by
 refine ⟨_,rfl,Proofs.enters_of Tryz.func65 (by kernel_rfl) rfl,?_⟩
 intro b cs w hb hs
 clear hb hs
 go_enter Tryz.func65,Tryz.ntmps65
 go_wp2
 go_ret
 exact ⟨rfl,rfl⟩
set_option maxHeartbeats 6400000 in
theorem snaps_new (w:World):Calls Tryz.prog 30 #[] w fun r w'=>∃ a b,r=.returned (.agg #[a,b])∧a.oneCell'=true∧b.oneCell'=true∧Kept w w' (fun _=>False)∧∀ W',From w.heap.size w' W'→IsCodec W' (.agg #[a,b]) snapC:=by
 go_enter Tryz.func30,Tryz.ntmps30
 go_wp2_with (fail)
 refine (kepts_new _).mono ?_
 rintro e w1 ⟨a1,b1,rfl,-,-,hk,hc⟩
 have C1:=lh hc
 have K1:=lh hk
 clear hk hc
 go_wp2_with (fail)
 refine (listN_entryKept a1 b1 _).mono ?_
 rintro e w2 ⟨a2,b2,rfl,-,-,hk,hc⟩
 have C2:=lh hc
 have K2:=lh hk
 clear hk hc
 go_wp2_with (fail)
 refine (fieldN_lentryKept_memberSnapshot 57 (Proofs.enters_of Tryz.func57 (by kernel_rfl) rfl) a2 b2 _).mono ?_
 rintro e w3 ⟨a3,b3,rfl,-,-,hk,hc⟩
 have C3:=lh hc
 have K3:=lh hk
 clear hk hc
 go_wp2_with (fail)
 refine (signed_made _).mono ?_
 rintro e w4 ⟨a4,b4,rfl,-,-,hk,hc⟩
 have C4:=lh hc
 have K4:=lh hk
 clear hk hc
 go_wp2_with (fail)
 refine (listN_int a4 b4 _).mono ?_
 rintro e w5 ⟨a5,b5,rfl,-,-,hk,hc⟩
 have C5:=lh hc
 have K5:=lh hk
 clear hk hc
 go_wp2_with (fail)
 refine (fieldN_lint_memberSnapshot 61 (Proofs.enters_of Tryz.func61 (by kernel_rfl) rfl) a5 b5 _).mono ?_
 rintro e w6 ⟨a6,b6,rfl,-,-,hk,hc⟩
 have C6:=lh hc
 have K6:=lh hk
 clear hk hc
 go_wp2_with (fail)
 refine (states_one _).mono ?_
 rintro e w7 ⟨a7,b7,rfl,-,-,hk,hc⟩
 have C7:=lh hc
 have K7:=lh hk
 clear hk hc
 go_wp2_with (fail)
 refine (listN_groupState a7 b7 _).mono ?_
 rintro e w8 ⟨a8,b8,rfl,-,-,hk,hc⟩
 have C8:=lh hc
 have K8:=lh hk
 clear hk hc
 go_wp2_with (fail)
 refine (fieldN_lgroupState_memberSnapshot 65 (Proofs.enters_of Tryz.func65 (by kernel_rfl) rfl) a8 b8 _).mono ?_
 rintro e w9 ⟨a9,b9,rfl,-,-,hk,hc⟩
 have C9:=lh hc
 have K9:=lh hk
 clear hk hc
 go_wp2_with (fail)
 refine (recordN_memberSnapshot w9.heap.size 3 3 (by decide) (by decide) _).mono ?_
 rintro e w0 ⟨a,b,rfl,ha,hb,hk,hc⟩
 have hb0:=heap_alloc_new w9 (.cells #[a3,b3,a6,b6,a9,b9] 146)
 have L9:Kept w9 w0 (fun _=>False):=((Kept.refl w9 (fun _=>False)).alloc _).trans hk (fun _ h=>h.elim)
 have L8:=K9.out.trans L9 (fun _ h=>h.elim)
 have L7:=K8.out.trans L8 (fun _ h=>h.elim)
 have L6:=K7.out.trans L7 (fun _ h=>h.elim)
 have L5:=K6.out.trans L6 (fun _ h=>h.elim)
 have L4:=K5.out.trans L5 (fun _ h=>h.elim)
 have L3:=K4.out.trans L4 (fun _ h=>h.elim)
 have L2:=K3.out.trans L3 (fun _ h=>h.elim)
 have L1:=K2.out.trans L2 (fun _ h=>h.elim)
 have L0:=K1.out.trans L1 (fun _ h=>h.elim)
 have hz:=L0.blk (heap_alloc_new w (.cells #[.nilFunc,.nilFunc] 93)) (fun h=>h)
 have hb1:=hk.blk hb0 (fun h=>h)
 have kw:Kept w w0 (fun _=>False):=((Kept.refl w (fun _=>False)).alloc (.cells #[.nilFunc,.nilFunc] 93)).trans L0 (fun _ h=>h.elim)
 have s0:w.heap.size < (w.alloc (.cells #[.nilFunc,.nilFunc] 93)).heap.size:=by simp
 have s1:w.heap.size < w1.heap.size:=Nat.lt_of_lt_of_le s0 K1.out.size
 have s2:w.heap.size < w2.heap.size:=Nat.lt_of_lt_of_le s1 K2.out.size
 have s3:w.heap.size < w3.heap.size:=Nat.lt_of_lt_of_le s2 K3.out.size
 have s4:w.heap.size < w4.heap.size:=Nat.lt_of_lt_of_le s3 K4.out.size
 have s5:w.heap.size < w5.heap.size:=Nat.lt_of_lt_of_le s4 K5.out.size
 have s6:w.heap.size < w6.heap.size:=Nat.lt_of_lt_of_le s5 K6.out.size
 have s7:w.heap.size < w7.heap.size:=Nat.lt_of_lt_of_le s6 K7.out.size
 have s8:w.heap.size < w8.heap.size:=Nat.lt_of_lt_of_le s7 K8.out.size
 have s9:w.heap.size < w9.heap.size:=Nat.lt_of_lt_of_le s8 K9.out.size
 have sb:w.heap.size < (w9.alloc (.cells #[a3,b3,a6,b6,a9,b9] 146)).heap.size:=by simp; omega
 have HZ:=lh hz
 have HB1:=lh hb1
 have HA:=lh ha
 have HBB:=lh hb
 have HC:=lh hc
 have KW:=lh kw
 have M1:=lh L1
 have M2:=lh L2
 have M3:=lh L3
 have M4:=lh L4
 have M5:=lh L5
 have M6:=lh L6
 have M7:=lh L7
 have M8:=lh L8
 have M9:=lh L9
 have S0:=lh s0
 have S1:=lh s1
 have S2:=lh s2
 have S3:=lh s3
 have S4:=lh s4
 have S5:=lh s5
 have S6:=lh s6
 have S7:=lh s7
 have S8:=lh s8
 have S9:=lh s9
 have SB:=lh sb
 clear hb0 hz hb1 hk hc ha hb kw sb L0 L1 L2 L3 L4 L5 L6 L7 L8 L9 s0 s1 s2 s3 s4 s5 s6 s7 s8 s9
 go_wp2_with (first | refine wpList_store_row rfl 93 (.tmp 0) (.tmp 11) rfl w.heap.size #[a,b] rfl rfl _ _ HZ.out (by kernel_rfl) rfl (by simp [HA.out,HBB.out]) ?_)
 have hsr:=setRow_heap w0 w.heap.size _ #[a,b] 93 (0,0) HZ.out
 have kr:Kept w0 (w0.setRow w.heap.size #[a,b]) (fun j=>j=w.heap.size):=⟨rfl,rfl,rfl,by simp,fun j _ hj=>setRow_other w0 w.heap.size j _ hj⟩
 refine bodyPost_ret (results_cell_row rfl _ _ _ _ _ _ _ rfl hsr Tryz.underlying93 rfl (by kernel_rfl)) rfl ?_
 refine ⟨a,b,rfl,HA.out,HBB.out,KW.out.trans kr (fun j h=>.inr (by omega)),fun W' hW=>?_⟩
 have hpa:W'.heap[w9.heap.size]?=_:=hW.blk (Nat.le_of_lt S9.out) (kr.blk HB1.out (by have:=S9.out; omega))
 have f1:=hW.call M1.out kr S0.out
 have f2:=hW.call M2.out kr S1.out
 have f3:=hW.call M3.out kr S2.out
 have f4:=hW.call M4.out kr S3.out
 have f5:=hW.call M5.out kr S4.out
 have f6:=hW.call M6.out kr S5.out
 have f7:=hW.call M7.out kr S6.out
 have f8:=hW.call M8.out kr S7.out
 have f9:=hW.call M9.out kr S8.out
 have P3:=C3.out W' f3 (listN keptC 8 65536) (listN_fair keptC_fair 8 65536) (listN_one keptC 8 65536) 0 3 (by decide) (fun x:SnapD=>x.kept) (fun y x=>{ x with kept:=y }) (C2.out W' f2 keptC keptC_fair keptC_many (C1.out W' f1)) get_snap_kept
 have P6:=C6.out W' f6 (listC sgnC 65536) (listC_fair sgnC_fair 65536) (listC_one sgnC 65536) 1 3 (by decide) (fun x:SnapD=>x.psks) (fun y x=>{ x with psks:=y }) (C5.out W' f5 sgnC sgnC_fair sgnC_one (C4.out W' f4)) get_snap_psks
 have P9:=C9.out W' f9 (listN stfC 29 65536) (listN_fair stfC_fair 29 65536) (listN_one stfC 29 65536) 2 3 (by decide) (fun x:SnapD=>x.groups) (fun y x=>{ x with groups:=y }) (C8.out W' f8 stfC stfC_fair stfC_many (C7.out W' f7)) get_snap_groups
 refine HC.out W' (hW.call (Kept.refl w0 _) kr SB.out) snapP rfl snapP_fair snapP_off SnapZ (by decide) ⟨blk_lt hpa,fun k p hp=>?_⟩
 match k,hp with
 | 0,hp=>obtain rfl:=Option.some.inj hp; exact ⟨a3,b3,cellOf hpa,cellOf hpa,P3.1,P3.2⟩
 | 1,hp=>obtain rfl:=Option.some.inj hp; exact ⟨a6,b6,cellOf hpa,cellOf hpa,P6.1,P6.2⟩
 | 2,hp=>obtain rfl:=Option.some.inj hp; exact ⟨a9,b9,cellOf hpa,cellOf hpa,P9.1,P9.2⟩
 | k+3,hp=>simp [snapP] at hp
end Go.Proofs.YtogkkfdkeefjnaaGreatDoor.Codec
namespace Go.Proofs.YtogkkfdkeefjnaaGreatDoor.Term
open Go.RowKit Go.Sort Go.Proofs.YtogkkfdkeefjnaaGreatDoorBase Go.Proofs.YtogkkfdkeefjnaaGreatDoorLex2 Go.Proofs.YtogkkfdkeefjnaaGreatDoor.Dec
set_option linter.unusedVariables false
set_option maxRecDepth 100000
set_option linter.unusedSimpArgs false
def numG (s:TS) (n:Int):Nat×TS:=put s (textN (numS n))
theorem kept_grow (w:World) (k:Nat) (os:Array Obj):Kept w (grow (w.drewN k) os) (fun _=>False):=by
 refine ⟨rfl,rfl,rfl,by simp [grow,World.drewN],fun i hi _=>?_⟩
 have e:(grow (w.drewN k) os).heap=w.heap ++ os:=rfl
 rw [e,Array.getElem?_append_left hi]
theorem small (n:Int) (h:-9223372036854775808≤n∧n≤9223372036854775807):(numS n).size≤21:=by
 rw [numS_size]
 exact Lib.itoa_length_le n h.1 h.2
def I64 (n:Int):Prop:=-9223372036854775808≤n∧n≤9223372036854775807
theorem num_any (w0 w:World) (p:Nat) (F:Nat→Prop) (s:TS) (n:Int) (h:SAt w0 w p F s) (hn:I64 n) :
  Calls Tryz.prog 76 #[.pointer (some ⟨p,0,none⟩),.int .i64 n] w fun e w'=>e=.returned (.int .i64 (numG s n).1)∧TNext w0 w w' p F (numG s n).2:=by
 have hg:=h.glob.1
 have H:=lh h
 have HN:=lh hn
 have HG:=lh hg
 clear h hn hg
 go_enter Tryz.func76,Tryz.ntmps76
 go_wp2_with (fail)
 refine (Tryz.strconv_Itoa n HN.out.1 HN.out.2 _ HG.out).mono ?_
 rintro e w1 ⟨rfl,k,os,hw1⟩
 have K:=lh (show Kept w w1 (fun _=>False) by rw [hw1]; exact kept_grow _ _ _)
 clear hw1
 have e:(⟨(Lib.itoa n).toArray⟩:ByteArray)=numS n:=rfl
 rw [e]
 clear e
 go_wp2_with (fail)
 refine (text_any w0 _ p F s (numS n) (H.out.kept K.out) (Nat.le_trans (small n HN.out) (by decide))).mono ?_
 rintro e w2 ⟨rfl,hn⟩
 have N:=lh (TNext.after K.out hn)
 clear hn
 go_wp2
 go_ret
 exact ⟨rfl,N.out⟩
/-- A new row, as a list's argument. -/
theorem row_new {w:World} {b:Nat} {l:List Int} {T:TypeId} {f:Nat×Nat} (h:w.heap[b]?=some (.cells (l.map (Value.int .i64)).toArray T f)) (hl:l.length≤maxLen):RowIn w (some ⟨b,0,none⟩) l.length (l.map (Value.int .i64)):=by
 refine ⟨by simp,hl,fun _=>⟨b,0,rfl,blk_lt h,fun k u hu=>?_⟩⟩
 rw [Nat.zero_add]
 have:=cell_of_row w b k _ _ _ h
 rw [this]
 simpa using hu
theorem clear_new {w0 w:World} {p:Nat} {F:Nat→Prop} {s:TS} {b:Nat} (h:SAt w0 w p F s) (hb:w.heap.size≤b):Clear (some ⟨b,0,none⟩) F:=by
 intro k hk hF
 have:=h.at_.lt k hF
 have e:b=k:=by simpa [Value.ownBlock] using hk
 omega
theorem list_new (w0 w:World) (p:Nat) (F:Nat→Prop) (s:TS) (l:List Int) (h:SAt w0 w p F s) (hl:l.length≤maxLen) :
  Calls Tryz.prog 75 #[.pointer (some ⟨p,0,none⟩),.slice (some ⟨w.heap.size,0,none⟩) l.length l.length] (w.alloc (.cells (l.map (Value.int .i64)).toArray 3)) fun e w'=>e=.returned (.int .i64 (listT s l).1)∧TNext w0 w w' p F (listT s l).2:=by
 have k:=(Kept.refl w (fun _=>False)).alloc (.cells (l.map (Value.int .i64)).toArray 3)
 refine (list_any w0 _ p F s l _ l.length (h.kept k) (row_new (heap_alloc_new _ _) hl) (fun _=>clear_new h (Nat.le_refl _))).mono ?_
 rintro e w' ⟨rfl,hn⟩
 exact ⟨rfl,TNext.after k hn⟩
/-- ".. []int{a, b} .." behind what was done. -/
theorem TNext.list {w0 w w1:World} {p:Nat} {F:Nat→Prop} {s:TS} (l:List Int) (hT:TNext w0 w w1 p F s) (hl:l.length≤maxLen) :
  Calls Tryz.prog 75 #[.pointer (some ⟨p,0,none⟩),.slice (some ⟨w1.heap.size,0,none⟩) l.length l.length] (w1.alloc (.cells (l.map (Value.int .i64)).toArray 3)) fun e w'=>e=.returned (.int .i64 (listT s l).1)∧TNext w0 w w' p F (listT s l).2:=by
 obtain ⟨F1,s1,b1,k1⟩:=hT
 refine (list_new w0 w1 p F1 s l s1 hl).mono ?_
 rintro e w' ⟨rfl,hn⟩
 exact ⟨rfl,TNext.trans b1 k1 hn⟩
theorem idx_of_le {s:TS} (h:TOk s) (n:Node):(put s n).1≤262144:=by
 have h2:=(put_ok h n).len
 by_cases h0:(put s n).1=0
 ·omega
 have h1:=mk_there h n h0
 have h3:=idx_le (mk s n).2.nodes n
 have h4:(put s n).1=idx (mk s n).2.nodes n:=h1.2
 have h5:(put s n).2=(mk s n).2:=rfl
 rw [h5] at h2
 omega
theorem listG_le {s:TS} (h:TOk s):∀ l:List Int,(listG s l).1≤262144∧TOk (listG s l).2
 | []=>⟨idx_of_le h _,put_ok h _⟩
 | x :: l=>⟨idx_of_le (listG_le h l).2 _,put_ok (listG_le h l).2 _⟩
theorem listT_le {s:TS} (h:TOk s) (l:List Int):(listT s l).1≤262144:=by
 unfold listT
 split
 ·exact (listG_le h l).1
 ·exact Nat.zero_le _
theorem fresh_le {s:TS} (h:TOk s):(fresh s).1≤262144:=idx_of_le h _
/-- Some term is handed back; the store goes on. -/
def TT (w0 w:World) (p:Nat) (F:Nat→Prop) (e:Ending) (w':World):Prop:=∃ (t:Nat) (s':TS),e=.returned (.int .i64 t)∧t≤262144∧TNext w0 w w' p F s'
theorem tt_of {w0 w:World} {p:Nat} {F:Nat→Prop} {f:Nat} {args:Array Value} {t:Nat} {s':TS} (h:Calls Tryz.prog f args w fun e w'=>e=.returned (.int .i64 t)∧TNext w0 w w' p F s') (ht:t≤262144):Calls Tryz.prog f args w (TT w0 w p F):=by
 refine h.mono ?_
 rintro e w' ⟨rfl,hn⟩
 exact ⟨t,s',rfl,ht,hn⟩
section
variable {w0 w w1 : World} {p : Nat} {F : Nat → Prop} {s : TS} {f : Nat} {args : Array Value}
theorem TNext.tt (hT:TNext w0 w w1 p F s) (hC:∀ F1,SAt w0 w1 p F1 s→Calls Tryz.prog f args w1 (TT w0 w1 p F1)):Calls Tryz.prog f args w1 (TT w0 w p F):=by
 obtain ⟨F1,s1,b1,k1⟩:=hT
 refine (hC F1 s1).mono ?_
 rintro e w' ⟨t,s',rfl,ht,hn⟩
 exact ⟨t,s',rfl,ht,TNext.trans b1 k1 hn⟩
theorem num_tt (n:Int) (h:SAt w0 w p F s) (hn:I64 n):Calls Tryz.prog 76 #[.pointer (some ⟨p,0,none⟩),.int .i64 n] w (TT w0 w p F):=tt_of (num_any w0 w p F s n h hn) (idx_of_le h.ok _)
theorem text_tt (l:ByteArray) (h:SAt w0 w p F s) (hl:l.size≤9223372036854775807):Calls Tryz.prog 43 #[.pointer (some ⟨p,0,none⟩),.string l] w (TT w0 w p F):=tt_of (text_any w0 w p F s l h hl) (idx_of_le h.ok _)
theorem hash_tt (l:ByteArray) (a:Int) (h:SAt w0 w p F s) (hl:l.size≤9223372036854775807):Calls Tryz.prog 81 #[.pointer (some ⟨p,0,none⟩),.string l,.int .i64 a] w (TT w0 w p F):=tt_of (hash_any w0 w p F s l a h hl) (idx_of_le h.ok _)
theorem kdf_tt (l:ByteArray) (a b:Int) (h:SAt w0 w p F s) (hl:l.size≤9223372036854775807):Calls Tryz.prog 74 #[.pointer (some ⟨p,0,none⟩),.string l,.int .i64 a,.int .i64 b] w (TT w0 w p F):=tt_of (kdf_any w0 w p F s l a b h hl) (idx_of_le h.ok _)
theorem pub_tt (a:Int) (h:SAt w0 w p F s):Calls Tryz.prog 16 #[.pointer (some ⟨p,0,none⟩),.int .i64 a] w (TT w0 w p F):=tt_of (pub_any w0 w p F s a h) (idx_of_le h.ok _)
theorem fresh_tt (h:SAt w0 w p F s):Calls Tryz.prog 14 #[.pointer (some ⟨p,0,none⟩)] w (TT w0 w p F):=tt_of (fresh_any w0 w p F s h) (fresh_le h.ok)
/-- ".. []int{a, b} .." behind what was done. -/
theorem TNext.listt (l:List Int) (hT:TNext w0 w w1 p F s) (hl:l.length≤maxLen) :
  Calls Tryz.prog 75 #[.pointer (some ⟨p,0,none⟩),.slice (some ⟨w1.heap.size,0,none⟩) l.length l.length] (w1.alloc (.cells (l.map (Value.int .i64)).toArray 3)) (TT w0 w p F):=by
 have h:=hT
 obtain ⟨F1,s1,b1,k1⟩:=h
 refine (TNext.list l hT hl).mono ?_
 rintro e w' ⟨rfl,hn⟩
 exact ⟨_,_,rfl,listT_le s1.ok l,hn⟩
end
end Go.Proofs.YtogkkfdkeefjnaaGreatDoor.Term
namespace Go.Proofs.YtogkkfdkeefjnaaGreatDoor.Term
open Go.RowKit Go.Sort Go.Proofs.YtogkkfdkeefjnaaGreatDoorBase Go.Proofs.YtogkkfdkeefjnaaGreatDoorLex2 Go.Proofs.YtogkkfdkeefjnaaGreatDoor.Dec
set_option linter.unusedVariables false
set_option maxRecDepth 100000
set_option linter.unusedSimpArgs false
theorem gDeB : Tryz.prog.globalNamed "math/bits.deBruijn64tab" = some 2 := by kernel_rfl
theorem deB_cell {w:World} (h:Gl w):w.cell? ⟨2,0,none⟩=some (.int .u8 0):=by
 have:=h.2.cell gDeB 0 (by decide)
 simpa [deB] using this
theorem tz64_any (w:World) (h:Gl w):Calls Tryz.prog 394 #[.int .u64 18446744073709551615] w fun e w'=>e=.returned (.int .i64 0)∧w'=w:=by
 have c0:=deB_cell h
 clear h
 have e1:IntKind.u64.wrap (-18446744073709551615)=1:=by decide
 have e2:bits BinOp.and IntKind.u64 18446744073709551615 1=1:=by decide
 have e3:IntKind.u64.wrap 285870213051353865=285870213051353865:=by decide
 go_enter Tryz.func394,Tryz.ntmps394
 go_wp2
 go_ret
 exact ⟨rfl,rfl⟩
theorem tz_any (w:World) (h:Gl w):Calls Tryz.prog 364 #[.int .u64 18446744073709551615] w fun e w'=>e=.returned (.int .i64 0)∧w'=w:=by
 have T:=lh (tz64_any w h)
 clear h
 go_enter Tryz.func364,Tryz.ntmps364
 go_wp2_with (fail)
 refine T.out.mono ?_
 rintro e w' ⟨rfl,hw⟩
 obtain rfl:=hw.symm
 clear hw
 go_wp2
 go_ret
 exact ⟨rfl,rfl⟩
theorem level_any (w:World) (h:Gl w):Calls Tryz.prog 297 #[.int .i64 0] w fun e w'=>e=.returned (.int .i64 0)∧w'=w:=by
 have T:=lh (tz_any w h)
 clear h
 go_enter Tryz.func297,Tryz.ntmps297
 go_wp2_with (fail)
 refine T.out.mono ?_
 rintro e w' ⟨rfl,hw⟩
 obtain rfl:=hw.symm
 clear hw
 go_wp2
 go_ret
 exact ⟨rfl,rfl⟩
theorem right_one (w:World):Calls Tryz.prog 365 #[.int .i64 1] w fun e w'=>e=.returned (.bool true)∧w'=w:=by
 go_enter Tryz.func365,Tryz.ntmps365
 go_wp2
 go_ret
 exact ⟨rfl,rfl⟩
theorem in_one (w:World):Calls Tryz.prog 298 #[.int .i64 0,.int .i64 1] w fun e w'=>e=.returned (.bool true)∧w'=w:=by
 have T:=lh (right_one w)
 go_enter Tryz.func298,Tryz.ntmps298
 go_wp2_with (fail)
 refine T.out.mono ?_
 rintro e w' ⟨rfl,hw⟩
 obtain rfl:=hw.symm
 clear hw
 go_wp2
 go_ret
 exact ⟨rfl,rfl⟩
theorem children_one (w:World) (h:Gl w):Calls Tryz.prog 159 #[.int .i64 0,.int .i64 1] w fun e w'=>e=.returned (.tuple #[.int .i64 0,.int .i64 0,.int .i64 30])∧w'=w:=by
 have T:=lh (level_any w h)
 have U:=lh (in_one w)
 clear h
 go_enter Tryz.func159,Tryz.ntmps159
 go_wp2_with (fail)
 refine T.out.mono ?_
 rintro e w' ⟨rfl,hw⟩
 obtain rfl:=hw.symm
 clear hw
 go_wp2_with (fail)
 refine U.out.mono ?_
 rintro e w' ⟨rfl,hw⟩
 obtain rfl:=hw.symm
 clear hw
 go_wp2
 go_returns
 exact ⟨rfl,rfl⟩
theorem leaves_one (A:Option Addr) (c:Nat) (w:World):Calls Tryz.prog 78 #[.slice A 1 c] w fun e w'=>e=.returned (.int .i64 1)∧w'=w:=by
 go_enter Tryz.func78,Tryz.ntmps78
 go_wp2
 go_ret
 exact ⟨rfl,rfl⟩
theorem some_tt {w0 w:World} {p:Nat} {F:Nat→Prop} {s:TS} (t:Nat) (ht:t≤262144) (h:SAt w0 w p F s):Calls Tryz.prog 160 #[.pointer (some ⟨p,0,none⟩),.int .i64 t] w (TT w0 w p F):=by
 have H:=lh h
 have HT:=lh ht
 clear h ht
 by_cases h0:t=0
 ·subst h0
  go_enter Tryz.func160,Tryz.ntmps160
  go_wp2_with (fail)
  refine (text_tt ⟨#[]⟩ H.out (Nat.zero_le _)).mono ?_
  rintro e w1 ⟨t1,s1,rfl,l1,hn⟩
  have N1:=lh hn
  have L1:=lh l1
  clear hn l1
  go_wp2
  go_ret
  exact ⟨t1,s1,rfl,L1.out,N1.out⟩
 ·have q:((t:Int) == 0)=false:=by simpa using h0
  clear h0
  go_enter Tryz.func160,Tryz.ntmps160
  go_wp2
  go_ret
  exact ⟨t,s,rfl,HT.out,TNext.refl H.out⟩
theorem context_tt {w0 w:World} {p:Nat} {F:Nat→Prop} {s:TS} (g e t r:Int) (h:SAt w0 w p F s) (hg:I64 g) (he:I64 e):Calls Tryz.prog 45 #[.pointer (some ⟨p,0,none⟩),.int .i64 g,.int .i64 e,.int .i64 t,.int .i64 r] w (TT w0 w p F):=by
 have N0:=lh (TNext.refl h)
 have HG:=lh hg
 have HE:=lh he
 clear h hg he
 go_enter Tryz.func45,Tryz.ntmps45
 go_wp2_with (fail)
 refine (N0.out.tt fun F1 h1=>num_tt g h1 HG.out).mono ?_
 rintro e1 w1 ⟨t1,s1,rfl,l1,hn⟩
 have N1:=lh hn
 clear hn l1
 go_wp2_with (fail)
 refine (N1.out.tt fun F1 h1=>num_tt e h1 HE.out).mono ?_
 rintro e2 w2 ⟨t2,s2,rfl,l2,hn⟩
 have N2:=lh hn
 clear hn l2
 go_wp2_with (fail)
 refine (N2.out.listt [(t1:Int),(t2:Int),t,r] (show (4:Nat)≤maxLen by decide)).mono ?_
 rintro e3 w3 ⟨t3,s3,rfl,l3,hn⟩
 have N3:=lh hn
 have L3:=lh l3
 clear hn l3
 go_wp2
 go_ret
 exact ⟨t3,s3,rfl,L3.out,N3.out⟩
theorem interim_tt {w0 w:World} {p:Nat} {F:Nat→Prop} {s:TS} (a b:Int) (h:SAt w0 w p F s):Calls Tryz.prog 79 #[.pointer (some ⟨p,0,none⟩),.int .i64 a,.int .i64 b] w (TT w0 w p F):=by
 have N0:=lh (TNext.refl h)
 clear h
 go_enter Tryz.func79,Tryz.ntmps79
 go_wp2_with (fail)
 refine (N0.out.listt [a,b] (show (2:Nat)≤maxLen by decide)).mono ?_
 rintro e1 w1 ⟨t1,s1,rfl,l1,hn⟩
 have N1:=lh hn
 clear hn l1
 go_wp2_with (fail)
 refine (N1.out.tt fun F1 h1=>hash_tt ⟨#[105,110,116,101,114,105,109]⟩ t1 h1 (by decide)).mono ?_
 rintro e2 w2 ⟨t2,s2,rfl,l2,hn⟩
 have N2:=lh hn
 have L2:=lh l2
 clear hn l2
 go_wp2
 go_ret
 exact ⟨t2,s2,rfl,L2.out,N2.out⟩
theorem TNext.alloc {w0 w w1:World} {p:Nat} {F:Nat→Prop} {s:TS} (h:TNext w0 w w1 p F s) (o:Obj):TNext w0 w (w1.alloc o) p F s:=h.then ((Kept.refl _ _).alloc o)
theorem TNext.drew {w0 w w1:World} {p:Nat} {F:Nat→Prop} {s:TS} (h:TNext w0 w w1 p F s):TNext w0 w w1.drew p F s:=h.then ((Kept.refl _ _).drew)
theorem confirmation_tt {w0 w:World} {p:Nat} {F:Nat→Prop} {s:TS} (cs:Array Value) (k a:Int) (h:SAt w0 w p F s) (hs:cs.size=13) (hk:cs[9]?=some (.int .i64 k)):Calls Tryz.prog 48 #[.pointer (some ⟨p,0,none⟩),.agg cs,.int .i64 a] w (TT w0 w p F):=by
 have N0:=lh ((TNext.refl h).alloc (.cells cs 66))
 have c9:(w.alloc (.cells cs 66)).cell? ⟨w.heap.size,9,none⟩=some (.int .i64 k):=by rw [cellOf (heap_alloc_new _ _),hk]
 clear h hk hs
 go_enter Tryz.func48,Tryz.ntmps48
 go_wp2_with (fail)
 refine (N0.out.tt fun F1 h1=>kdf_tt ⟨#[109,97,99]⟩ k a h1 (by decide)).mono ?_
 rintro e2 w2 ⟨t2,s2,rfl,l2,hn⟩
 have N2:=lh hn
 have L2:=lh l2
 clear hn l2
 go_wp2
 go_ret
 exact ⟨t2,s2,rfl,L2.out,N2.out⟩
end Go.Proofs.YtogkkfdkeefjnaaGreatDoor.Term
namespace Go.Proofs.YtogkkfdkeefjnaaGreatDoor.Term
open Go.RowKit Go.Sort Go.Proofs.YtogkkfdkeefjnaaGreatDoorBase Go.Proofs.YtogkkfdkeefjnaaGreatDoorLex2 Go.Proofs.YtogkkfdkeefjnaaGreatDoor.Dec
open Go.Proofs.YtogkkfdkeefjnaaGreatDoor.Codec (setRow_new)
set_option linter.unusedVariables false
set_option maxRecDepth 100000
set_option linter.unusedSimpArgs false
theorem TNext.blk {w0 w w1:World} {p:Nat} {F:Nat→Prop} {s:TS} (h:TNext w0 w w1 p F s) {b:Nat} {o:Obj} (hb:w.heap[b]?=some o) (hF:¬ F b):w1.heap[b]?=some o:=by
 obtain ⟨F1,_,_,k⟩:=h
 exact k.blk hb hF
def vertCells (k cl sg:Int):Array Value:=#[.bool true,.int .i64 k,.int .i64 cl,.int .i64 sg,.int .i64 0,.slice none 0 0]
set_option maxHeartbeats 3200000 in
theorem hash_leaf {w0 w:World} {p:Nat} {F:Nat→Prop} {s:TS} (bt:Nat) (k sg:Nat) (cl:Int) (h:SAt w0 w p F s) (hb:w.heap[bt]?=some (.cells (vertCells k cl sg) 117 (0,0))) (hk:k≤262144) (hs:sg≤262144) (hc:I64 cl) :
  Calls Tryz.prog 77 #[.pointer (some ⟨p,0,none⟩),.slice (some ⟨bt,0,none⟩) 1 1,.int .i64 0] w (TT w0 w p F):=by
 obtain ⟨K9,H9⟩:=setRow_new (w:=w) (Z:=#[.bool false,.int .i64 0,.int .i64 0,.int .i64 0,.int .i64 0,.slice none 0 0]) (cs:=vertCells k cl sg) (T:=117)
 have HZ:=lh (heap_alloc_new w (.cells #[.bool false,.int .i64 0,.int .i64 0,.int .i64 0,.int .i64 0,.slice none 0 0] 117))
 have HBT:=lh hb
 have NF:=lh (show ¬ F w.heap.size from fun hf=>absurd (h.at_.lt _ hf) (Nat.lt_irrefl _))
 have HK:=lh hk
 have HS:=lh hs
 have HC:=lh hc
 obtain ⟨w9,hw9⟩:∃ w9,(w.alloc (.cells #[.bool false,.int .i64 0,.int .i64 0,.int .i64 0,.int .i64 0,.slice none 0 0] 117)).setRow w.heap.size (vertCells k cl sg)=w9:=⟨_,rfl⟩
 rw [hw9] at K9 H9
 have GL:=lh ((h.kept K9).glob)
 have N0:=lh (TNext.refl (h.kept K9))
 have HW9:=lh hw9
 have KK:=lh K9
 have HB:=lh H9
 clear h hb hk hs hc K9 H9 hw9
 go_enter Tryz.func77,Tryz.ntmps77
 go_wp2_with (first | refine wpList_load_row rfl 117 (.tmp 26) rfl bt rfl _ (vertCells k cl sg) _ _ HBT.out Tryz.underlying117 rfl (by kernel_rfl) ?_|(refine wpList_store_row rfl 117 (.tmp 7) (.tmp 27) rfl w.heap.size (vertCells k cl sg) rfl rfl _ _ HZ.out (by kernel_rfl) rfl (by simp [vertCells,Value.oneCell']) ?_; rw [HW9.out]))
 refine (leaves_one _ _ _).mono ?_
 rintro e w' ⟨rfl,hw⟩
 obtain rfl:=hw.symm
 clear hw
 go_wp2_with (fail)
 refine (children_one _ GL.out).mono ?_
 rintro e w' ⟨rfl,hw⟩
 obtain rfl:=hw.symm
 clear hw
 obtain ⟨b7,hb7⟩:∃ b7,w.heap.size=b7:=⟨_,rfl⟩
 rw [hb7] at HB NF ⊢
 have c0:=cellOf (j:=0) HB.out
 have c1:=cellOf (j:=1) HB.out
 have c2:=cellOf (j:=2) HB.out
 have c3:=cellOf (j:=3) HB.out
 have c4:=cellOf (j:=4) HB.out
 simp [vertCells] at c0 c1 c2 c3 c4
 clear hb7 HZ HW9 HBT
 go_wp2
 refine wp_region_lex (fun w'=>w'.cell? ⟨b7,1,none⟩=some (.int .i64 k)∧w'.cell? ⟨b7,2,none⟩=some (.int .i64 cl)∧w'.cell? ⟨b7,3,none⟩=some (.int .i64 sg)∧w'.cell? ⟨b7,4,none⟩=some (.int .i64 0)) [0,0,0,0,0,2,0,0,3,2,0,0,3,2,0,0,3,2,0,0,3,4,4,4,4,0] (by kernel_rfl) (by kernel_rfl) (by kernel_rfl) (⟨c1,c2,c3,c4⟩) (fun Q' hQ'=>?_)
 simp only [List.zip_cons_cons,List.zip_nil_right]
 have N0:=lh N0.out.drew
 have c1:w9.drew.cell? ⟨b7,1,none⟩=_:=c1
 have c2:w9.drew.cell? ⟨b7,2,none⟩=_:=c2
 have c3:w9.drew.cell? ⟨b7,3,none⟩=_:=c3
 have c4:w9.drew.cell? ⟨b7,4,none⟩=_:=c4
 obtain ⟨x0,hx0⟩:∃ x0,w9.drew=x0:=⟨_,rfl⟩
 rw [hx0] at N0 c1 c2 c3 c4 ⊢
 clear hx0 c0
 repeat((first|(refine wpX_silent ?_ fun K hK=>?_;rfl;apply Exists.intro;refine ⟨fun w'=>?_,?_⟩;go_simp;exact⟨rfl,rfl⟩)|(refine wpX_read ?_ fun K hK=>?_;rfl;apply Exists.intro;refine ⟨?_,?_⟩;go_simp;exact⟨rfl,rfl⟩)|(refine wpX_float ?_ fun K hK=>?_;rfl;apply Exists.intro;refine ⟨fun w' hw'=>?_,?_⟩;(try dsimp only at hw');go_simp;exact⟨rfl,rfl⟩)|(refine wpX_not ?_ fun K hK=>?_;rfl));go_simp;refine hK _ _ ?_;clear hK K)
 refine wpX_keeps ?_ (fun K hK=>?_)
 ·rfl
 go_wp2_with (fail)
 refine (N0.out.tt fun F1 h1=>num_tt 0 h1 (by unfold I64; decide)).mono ?_
 rintro e1 x1 ⟨t1,s1,rfl,l1,hn⟩
 have N1:=lh hn
 have L1:=lh l1
 clear hn l1
 clear c1 c2 c3 c4
 have c1:=cellOf (j:=1) (N1.out.blk HB.out NF.out)
 have c2:=cellOf (j:=2) (N1.out.blk HB.out NF.out)
 have c3:=cellOf (j:=3) (N1.out.blk HB.out NF.out)
 have c4:=cellOf (j:=4) (N1.out.blk HB.out NF.out)
 simp [vertCells] at c1 c2 c3 c4
 go_simp
 refine hK _ _ ⟨rfl,⟨c1,c2,c3,c4⟩,?_⟩
 clear hK K
 repeat((first|(refine wpX_silent ?_ fun K hK=>?_;rfl;apply Exists.intro;refine ⟨fun w'=>?_,?_⟩;go_simp;exact⟨rfl,rfl⟩)|(refine wpX_read ?_ fun K hK=>?_;rfl;apply Exists.intro;refine ⟨?_,?_⟩;go_simp;exact⟨rfl,rfl⟩)|(refine wpX_float ?_ fun K hK=>?_;rfl;apply Exists.intro;refine ⟨fun w' hw'=>?_,?_⟩;(try dsimp only at hw');go_simp;exact⟨rfl,rfl⟩)|(refine wpX_not ?_ fun K hK=>?_;rfl));go_simp;refine hK _ _ ?_;clear hK K)
 refine wpX_keeps ?_ (fun K hK=>?_)
 ·rfl
 go_wp2_with (fail)
 refine (N1.out.tt fun F1 h1=>num_tt cl h1 HC.out).mono ?_
 rintro e2 x2 ⟨t2,s2,rfl,l2,hn⟩
 have N2:=lh hn
 have L2:=lh l2
 clear hn l2
 clear c1 c2 c3 c4
 have c1:=cellOf (j:=1) (N2.out.blk HB.out NF.out)
 have c2:=cellOf (j:=2) (N2.out.blk HB.out NF.out)
 have c3:=cellOf (j:=3) (N2.out.blk HB.out NF.out)
 have c4:=cellOf (j:=4) (N2.out.blk HB.out NF.out)
 simp [vertCells] at c1 c2 c3 c4
 go_simp
 refine hK _ _ ⟨rfl,⟨c1,c2,c3,c4⟩,?_⟩
 clear hK K
 repeat((first|(refine wpX_silent ?_ fun K hK=>?_;rfl;apply Exists.intro;refine ⟨fun w'=>?_,?_⟩;go_simp;exact⟨rfl,rfl⟩)|(refine wpX_read ?_ fun K hK=>?_;rfl;apply Exists.intro;refine ⟨?_,?_⟩;go_simp;exact⟨rfl,rfl⟩)|(refine wpX_float ?_ fun K hK=>?_;rfl;apply Exists.intro;refine ⟨fun w' hw'=>?_,?_⟩;(try dsimp only at hw');go_simp;exact⟨rfl,rfl⟩)|(refine wpX_not ?_ fun K hK=>?_;rfl));go_simp;refine hK _ _ ?_;clear hK K)
 refine wpX_keeps ?_ (fun K hK=>?_)
 ·rfl
 go_wp2_with (fail)
 refine (N2.out.tt fun F1 h1=>some_tt k HK.out h1).mono ?_
 rintro e3 x3 ⟨t3,s3,rfl,l3,hn⟩
 have N3:=lh hn
 have L3:=lh l3
 clear hn l3
 clear c1 c2 c3 c4
 have c1:=cellOf (j:=1) (N3.out.blk HB.out NF.out)
 have c2:=cellOf (j:=2) (N3.out.blk HB.out NF.out)
 have c3:=cellOf (j:=3) (N3.out.blk HB.out NF.out)
 have c4:=cellOf (j:=4) (N3.out.blk HB.out NF.out)
 simp [vertCells] at c1 c2 c3 c4
 go_simp
 refine hK _ _ ⟨rfl,⟨c1,c2,c3,c4⟩,?_⟩
 clear hK K
 repeat((first|(refine wpX_silent ?_ fun K hK=>?_;rfl;apply Exists.intro;refine ⟨fun w'=>?_,?_⟩;go_simp;exact⟨rfl,rfl⟩)|(refine wpX_read ?_ fun K hK=>?_;rfl;apply Exists.intro;refine ⟨?_,?_⟩;go_simp;exact⟨rfl,rfl⟩)|(refine wpX_float ?_ fun K hK=>?_;rfl;apply Exists.intro;refine ⟨fun w' hw'=>?_,?_⟩;(try dsimp only at hw');go_simp;exact⟨rfl,rfl⟩)|(refine wpX_not ?_ fun K hK=>?_;rfl));go_simp;refine hK _ _ ?_;clear hK K)
 refine wpX_keeps ?_ (fun K hK=>?_)
 ·rfl
 go_wp2_with (fail)
 refine (N3.out.tt fun F1 h1=>some_tt sg HS.out h1).mono ?_
 rintro e4 x4 ⟨t4,s4,rfl,l4,hn⟩
 have N4:=lh hn
 have L4:=lh l4
 clear hn l4
 clear c1 c2 c3 c4
 have c1:=cellOf (j:=1) (N4.out.blk HB.out NF.out)
 have c2:=cellOf (j:=2) (N4.out.blk HB.out NF.out)
 have c3:=cellOf (j:=3) (N4.out.blk HB.out NF.out)
 have c4:=cellOf (j:=4) (N4.out.blk HB.out NF.out)
 simp [vertCells] at c1 c2 c3 c4
 go_simp
 refine hK _ _ ⟨rfl,⟨c1,c2,c3,c4⟩,?_⟩
 clear hK K
 repeat((first|(refine wpX_silent ?_ fun K hK=>?_;rfl;apply Exists.intro;refine ⟨fun w'=>?_,?_⟩;go_simp;exact⟨rfl,rfl⟩)|(refine wpX_read ?_ fun K hK=>?_;rfl;apply Exists.intro;refine ⟨?_,?_⟩;go_simp;exact⟨rfl,rfl⟩)|(refine wpX_float ?_ fun K hK=>?_;rfl;apply Exists.intro;refine ⟨fun w' hw'=>?_,?_⟩;(try dsimp only at hw');go_simp;exact⟨rfl,rfl⟩)|(refine wpX_not ?_ fun K hK=>?_;rfl));go_simp;refine hK _ _ ?_;clear hK K)
 refine wpX_heavy ?_ (fun K hK=>?_)
 ·rfl
 go_wp2_with (fail)
 refine (N4.out.tt fun F1 h1=>some_tt 0 (by decide) h1).mono ?_
 rintro e5 x5 ⟨t5,s5,rfl,l5,hn⟩
 have N5:=lh hn
 have L5:=lh l5
 clear hn l5
 go_simp
 refine hK _ _ ⟨rfl,?_⟩
 clear hK K
 repeat((first|(refine wpX_silent ?_ fun K hK=>?_;rfl;apply Exists.intro;refine ⟨fun w'=>?_,?_⟩;go_simp;exact⟨rfl,rfl⟩)|(refine wpX_read ?_ fun K hK=>?_;rfl;apply Exists.intro;refine ⟨?_,?_⟩;go_simp;exact⟨rfl,rfl⟩)|(refine wpX_float ?_ fun K hK=>?_;rfl;apply Exists.intro;refine ⟨fun w' hw'=>?_,?_⟩;(try dsimp only at hw');go_simp;exact⟨rfl,rfl⟩)|(refine wpX_not ?_ fun K hK=>?_;rfl));go_simp;refine hK _ _ ?_;clear hK K)
 refine wpX_heavy ?_ (fun K hK=>?_)
 ·rfl
 clear c1 c2 c3 c4
 go_wp2
 repeat((first|(refine wpX_silent ?_ fun K hK=>?_;rfl;apply Exists.intro;refine ⟨fun w'=>?_,?_⟩;go_simp;exact⟨rfl,rfl⟩)|(refine wpX_read ?_ fun K hK=>?_;rfl;apply Exists.intro;refine ⟨?_,?_⟩;go_simp;exact⟨rfl,rfl⟩)|(refine wpX_float ?_ fun K hK=>?_;rfl;apply Exists.intro;refine ⟨fun w' hw'=>?_,?_⟩;(try dsimp only at hw');go_simp;exact⟨rfl,rfl⟩)|(refine wpX_not ?_ fun K hK=>?_;rfl));go_simp;refine hK _ _ ?_;clear hK K)
 refine wpX_heavy ?_ (fun K hK=>?_)
 ·rfl
 go_wp2_with (fail)
 refine (N5.out.listt [(t1:Int),(t2:Int),(t3:Int),(t4:Int),(t5:Int)] (show (5:Nat)≤maxLen by decide)).mono ?_
 rintro e6 x6 ⟨t6,s6,rfl,l6,hn⟩
 have N6:=lh hn
 clear hn l6
 go_simp
 refine hK _ _ ⟨rfl,?_⟩
 clear hK K
 repeat((first|(refine wpX_silent ?_ fun K hK=>?_;rfl;apply Exists.intro;refine ⟨fun w'=>?_,?_⟩;go_simp;exact⟨rfl,rfl⟩)|(refine wpX_read ?_ fun K hK=>?_;rfl;apply Exists.intro;refine ⟨?_,?_⟩;go_simp;exact⟨rfl,rfl⟩)|(refine wpX_float ?_ fun K hK=>?_;rfl;apply Exists.intro;refine ⟨fun w' hw'=>?_,?_⟩;(try dsimp only at hw');go_simp;exact⟨rfl,rfl⟩)|(refine wpX_not ?_ fun K hK=>?_;rfl));go_simp;refine hK _ _ ?_;clear hK K)
 refine wpX_heavy ?_ (fun K hK=>?_)
 ·rfl
 go_wp2_with (fail)
 refine (N6.out.tt fun F1 h1=>hash_tt ⟨#[108,101,97,102]⟩ t6 h1 (by decide)).mono ?_
 rintro e7 x7 ⟨t7,s7,rfl,l7,hn⟩
 have N7:=lh hn
 have L7:=lh l7
 clear hn l7
 go_simp
 refine hK _ _ ⟨rfl,?_⟩
 clear hK K
 repeat((first|(refine wpX_silent ?_ fun K hK=>?_;rfl;apply Exists.intro;refine ⟨fun w'=>?_,?_⟩;go_simp;exact⟨rfl,rfl⟩)|(refine wpX_read ?_ fun K hK=>?_;rfl;apply Exists.intro;refine ⟨?_,?_⟩;go_simp;exact⟨rfl,rfl⟩)|(refine wpX_float ?_ fun K hK=>?_;rfl;apply Exists.intro;refine ⟨fun w' hw'=>?_,?_⟩;(try dsimp only at hw');go_simp;exact⟨rfl,rfl⟩)|(refine wpX_not ?_ fun K hK=>?_;rfl));go_simp;refine hK _ _ ?_;clear hK K)
 refine wpX_nil (hQ' _ _ ?_)
 go_wp2
 go_ret
 exact ⟨t7,s7,rfl,L7.out,TNext.after KK.out N7.out⟩
theorem tree_leaf {w0 w:World} {p:Nat} {F:Nat→Prop} {s:TS} (bt:Nat) (k sg:Nat) (cl:Int) (h:SAt w0 w p F s) (hb:w.heap[bt]?=some (.cells (vertCells k cl sg) 117 (0,0))) (hk:k≤262144) (hs:sg≤262144) (hc:I64 cl) :
  Calls Tryz.prog 46 #[.pointer (some ⟨p,0,none⟩),.slice (some ⟨bt,0,none⟩) 1 1] w (TT w0 w p F):=by
 have H:=lh (hash_leaf bt k sg cl h hb hk hs hc)
 clear h hb hk hs hc
 go_enter Tryz.func46,Tryz.ntmps46
 go_wp2_with (fail)
 refine (leaves_one _ _ _).mono ?_
 rintro e w' ⟨rfl,hw⟩
 obtain rfl:=hw.symm
 clear hw
 go_wp2_with (fail)
 refine H.out.mono ?_
 rintro e1 x1 ⟨t1,s1,rfl,l1,hn⟩
 have N1:=lh hn
 have L1:=lh l1
 clear hn l1
 go_wp2
 go_ret
 exact ⟨t1,s1,rfl,L1.out,N1.out⟩
end Go.Proofs.YtogkkfdkeefjnaaGreatDoor.Term
