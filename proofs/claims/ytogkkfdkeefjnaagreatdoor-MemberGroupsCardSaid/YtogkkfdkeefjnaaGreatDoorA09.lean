/-
  The package journal's reading of one record, walked. Journals' bytes scanned by the package, walked. Records framed by the package, walked. Journals on a file: opened, added to, walked. Records within records: parts of several cells; rows of records; no program's text. Three things made, one behind the other.
-/
import Derived.Test.YtogkkfdkeefjnaaGreatDoorA08
import Derived.Test.YtogkkfdkeefjnaaGreatDoorA03
import Derived.Test.YtogkkfdkeefjnaaGreatDoorA05
import Derived.Deep.MidRow
namespace Go.Proofs.YtogkkfdkeefjnaaGreatDoor.Codec
open Go.RowKit Go.Proofs.YtogkkfdkeefjnaaGreatDoorBase Go.Proofs.YtogkkfdkeefjnaaGreatDoorLex2 Go.Proofs.YtogkkfdkeefjnaaGreatDoorNum
set_option linter.unusedVariables false
set_option maxRecDepth 100000
set_option linter.unusedSimpArgs false
/-- The record that a text begins with. -/
def nextV (d:ByteArray):ByteArray×Nat:=match nextS d.data.toList with
 | none=>(⟨#[]⟩,0)
 | some (t,k)=>(⟨t.toArray⟩,k)
def NextRes (d:ByteArray) (w:World) (e:Ending) (w':World):Prop:=e=.returned (.tuple #[.string (nextV d).1,.int .i64 (nextV d).2])∧Kept w w' (fun _=>False)
theorem nextRes_none {d:ByteArray} {w w':World} (h:nextS d.data.toList=none) (hk:Kept w w' (fun _=>False)):NextRes d w (.returned (.tuple #[.string ⟨#[]⟩,.int .i64 0])) w':=by
 refine ⟨?_,hk⟩
 unfold nextV
 rw [h]
 rfl
theorem dec_pre_err {d:ByteArray} {p:Nat} {n:Nat} {s:RS} (hn:getN ⟨d.data.toList,0⟩=(n,s)) (he:s.err≠0) (hp:p≤d.size):decE numC (d.extract 0 p)≠0:=fun h=>by
 obtain ⟨⟨h1,h2⟩,h3⟩:=dec_is numC_good h
 have h4:d.data.toList=(d.extract 0 p).data.toList ++ d.data.toList.drop p:=by
  rw [ByteArray.data_extract]
  simp only [Array.toList_extract,List.extract_eq_take_drop,List.drop_zero,Nat.sub_zero]
  rw [List.take_append_drop]
 rw [h3] at h4
 obtain ⟨x,hx⟩:∃ x,(numC.get ⟨(d.extract 0 p).data.toList,0⟩).1=x:=⟨_,rfl⟩
 rw [hx] at h1 h2 h4
 have h5:=getN_enc x.toNat (d.data.toList.drop p) (by omega)
 have h6:bsN x=encN x.toNat:=rfl
 rw [← h6,← h4,hn] at h5
 simp only [Prod.mk.injEq] at h5
 rw [h5.2] at he
 exact he rfl
set_option maxHeartbeats 3200000 in
set_option maxRecDepth 100000 in
theorem jnext_err (d:ByteArray) (w:World) (hd:DSize d) (n:Nat) (s:RS) (hn:getN ⟨d.data.toList,0⟩=(n,s)) (he:s.err≠0):Calls Tryz.prog 82 #[.string d] w (NextRes d w):=by
 have hz:nextS d.data.toList=none:=by unfold nextS; rw [hn]; simp only; rw [if_pos he]
 have HZ:=lh hz
 have HP:=lh (fun (p:Nat) (hp:p≤d.size)=>dec_pre_err (p:=p) hn he hp)
 have HD:=lh hd
 unfold DSize at hd
 clear hz hn he
 go_enter Tryz.func82,Tryz.ntmps82
 go_wp2
 go_loopw [4] (fun nv wr=>∃ p:Nat,1≤p∧p≤16∧nv=.int .i64 (p:Int)∧Kept w wr (fun _=>False)) (fun nv _=>(16 - intOf nv).toNat)
 case atStart=>exact ⟨1,Nat.le_refl _,by decide,rfl,Kept.refl _ _⟩
 case round=>
  obtain ⟨p,hp1,hp16,rfl,hk⟩:=hrel
  have HK:=lh hk
  clear hk
  by_cases h8:p≤8
  ·have q1:(p:Int)≤8:=by omega
   by_cases hps:p≤d.size
   ·have q2:(p:Int)≤d.size:=by omega
    have q3:(0:Int)≤p:=by omega
    have HE:=HP.out p hps
    obtain ⟨er,hee⟩:∃ er,decE numC (d.extract 0 p)=er:=⟨_,rfl⟩
    rw [hee] at HE
    have z2:(er == 0)=false:=by simpa using HE
    have z3:decide (er=0)=false:=by simpa using HE
    have HER:=lh hee
    have HNE:=lh HE
    have D2:=lh (show DSize (d.extract 0 p) by unfold DSize; rw [ByteArray.size_extract]; omega)
    have HP1:=lh hp1
    clear hee HE hp1 hp16
    go_wp2
    refine wp_region_lex (fun _=>True) [4,0,0,0,4,0,0,0,0,0] (by kernel_rfl) (by kernel_rfl) (by kernel_rfl) (trivial) (fun Q' hQ'=>?_)
    simp only [List.zip_cons_cons,List.zip_nil_right]
    refine wpX_heavy rfl (fun K hK=>?_)
    go_wp2_with (fail)
    refine (number_any _).mono ?_
    rintro e w1 ⟨cv,rfl,hc,hk⟩
    have HC:=lh hc
    have K1:=lh (HK.out.drew.nil_trans hk)
    clear hc hk
    go_simp
    refine hK _ _ ⟨rfl,?_⟩
    clear hK K
    repeat((first|(refine wpX_silent ?_ fun K hK=>?_;rfl;apply Exists.intro;refine ⟨fun w'=>?_,?_⟩;go_simp;exact⟨rfl,rfl⟩)|(refine wpX_read ?_ fun K hK=>?_;rfl;apply Exists.intro;refine ⟨?_,?_⟩;go_simp;exact⟨rfl,rfl⟩)|(refine wpX_float ?_ fun K hK=>?_;rfl;apply Exists.intro;refine ⟨fun w' hw'=>?_,?_⟩;(try dsimp only at hw');go_simp;exact⟨rfl,rfl⟩)|(refine wpX_not ?_ fun K hK=>?_;rfl));go_simp;refine hK _ _ ?_;clear hK K)
    refine wpX_heavy rfl (fun K hK=>?_)
    go_wp2_with (fail)
    refine (decode_int w1 cv numC _ w1 HC.out numC_fair (Same.refl _) D2.out).mono ?_
    rw [HER.out]
    rintro e w2 ⟨hk,h⟩
    have K2:=lh (K1.out.nil_trans hk)
    obtain rfl:=(h.resolve_right fun h=>HNE.out h.1).2
    clear hk h HC
    go_simp
    refine hK _ _ ⟨rfl,?_⟩
    clear hK K
    repeat((first|(refine wpX_silent ?_ fun K hK=>?_;rfl;apply Exists.intro;refine ⟨fun w'=>?_,?_⟩;go_simp;exact⟨rfl,rfl⟩)|(refine wpX_read ?_ fun K hK=>?_;rfl;apply Exists.intro;refine ⟨?_,?_⟩;go_simp;exact⟨rfl,rfl⟩)|(refine wpX_float ?_ fun K hK=>?_;rfl;apply Exists.intro;refine ⟨fun w' hw'=>?_,?_⟩;(try dsimp only at hw');go_simp;exact⟨rfl,rfl⟩)|(refine wpX_not ?_ fun K hK=>?_;rfl));go_simp;refine hK _ _ ?_;clear hK K)
    refine wpX_nil (hQ' _ _ ?_)
    go_wp2
    go_roundw
    case rel=>exact ⟨p * 2,by have:=HP1.out; omega,by omega,by go_num,K2.out⟩
    case measure=>simp only [intOf]; have:=HP1.out; omega
   ·have q2:¬ (p:Int)≤d.size:=by omega
    go_wp2
    go_ret2
    exact nextRes_none HZ.out HK.out
  ·have q1:¬ (p:Int)≤8:=by omega
   go_wp2
   go_ret2
   exact nextRes_none HZ.out HK.out
theorem extract_take (d:ByteArray) (p:Nat):(d.extract 0 p).data.toList=d.data.toList.take p:=by
 rw [ByteArray.data_extract]
 simp only [Array.toList_extract,List.extract_eq_take_drop,List.drop_zero,Nat.sub_zero]
/-- What is known of a text that begins with a number. -/
structure NumAhead (d:ByteArray) (n L:Nat) (r:List UInt8):Prop where
 bytes:d.data.toList=encN n ++ r
 len:(encN n).length=L
 lt:n < 4611686018427387904
theorem NumAhead.cut {d:ByteArray} {n L p:Nat} {r:List UInt8} (h:NumAhead d n L r) (hp:p < L):decE numC (d.extract 0 p)=20:=by
 have h1:(d.extract 0 p).data.toList=(encN n).take p:=by rw [extract_take,h.bytes,List.take_append_of_le_length (by rw [h.len]; omega)]
 refine dec_cut numC_good (x:=(n:Int)) ⟨by omega,by have:=h.lt; omega⟩ ?_ ?_
 ·rw [h1]; exact List.take_prefix _ _
 ·rw [h1,List.length_take]
  show _ < (encN n).length
  rw [h.len]; omega
theorem NumAhead.dec {d:ByteArray} {n L:Nat} {r:List UInt8} (h:NumAhead d n L r):decE numC (d.extract 0 L)=0∧(numC.get ⟨(d.extract 0 L).data.toList,0⟩).1=n:=by
 have h1:(d.extract 0 L).data.toList=encN n:=by rw [extract_take,h.bytes,← h.len,List.take_left]
 exact dec_ok numC_good (x:=(n:Int)) ⟨by omega,by have:=h.lt; omega⟩ h1
theorem NumAhead.size {d:ByteArray} {n L:Nat} {r:List UInt8} (h:NumAhead d n L r):d.size=L+r.length:=by
 rw [← len_data,h.bytes,List.length_append,h.len]
theorem NumAhead.text {d:ByteArray} {n L:Nat} {r:List UInt8} (h:NumAhead d n L r) (a b:Nat):d.extract (L+a) (L+a+b)=⟨((r.drop a).take b).toArray⟩:=by
 rw [drop_take_mk,h.bytes]
 congr 3
 rw [List.drop_append,h.len,List.drop_eq_nil_of_le (by rw [h.len]; omega)]
 simp
theorem NumAhead.next {d:ByteArray} {n L:Nat} {r:List UInt8} (h:NumAhead d n L r):nextS d.data.toList=if 1048576 < n then none else if r.length < n+1 then none else if r[n]?=some 46 then some (r.take n,L+n+1) else none:=by
 unfold nextS
 rw [h.bytes,getN_enc _ _ h.lt]
 simp only
 rw [if_neg (by simp),List.length_append,h.len]
 split
 ·rfl
 split
 ·rfl
 split
 ·congr 3; omega
 ·rfl
set_option maxHeartbeats 3200000 in
set_option maxRecDepth 100000 in
theorem jnext_far (d:ByteArray) (w:World) (hd:DSize d) (n L:Nat) (r:List UInt8) (ha:NumAhead d n L r) (h1:1048576 < n):Calls Tryz.prog 82 #[.string d] w (NextRes d w):=by
 have HZ:Hid (nextS d.data.toList=none):=by rw [ha.next,if_pos h1]; exact lh rfl
 have HA:=lh ha
 have HL1:=lh (show 1≤L by rw [← ha.len]; exact encN_pos n)
 have HL8:=lh (show L≤8 by rw [← ha.len]; exact encN_le n)
 have HLS:=lh (show L≤d.size by rw [ha.size]; omega)
 have HSZ:=lh ha.size
 have HJ:Hid (∃ j,L=2 ^ j):=lh ⟨cls n,by rw [← ha.len,encN_length]⟩
 have hlt:=ha.lt
 unfold DSize at hd
 have HDS:=lh hd
 clear ha hd
 have z1:(1048576:Int) < (n:Int):=by omega
 clear h1 hlt
 go_enter Tryz.func82,Tryz.ntmps82
 go_wp2
 go_loopw [4] (fun nv wr=>∃ p j:Nat,p * 2 ^ j=L∧nv=.int .i64 (p:Int)∧Kept w wr (fun _=>False)) (fun nv _=>(16 - intOf nv).toNat)
 case atStart=>
  obtain ⟨j,hj⟩:=HJ.out
  exact ⟨1,j,by rw [hj,Nat.one_mul],rfl,Kept.refl _ _⟩
 case round=>
  obtain ⟨p,j,hpj,rfl,hk⟩:=hrel
  have HK:=lh hk
  clear hk
  have hp1:1≤p:=by
   rcases Nat.eq_zero_or_pos p with h0 | h0
   ·rw [h0] at hpj; have:=HL1.out; simp at hpj; omega
   ·exact h0
  have hj1:=Nat.two_pow_pos j
  have hpl:p≤L:=by have:=Nat.le_mul_of_pos_right p hj1; omega
  have hl8:=HL8.out
  have hls:=HLS.out
  have hds:=HDS.out
  have q1:(p:Int)≤8:=by omega
  have q2:(p:Int)≤d.size:=by omega
  have q3:(0:Int)≤p:=by omega
  have D2:=lh (show DSize (d.extract 0 p) by unfold DSize; rw [ByteArray.size_extract]; omega)
  cases j with
  | succ j=>
   have hpl2:p < L:=by
    have:=Nat.two_pow_pos j
    rw [Nat.pow_succ] at hpj
    have h2:p * 2≤L:=by
     rw [← hpj,Nat.mul_comm (2 ^ j),← Nat.mul_assoc]
     exact Nat.le_mul_of_pos_right _ this
    omega
   have HER:=lh (HA.out.cut hpl2)
   have HPJ:=lh (show p * 2 * 2 ^ j=L by rw [← hpj,Nat.pow_succ,Nat.mul_comm (2 ^ j),Nat.mul_assoc])
   have HP1:=lh hp1
   clear hp1 hj1 hpl hpl2 hpj hl8 hls hds
   go_wp2
   refine wp_region_lex (fun _=>True) [4,0,0,0,4,0,0,0,0,0] (by kernel_rfl) (by kernel_rfl) (by kernel_rfl) (trivial) (fun Q' hQ'=>?_)
   simp only [List.zip_cons_cons,List.zip_nil_right]
   refine wpX_heavy rfl (fun K hK=>?_)
   go_wp2_with (fail)
   refine (number_any _).mono ?_
   rintro e w1 ⟨cv,rfl,hc,hk⟩
   have HC:=lh hc
   have K1:=lh (HK.out.drew.nil_trans hk)
   clear hc hk
   go_simp
   refine hK _ _ ⟨rfl,?_⟩
   clear hK K
   repeat((first|(refine wpX_silent ?_ fun K hK=>?_;rfl;apply Exists.intro;refine ⟨fun w'=>?_,?_⟩;go_simp;exact⟨rfl,rfl⟩)|(refine wpX_read ?_ fun K hK=>?_;rfl;apply Exists.intro;refine ⟨?_,?_⟩;go_simp;exact⟨rfl,rfl⟩)|(refine wpX_float ?_ fun K hK=>?_;rfl;apply Exists.intro;refine ⟨fun w' hw'=>?_,?_⟩;(try dsimp only at hw');go_simp;exact⟨rfl,rfl⟩)|(refine wpX_not ?_ fun K hK=>?_;rfl));go_simp;refine hK _ _ ?_;clear hK K)
   refine wpX_heavy rfl (fun K hK=>?_)
   go_wp2_with (fail)
   refine (decode_int w1 cv numC _ w1 HC.out numC_fair (Same.refl _) D2.out).mono ?_
   rw [HER.out]
   rintro e w2 ⟨hk,h⟩
   have K2:=lh (K1.out.nil_trans hk)
   obtain rfl:=(h.resolve_right fun h=>absurd h.1 (by decide)).2
   clear hk h HC
   go_simp
   refine hK _ _ ⟨rfl,?_⟩
   clear hK K
   repeat((first|(refine wpX_silent ?_ fun K hK=>?_;rfl;apply Exists.intro;refine ⟨fun w'=>?_,?_⟩;go_simp;exact⟨rfl,rfl⟩)|(refine wpX_read ?_ fun K hK=>?_;rfl;apply Exists.intro;refine ⟨?_,?_⟩;go_simp;exact⟨rfl,rfl⟩)|(refine wpX_float ?_ fun K hK=>?_;rfl;apply Exists.intro;refine ⟨fun w' hw'=>?_,?_⟩;(try dsimp only at hw');go_simp;exact⟨rfl,rfl⟩)|(refine wpX_not ?_ fun K hK=>?_;rfl));go_simp;refine hK _ _ ?_;clear hK K)
   refine wpX_nil (hQ' _ _ ?_)
   go_wp2
   go_roundw
   case rel=>exact ⟨p * 2,j,HPJ.out,by go_num,K2.out⟩
   case measure=>simp only [intOf]; have:=HP1.out; omega
  | zero=>
   have hpL:p=L:=by simpa using hpj
   subst hpL
   have HER:=lh HA.out.dec
   clear hj1 hpl hpj
   go_wp2
   refine wp_region_lex (fun _=>True) [4,0,0,0,4,0,0,0,0,0] (by kernel_rfl) (by kernel_rfl) (by kernel_rfl) (trivial) (fun Q' hQ'=>?_)
   simp only [List.zip_cons_cons,List.zip_nil_right]
   refine wpX_heavy rfl (fun K hK=>?_)
   go_wp2_with (fail)
   refine (number_any _).mono ?_
   rintro e w1 ⟨cv,rfl,hc,hk⟩
   have HC:=lh hc
   have K1:=lh (HK.out.drew.nil_trans hk)
   clear hc hk
   go_simp
   refine hK _ _ ⟨rfl,?_⟩
   clear hK K
   repeat((first|(refine wpX_silent ?_ fun K hK=>?_;rfl;apply Exists.intro;refine ⟨fun w'=>?_,?_⟩;go_simp;exact⟨rfl,rfl⟩)|(refine wpX_read ?_ fun K hK=>?_;rfl;apply Exists.intro;refine ⟨?_,?_⟩;go_simp;exact⟨rfl,rfl⟩)|(refine wpX_float ?_ fun K hK=>?_;rfl;apply Exists.intro;refine ⟨fun w' hw'=>?_,?_⟩;(try dsimp only at hw');go_simp;exact⟨rfl,rfl⟩)|(refine wpX_not ?_ fun K hK=>?_;rfl));go_simp;refine hK _ _ ?_;clear hK K)
   refine wpX_heavy rfl (fun K hK=>?_)
   go_wp2_with (fail)
   refine (decode_int w1 cv numC _ w1 HC.out numC_fair (Same.refl _) D2.out).mono ?_
   rw [HER.out.1,HER.out.2]
   rintro e w2 ⟨hk,h⟩
   have K2:=lh (K1.out.nil_trans hk)
   obtain ⟨v,rfl,hv⟩:=(h.resolve_left fun h=>h.1 rfl).2
   obtain rfl:=num_rep hv
   clear hk h hv HC
   go_simp
   refine hK _ _ ⟨rfl,?_⟩
   clear hK K
   repeat((first|(refine wpX_silent ?_ fun K hK=>?_;rfl;apply Exists.intro;refine ⟨fun w'=>?_,?_⟩;go_simp;exact⟨rfl,rfl⟩)|(refine wpX_read ?_ fun K hK=>?_;rfl;apply Exists.intro;refine ⟨?_,?_⟩;go_simp;exact⟨rfl,rfl⟩)|(refine wpX_float ?_ fun K hK=>?_;rfl;apply Exists.intro;refine ⟨fun w' hw'=>?_,?_⟩;(try dsimp only at hw');go_simp;exact⟨rfl,rfl⟩)|(refine wpX_not ?_ fun K hK=>?_;rfl));go_simp;refine hK _ _ ?_;clear hK K)
   refine wpX_nil (hQ' _ _ ?_)
   clear hp1 hl8 hls hds
   go_wp2
   go_ret2
   exact nextRes_none HZ.out K2.out
set_option maxHeartbeats 3200000 in
set_option maxRecDepth 100000 in
theorem jnext_short (d:ByteArray) (w:World) (hd:DSize d) (n L:Nat) (r:List UInt8) (ha:NumAhead d n L r) (h1:¬ 1048576 < n) (h2:r.length < n+1):Calls Tryz.prog 82 #[.string d] w (NextRes d w):=by
 have HZ:Hid (nextS d.data.toList=none):=by rw [ha.next,if_neg h1,if_pos h2]; exact lh rfl
 have HA:=lh ha
 have HL1:=lh (show 1≤L by rw [← ha.len]; exact encN_pos n)
 have HL8:=lh (show L≤8 by rw [← ha.len]; exact encN_le n)
 have HLS:=lh (show L≤d.size by rw [ha.size]; omega)
 have HSZ:=lh ha.size
 have HJ:Hid (∃ j,L=2 ^ j):=lh ⟨cls n,by rw [← ha.len,encN_length]⟩
 have hlt:=ha.lt
 unfold DSize at hd
 have HDS:=lh hd
 clear ha hd
 have z1:¬ (1048576:Int) < (n:Int):=by omega
 have H1:=lh h1
 have H2:=lh h2
 clear h1 h2 hlt
 go_enter Tryz.func82,Tryz.ntmps82
 go_wp2
 go_loopw [4] (fun nv wr=>∃ p j:Nat,p * 2 ^ j=L∧nv=.int .i64 (p:Int)∧Kept w wr (fun _=>False)) (fun nv _=>(16 - intOf nv).toNat)
 case atStart=>
  obtain ⟨j,hj⟩:=HJ.out
  exact ⟨1,j,by rw [hj,Nat.one_mul],rfl,Kept.refl _ _⟩
 case round=>
  obtain ⟨p,j,hpj,rfl,hk⟩:=hrel
  have HK:=lh hk
  clear hk
  have hp1:1≤p:=by
   rcases Nat.eq_zero_or_pos p with h0 | h0
   ·rw [h0] at hpj; have:=HL1.out; simp at hpj; omega
   ·exact h0
  have hj1:=Nat.two_pow_pos j
  have hpl:p≤L:=by have:=Nat.le_mul_of_pos_right p hj1; omega
  have hl8:=HL8.out
  have hls:=HLS.out
  have hds:=HDS.out
  have q1:(p:Int)≤8:=by omega
  have q2:(p:Int)≤d.size:=by omega
  have q3:(0:Int)≤p:=by omega
  have D2:=lh (show DSize (d.extract 0 p) by unfold DSize; rw [ByteArray.size_extract]; omega)
  cases j with
  | succ j=>
   have hpl2:p < L:=by
    have:=Nat.two_pow_pos j
    rw [Nat.pow_succ] at hpj
    have h2:p * 2≤L:=by
     rw [← hpj,Nat.mul_comm (2 ^ j),← Nat.mul_assoc]
     exact Nat.le_mul_of_pos_right _ this
    omega
   have HER:=lh (HA.out.cut hpl2)
   have HPJ:=lh (show p * 2 * 2 ^ j=L by rw [← hpj,Nat.pow_succ,Nat.mul_comm (2 ^ j),Nat.mul_assoc])
   have HP1:=lh hp1
   clear hp1 hj1 hpl hpl2 hpj hl8 hls hds
   go_wp2
   refine wp_region_lex (fun _=>True) [4,0,0,0,4,0,0,0,0,0] (by kernel_rfl) (by kernel_rfl) (by kernel_rfl) (trivial) (fun Q' hQ'=>?_)
   simp only [List.zip_cons_cons,List.zip_nil_right]
   refine wpX_heavy rfl (fun K hK=>?_)
   go_wp2_with (fail)
   refine (number_any _).mono ?_
   rintro e w1 ⟨cv,rfl,hc,hk⟩
   have HC:=lh hc
   have K1:=lh (HK.out.drew.nil_trans hk)
   clear hc hk
   go_simp
   refine hK _ _ ⟨rfl,?_⟩
   clear hK K
   repeat((first|(refine wpX_silent ?_ fun K hK=>?_;rfl;apply Exists.intro;refine ⟨fun w'=>?_,?_⟩;go_simp;exact⟨rfl,rfl⟩)|(refine wpX_read ?_ fun K hK=>?_;rfl;apply Exists.intro;refine ⟨?_,?_⟩;go_simp;exact⟨rfl,rfl⟩)|(refine wpX_float ?_ fun K hK=>?_;rfl;apply Exists.intro;refine ⟨fun w' hw'=>?_,?_⟩;(try dsimp only at hw');go_simp;exact⟨rfl,rfl⟩)|(refine wpX_not ?_ fun K hK=>?_;rfl));go_simp;refine hK _ _ ?_;clear hK K)
   refine wpX_heavy rfl (fun K hK=>?_)
   go_wp2_with (fail)
   refine (decode_int w1 cv numC _ w1 HC.out numC_fair (Same.refl _) D2.out).mono ?_
   rw [HER.out]
   rintro e w2 ⟨hk,h⟩
   have K2:=lh (K1.out.nil_trans hk)
   obtain rfl:=(h.resolve_right fun h=>absurd h.1 (by decide)).2
   clear hk h HC
   go_simp
   refine hK _ _ ⟨rfl,?_⟩
   clear hK K
   repeat((first|(refine wpX_silent ?_ fun K hK=>?_;rfl;apply Exists.intro;refine ⟨fun w'=>?_,?_⟩;go_simp;exact⟨rfl,rfl⟩)|(refine wpX_read ?_ fun K hK=>?_;rfl;apply Exists.intro;refine ⟨?_,?_⟩;go_simp;exact⟨rfl,rfl⟩)|(refine wpX_float ?_ fun K hK=>?_;rfl;apply Exists.intro;refine ⟨fun w' hw'=>?_,?_⟩;(try dsimp only at hw');go_simp;exact⟨rfl,rfl⟩)|(refine wpX_not ?_ fun K hK=>?_;rfl));go_simp;refine hK _ _ ?_;clear hK K)
   refine wpX_nil (hQ' _ _ ?_)
   go_wp2
   go_roundw
   case rel=>exact ⟨p * 2,j,HPJ.out,by go_num,K2.out⟩
   case measure=>simp only [intOf]; have:=HP1.out; omega
  | zero=>
   have hpL:p=L:=by simpa using hpj
   subst hpL
   have HER:=lh HA.out.dec
   clear hj1 hpl hpj
   go_wp2
   refine wp_region_lex (fun _=>True) [4,0,0,0,4,0,0,0,0,0] (by kernel_rfl) (by kernel_rfl) (by kernel_rfl) (trivial) (fun Q' hQ'=>?_)
   simp only [List.zip_cons_cons,List.zip_nil_right]
   refine wpX_heavy rfl (fun K hK=>?_)
   go_wp2_with (fail)
   refine (number_any _).mono ?_
   rintro e w1 ⟨cv,rfl,hc,hk⟩
   have HC:=lh hc
   have K1:=lh (HK.out.drew.nil_trans hk)
   clear hc hk
   go_simp
   refine hK _ _ ⟨rfl,?_⟩
   clear hK K
   repeat((first|(refine wpX_silent ?_ fun K hK=>?_;rfl;apply Exists.intro;refine ⟨fun w'=>?_,?_⟩;go_simp;exact⟨rfl,rfl⟩)|(refine wpX_read ?_ fun K hK=>?_;rfl;apply Exists.intro;refine ⟨?_,?_⟩;go_simp;exact⟨rfl,rfl⟩)|(refine wpX_float ?_ fun K hK=>?_;rfl;apply Exists.intro;refine ⟨fun w' hw'=>?_,?_⟩;(try dsimp only at hw');go_simp;exact⟨rfl,rfl⟩)|(refine wpX_not ?_ fun K hK=>?_;rfl));go_simp;refine hK _ _ ?_;clear hK K)
   refine wpX_heavy rfl (fun K hK=>?_)
   go_wp2_with (fail)
   refine (decode_int w1 cv numC _ w1 HC.out numC_fair (Same.refl _) D2.out).mono ?_
   rw [HER.out.1,HER.out.2]
   rintro e w2 ⟨hk,h⟩
   have K2:=lh (K1.out.nil_trans hk)
   obtain ⟨v,rfl,hv⟩:=(h.resolve_left fun h=>h.1 rfl).2
   obtain rfl:=num_rep hv
   clear hk h hv HC
   go_simp
   refine hK _ _ ⟨rfl,?_⟩
   clear hK K
   repeat((first|(refine wpX_silent ?_ fun K hK=>?_;rfl;apply Exists.intro;refine ⟨fun w'=>?_,?_⟩;go_simp;exact⟨rfl,rfl⟩)|(refine wpX_read ?_ fun K hK=>?_;rfl;apply Exists.intro;refine ⟨?_,?_⟩;go_simp;exact⟨rfl,rfl⟩)|(refine wpX_float ?_ fun K hK=>?_;rfl;apply Exists.intro;refine ⟨fun w' hw'=>?_,?_⟩;(try dsimp only at hw');go_simp;exact⟨rfl,rfl⟩)|(refine wpX_not ?_ fun K hK=>?_;rfl));go_simp;refine hK _ _ ?_;clear hK K)
   refine wpX_nil (hQ' _ _ ?_)
   have z2:(d.size:Int) < (p:Int)+(n:Int)+1:=by have h3:=HSZ.out; have h4:=H2.out; omega
   have z3:(n:Int)≤1048576:=by have:=H1.out; omega
   clear hp1 hl8 hls hds
   go_wp2
   go_ret2
   exact nextRes_none HZ.out K2.out
set_option maxHeartbeats 3200000 in
set_option maxRecDepth 100000 in
theorem jnext_odd (d:ByteArray) (w:World) (hd:DSize d) (n L:Nat) (r:List UInt8) (ha:NumAhead d n L r) (h1:¬ 1048576 < n) (h2:¬ r.length < n+1) (h3:¬ r[n]?=some 46):Calls Tryz.prog 82 #[.string d] w (NextRes d w):=by
 have HZ:Hid (nextS d.data.toList=none):=by rw [ha.next,if_neg h1,if_neg h2,if_neg h3]; exact lh rfl
 have hx:(d.extract (L+n) (L+n+1)).data.toList≠[46]:=by
  rw [ha.text n 1,toList_mk]
  intro e
  have e2:=congrArg (fun l=>l[0]?) e
  simp at e2
  exact h3 e2
 have HA:=lh ha
 have HL1:=lh (show 1≤L by rw [← ha.len]; exact encN_pos n)
 have HL8:=lh (show L≤8 by rw [← ha.len]; exact encN_le n)
 have HLS:=lh (show L≤d.size by rw [ha.size]; omega)
 have HSZ:=lh ha.size
 have HJ:Hid (∃ j,L=2 ^ j):=lh ⟨cls n,by rw [← ha.len,encN_length]⟩
 have hlt:=ha.lt
 unfold DSize at hd
 have HDS:=lh hd
 clear ha hd
 have z1:¬ (1048576:Int) < (n:Int):=by omega
 have H1:=lh h1
 have H2:=lh h2
 have HX:=lh hx
 clear h1 h2 h3 hlt hx
 go_enter Tryz.func82,Tryz.ntmps82
 go_wp2
 go_loopw [4] (fun nv wr=>∃ p j:Nat,p * 2 ^ j=L∧nv=.int .i64 (p:Int)∧Kept w wr (fun _=>False)) (fun nv _=>(16 - intOf nv).toNat)
 case atStart=>
  obtain ⟨j,hj⟩:=HJ.out
  exact ⟨1,j,by rw [hj,Nat.one_mul],rfl,Kept.refl _ _⟩
 case round=>
  obtain ⟨p,j,hpj,rfl,hk⟩:=hrel
  have HK:=lh hk
  clear hk
  have hp1:1≤p:=by
   rcases Nat.eq_zero_or_pos p with h0 | h0
   ·rw [h0] at hpj; have:=HL1.out; simp at hpj; omega
   ·exact h0
  have hj1:=Nat.two_pow_pos j
  have hpl:p≤L:=by have:=Nat.le_mul_of_pos_right p hj1; omega
  have hl8:=HL8.out
  have hls:=HLS.out
  have hds:=HDS.out
  have q1:(p:Int)≤8:=by omega
  have q2:(p:Int)≤d.size:=by omega
  have q3:(0:Int)≤p:=by omega
  have D2:=lh (show DSize (d.extract 0 p) by unfold DSize; rw [ByteArray.size_extract]; omega)
  cases j with
  | succ j=>
   have hpl2:p < L:=by
    have:=Nat.two_pow_pos j
    rw [Nat.pow_succ] at hpj
    have h2:p * 2≤L:=by
     rw [← hpj,Nat.mul_comm (2 ^ j),← Nat.mul_assoc]
     exact Nat.le_mul_of_pos_right _ this
    omega
   have HER:=lh (HA.out.cut hpl2)
   have HPJ:=lh (show p * 2 * 2 ^ j=L by rw [← hpj,Nat.pow_succ,Nat.mul_comm (2 ^ j),Nat.mul_assoc])
   have HP1:=lh hp1
   clear hp1 hj1 hpl hpl2 hpj hl8 hls hds
   go_wp2
   refine wp_region_lex (fun _=>True) [4,0,0,0,4,0,0,0,0,0] (by kernel_rfl) (by kernel_rfl) (by kernel_rfl) (trivial) (fun Q' hQ'=>?_)
   simp only [List.zip_cons_cons,List.zip_nil_right]
   refine wpX_heavy rfl (fun K hK=>?_)
   go_wp2_with (fail)
   refine (number_any _).mono ?_
   rintro e w1 ⟨cv,rfl,hc,hk⟩
   have HC:=lh hc
   have K1:=lh (HK.out.drew.nil_trans hk)
   clear hc hk
   go_simp
   refine hK _ _ ⟨rfl,?_⟩
   clear hK K
   repeat((first|(refine wpX_silent ?_ fun K hK=>?_;rfl;apply Exists.intro;refine ⟨fun w'=>?_,?_⟩;go_simp;exact⟨rfl,rfl⟩)|(refine wpX_read ?_ fun K hK=>?_;rfl;apply Exists.intro;refine ⟨?_,?_⟩;go_simp;exact⟨rfl,rfl⟩)|(refine wpX_float ?_ fun K hK=>?_;rfl;apply Exists.intro;refine ⟨fun w' hw'=>?_,?_⟩;(try dsimp only at hw');go_simp;exact⟨rfl,rfl⟩)|(refine wpX_not ?_ fun K hK=>?_;rfl));go_simp;refine hK _ _ ?_;clear hK K)
   refine wpX_heavy rfl (fun K hK=>?_)
   go_wp2_with (fail)
   refine (decode_int w1 cv numC _ w1 HC.out numC_fair (Same.refl _) D2.out).mono ?_
   rw [HER.out]
   rintro e w2 ⟨hk,h⟩
   have K2:=lh (K1.out.nil_trans hk)
   obtain rfl:=(h.resolve_right fun h=>absurd h.1 (by decide)).2
   clear hk h HC
   go_simp
   refine hK _ _ ⟨rfl,?_⟩
   clear hK K
   repeat((first|(refine wpX_silent ?_ fun K hK=>?_;rfl;apply Exists.intro;refine ⟨fun w'=>?_,?_⟩;go_simp;exact⟨rfl,rfl⟩)|(refine wpX_read ?_ fun K hK=>?_;rfl;apply Exists.intro;refine ⟨?_,?_⟩;go_simp;exact⟨rfl,rfl⟩)|(refine wpX_float ?_ fun K hK=>?_;rfl;apply Exists.intro;refine ⟨fun w' hw'=>?_,?_⟩;(try dsimp only at hw');go_simp;exact⟨rfl,rfl⟩)|(refine wpX_not ?_ fun K hK=>?_;rfl));go_simp;refine hK _ _ ?_;clear hK K)
   refine wpX_nil (hQ' _ _ ?_)
   go_wp2
   go_roundw
   case rel=>exact ⟨p * 2,j,HPJ.out,by go_num,K2.out⟩
   case measure=>simp only [intOf]; have:=HP1.out; omega
  | zero=>
   have hpL:p=L:=by simpa using hpj
   subst hpL
   have HER:=lh HA.out.dec
   clear hj1 hpl hpj
   go_wp2
   refine wp_region_lex (fun _=>True) [4,0,0,0,4,0,0,0,0,0] (by kernel_rfl) (by kernel_rfl) (by kernel_rfl) (trivial) (fun Q' hQ'=>?_)
   simp only [List.zip_cons_cons,List.zip_nil_right]
   refine wpX_heavy rfl (fun K hK=>?_)
   go_wp2_with (fail)
   refine (number_any _).mono ?_
   rintro e w1 ⟨cv,rfl,hc,hk⟩
   have HC:=lh hc
   have K1:=lh (HK.out.drew.nil_trans hk)
   clear hc hk
   go_simp
   refine hK _ _ ⟨rfl,?_⟩
   clear hK K
   repeat((first|(refine wpX_silent ?_ fun K hK=>?_;rfl;apply Exists.intro;refine ⟨fun w'=>?_,?_⟩;go_simp;exact⟨rfl,rfl⟩)|(refine wpX_read ?_ fun K hK=>?_;rfl;apply Exists.intro;refine ⟨?_,?_⟩;go_simp;exact⟨rfl,rfl⟩)|(refine wpX_float ?_ fun K hK=>?_;rfl;apply Exists.intro;refine ⟨fun w' hw'=>?_,?_⟩;(try dsimp only at hw');go_simp;exact⟨rfl,rfl⟩)|(refine wpX_not ?_ fun K hK=>?_;rfl));go_simp;refine hK _ _ ?_;clear hK K)
   refine wpX_heavy rfl (fun K hK=>?_)
   go_wp2_with (fail)
   refine (decode_int w1 cv numC _ w1 HC.out numC_fair (Same.refl _) D2.out).mono ?_
   rw [HER.out.1,HER.out.2]
   rintro e w2 ⟨hk,h⟩
   have K2:=lh (K1.out.nil_trans hk)
   obtain ⟨v,rfl,hv⟩:=(h.resolve_left fun h=>h.1 rfl).2
   obtain rfl:=num_rep hv
   clear hk h hv HC
   go_simp
   refine hK _ _ ⟨rfl,?_⟩
   clear hK K
   repeat((first|(refine wpX_silent ?_ fun K hK=>?_;rfl;apply Exists.intro;refine ⟨fun w'=>?_,?_⟩;go_simp;exact⟨rfl,rfl⟩)|(refine wpX_read ?_ fun K hK=>?_;rfl;apply Exists.intro;refine ⟨?_,?_⟩;go_simp;exact⟨rfl,rfl⟩)|(refine wpX_float ?_ fun K hK=>?_;rfl;apply Exists.intro;refine ⟨fun w' hw'=>?_,?_⟩;(try dsimp only at hw');go_simp;exact⟨rfl,rfl⟩)|(refine wpX_not ?_ fun K hK=>?_;rfl));go_simp;refine hK _ _ ?_;clear hK K)
   refine wpX_nil (hQ' _ _ ?_)
   have z2:¬ (d.size:Int) < (p:Int)+(n:Int)+1:=by have h3:=HSZ.out; have h4:=H2.out; omega
   have z3:(n:Int)≤1048576:=by have:=H1.out; omega
   have z4:((p:Int)+(n:Int)).toNat=p+n:=by omega
   have z5:((p:Int)+(n:Int)+1).toNat=p+n+1:=by omega
   have z6:(p:Int)+(n:Int)+1≤d.size:=by omega
   have z7:(0:Int)≤(p:Int)+(n:Int):=by omega
   have z8:(p:Int)+(n:Int)≤(p:Int)+(n:Int)+1:=by omega
   have z9:¬ (d.extract (p+n) (p+n+1)).toList=[46]:=by rw [ByteArray.toList_eq]; exact HX.out
   have z10:((d.extract (p+n) (p+n+1)).toList == [46])=false:=beq_eq_false_iff_ne.2 z9
   clear hp1 hl8 hls hds
   go_wp2
   go_ret2
   exact nextRes_none HZ.out K2.out
set_option maxHeartbeats 3200000 in
set_option maxRecDepth 100000 in
theorem jnext_ok (d:ByteArray) (w:World) (hd:DSize d) (n L:Nat) (r:List UInt8) (ha:NumAhead d n L r) (h1:¬ 1048576 < n) (h2:¬ r.length < n+1) (h3:r[n]?=some 46):Calls Tryz.prog 82 #[.string d] w (NextRes d w):=by
 have HZ:Hid (nextS d.data.toList=some (r.take n,L+n+1)):=by rw [ha.next,if_neg h1,if_neg h2,if_pos h3]; exact lh rfl
 have HX:Hid (d.extract (L+n) (L+n+1)=⟨#[46]⟩):=by
  have hlt:n < r.length:=by omega
  have e:(r.drop n).take 1=[46]:=by
   rw [List.drop_eq_getElem_cons hlt]
   rw [List.getElem?_eq_getElem hlt] at h3
   simp only [Option.some.injEq] at h3
   simp [h3]
  rw [ha.text n 1,e]
  exact lh rfl
 have HT:Hid (d.extract L (L+n)=⟨(r.take n).toArray⟩):=by
  have:=ha.text 0 n
  simp only [Nat.add_zero,List.drop_zero] at this
  exact lh this
 have HA:=lh ha
 have HL1:=lh (show 1≤L by rw [← ha.len]; exact encN_pos n)
 have HL8:=lh (show L≤8 by rw [← ha.len]; exact encN_le n)
 have HLS:=lh (show L≤d.size by rw [ha.size]; omega)
 have HSZ:=lh ha.size
 have HJ:Hid (∃ j,L=2 ^ j):=lh ⟨cls n,by rw [← ha.len,encN_length]⟩
 have hlt:=ha.lt
 unfold DSize at hd
 have HDS:=lh hd
 clear ha hd
 have z1:¬ (1048576:Int) < (n:Int):=by omega
 have H1:=lh h1
 have H2:=lh h2
 clear h1 h2 h3 hlt
 go_enter Tryz.func82,Tryz.ntmps82
 go_wp2
 go_loopw [4] (fun nv wr=>∃ p j:Nat,p * 2 ^ j=L∧nv=.int .i64 (p:Int)∧Kept w wr (fun _=>False)) (fun nv _=>(16 - intOf nv).toNat)
 case atStart=>
  obtain ⟨j,hj⟩:=HJ.out
  exact ⟨1,j,by rw [hj,Nat.one_mul],rfl,Kept.refl _ _⟩
 case round=>
  obtain ⟨p,j,hpj,rfl,hk⟩:=hrel
  have HK:=lh hk
  clear hk
  have hp1:1≤p:=by
   rcases Nat.eq_zero_or_pos p with h0 | h0
   ·rw [h0] at hpj; have:=HL1.out; simp at hpj; omega
   ·exact h0
  have hj1:=Nat.two_pow_pos j
  have hpl:p≤L:=by have:=Nat.le_mul_of_pos_right p hj1; omega
  have hl8:=HL8.out
  have hls:=HLS.out
  have hds:=HDS.out
  have q1:(p:Int)≤8:=by omega
  have q2:(p:Int)≤d.size:=by omega
  have q3:(0:Int)≤p:=by omega
  have D2:=lh (show DSize (d.extract 0 p) by unfold DSize; rw [ByteArray.size_extract]; omega)
  cases j with
  | succ j=>
   have hpl2:p < L:=by
    have:=Nat.two_pow_pos j
    rw [Nat.pow_succ] at hpj
    have h2:p * 2≤L:=by
     rw [← hpj,Nat.mul_comm (2 ^ j),← Nat.mul_assoc]
     exact Nat.le_mul_of_pos_right _ this
    omega
   have HER:=lh (HA.out.cut hpl2)
   have HPJ:=lh (show p * 2 * 2 ^ j=L by rw [← hpj,Nat.pow_succ,Nat.mul_comm (2 ^ j),Nat.mul_assoc])
   have HP1:=lh hp1
   clear hp1 hj1 hpl hpl2 hpj hl8 hls hds
   go_wp2
   refine wp_region_lex (fun _=>True) [4,0,0,0,4,0,0,0,0,0] (by kernel_rfl) (by kernel_rfl) (by kernel_rfl) (trivial) (fun Q' hQ'=>?_)
   simp only [List.zip_cons_cons,List.zip_nil_right]
   refine wpX_heavy rfl (fun K hK=>?_)
   go_wp2_with (fail)
   refine (number_any _).mono ?_
   rintro e w1 ⟨cv,rfl,hc,hk⟩
   have HC:=lh hc
   have K1:=lh (HK.out.drew.nil_trans hk)
   clear hc hk
   go_simp
   refine hK _ _ ⟨rfl,?_⟩
   clear hK K
   repeat((first|(refine wpX_silent ?_ fun K hK=>?_;rfl;apply Exists.intro;refine ⟨fun w'=>?_,?_⟩;go_simp;exact⟨rfl,rfl⟩)|(refine wpX_read ?_ fun K hK=>?_;rfl;apply Exists.intro;refine ⟨?_,?_⟩;go_simp;exact⟨rfl,rfl⟩)|(refine wpX_float ?_ fun K hK=>?_;rfl;apply Exists.intro;refine ⟨fun w' hw'=>?_,?_⟩;(try dsimp only at hw');go_simp;exact⟨rfl,rfl⟩)|(refine wpX_not ?_ fun K hK=>?_;rfl));go_simp;refine hK _ _ ?_;clear hK K)
   refine wpX_heavy rfl (fun K hK=>?_)
   go_wp2_with (fail)
   refine (decode_int w1 cv numC _ w1 HC.out numC_fair (Same.refl _) D2.out).mono ?_
   rw [HER.out]
   rintro e w2 ⟨hk,h⟩
   have K2:=lh (K1.out.nil_trans hk)
   obtain rfl:=(h.resolve_right fun h=>absurd h.1 (by decide)).2
   clear hk h HC
   go_simp
   refine hK _ _ ⟨rfl,?_⟩
   clear hK K
   repeat((first|(refine wpX_silent ?_ fun K hK=>?_;rfl;apply Exists.intro;refine ⟨fun w'=>?_,?_⟩;go_simp;exact⟨rfl,rfl⟩)|(refine wpX_read ?_ fun K hK=>?_;rfl;apply Exists.intro;refine ⟨?_,?_⟩;go_simp;exact⟨rfl,rfl⟩)|(refine wpX_float ?_ fun K hK=>?_;rfl;apply Exists.intro;refine ⟨fun w' hw'=>?_,?_⟩;(try dsimp only at hw');go_simp;exact⟨rfl,rfl⟩)|(refine wpX_not ?_ fun K hK=>?_;rfl));go_simp;refine hK _ _ ?_;clear hK K)
   refine wpX_nil (hQ' _ _ ?_)
   go_wp2
   go_roundw
   case rel=>exact ⟨p * 2,j,HPJ.out,by go_num,K2.out⟩
   case measure=>simp only [intOf]; have:=HP1.out; omega
  | zero=>
   have hpL:p=L:=by simpa using hpj
   subst hpL
   have HER:=lh HA.out.dec
   clear hj1 hpl hpj
   go_wp2
   refine wp_region_lex (fun _=>True) [4,0,0,0,4,0,0,0,0,0] (by kernel_rfl) (by kernel_rfl) (by kernel_rfl) (trivial) (fun Q' hQ'=>?_)
   simp only [List.zip_cons_cons,List.zip_nil_right]
   refine wpX_heavy rfl (fun K hK=>?_)
   go_wp2_with (fail)
   refine (number_any _).mono ?_
   rintro e w1 ⟨cv,rfl,hc,hk⟩
   have HC:=lh hc
   have K1:=lh (HK.out.drew.nil_trans hk)
   clear hc hk
   go_simp
   refine hK _ _ ⟨rfl,?_⟩
   clear hK K
   repeat((first|(refine wpX_silent ?_ fun K hK=>?_;rfl;apply Exists.intro;refine ⟨fun w'=>?_,?_⟩;go_simp;exact⟨rfl,rfl⟩)|(refine wpX_read ?_ fun K hK=>?_;rfl;apply Exists.intro;refine ⟨?_,?_⟩;go_simp;exact⟨rfl,rfl⟩)|(refine wpX_float ?_ fun K hK=>?_;rfl;apply Exists.intro;refine ⟨fun w' hw'=>?_,?_⟩;(try dsimp only at hw');go_simp;exact⟨rfl,rfl⟩)|(refine wpX_not ?_ fun K hK=>?_;rfl));go_simp;refine hK _ _ ?_;clear hK K)
   refine wpX_heavy rfl (fun K hK=>?_)
   go_wp2_with (fail)
   refine (decode_int w1 cv numC _ w1 HC.out numC_fair (Same.refl _) D2.out).mono ?_
   rw [HER.out.1,HER.out.2]
   rintro e w2 ⟨hk,h⟩
   have K2:=lh (K1.out.nil_trans hk)
   obtain ⟨v,rfl,hv⟩:=(h.resolve_left fun h=>h.1 rfl).2
   obtain rfl:=num_rep hv
   clear hk h hv HC
   go_simp
   refine hK _ _ ⟨rfl,?_⟩
   clear hK K
   repeat((first|(refine wpX_silent ?_ fun K hK=>?_;rfl;apply Exists.intro;refine ⟨fun w'=>?_,?_⟩;go_simp;exact⟨rfl,rfl⟩)|(refine wpX_read ?_ fun K hK=>?_;rfl;apply Exists.intro;refine ⟨?_,?_⟩;go_simp;exact⟨rfl,rfl⟩)|(refine wpX_float ?_ fun K hK=>?_;rfl;apply Exists.intro;refine ⟨fun w' hw'=>?_,?_⟩;(try dsimp only at hw');go_simp;exact⟨rfl,rfl⟩)|(refine wpX_not ?_ fun K hK=>?_;rfl));go_simp;refine hK _ _ ?_;clear hK K)
   refine wpX_nil (hQ' _ _ ?_)
   have z2:¬ (d.size:Int) < (p:Int)+(n:Int)+1:=by have h3:=HSZ.out; have h4:=H2.out; omega
   have z3:(n:Int)≤1048576:=by have:=H1.out; omega
   have z4:((p:Int)+(n:Int)).toNat=p+n:=by omega
   have z5:((p:Int)+(n:Int)+1).toNat=p+n+1:=by omega
   have z6:(p:Int)+(n:Int)+1≤d.size:=by omega
   have z7:(0:Int)≤(p:Int)+(n:Int):=by omega
   have z8:(p:Int)+(n:Int)≤(p:Int)+(n:Int)+1:=by omega
   have z11:(p:Int)≤(p:Int)+(n:Int):=by omega
   have z12:(p:Int)+(n:Int)≤d.size:=by omega
   have z9:=HX.out
   have HC:=lh (show ((p+n+1:Nat):Int)=(p:Int)+(n:Int)+1 by omega)
   clear hp1 hl8 hls hds
   go_wp2
   go_ret2
   refine ⟨?_,K2.out⟩
   unfold nextV
   rw [HZ.out]
   show Ending.returned (.tuple #[.string (d.extract p (p+n)),.int .i64 ((p:Int)+(n:Int)+1)])=Ending.returned (.tuple #[.string ⟨(r.take n).toArray⟩,.int .i64 ((p+n+1:Nat):Int)])
   rw [HT.out,HC.out]
theorem jnext_any (d:ByteArray) (w:World) (hd:DSize d):Calls Tryz.prog 82 #[.string d] w (NextRes d w):=by
 obtain ⟨n,s,hn⟩:∃ n s,getN ⟨d.data.toList,0⟩=(n,s):=⟨_,_,rfl⟩
 by_cases he:s.err=0
 ·obtain ⟨h1,h2⟩:=getN_is hn he
  have ha:NumAhead d n (encN n).length s.rest:=⟨h2,rfl,h1⟩
  by_cases k1:1048576 < n
  ·exact jnext_far d w hd n _ _ ha k1
  by_cases k2:s.rest.length < n+1
  ·exact jnext_short d w hd n _ _ ha k1 k2
  by_cases k3:s.rest[n]?=some 46
  ·exact jnext_ok d w hd n _ _ ha k1 k2 k3
  ·exact jnext_odd d w hd n _ _ ha k1 k2 k3
 ·exact jnext_err d w hd n s hn he
end Go.Proofs.YtogkkfdkeefjnaaGreatDoor.Codec
namespace Go.Proofs.YtogkkfdkeefjnaaGreatDoor.Codec
open Go.RowKit Go.Proofs.YtogkkfdkeefjnaaGreatDoorBase Go.Proofs.YtogkkfdkeefjnaaGreatDoorLex2 Go.Proofs.YtogkkfdkeefjnaaGreatDoorNum
set_option linter.unusedVariables false
set_option maxRecDepth 100000
set_option linter.unusedSimpArgs false
theorem elem_str:Elem Tryz.prog 85 9 (.string ⟨#[]⟩) 1 16:=⟨by kernel_rfl,by obtain ⟨i,h1,h2,h3,h4⟩:=info_parts (show (Tryz.prog.info? 9).map (fun i=>(i.zero,i.size,i.bytes))=some (some (.string ⟨#[]⟩),1,16) by kernel_rfl); exact ⟨i,h1,h2,h3,h4⟩,rfl,by decide,by decide⟩
def mkB (l:List UInt8):ByteArray:=⟨l.toArray⟩
def strV (l:List UInt8):Value:=.string (mkB l)
/-- What a scan answers. -/
def ScanRes (d:ByteArray) (w:World) (e:Ending) (w':World):Prop :=
 Kept w w' (fun _=>False)∧∃ A c,e=.returned (.tuple #[.slice A (scanL d.data.toList).1.length c,.int .i64 (scanL d.data.toList).2])∧RowIn w' A (scanL d.data.toList).1.length ((scanL d.data.toList).1.map strV)∧(scanL d.data.toList).1.length≤c∧∀ b,(Value.slice A 0 0).ownBlock=some b→w.heap.size≤b∧b < w'.heap.size
/-- What holds at the loop's head: what is scanned, and what is left. -/
def ScanRel (d:ByteArray) (w:World) (ov av:Value) (wr:World):Prop :=
 ∃ (xs:List (List UInt8)) (a:Nat),a≤d.size∧av=.int .i64 (a:Int)∧2 * xs.length≤a∧Kept w wr (fun _=>False)∧wr.ownsRow w.heap.size 9 1 ov xs.length (xs.map strV) ∧
  scanL d.data.toList=(xs ++ (scanL (d.data.toList.drop a)).1,a+(scanL (d.data.toList.drop a)).2)
theorem drop_text (d:ByteArray) (a:Nat):(d.extract a d.size).data.toList=d.data.toList.drop a:=by
 rw [ByteArray.data_extract]
 simp only [Array.toList_extract,List.extract_eq_take_drop]
 rw [List.take_of_length_le]
 rw [List.length_drop,len_data]
 exact Nat.le_refl _
set_option maxHeartbeats 3200000 in
set_option maxRecDepth 100000 in
theorem jscan_any (d:ByteArray) (w:World) (hd:DSize d) (hd2:d.size≤10000000000000):Calls Tryz.prog 52 #[.string d] w (ScanRes d w):=by
 have HD:=lh hd2
 clear hd hd2
 go_enter Tryz.func52,Tryz.ntmps52
 go_wp2
 go_loopw [4,5] (fun ov av wr=>ScanRel d w ov av wr) (fun _ av _=>(d.size+1 - intOf av).toNat)
 case atStart=>exact ⟨[],0,Nat.zero_le _,rfl,Nat.le_refl _,Kept.refl _ _,World.ownsRow_nil _ _ _ _,by simp⟩
 case round=>
  obtain ⟨xs,a,ha,rfl,hxa,hk,ho,hs⟩:=hrel
  have HK:=lh hk
  have HO:=lh ho
  have HS:=lh hs
  have HA:=lh ha
  have HXA:=lh hxa
  have hdd:=HD.out
  have q1:(0:Int)≤a:=by omega
  have q2:(a:Int)≤d.size:=by omega
  have D2:=lh (show DSize (d.extract a d.size) by unfold DSize; rw [ByteArray.size_extract]; omega)
  obtain ⟨y,hy⟩:∃ y,d.extract a d.size=y:=⟨_,rfl⟩
  have hyd:y.data.toList=d.data.toList.drop a:=by rw [← hy]; exact drop_text d a
  have HY:=lh hyd
  rw [hy] at D2
  clear hk ho hs ha hxa hyd
  obtain ⟨sa,sc,hse,_,_⟩:=own_slice HO.out
  subst hse
  cases hnx:nextS (d.data.toList.drop a) with
  | none=>
   have HV:Hid (nextV y=(⟨#[]⟩,0)):=by unfold nextV; rw [HY.out,hnx]; exact lh rfl
   have HSC:Hid (scanL d.data.toList=(xs,a)):=by rw [HS.out,scanL_none hnx]; exact lh (by simp)
   clear hnx hdd
   go_wp2_with (fail)
   refine (jnext_any y wr D2.out).mono ?_
   rintro e w1 ⟨rfl,hk⟩
   rw [HV.out]
   have O1:=lh (own_keptF HO.out hk (fun g _ h=>h))
   obtain ⟨A,c,hA,hcap,hro⟩:=row_own O1.out
   obtain ⟨rfl,_,rfl⟩:=Value.slice.inj hA
   have RO:=lh hro
   have CAP:=lh hcap
   have K1:=lh (HK.out.nil_trans hk)
   have END:Hid (ScanRes d w (.returned (.tuple #[.slice sa xs.length sc,.int .i64 (a:Int)])) w1):=by
    refine lh ⟨K1.out,sa,sc,?_,?_,?_⟩
    ·rw [HSC.out]
    ·rw [HSC.out]; exact RO.out
    ·rw [HSC.out]; exact ⟨CAP.out,fun b hb=>O1.out.lt b (by rw [ownB sa xs.length 0 sc 0]; exact hb)⟩
   clear hk hA hro hcap
   go_wp2
   go_ret2
   exact END.out
  | some r=>
   obtain ⟨t,k⟩:=r
   obtain ⟨hk2,hkl⟩:=nextS_le hnx
   rw [List.length_drop,len_data] at hkl
   have HV:Hid (nextV y=(mkB t,k)):=by unfold nextV; rw [HY.out,hnx]; exact lh rfl
   have HN:=lh hnx
   have HK2:=lh hk2
   have HKL:=lh hkl
   have z1:((k:Int) == 0)=false:=beq_eq_false_iff_ne.2 (by omega)
   have z2:decide ((k:Int)=0)=false:=by simp only [decide_eq_false_iff_not]; omega
   have z3:(a:Int)+(k:Int)≤10000000000000:=by have:=HA.out; omega
   have z4:(0:Int)≤k:=by omega
   obtain ⟨x,hx⟩:∃ x,mkB t=x:=⟨_,rfl⟩
   have HX:=lh hx
   clear hnx hdd hk2 hkl hx
   go_wp2_with (fail)
   refine (jnext_any y wr D2.out).mono ?_
   rintro e w1 ⟨rfl,hk⟩
   rw [HV.out,HX.out]
   have K1:=lh (HK.out.nil_trans hk)
   have O1:=lh (own_keptF HO.out hk (fun g _ h=>h))
   clear hk
   go_wp2_with (at_builtin; apply hold)
   unfold Hold
   have SRC:Src Tryz.prog 1 85 (.slice (some ⟨w1.heap.size,0,none⟩) 1 1) 1 [Value.string x] (w1.alloc (.cells #[Value.string x] 9)):=by
    refine Src.ofSlice _ (e':=9) (by kernel_rfl) _ 1 1 _ rfl (fun j u hj=>?_) (by intro z hz; rw [List.mem_singleton.1 hz]; rfl)
    match j,hj with
    | 0,hj=>
     simp at hj
     subst hj
     simp [Addr.add]
   have hby:((xs.length+1)+(xs.length+1) / 4+192) * 16≤281474976710656:=by have h1:=HXA.out; have h2:=HA.out; have h3:=HD.out; omega
   refine wpList_append_ownS _ rfl (.tmp 19) (.tmp 21) 85 85 rfl w.heap.size 9 (.string ⟨#[]⟩) 1 16 elem_str (.slice sa xs.length sc) xs.length (xs.map strV) rfl (O1.out.alloc _) (.slice (some ⟨w1.heap.size,0,none⟩) 1 1) 1 [Value.string x] rfl SRC hby ?ba (fun v' w3 o1 g1 b1=>?go)
   case ba=>
    have h2:=K1.out.size
    simp
    omega
   case go=>
    have KK:=lh (Kept.grown (Kept.alloc K1.out (.cells #[Value.string x] 9)) g1 (fun k hk=>.inr (O1.out.lt k hk).1))
    have O3:Hid (w3.ownsRow w.heap.size 9 1 v' (xs ++ [t]).length ((xs ++ [t]).map strV)):=by
     rw [List.map_append,List.length_append]
     unfold strV at *
     rw [List.map_cons,List.map_nil,HX.out]
     exact lh o1
    have HSC:Hid (scanL d.data.toList=((xs ++ [t]) ++ (scanL (d.data.toList.drop (a+k))).1,a+k+(scanL (d.data.toList.drop (a+k))).2)):=by
     rw [HS.out,scanL_some HN.out,List.drop_drop]
     exact lh (by simp [Nat.add_assoc])
    clear o1 g1 b1 SRC hby
    go_wp2
    go_roundw
    case rel=>exact ⟨xs ++ [t],a+k,by have h1:=HKL.out; have h2:=HA.out; omega,by go_num,by have h1:=HXA.out; have h2:=HK2.out; simp; omega,KK.out,O3.out,HSC.out⟩
    case measure=>simp only [intOf]; have h1:=HK2.out; have h2:=HKL.out; have h3:=HA.out; omega
end Go.Proofs.YtogkkfdkeefjnaaGreatDoor.Codec
namespace Go.Proofs.YtogkkfdkeefjnaaGreatDoor.Codec
open Go.RowKit Go.Proofs.YtogkkfdkeefjnaaGreatDoorBase Go.Proofs.YtogkkfdkeefjnaaGreatDoorLex2 Go.Proofs.YtogkkfdkeefjnaaGreatDoorNum
set_option linter.unusedVariables false
set_option maxRecDepth 100000
set_option linter.unusedSimpArgs false
theorem run_add {P:Program} (a b c:ByteArray) (h:a.size+b.size≤9223372036854775807) (hc:c.data.toList=a.data.toList ++ b.data.toList):∀ w,(Op.stringOp .add a b).run P w=.ok (.string c) w:=fun w=>by
 rw [run_string_add_sum w a b h]
 have:a ++ b=c:=by
  apply ByteArray.ext
  apply Array.ext'
  rw [hc,ByteArray.data_append]
  simp
 rw [this]
/-- A record's bytes, as a text. -/
def frameB (r:ByteArray):ByteArray:=mkB (frameS r.data.toList)
theorem frameB_data (r:ByteArray):(frameB r).data.toList=encN r.size ++ r.data.toList ++ [46]:=by unfold frameB mkB frameS; rw [len_data]
set_option maxHeartbeats 1600000 in
theorem jframe_any (r:ByteArray) (w:World) (hr:r.size≤1048576):Calls Tryz.prog 69 #[.string r] w fun e w'=>e=.returned (.tuple #[.string (frameB r),.int .i64 0])∧Kept w w' (fun _=>False):=by
 have hok:okT (bnd 1048576) r:=hr
 obtain ⟨s,hs⟩:∃ s:ByteArray,⟨(bsT r).toArray⟩=s:=⟨_,rfl⟩
 have EN:=lh (enc_ok (textC_good (m:=bnd 1048576) (by decide)) hok)
 rw [hs] at EN
 have hsd:s.data.toList=encN r.size ++ r.data.toList:=by rw [← hs]; rfl
 have hsz:s.size≤r.size+8:=by
  rw [← len_data,hsd]
  have:=encN_le r.size
  simp only [List.length_append,len_data]
  omega
 have h46:(ByteArray.mk #[46]).size=1:=rfl
 have QA:=lh (run_add (P:=Tryz.prog) s ⟨#[46]⟩ (frameB r) (by rw [h46]; omega) (by rw [frameB_data,hsd]))
 have HR:=lh hr
 clear hok hs hsd hsz hr h46
 go_enter Tryz.func69,Tryz.ntmps69
 go_wp2_with (fail)
 refine (text_any 1048576 _).mono ?_
 rintro e w1 ⟨cv,rfl,hc,hk⟩
 have HC:=lh hc
 have K1:=lh hk
 clear hc hk
 go_wp2_with (fail)
 refine (encode_str w1 cv (textC (bnd 1048576)) r _ w1 HC.out (textC_fair _) (Same.refl _) rfl (by have:=HR.out; unfold WRoom; simp only [textC,List.length_nil]; omega)).mono ?_
 rw [EN.out]
 rintro e w2 ⟨rfl,hk⟩
 have K2:=lh (K1.out.nil_trans hk)
 have qa:=QA.out
 clear hk
 go_wp2
 go_ret2
 exact ⟨rfl,K2.out⟩
end Go.Proofs.YtogkkfdkeefjnaaGreatDoor.Codec
namespace Go.Proofs.YtogkkfdkeefjnaaGreatDoor.Codec
open Go.RowKit Go.Proofs.YtogkkfdkeefjnaaGreatDoorBase Go.Proofs.YtogkkfdkeefjnaaGreatDoorLex2 Go.Proofs.YtogkkfdkeefjnaaGreatDoorNum
set_option linter.unusedVariables false
set_option maxRecDepth 100000
set_option linter.unusedSimpArgs false
section
variable {w0 w w' : World} {p : Nat} {F : Nat → Prop} {x x' : Disk.FD}
theorem st_kept (h:Disk.St w0 w p F x) (hk:Kept w w' (fun _=>False)):Disk.St w0 w' p F x:=by
 obtain ⟨⟨sv,lv,hb,hp,hbs,hs,hl,hne,hF⟩,hbel,hg,hr⟩:=h
 exact ⟨⟨sv,lv,hk.blk hb (fun h=>h),hp,Nat.le_trans hbs hk.size,own_keptF hs hk (fun _ _ h=>h),own_keptF hl hk (fun _ _ h=>h),hne,hF⟩,hbel.trans (hk.below (fun _ h=>h.elim) hbs),hg,hr⟩
theorem st_lt (h:Disk.St w0 w p F x):∀ k,F k→k < w.heap.size:=by
 obtain ⟨⟨sv,lv,hb,hp,hbs,hs,hl,hne,hF⟩,_⟩:=h
 intro k hk
 rcases (hF k).1 hk with rfl | h | h
 ·exact blk_lt hb
 ·exact (hs.lt k h).2
 ·exact (hl.lt k h).2
theorem next_trans {w1 w2:World} {F1:Nat→Prop} {x2:Disk.FD} (hF:∀ k,F1 k→F k∨w.heap.size≤k) (hk:Kept w w1 F) (h2:Disk.Next w0 w1 w2 p F1 x2):Disk.Next w0 w w2 p F x2:=by
 obtain ⟨F2,f2,b2,k2⟩:=h2
 exact ⟨F2,f2,fun k hk2=>(b2 k hk2).elim (hF k) (fun h=>.inr (Nat.le_trans hk.size h)),hk.trans k2 hF⟩
end
/-- A journal's block: it has the file. -/
def JAt (w:World) (q p:Nat):Prop:=w.heap[q]?=some (.cells #[.pointer (some ⟨p,0,none⟩)] 137 (0,0))
theorem elem_fst {A:Option Addr} {n:Nat} {xs:List Value} {w w':World} {F:Nat→Prop} (h:RowIn w A n xs) (hk:Kept w w' F) (hA:∀ b,(Value.slice A 0 0).ownBlock=some b→¬ F b):RowIn w' A n xs:=by
 refine ⟨h.len,h.max,fun h0=>?_⟩
 obtain ⟨b,off,rfl,hb,hx⟩:=h.cell h0
 have e:=hk.block b hb (hA b rfl)
 exact ⟨b,off,rfl,Nat.lt_of_lt_of_le hb hk.size,fun k u hu=>(cell_same e).trans (hx k u hu)⟩
/-- What a journal has that is opened: its records, and it goes on behind them. -/
def Opened (x:Disk.FD):List (List UInt8)×Disk.FD :=
 let l:=x.safe ++ x.loose
 ((scanL l).1,if (scanL l).2 < l.length then ⟨l.take (scanL l).2,[],x.fuse - 1,x.keep,x.down⟩ else x)
def OpenRes (w0 w:World) (p:Nat) (F:Nat→Prop) (x:Disk.FD) (e:Ending) (w':World):Prop :=
 ∃ q A c,e=.returned (.tuple #[.pointer (some ⟨q,0,none⟩),.slice A (Opened x).1.length c,.int .i64 0])∧JAt w' q p∧w.heap.size≤q∧RowIn w' A (Opened x).1.length ((Opened x).1.map strV)∧(Opened x).1.length≤c ∧
  ∃ F',Disk.St w0 w' p F' (Opened x).2∧(∀ k,F' k→F k∨w.heap.size≤k)∧Kept w w' F∧¬ F' q∧∀ b,(Value.slice A 0 0).ownBlock=some b→¬ F' b
set_option maxHeartbeats 1600000 in
set_option maxRecDepth 100000 in
theorem jopen_any (w0 w:World) (p:Nat) (F:Nat→Prop) (x:Disk.FD) (h:Disk.St w0 w p F x) (hd:x.down=false) (hb:x.burns=false) (hl:(x.safe ++ x.loose).length≤10000000000000):Calls Tryz.prog 28 #[.pointer (some ⟨p,0,none⟩)] w (OpenRes w0 w p F x):=by
 have hrd:x.read=(x.safe ++ x.loose,0):=by unfold Disk.FD.read; rw [hd]; rfl
 obtain ⟨l,hll⟩:∃ l,x.safe ++ x.loose=l:=⟨_,rfl⟩
 rw [hll] at hrd hl
 obtain ⟨ts,n,hsc⟩:∃ ts n,scanL l=(ts,n):=⟨_,_,rfl⟩
 have hnl:=scanL_le l
 rw [hsc] at hnl
 have hop:Opened x=(ts,if n < l.length then ⟨l.take n,[],x.fuse - 1,x.keep,x.down⟩ else x):=by unfold Opened; rw [hll]; simp only [hsc]
 obtain ⟨y,hy⟩:∃ y:ByteArray,⟨l.toArray⟩=y:=⟨_,rfl⟩
 have hyd:y.data.toList=l:=by rw [← hy]
 have hys:y.size=l.length:=by rw [← len_data,hyd]
 have HH:=lh h
 have HRD:=lh hrd
 have HY:=lh hy
 have HYD:=lh hyd
 have HSC:=lh hsc
 have HOP:=lh hop
 have D1:=lh (show DSize y by unfold DSize; omega)
 have D2:=lh (show y.size≤10000000000000 by omega)
 by_cases hcut:n < l.length
 ·have q1:(n:Int) < y.size:=by omega
  have hcc:x.cut (n:Int)=(0,⟨l.take n,[],x.fuse - 1,x.keep,x.down⟩):=by
   have hlen:x.safe.length+x.loose.length=l.length:=by rw [← hll,List.length_append]
   rw [Disk.cut_eq_ok hd (by simp only at hnl; omega) hb,hll]
   rfl
  have HCC:=lh hcc
  have HCUT:=lh hcut
  clear h hd hb hl hrd hll hsc hnl hop hy hyd hys hcc hcut
  go_enter Tryz.func28,Tryz.ntmps28
  go_wp2_with (fail)
  refine (Disk.st_read HH.out HRD.out).mono ?_
  rw [HY.out]
  rintro e w1 ⟨rfl,F1,s1,b1,k1⟩
  have S1:=lh s1
  have B1:=lh b1
  have K1:=lh k1
  clear s1 b1 k1
  go_wp2_with (fail)
  refine (jscan_any y w1 D1.out D2.out).mono ?_
  intro e w2 h
  unfold ScanRes at h
  rw [HYD.out,HSC.out] at h
  obtain ⟨hk,A,c,rfl,hr,hcap,hnew⟩:=h
  have S2:=lh (st_kept S1.out hk)
  have K2:=lh hk
  have R2:=lh hr
  have CAP:=lh hcap
  have NEW:=lh hnew
  clear hk hr hcap hnew
  go_wp2_with (fail)
  refine (Disk.st_cut S2.out (n:Int) HCC.out).mono ?_
  rintro e w3 ⟨rfl,F3,s3,b3,k3⟩
  have S3:=lh s3
  have B3:=lh b3
  have K3:=lh k3
  clear s3 b3 k3
  go_wp2
  go_ret3
  unfold OpenRes
  rw [HOP.out]
  simp only [if_pos HCUT.out]
  have ka:=(Kept.refl w3 (fun _=>False)).alloc (.cells #[.pointer (some ⟨p,0,none⟩)] 137)
  have hAF:∀ b,(Value.slice A 0 0).ownBlock=some b→¬ F1 b:=fun b hb hf=>by
   have h1:=NEW.out b hb
   have:=st_lt S1.out b hf
   omega
  have hAF3:∀ b,(Value.slice A 0 0).ownBlock=some b→¬ F3 b:=fun b hb hf=>by
   have h1:=NEW.out b hb
   rcases B3.out b hf with h2 | h2
   ·exact hAF b hb h2
   ·omega
  have s1:=K1.out.size
  have s2:=K2.out.size
  have s3:=K3.out.size
  have hq:=st_lt S3.out
  refine ⟨w3.heap.size,A,c,rfl,heap_alloc_new _ _,by omega,?_,CAP.out,F3,st_kept S3.out ka,?_,?_,fun hf=>Nat.lt_irrefl _ (hq _ hf),hAF3⟩
  ·exact (elem_fst R2.out K3.out hAF).kept ka
  ·intro k hk
   rcases B3.out k hk with h2 | h2
   ·exact B1.out k h2
   ·exact .inr (by omega)
  ·have k13:=(K1.out.trans K2.out (fun k h=>h.elim)).trans K3.out B1.out
   exact (k13.trans ka (fun k h=>h.elim))
 ·have q1:¬ (n:Int) < y.size:=by omega
  have HCUT:=lh hcut
  clear h hd hb hl hrd hll hsc hnl hop hy hyd hys hcut
  go_enter Tryz.func28,Tryz.ntmps28
  go_wp2_with (fail)
  refine (Disk.st_read HH.out HRD.out).mono ?_
  rw [HY.out]
  rintro e w1 ⟨rfl,F1,s1,b1,k1⟩
  have S1:=lh s1
  have B1:=lh b1
  have K1:=lh k1
  clear s1 b1 k1
  go_wp2_with (fail)
  refine (jscan_any y w1 D1.out D2.out).mono ?_
  intro e w2 h
  unfold ScanRes at h
  rw [HYD.out,HSC.out] at h
  obtain ⟨hk,A,c,rfl,hr,hcap,hnew⟩:=h
  have S2:=lh (st_kept S1.out hk)
  have K2:=lh hk
  have R2:=lh hr
  have CAP:=lh hcap
  have NEW:=lh hnew
  clear hk hr hcap hnew
  go_wp2
  go_ret3
  unfold OpenRes
  rw [HOP.out]
  simp only [if_neg HCUT.out]
  have ka:=(Kept.refl w2 (fun _=>False)).alloc (.cells #[.pointer (some ⟨p,0,none⟩)] 137)
  have hAF:∀ b,(Value.slice A 0 0).ownBlock=some b→¬ F1 b:=fun b hb hf=>by
   have h1:=NEW.out b hb
   have:=st_lt S1.out b hf
   omega
  have s1:=K1.out.size
  have s2:=K2.out.size
  have hq:=st_lt S2.out
  refine ⟨w2.heap.size,A,c,rfl,heap_alloc_new _ _,by omega,R2.out.kept ka,CAP.out,F1,st_kept S2.out ka,B1.out,?_,fun hf=>Nat.lt_irrefl _ (hq _ hf),hAF⟩
  exact (K1.out.trans K2.out (fun k h=>h.elim)).trans ka (fun k h=>h.elim)
/-- What adding a record answers and makes of the file. -/
def addJ (x:Disk.FD) (d:List UInt8):Int×Disk.FD:=if (x.add d).1≠0 then x.add d else (x.add d).2.sync
theorem jat_keep {w w':World} {F:Nat→Prop} {q p:Nat} (h:JAt w q p) (hk:Kept w w' F) (hq:¬ F q):JAt w' q p:=hk.blk h hq
set_option maxHeartbeats 1600000 in
set_option maxRecDepth 100000 in
theorem jadd_any (w0 w:World) (p q:Nat) (F:Nat→Prop) (x:Disk.FD) (h:Disk.St w0 w p F x) (hj:JAt w q p) (hq:¬ F q) (r:ByteArray) (hr:r.size≤1048576) (hroom:Disk.Room { x with loose:=x.loose ++ frameS r.data.toList }) :
  Calls Tryz.prog 37 #[.pointer (some ⟨q,0,none⟩),.string r] w fun e w'=>e=.returned (.int .i64 (addJ x (frameS r.data.toList)).1)∧Disk.Next w0 w w' p F (addJ x (frameS r.data.toList)).2:=by
 obtain ⟨f,hf⟩:∃ f,frameB r=f:=⟨_,rfl⟩
 have hfd:f.data.toList=frameS r.data.toList:=by rw [← hf]; unfold frameB mkB; simp
 rw [← hfd] at hroom ⊢
 obtain ⟨c1,x1,hx1⟩:∃ c1 x1,x.add f.data.toList=(c1,x1):=⟨_,_,rfl⟩
 have ha:addJ x f.data.toList=if c1≠0 then (c1,x1) else x1.sync:=by unfold addJ; rw [hx1]
 rw [ha]
 have P:=lh (jframe_any r w hr)
 rw [hf] at P
 have HH:=lh h
 have HJ:=lh hj
 have HQ:=lh hq
 have HROOM:=lh hroom
 have HX1:=lh hx1
 by_cases hc:c1=0
 ·subst hc
  rw [if_neg (by simp)]
  obtain ⟨c2,x2,hx2⟩:∃ c2 x2,x1.sync=(c2,x2):=⟨_,_,rfl⟩
  rw [hx2]
  have HX2:=lh hx2
  clear h hj hq hroom hx1 hf hfd ha hx2 hr
  go_enter Tryz.func37,Tryz.ntmps37
  go_wp2_with (fail)
  refine P.out.mono ?_
  rintro e w1 ⟨rfl,hk⟩
  have S1:=lh (st_kept HH.out hk)
  have K1:=lh hk
  have cj:=cellOf (j:=0) (jat_keep HJ.out hk (fun h=>h))
  simp at cj
  have J1:=lh (jat_keep HJ.out hk (fun h=>h))
  clear hk
  go_wp2_with (fail)
  clear cj
  refine (Disk.st_add S1.out f HROOM.out HX1.out).mono ?_
  rintro e w2 ⟨rfl,F2,s2,b2,k2⟩
  have S2:=lh s2
  have B2:=lh b2
  have K2:=lh k2
  have cj:=cellOf (j:=0) (jat_keep J1.out k2 HQ.out)
  simp at cj
  clear s2 b2 k2
  go_wp2_with (fail)
  refine (Disk.st_sync S2.out HX2.out).mono ?_
  rintro e w3 ⟨rfl,hn⟩
  have N3:=lh hn
  clear hn
  go_wp2
  go_ret
  refine ⟨rfl,?_⟩
  have h1:=next_trans (w:=w1) B2.out K2.out N3.out
  obtain ⟨F3,s3,b3,k3⟩:=h1
  exact ⟨F3,s3,fun k hk=>(b3 k hk).elim .inl (fun h=>.inr (Nat.le_trans K1.out.size h)),((K1.out.mono (fun _ h=>h.elim)).trans k3 (fun k h=>.inl h))⟩
 ·rw [if_pos hc]
  have z1:(c1 == 0)=false:=by simpa using hc
  have z2:decide (c1=0)=false:=by simpa using hc
  have z3:(c1 != 0)=true:=by simpa using hc
  clear h hj hq hroom hx1 hf hfd ha hc hr
  go_enter Tryz.func37,Tryz.ntmps37
  go_wp2_with (fail)
  refine P.out.mono ?_
  rintro e w1 ⟨rfl,hk⟩
  have S1:=lh (st_kept HH.out hk)
  have K1:=lh hk
  have cj:=cellOf (j:=0) (jat_keep HJ.out hk (fun h=>h))
  simp at cj
  clear hk
  go_wp2_with (fail)
  clear cj
  refine (Disk.st_add S1.out f HROOM.out HX1.out).mono ?_
  rintro e w2 ⟨rfl,F2,s2,b2,k2⟩
  have S2:=lh s2
  have B2:=lh b2
  have K2:=lh k2
  clear s2 b2 k2
  go_wp2
  go_ret
  exact ⟨rfl,F2,S2.out,fun k hk=>(B2.out k hk).elim .inl (fun h=>.inr (Nat.le_trans K1.out.size h)),((K1.out.mono (fun _ h=>h.elim)).trans K2.out (fun k h=>.inl h))⟩
end Go.Proofs.YtogkkfdkeefjnaaGreatDoor.Codec
namespace Go.Proofs.YtogkkfdkeefjnaaGreatDoor.Codec
open Go.RowKit Go.Proofs.YtogkkfdkeefjnaaGreatDoorBase Go.Proofs.YtogkkfdkeefjnaaGreatDoorLex2 Go.Proofs.YtogkkfdkeefjnaaGreatDoorNum
set_option linter.unusedVariables false
set_option maxRecDepth 100000
set_option linter.unusedSimpArgs false
/-- Cells laid over others, from o on. -/
def spl:Array Value→Nat→List Value→Array Value
 | cs,_,[]=>cs
 | cs,o,v :: r=>spl (cs.setIfInBounds o v) (o+1) r
theorem spl_size:∀ (vs:List Value) (cs:Array Value) (o:Nat),(spl cs o vs).size=cs.size
 | [],cs,o=>rfl
 | v :: r,cs,o=>by rw [spl,spl_size r]; simp
theorem spl_out:∀ (vs:List Value) (cs:Array Value) (o j:Nat),¬ (o≤j∧j < o+vs.length)→(spl cs o vs)[j]?=cs[j]?
 | [],cs,o,j,h=>rfl
 | v :: r,cs,o,j,h=>by
  rw [List.length_cons] at h
  rw [spl,spl_out r _ _ j (by omega),Array.getElem?_setIfInBounds,if_neg (by omega)]
theorem spl_in:∀ (vs:List Value) (cs:Array Value) (o j:Nat) (v:Value),vs[j]?=some v→o+vs.length≤cs.size→(spl cs o vs)[o+j]?=some v
 | [],cs,o,j,v,h,hs=>by cases h
 | u :: r,cs,o,0,v,h,hs=>by
  rw [List.length_cons] at hs
  simp only [List.getElem?_cons_zero,Option.some.injEq] at h
  subst h
  rw [spl,spl_out r _ _ _ (by omega),Nat.add_zero,Array.getElem?_setIfInBounds,if_pos rfl,if_pos (by omega)]
 | u :: r,cs,o,j+1,v,h,hs=>by
  rw [List.length_cons] at hs
  rw [List.getElem?_cons_succ] at h
  rw [spl,show o+(j+1)=o+1+j by omega]
  exact spl_in r _ _ j v h (by simp; omega)
theorem setCells_blk {w:World} {b:Nat} {t:TypeId}:∀ (vs:List Value) (cs:Array Value) (o:Nat) (w:World),w.heap[b]?=some (.cells cs t (0,0))→(w.setCells b o vs).heap[b]?=some (.cells (spl cs o vs) t (0,0))
 | [],cs,o,w,h=>h
 | v :: r,cs,o,w,h=>by
  rw [World.setCells,spl]
  exact setCells_blk (w:=w) r _ _ _ (blk_set h o v)
theorem setCells_kept {b:Nat}:∀ (vs:List Value) (o:Nat) (w:World),Kept w (w.setCells b o vs) (fun k=>k=b)
 | [],o,w=>Kept.refl _ _
 | v :: r,o,w=>by
  rw [World.setCells]
  exact ((Kept.refl w (fun k=>k=b)).setCell (p:=⟨b,o,none⟩) (.inl rfl) v).trans (setCells_kept r (o+1) _) (fun k h=>.inl h)
theorem setCells_size {b:Nat} (vs:List Value) (o:Nat) (w:World):(w.setCells b o vs).heap.size=w.heap.size:=by
 induction vs generalizing o w with
 | nil=>rfl
 | cons v r ih=>rw [World.setCells,ih]; simp [World.setCell]
theorem there_blk {w:World} {b o n:Nat} {cs:Array Value} {t:TypeId} (h:w.heap[b]?=some (.cells cs t (0,0))) (hn:o+n≤cs.size):w.there b o n:=fun j hj=>by
 refine ⟨?_,freeOf (j:=o+j) h⟩
 rw [cellOf h,Array.getElem?_eq_getElem (by omega)]
 rfl
/-- Its values have n cells. -/
def Many {α:Type} (c:Cod α) (n:Nat):Prop:=∀ (G:Nat→Prop) (w:World) (x:α) (u:Value),c.rep G w x u→∃ cs,u=.agg cs∧cs.size=n∧cs.all (·.oneCell')=true
theorem recC_many {α:Type} (N:Nat) (ps:List (Prt α)) (x0:α):Many (recC N ps x0) N:=by
 rintro G w x u ⟨cs,h1,h2,h3,_⟩
 exact ⟨cs,h1,h2,h3⟩
/-- A part of n cells. -/
def aggP {α β:Type} (c:Cod β) (o n:Nat) (fld:α→β) (set:β→α→α):Prt α:=⟨β,c,fld,set,fun cs=>.agg (cs.extract o (o+n)),fun cs v=>spl cs o v.cells.toList⟩
theorem extract_spl {cs vs:Array Value} {o n:Nat} (hv:vs.size=n) (ho:o+n≤cs.size):(spl cs o vs.toList).extract o (o+n)=vs:=by
 refine Array.ext_getElem? fun j=>?_
 rw [Array.getElem?_extract,spl_size]
 by_cases hj:j < n
 ·rw [if_pos (by omega)]
  obtain ⟨v,h⟩:∃ v,vs.toList[j]?=some v:=⟨_,List.getElem?_eq_getElem (by simp; omega)⟩
  rw [spl_in _ _ _ _ _ h (by simp; omega)]
  simpa using h.symm
 ·rw [if_neg (by omega),Array.getElem?_eq_none (by omega)]
theorem aggP_fair {α β:Type} {c:Cod β} {o n N:Nat} {fld:α→β} {set:β→α→α} (hf:Fair c) (hm:Many c n) (ho:o+n≤N) (h:∀ y x,fld (set y x)=y):PFair N (aggP c o n fld set):=by
 refine ⟨hf,fun {G w y v cs} hr hs=>?_,fun {G w y v cs} _ hs=>?_,h,fun {G w y v cs} hr hs ha=>?_⟩
 ·obtain ⟨vs,rfl,hv,_⟩:=hm _ _ _ _ hr
  show Value.agg ((spl cs o (Value.agg vs).cells.toList).extract o (o+n))=_
  rw [show (Value.agg vs).cells=vs from rfl,extract_spl hv (by omega)]
 ·show (spl cs o v.cells.toList).size=N
  rw [spl_size,hs]
 ·obtain ⟨vs,rfl,hv,hav⟩:=hm _ _ _ _ hr
  show (spl cs o (Value.agg vs).cells.toList).all _=true
  rw [show (Value.agg vs).cells=vs from rfl]
  refine Array.all_eq_true_iff_forall_mem.2 (fun u hu=>?_)
  obtain ⟨j,hj⟩:=Array.getElem?_of_mem hu
  by_cases hin:o≤j∧j < o+vs.toList.length
  ·obtain ⟨z,hz⟩:∃ z,vs.toList[j - o]?=some z:=⟨_,List.getElem?_eq_getElem (by simp at hin ⊢; omega)⟩
   have h1:=spl_in _ cs o _ _ hz (by simp; omega)
   rw [show o+(j - o)=j by omega,hj] at h1
   obtain rfl:=Option.some.inj h1
   exact Array.all_eq_true_iff_forall_mem.1 hav _ (by have:=List.mem_of_getElem? hz; simpa using this)
  ·rw [spl_out _ _ _ _ hin] at hj
   exact Array.all_eq_true_iff_forall_mem.1 ha _ (Array.mem_of_getElem? hj)
/-- A part lies among the cells from o on, n of them. -/
structure Rng {α:Type} (N:Nat) (p:Prt α) (o n:Nat):Prop where
 rd:∀ {cs cs':Array Value},cs.size=N→cs'.size=N→(∀ j,o≤j→j < o+n→cs[j]?=cs'[j]?)→p.rd cs=p.rd cs'
 wr:∀ {G w y v} {cs:Array Value},p.c.rep G w y v→cs.size=N→(p.wr cs v).size=N∧∀ j,¬ (o≤j∧j < o+n)→(p.wr cs v)[j]?=cs[j]?
theorem oneP_rng {α β:Type} (c:Cod β) (o N:Nat) (fld:α→β) (set:β→α→α):Rng N (oneP c o fld set) o 1:=by
 refine ⟨fun {cs cs'} h1 h2 h=>?_,fun {G w y v cs} _ hs=>⟨by simp [oneP,hs],fun j hj=>?_⟩⟩
 ·show cs.getD o undef=cs'.getD o undef
  rw [Array.getD_eq_getD_getElem?,Array.getD_eq_getD_getElem?,h o (by omega) (by omega)]
 ·show (cs.setIfInBounds o v)[j]?=_
  rw [Array.getElem?_setIfInBounds,if_neg (by omega)]
theorem aggP_rng {α β:Type} {c:Cod β} {n:Nat} (hm:Many c n) (o N:Nat) (fld:α→β) (set:β→α→α):Rng N (aggP c o n fld set) o n:=by
 refine ⟨fun {cs cs'} h1 h2 h=>?_,fun {G w y v cs} hr hs=>?_⟩
 ·show Value.agg _=Value.agg _
  congr 1
  refine Array.ext_getElem? fun j=>?_
  rw [Array.getElem?_extract,Array.getElem?_extract,h1,h2]
  split
  ·exact h _ (by omega) (by omega)
  ·rfl
 ·obtain ⟨vs,rfl,hv,_⟩:=hm _ _ _ _ hr
  refine ⟨by show (spl cs o _).size=N; rw [spl_size,hs],fun j hj=>spl_out _ _ _ _ (by show ¬ (o≤j∧j < o+vs.toList.length); simp only [Array.length_toList]; omega)⟩
theorem off_rng {α:Type} {N o n o' n':Nat} {p q:Prt α} (hp:Rng N p o n) (hq:Rng N q o' n') (hd:o+n≤o'∨o'+n'≤o) (hf:∀ y x,p.fld (q.set y x)=p.fld x):Off N p q:=by
 refine ⟨fun {G w y v cs} hr hs=>?_,hf⟩
 obtain ⟨h1,h2⟩:=hq.wr hr hs
 exact hp.rd h1 hs (fun j h3 h4=>h2 j (by omega))
/-! ### Rows of records -/
/-- The cells of an element. -/
def CellsAt (w:World) (b o:Nat) (cs:Array Value):Prop:=∀ j v,cs[j]?=some v→w.cell? ⟨b,o+j,none⟩=some v
theorem CellsAt.range {w:World} {b o:Nat} {cs:Array Value} (h:CellsAt w b o cs):w.rangeAt b o cs.toList:=fun j v hv=>h j v (by simpa using hv)
def RowRepN {α:Type} (c:Cod α) (N:Nat) (G:Nat→Prop) (w:World) (l:List α) (v:Value):Prop :=
 ∃ A n cp,v=.slice A n cp∧n=l.length∧n≤maxLen∧(0 < n→∃ b off,A=some ⟨b,off,none⟩∧G b∧b < w.heap.size∧∀ k x,l[k]?=some x→∃ cs,cs.size=N∧CellsAt w b (off+k * N) cs∧c.rep G w x (.agg cs))
def listN {α:Type} (c:Cod α) (N m:Nat):Cod (List α) where
 rep:=RowRepN c N
 put:=fun l s=>if m < l.length then s.fail 22 else puts c l (putN l.length s)
 cost:=fun l=>8+costs c l
 get:=fun s=>getL c.get (countN m s).1 (countN m s).2
theorem CellsAt.keep {w w':World} {b o:Nat} {cs:Array Value} (h:CellsAt w b o cs) (hb:w'.heap[b]?=w.heap[b]?):CellsAt w' b o cs:=fun j v hv=>by
 rw [← h j v hv]
 simp only [World.cell?,hb]
theorem listN_fair {α:Type} {c:Cod α} (hf:Fair c) (N m:Nat):Fair (listN c N m):=by
 refine ⟨?_,?_,?_⟩
 ·rintro G G' w x v hG ⟨A,n,cp,rfl,hn,hm,hc⟩
  refine ⟨A,n,cp,rfl,hn,hm,fun h0=>?_⟩
  obtain ⟨b,off,hA,hb,hl,hx⟩:=hc h0
  refine ⟨b,off,hA,hG b hb,hl,fun k x hk=>?_⟩
  obtain ⟨u,h1,hu,hr⟩:=hx k x hk
  exact ⟨u,h1,hu,hf.mono hG hr⟩
 ·rintro G w w' x v ⟨A,n,cp,rfl,hn,hm,hc⟩ hk
  refine ⟨A,n,cp,rfl,hn,hm,fun h0=>?_⟩
  obtain ⟨b,off,hA,hb,hl,hx⟩:=hc h0
  have hbb:=hk b hl hb
  refine ⟨b,off,hA,hb,?_,fun k x hk2=>?_⟩
  ·have:w'.heap[b]?=some w.heap[b]:=by rw [hbb]; exact Array.getElem?_eq_getElem hl
   exact blk_lt this
  ·obtain ⟨u,h1,hu,hr⟩:=hx k x hk2
   exact ⟨u,h1,hu.keep hbb,hf.keep hr hk⟩
 ·intro x s
  simp only [listN]
  split
  ·rw [wfail_len]; omega
  ·have h1:=puts_len hf x (putN x.length s)
   have h2:=putN_len x.length s
   omega
theorem listN_one {α:Type} (c:Cod α) (N m:Nat):One (listN c N m):=by rintro G w x u ⟨A,n,cp,rfl,_⟩; rfl
end Go.Proofs.YtogkkfdkeefjnaaGreatDoor.Codec
namespace Go.Proofs.YtogkkfdkeefjnaaGreatDoor.Codec
open Go.RowKit Go.Proofs.YtogkkfdkeefjnaaGreatDoorBase Go.Proofs.YtogkkfdkeefjnaaGreatDoorLex2 Go.Proofs.YtogkkfdkeefjnaaGreatDoorNum
set_option linter.unusedVariables false
set_option maxRecDepth 100000
theorem al3_kept (w:World) (a b c:Obj):Kept w (((w.alloc a).alloc b).alloc c) (fun _=>False):=(((Kept.refl _ _).alloc _).alloc _).alloc _
theorem al3_0 (w:World) (x:Array Value) (T:TypeId) (b c:Obj):(((w.alloc (.cells x T)).alloc b).alloc c).heap[w.heap.size]?=some (.cells x T (0,0)):=(Below.heap_alloc _ _ _ (by simp; omega)).trans ((Below.heap_alloc _ _ _ (by simp)).trans (heap_alloc_new w _))
theorem al3_1 (w:World) (a:Obj) (x:Array Value) (T:TypeId) (c:Obj):(((w.alloc a).alloc (.cells x T)).alloc c).heap[w.heap.size+1]?=some (.cells x T (0,0)):=(Below.heap_alloc _ _ _ (by simp)).trans (heap_alloc2_new w _ _)
theorem PartsAt.later {α:Type} {w w':World} {T:TypeId} {N pa:Nat} {ps:List (Prt α)} (h:PartsAt w T N pa ps) (hs:Same w w'):PartsAt w' T N pa ps:=by
 refine ⟨Nat.lt_of_lt_of_le h.lt hs.1,fun k p hp=>?_⟩
 obtain ⟨u,v,h1,h2,h3,h4⟩:=h.at_ k p hp
 have hb:=hs.2 pa h.lt
 exact ⟨u,v,by rw [← h1]; simp only [World.cell?,hb],by rw [← h2]; simp only [World.cell?,hb],h3.later hs,h4.later hs⟩
theorem src_many {t e:TypeId} {z:Value} {size bytes:Nat} (E:Elem Tryz.prog t e z size bytes) {cs:Array Value} (hcs:cs.size=size) (hca:cs.all (·.oneCell')=true) (w:World):Src Tryz.prog size t (.slice (some ⟨w.heap.size,0,none⟩) 1 1) 1 cs.toList (w.alloc (.cells cs e)):=by
 refine Src.ofSlice _ E.under _ 1 1 _ (by rw [Array.length_toList,hcs,Nat.one_mul]) (fun j u hj=>?_) (fun z hz=>Array.all_eq_true_iff_forall_mem.1 hca z (by simpa using hz))
 rw [Addr.add_lit,Nat.zero_add,cellOf (heap_alloc_new w _)]
 simpa using hj
theorem two_new {w:World} {q:Nat} {d:ByteArray} {s:RS} (h:ReaderAt w q d s) (c:Array Value) (T:TypeId):∃ w1,(w.alloc (.cells c T)).alloc (.cells c T)=w1∧Kept w w1 (fun _=>False)∧w1.heap[w.heap.size+1]?=some (.cells c T (0,0))∧w1.heap[w.heap.size]?=some (.cells c T (0,0))∧ReaderAt w1 q d s∧w1.heap.size=w.heap.size+2 :=
 ⟨_,rfl,((Kept.refl _ _).alloc _).alloc _,heap_alloc2_new _ _ _,heap_alloc2_old _ _ _,(h.alloc _).alloc _,by simp⟩
end Go.Proofs.YtogkkfdkeefjnaaGreatDoor.Codec
