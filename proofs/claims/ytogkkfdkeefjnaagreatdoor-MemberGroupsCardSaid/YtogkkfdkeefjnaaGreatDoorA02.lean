/-
  Is a term right, walked.
-/
import Derived.Test.YtogkkfdkeefjnaaGreatDoorA01
namespace Go.Proofs.YtogkkfdkeefjnaaGreatDoor.Term
open Go.RowKit Go.Proofs.YtogkkfdkeefjnaaGreatDoorBase Go.Proofs.YtogkkfdkeefjnaaGreatDoorLex2
set_option linter.unusedVariables false
set_option maxRecDepth 100000
set_option linter.unusedSimpArgs false
theorem ret_dec {b:Bool} {P:Prop} [Decidable P] (h:b=true ↔ P):Ending.returned (.bool b)=.returned (.bool (decide P)):=by
 have:b=decide P:=by rw [Bool.eq_iff_iff,h]; simp
 rw [this]
theorem str_nil (l:ByteArray):l=⟨#[]⟩ ↔ l.toList=[]:=by
 rw [ByteArray.toList_eq]
 refine ⟨fun h=>by rw [h],fun h=>?_⟩
 have:=mk_data l
 rw [h] at this
 exact this.symm
theorem right_atom (w0 w:World) (p:Nat) (F:Nat→Prop) (s:TS) (n:Node) (hk:n.kind=1) :
  Calls Tryz.prog 153 #[.pointer (some ⟨p,0,none⟩),nodeV n] w fun e w'=>e=.returned (.bool (decide (Right s.nodes n)))∧Kept w w' (fun _=>False):=by
 have e:Right s.nodes n ↔ (1≤n.a∧n.a≤1099511627776∧n.label.toList=[]∧n.b=0):=by unfold Right; rw [if_pos hk,str_nil]
 have E:=lh e
 obtain ⟨k,l,a,b⟩:=n
 simp only at hk e E
 subst hk
 clear e
 unfold nodeV
 by_cases h1:1≤a
 ·by_cases h2:a≤1099511627776
  ·by_cases h3:l.toList=[]
   ·by_cases h4:b=0
    ·go_enter Tryz.func153,Tryz.ntmps153
     go_wp2
     go_ret
     exact ⟨ret_dec (b:=true) (by rw [E.out]; simp [h1,h2,h3,h4]),(Kept.refl _ _).alloc _⟩
    ·go_enter Tryz.func153,Tryz.ntmps153
     go_wp2
     go_ret
     exact ⟨ret_dec (b:=false) (by rw [E.out]; simp [h4]),(Kept.refl _ _).alloc _⟩
   ·go_enter Tryz.func153,Tryz.ntmps153
    go_wp2
    go_ret
    exact ⟨ret_dec (b:=false) (by rw [E.out]; simp [h3]),(Kept.refl _ _).alloc _⟩
  ·go_enter Tryz.func153,Tryz.ntmps153
   go_wp2
   go_ret
   exact ⟨ret_dec (b:=false) (by rw [E.out]; simp; omega),(Kept.refl _ _).alloc _⟩
 ·go_enter Tryz.func153,Tryz.ntmps153
  go_wp2
  go_ret
  exact ⟨ret_dec (b:=false) (by rw [E.out]; simp; omega),(Kept.refl _ _).alloc _⟩
theorem arity_le (k:Int):arity k≤2:=by
 unfold arity
 repeat' split
 all_goals omega
set_option maxHeartbeats 1600000 in
set_option maxRecDepth 100000 in
theorem right_box (w0 w:World) (p:Nat) (F:Nat→Prop) (s:TS) (k:Int) (l:ByteArray) (a b:Int) (h:SAt w0 w p F s) (hk:k≠1) (hl:l.size≤9223372036854775807) (h8:k=8) (g1:¬ labelMax k < (l.size:Int)) (kn:knownB s.nodes a=true) (kn2:knownB s.nodes b=true) :
  Calls Tryz.prog 153 #[.pointer (some ⟨p,0,none⟩),nodeV ⟨k,l,a,b⟩] w fun e w'=>e=.returned (.bool (decide (Right s.nodes ⟨k,l,a,b⟩)))∧Kept w w' (fun _=>False):=by
 have e:Right s.nodes ⟨k,l,a,b⟩ ↔ ((l.size:Int)≤labelMax k∧(arity k < 1→a=0)∧(arity k < 2→b=0)∧(1≤arity k→knownB s.nodes a=true)∧(arity k=2→knownB s.nodes b=true)∧(k=8→(getN s.nodes a).kind=6)):=by unfold Right; rw [if_neg hk]
 have E:=lh e
 have q1:(k == 1)=false:=by simpa using hk
 have h8':k=8→arity k=2:=fun h=>by subst h; rfl
 obtain ⟨A,c,hc,hle,hcm,hcells⟩:=h.at_.node
 have hlen:=h.ok.len
 obtain ⟨m,hm⟩:∃ m,labelMax k=m:=⟨_,rfl⟩
 obtain ⟨r,hr⟩:∃ r,arity k=r:=⟨_,rfl⟩
 rw [hm,hr] at e E
 rw [hr] at h8'
 have ka:=(Kept.refl w (fun _=>False)).alloc (.cells #[.int .i64 k,.string l,.int .i64 a,.int .i64 b] 101)
 have H:=lh (h.kept ka)
 have HM:=lh hm
 have HR:=lh hr
 have H8:=lh h8'
 have HC:=lh hcells
 have pl:p < w.heap.size:=h.at_.lt p (by obtain ⟨nv,m,_,_,_,_,_,_,hF⟩:=h.at_; exact (hF p).2 (.inl rfl))
 have hr2:r=2:=H8.out h8
 rw [hm] at g1
 clear e hk hm hr hcells h
 clear h8'
 subst hr2
 unfold nodeV
 obtain ⟨x,hx⟩:∃ x,getN s.nodes a=x:=⟨_,rfl⟩
 have hat:=getN_at kn
 rw [hx] at hat
 have hka:=knownB_iff.1 kn
 obtain ⟨j,hj⟩:∃ j:Nat,a.toNat - 1=j:=⟨_,rfl⟩
 have haj:a=(j:Int)+1:=by omega
 rw [hj] at hat
 obtain ⟨g,hA,e0,_⟩:=HC.out j x hat
 have gl:=World.block_lt_of_cell? _ _ e0
 have HX:=lh hx
 have HAT:=lh hat
 have KN:=lh kn
 have KN2:=lh kn2
 subst h8 haj hA
 have z1:(0:Int)≤j:=by omega
 have z2:(j:Int) < s.nodes.length:=by omega
 have z3:IntKind.i64.wrap ((j:Int)+1 - 1)=j:=by rw [show (j:Int)+1 - 1=j from by omega]; exact IntWalk.i64_in _ (by omega)
 have z4:(j:Int)+1 - 1=j:=by omega
 clear hat hj hx kn kn2 hka
 by_cases h6:x.kind=6
 ·have q6:(x.kind == 6)=true:=by simpa using h6
  rw [h6] at e0
  clear q6
  go_enter Tryz.func153,Tryz.ntmps153
  go_wp2_with (fail)
  refine (parts_any _ _).mono ?_
  rw [HM.out,HR.out]
  rintro e w' ⟨rfl,hw⟩
  obtain rfl:=hw.symm
  clear hw
  go_wp2_with (fail)
  refine (known_any w0 _ p F s _ H.out).mono ?_
  rw [KN.out]
  rintro e w' ⟨rfl,hw⟩
  obtain rfl:=hw.symm
  clear hw
  go_wp2_with (fail)
  refine (known_any w0 _ p F s b H.out).mono ?_
  rw [KN2.out]
  rintro e w' ⟨rfl,hw⟩
  obtain rfl:=hw.symm
  clear hw
  go_wp2
  go_quiet (fail)
  go_wp2
  go_ret
  exact ⟨ret_dec (b:=true) (by rw [E.out,KN.out,KN2.out,HX.out]; simp [h6]; omega),ka.drewN _⟩
 ·have q6:(x.kind == 6)=false:=by simpa using h6
  go_enter Tryz.func153,Tryz.ntmps153
  go_wp2_with (fail)
  refine (parts_any _ _).mono ?_
  rw [HM.out,HR.out]
  rintro e w' ⟨rfl,hw⟩
  obtain rfl:=hw.symm
  clear hw
  go_wp2_with (fail)
  refine (known_any w0 _ p F s _ H.out).mono ?_
  rw [KN.out]
  rintro e w' ⟨rfl,hw⟩
  obtain rfl:=hw.symm
  clear hw
  go_wp2_with (fail)
  refine (known_any w0 _ p F s b H.out).mono ?_
  rw [KN2.out]
  rintro e w' ⟨rfl,hw⟩
  obtain rfl:=hw.symm
  clear hw
  go_wp2
  go_quiet (fail)
  go_wp2
  go_ret
  exact ⟨ret_dec (b:=false) (by rw [E.out,KN.out,KN2.out,HX.out]; simp [h6]),ka.drewN _⟩
set_option maxHeartbeats 3200000 in
set_option maxRecDepth 100000 in
theorem right_other (w0 w:World) (p:Nat) (F:Nat→Prop) (s:TS) (k:Int) (l:ByteArray) (a b:Int) (h:SAt w0 w p F s) (hk:k≠1) (hl:l.size≤9223372036854775807) :
  Calls Tryz.prog 153 #[.pointer (some ⟨p,0,none⟩),nodeV ⟨k,l,a,b⟩] w fun e w'=>e=.returned (.bool (decide (Right s.nodes ⟨k,l,a,b⟩)))∧Kept w w' (fun _=>False):=by
 have e:Right s.nodes ⟨k,l,a,b⟩ ↔ ((l.size:Int)≤labelMax k∧(arity k < 1→a=0)∧(arity k < 2→b=0)∧(1≤arity k→knownB s.nodes a=true)∧(arity k=2→knownB s.nodes b=true)∧(k=8→(getN s.nodes a).kind=6)):=by unfold Right; rw [if_neg hk]
 have E:=lh e
 have q1:(k == 1)=false:=by simpa using hk
 have h8:k=8→arity k=2:=fun h=>by subst h; rfl
 obtain ⟨A,c,hc,hle,hcm,hcells⟩:=h.at_.node
 have hlen:=h.ok.len
 obtain ⟨m,hm⟩:∃ m,labelMax k=m:=⟨_,rfl⟩
 obtain ⟨r,hr⟩:∃ r,arity k=r:=⟨_,rfl⟩
 rw [hm,hr] at e E
 rw [hr] at h8
 have ka:=(Kept.refl w (fun _=>False)).alloc (.cells #[.int .i64 k,.string l,.int .i64 a,.int .i64 b] 101)
 have H:=lh (h.kept ka)
 have HM:=lh hm
 have HR:=lh hr
 have H8:=lh h8
 have HC:=lh hcells
 have pl:p < w.heap.size:=h.at_.lt p (by obtain ⟨nv,m,_,_,_,_,_,_,hF⟩:=h.at_; exact (hF p).2 (.inl rfl))
 have H0:=lh h
 clear e hk h8 hm hr hcells h
 unfold nodeV
 by_cases g1:m < (l.size:Int)
 ·go_enter Tryz.func153,Tryz.ntmps153
  go_wp2_with (go_at_call 292; refine (parts_any _ _).mono ?_; rw [HM.out,HR.out]; rintro e w' ⟨rfl,hw⟩; obtain rfl:=hw.symm)
  go_ret
  exact ⟨ret_dec (b:=false) (by rw [E.out]; simp; omega),ka⟩
 have har:r≤2:=by rw [← HR.out]; exact arity_le k
 by_cases g2:r < 1
 ·by_cases ha:a=0
  ·subst ha
   by_cases hb:b=0
   ·have q8:(k == 8)=false:=by simpa using fun h=>by have:=H8.out h; omega
    have q8':(k != 8)=true:=by simpa using fun h=>by have:=H8.out h; omega
    have hk8:k≠8:=fun h=>by have:=H8.out h; omega
    have HK8:=lh hk8
    subst hb
    clear hk8
    go_enter Tryz.func153,Tryz.ntmps153
    go_wp2_with (fail)
    refine (parts_any _ _).mono ?_
    rw [HM.out,HR.out]
    rintro e w' ⟨rfl,hw⟩
    obtain rfl:=hw.symm
    clear hw
    go_wp2
    go_quiet (fail)
    go_wp2
    go_ret
    exact ⟨ret_dec (b:=true) (by rw [E.out]; have h8:=HK8.out; simp [h8]; omega),ka.drewN _⟩
   ·have qb:(b == 0)=false:=by simpa using hb
    go_enter Tryz.func153,Tryz.ntmps153
    go_wp2_with (fail)
    refine (parts_any _ _).mono ?_
    rw [HM.out,HR.out]
    rintro e w' ⟨rfl,hw⟩
    obtain rfl:=hw.symm
    clear hw
    go_wp2
    go_ret
    exact ⟨ret_dec (b:=false) (by rw [E.out]; simp; omega),ka⟩
  ·have qa:(a == 0)=false:=by simpa using ha
   go_enter Tryz.func153,Tryz.ntmps153
   go_wp2_with (fail)
   refine (parts_any _ _).mono ?_
   rw [HM.out,HR.out]
   rintro e w' ⟨rfl,hw⟩
   obtain rfl:=hw.symm
   clear hw
   go_wp2
   go_ret
   exact ⟨ret_dec (b:=false) (by rw [E.out]; simp; omega),ka⟩
 by_cases g3:r < 2
 ·by_cases hb:b=0
  ·subst hb
   cases kn:knownB s.nodes a
   ·have KN:=lh kn
    clear kn
    go_enter Tryz.func153,Tryz.ntmps153
    go_wp2_with (fail)
    refine (parts_any _ _).mono ?_
    rw [HM.out,HR.out]
    rintro e w' ⟨rfl,hw⟩
    obtain rfl:=hw.symm
    clear hw
    go_wp2_with (fail)
    refine (known_any w0 _ p F s a H.out).mono ?_
    rw [KN.out]
    rintro e w' ⟨rfl,hw⟩
    obtain rfl:=hw.symm
    clear hw
    go_wp2
    go_ret
    exact ⟨ret_dec (b:=false) (by rw [E.out,KN.out]; simp; omega),ka⟩
   ·have KN:=lh kn
    have q8:(k == 8)=false:=by simpa using fun h=>by have:=H8.out h; omega
    have q8':(k != 8)=true:=by simpa using fun h=>by have:=H8.out h; omega
    have q2:(r == 2)=false:=by simpa using (by omega:r≠2)
    have hk8:k≠8:=fun h=>by have:=H8.out h; omega
    have HK8:=lh hk8
    clear kn hk8
    go_enter Tryz.func153,Tryz.ntmps153
    go_wp2_with (fail)
    refine (parts_any _ _).mono ?_
    rw [HM.out,HR.out]
    rintro e w' ⟨rfl,hw⟩
    obtain rfl:=hw.symm
    clear hw
    go_wp2_with (fail)
    refine (known_any w0 _ p F s a H.out).mono ?_
    rw [KN.out]
    rintro e w' ⟨rfl,hw⟩
    obtain rfl:=hw.symm
    clear hw
    go_wp2
    go_quiet (fail)
    go_wp2
    go_ret
    exact ⟨ret_dec (b:=true) (by rw [E.out,KN.out]; have h8:=HK8.out; simp [h8]; omega),ka.drewN _⟩
  ·have qb:(b == 0)=false:=by simpa using hb
   go_enter Tryz.func153,Tryz.ntmps153
   go_wp2_with (fail)
   refine (parts_any _ _).mono ?_
   rw [HM.out,HR.out]
   rintro e w' ⟨rfl,hw⟩
   obtain rfl:=hw.symm
   clear hw
   go_wp2
   go_ret
   exact ⟨ret_dec (b:=false) (by rw [E.out]; simp; omega),ka⟩
 ·obtain rfl:r=2:=by omega
  cases kn:knownB s.nodes a
  ·have KN:=lh kn
   clear kn
   go_enter Tryz.func153,Tryz.ntmps153
   go_wp2_with (fail)
   refine (parts_any _ _).mono ?_
   rw [HM.out,HR.out]
   rintro e w' ⟨rfl,hw⟩
   obtain rfl:=hw.symm
   clear hw
   go_wp2_with (fail)
   refine (known_any w0 _ p F s a H.out).mono ?_
   rw [KN.out]
   rintro e w' ⟨rfl,hw⟩
   obtain rfl:=hw.symm
   clear hw
   go_wp2
   go_ret
   exact ⟨ret_dec (b:=false) (by rw [E.out,KN.out]; simp),ka⟩
  ·cases kn2:knownB s.nodes b
   ·have KN:=lh kn
    have KN2:=lh kn2
    clear kn kn2
    go_enter Tryz.func153,Tryz.ntmps153
    go_wp2_with (fail)
    refine (parts_any _ _).mono ?_
    rw [HM.out,HR.out]
    rintro e w' ⟨rfl,hw⟩
    obtain rfl:=hw.symm
    clear hw
    go_wp2_with (fail)
    refine (known_any w0 _ p F s a H.out).mono ?_
    rw [KN.out]
    rintro e w' ⟨rfl,hw⟩
    obtain rfl:=hw.symm
    clear hw
    go_wp2_with (fail)
    refine (known_any w0 _ p F s b H.out).mono ?_
    rw [KN2.out]
    rintro e w' ⟨rfl,hw⟩
    obtain rfl:=hw.symm
    clear hw
    go_wp2
    go_ret
    exact ⟨ret_dec (b:=false) (by rw [E.out,KN2.out]; simp),ka⟩
   ·by_cases h8:k=8
    ·refine right_box w0 w p F s k l a b H0.out (by omega) hl h8 (by rw [HM.out]; exact g1) kn kn2
    ·have q8:(k == 8)=false:=by simpa using h8
     have q8':(k != 8)=true:=by simpa using h8
     have HK8:=lh h8
     have KN:=lh kn
     have KN2:=lh kn2
     clear kn kn2 h8
     go_enter Tryz.func153,Tryz.ntmps153
     go_wp2_with (fail)
     refine (parts_any _ _).mono ?_
     rw [HM.out,HR.out]
     rintro e w' ⟨rfl,hw⟩
     obtain rfl:=hw.symm
     clear hw
     go_wp2_with (fail)
     refine (known_any w0 _ p F s a H.out).mono ?_
     rw [KN.out]
     rintro e w' ⟨rfl,hw⟩
     obtain rfl:=hw.symm
     clear hw
     go_wp2_with (fail)
     refine (known_any w0 _ p F s b H.out).mono ?_
     rw [KN2.out]
     rintro e w' ⟨rfl,hw⟩
     obtain rfl:=hw.symm
     clear hw
     go_wp2
     go_quiet (fail)
     go_wp2
     go_ret
     exact ⟨ret_dec (b:=true) (by rw [E.out,KN.out,KN2.out]; have h8:=HK8.out; simp [h8]; omega),ka.drewN _⟩
end Go.Proofs.YtogkkfdkeefjnaaGreatDoor.Term
