/-
  A member, told of by its pointer; the calls' contracts once more. A crash, as in the document's example: the anchor, walked. What a law knows of a client that founds groups and leaves them, plainly. MemberGroups, walked. Arguments opened: slices of integers and of flags that came in, as rows; no program's text.
-/
import Derived.Test.YtogkkfdkeefjnaaGreatDoorA31
import Derived.Test.YtogkkfdkeefjnaaGreatDoorA03
import Derived.ChangeSlices
import Derived.Deep.Grids
namespace Go.Proofs.YtogkkfdkeefjnaaGreatDoor.Member
open Go.RowKit Go.Proofs.YtogkkfdkeefjnaaGreatDoorBase Go.Proofs.YtogkkfdkeefjnaaGreatDoorLex2 Go.Proofs.YtogkkfdkeefjnaaGreatDoorNum Go.Proofs.YtogkkfdkeefjnaaGreatDoor.Codec Go.Proofs.YtogkkfdkeefjnaaGreatDoor.Term
set_option linter.unusedVariables false
set_option maxRecDepth 100000
set_option linter.unusedSimpArgs false
/-- A client by its pointer; a law's own blocks P are not its. -/
def MS (w0 w:World) (m:Nat) (P:Nat→Prop) (x:MD):Prop:=∃ L sig now wv kv pv gv ts,MAt w0 w L sig now wv kv pv gv ts x∧L.m=m∧∀ k,P k→k < w.heap.size∧¬ L.own k
section
variable {w0 w w1 w' : World} {L : Lay} {sig now : Int} {wv kv pv gv : Value} {ts : TS} {x x' : MD} {m : Nat} {P P' : Nat → Prop}
theorem ms_next (hP:∀ k,P k→k < w.heap.size∧¬ L.own k) (hn:MNext w0 w w' L x'):MS w0 w' L.m P x'∧Kept w w' (fun k=>¬ P k):=by
 obtain ⟨L',sig,now,wv,kv,pv,gv,ts,hm,es,em,hF,hk⟩:=hn
 refine ⟨⟨L',sig,now,wv,kv,pv,gv,ts,hm,em,fun k hp=>⟨Nat.lt_of_lt_of_le (hP k hp).1 hk.size,fun ho=>?_⟩⟩,hk.mono (fun k ho hp=>(hP k hp).2 ho)⟩
 rcases hF k ho with h | h
 ·exact (hP k hp).2 h
 ·exact absurd (hP k hp).1 (Nat.not_lt.2 h)
theorem MAt.own_lt (h:MAt w0 w L sig now wv kv pv gv ts x):∀ k,L.own k→k < w.heap.size:=by
 rintro k (h1 | h1 | h1)
 ·exact h.st.at_.lt k h1
 ·exact st_lt h.fl k h1
 ·exact h1 ▸ h.m_lt
theorem MS.kept (h:MS w0 w m P x) (hk:Kept w w1 (fun _=>False)) (hP:∀ k,P' k→P k∨(w.heap.size≤k∧k < w1.heap.size)):MS w0 w1 m P' x:=by
 obtain ⟨L,sig,now,wv,kv,pv,gv,ts,hm,em,hp⟩:=h
 refine ⟨L,sig,now,wv,kv,pv,gv,ts,hm.kept hk,em,fun k h1=>?_⟩
 rcases hP k h1 with h2 | h2
 ·exact ⟨Nat.lt_of_lt_of_le (hp k h2).1 hk.size,(hp k h2).2⟩
 ·refine ⟨h2.2,fun ho=>?_⟩
  have:=hm.own_lt k ho
  omega
theorem MS.bel (h:MS w0 w m P x):Below w0.heap.size w0 w:=by
 obtain ⟨L,sig,now,wv,kv,pv,gv,ts,hm,-,-⟩:=h
 exact hm.st.bel
theorem arm_ms (h:MS w0 w m P x) (hd:x.down=false) (o k:Int):Calls Tryz.prog 11 #[.pointer (some ⟨m,0,none⟩),.int .i64 o,.int .i64 k] w fun e w'=>e=.returned (.int .i64 (x.fd.arm o k).1)∧MS w0 w' m P { x with fd:=(x.fd.arm o k).2 }:=by
 obtain ⟨L,sig,now,wv,kv,pv,gv,ts,hm,rfl,hp⟩:=h
 refine (marm_any hm hd o k).mono ?_
 rintro e w' ⟨rfl,hn⟩
 exact ⟨rfl,(ms_next hp hn).1⟩
theorem recover_ms (h:MS w0 w m P x) (hd:x.down=true) (hl:(x.fd.restart.safe ++ x.fd.restart.loose).length≤10000000000000) (sn:SnapD) (hb:Back x sn) :
  Calls Tryz.prog 12 #[.pointer (some ⟨m,0,none⟩)] w fun e w'=>e=.returned (.int .i64 0)∧MS w0 w' m P ⟨(Opened x.fd.restart).2,sn,false⟩:=by
 obtain ⟨L,sig,now,wv,kv,pv,gv,ts,hm,rfl,hp⟩:=h
 refine (mrecover_any hm hd hl sn hb).mono ?_
 rintro e w' ⟨rfl,hn⟩
 exact ⟨rfl,(ms_next hp hn).1⟩
theorem create_ms (h:MS w0 w m P x) (hs:SnOk x.snap) (id:Int) (hid:0≤id∧id≤65536) (hr:x.fd.safe.length+x.fd.loose.length≤100000000000000) :
  Calls Tryz.prog 7 #[.pointer (some ⟨m,0,none⟩),.int .i64 id] w fun e w'=>
   (roomV x id≠0∧e=.returned (.int .i64 (roomV x id))∧MS w0 w' m P x∧Kept w w' (fun k=>¬ P k)) ∨
   (roomV x id=0∧∃ st,Sm st∧st.s.id=id∧e=.returned (.int .i64 (savedR x (withG x st)).1)∧MS w0 w' m P (saved x (withG x st))∧Kept w w' (fun k=>¬ P k)):=by
 obtain ⟨L,sig,now,wv,kv,pv,gv,ts,hm,rfl,hp⟩:=h
 refine (mcreate_any hm hs id hid hr).mono ?_
 rintro e w' (⟨h1,rfl,hn⟩ | ⟨h1,st,h2,h3,rfl,hn⟩)
 ·exact .inl ⟨h1,rfl,ms_next hp hn⟩
 ·exact .inr ⟨h1,st,h2,h3,rfl,ms_next hp hn⟩
theorem leave_ms (h:MS w0 w m P x) (hs:SnOk x.snap) (hd:x.down=false) (id:Int) (hr:x.fd.safe.length+x.fd.loose.length≤100000000000000) :
  Calls Tryz.prog 6 #[.pointer (some ⟨m,0,none⟩),.int .i64 id] w fun e w'=>
   (ix x.snap.groups id=none∧e=.returned (.int .i64 110)∧MS w0 w' m P x∧Kept w w' (fun k=>¬ P k)) ∨
   (∃ k,ix x.snap.groups id=some k∧e=.returned (.int .i64 (savedR x (withoutG x k)).1)∧MS w0 w' m P (saved x (withoutG x k))∧Kept w w' (fun k=>¬ P k)):=by
 obtain ⟨L,sig,now,wv,kv,pv,gv,ts,hm,rfl,hp⟩:=h
 refine (mleave_any hm hs hd id hr).mono ?_
 rintro e w' (⟨h1,rfl,hn⟩ | ⟨k,h1,rfl,hn⟩)
 ·exact .inl ⟨h1,rfl,ms_next hp hn⟩
 ·exact .inr ⟨k,h1,rfl,ms_next hp hn⟩
theorem groups_ms (h:MS w0 w m P x) (hn:x.snap.groups.length≤900) :
  Calls Tryz.prog 9 #[.pointer (some ⟨m,0,none⟩)] w fun e w'=>∃ A c,e=.returned (.slice A (gids x).length c)∧RowIn w' A (gids x).length (ic (gids x))∧MS w0 w' m P x∧Kept w w' (fun _=>False):=by
 obtain ⟨L,sig,now,wv,kv,pv,gv,ts,hm,rfl,hp⟩:=h
 refine (groups_any hm hn).mono ?_
 rintro e w' ⟨A,c,rfl,hr,hk⟩
 exact ⟨A,c,rfl,hr,⟨L,sig,now,wv,kv,pv,gv,ts,hm.kept hk,rfl,fun k h1=>⟨Nat.lt_of_lt_of_le (hp k h1).1 hk.size,(hp k h1).2⟩⟩,hk⟩
end
/-- The client that a law begins with. -/
def md0:MD:=⟨Disk.FD.new,snapNew,false⟩
def MOne (w0:World) (e:Ending) (w':World):Prop:=∃ s m,e=.returned (.tuple #[.pointer (some ⟨s,0,none⟩),.pointer (some ⟨m,0,none⟩)])∧MS w0 w' m (fun _=>False) md0
set_option maxHeartbeats 1600000 in
theorem one_any (w0 w:World) (hb:Below w0.heap.size w0 w) (hg:Gl w0):Calls Tryz.prog 5 #[] w (MOne w0):=by
 have HB:=lh hb
 have HG:=lh hg
 clear hb hg
 go_enter Tryz.func5,Tryz.ntmps5
 go_wp2_with (fail)
 refine (new_any w0 w HB.out HG.out).mono ?_
 rintro e w1 ⟨s,F,rfl,hs,-,-⟩
 have S1:=lh hs
 have N:Hid (TNext w0 w1 w1 s F ⟨[],0⟩):=lh ⟨F,hs,fun k hk=>.inl hk,Kept.refl _ _⟩
 clear hs
 go_wp2_with (fail)
 refine (N.out.tt fun F1 h1=>fresh_tt h1).mono ?_
 rintro e w2 ⟨t1,s2,rfl,ht1,hn⟩
 have T1:=lh ht1
 replace N:=lh hn
 clear hn ht1
 go_wp2_with (fail)
 refine (N.out.tt fun F1 h1=>fresh_tt h1).mono ?_
 rintro e w3 ⟨t2,s3,rfl,-,hn⟩
 replace N:=lh hn
 clear hn
 go_wp2_with (fail)
 refine (N.out.tt fun F1 h1=>pub_tt t1 h1).mono ?_
 rintro e w4 ⟨t3,s4,rfl,-,hn⟩
 replace N:=lh hn
 clear hn
 go_wp2_with (fail)
 refine (N.out.tt fun F1 h1=>pub_tt t2 h1).mono ?_
 rintro e w5 ⟨t4,s5,rfl,-,hn⟩
 obtain ⟨F5,hs5,-,-⟩:=hn
 have S5:=lh (hs5.kept ((Kept.refl w5 (fun _=>False)).alloc (.cells #[.int .i64 t3,.int .i64 t4] 3)))
 clear hs5 N S1
 go_wp2_with (fail)
 refine (mnew_any w0 _ s F5 s5 t1 S5.out ⟨by omega,by have:=T1.out; omega⟩ w5.heap.size t3 t4 (heap_alloc_new _ _)).mono ?_
 rintro e w6 ⟨L,wv,kv,pv,gv,rfl,hm,hls,-⟩
 have HM:=lh hm
 clear hm
 go_wp2_with (fail)
 refine (mat_any HM.out 3).mono ?_
 rintro e w7 ⟨rfl,hn⟩
 have MM:=lh (ms_next (P:=fun _=>False) (fun k h=>h.elim) hn).1
 clear hn
 go_wp2
 go_ret2
 exact ⟨s,L.m,rfl,MM.out⟩
end Go.Proofs.YtogkkfdkeefjnaaGreatDoor.Member
namespace Go.Proofs.YtogkkfdkeefjnaaGreatDoor.Member
open Go.RowKit Go.Proofs.YtogkkfdkeefjnaaGreatDoorBase Go.Proofs.YtogkkfdkeefjnaaGreatDoorLex2 Go.Proofs.YtogkkfdkeefjnaaGreatDoorNum Go.Proofs.YtogkkfdkeefjnaaGreatDoor.Codec Go.Proofs.YtogkkfdkeefjnaaGreatDoor.Term
set_option linter.unusedVariables false
set_option maxRecDepth 100000
set_option linter.unusedSimpArgs false
def md1:MD:=⟨⟨[],[],1,0,false⟩,snapNew,false⟩
def md2:MD:=⟨⟨[],[],0,0,true⟩,snapNew,true⟩
def md4:MD:=⟨⟨[],[],2,2,false⟩,snapNew,false⟩
def md5 (sn:SnapD):MD:=⟨⟨frameS (bsRr snapG sn),[],0,2,true⟩,snapNew,true⟩
def md6 (sn:SnapD):MD:=⟨⟨frameS (bsRr snapG sn),[],0,2,false⟩,sn,false⟩
theorem saved_one (sn:SnapD):(savedR md1 sn).1=140∧saved md1 sn=md2:=by
 have h:savedR md1 sn=(140,⟨[],[],0,0,true⟩):=by simp [savedR,addJ,md1,Disk.FD.add,Disk.FD.burns,Disk.FD.burn,Disk.FD.kept]
 exact ⟨by rw [h],by unfold saved; rw [h]; simp [md1,md2]⟩
theorem saved_two (sn:SnapD):(savedR md4 sn).1=140∧saved md4 sn=md5 sn:=by
 have h:savedR md4 sn=(140,⟨frameS (bsRr snapG sn),[],0,2,true⟩):=by simp [savedR,addJ,md4,Disk.FD.add,Disk.FD.sync,Disk.FD.burns,Disk.FD.burn,Disk.FD.kept]
 exact ⟨by rw [h],by unfold saved; rw [h]; simp [md4,md5]⟩
theorem back_one:Back md2 snapNew∧(Opened md2.fd.restart).2=Disk.FD.new:=by
 have h:Opened md2.fd.restart=([],Disk.FD.new):=opened_new
 exact ⟨.inl ⟨by rw [h],rfl⟩,by rw [h]⟩
theorem back_two {sn:SnapD} (hs:SnOk sn):Back (md5 sn) sn∧(Opened (md5 sn).fd.restart).2=(md6 sn).fd:=by
 have h1:(md5 sn).fd.restart=⟨frameS (bsRr snapG sn),[],0,2,false⟩:=rfl
 have h2:scanL (frameS (bsRr snapG sn))=([bsRr snapG sn],(frameS (bsRr snapG sn)).length):=by
  have:=scanL_frames [bsRr snapG sn] [] (fun t ht=>by
   obtain rfl:=List.mem_singleton.1 ht
   have:=hs.enc.2
   omega) (by rfl)
  simpa using this
 have h:Opened (md5 sn).fd.restart=([bsRr snapG sn],(md6 sn).fd):=by
  unfold Opened
  rw [h1]
  simp only [List.append_nil,h2]
  rw [if_neg (by omega)]
  rfl
 exact ⟨.inr ⟨[],by rw [h]; rfl,hs⟩,by rw [h]⟩
set_option maxHeartbeats 3200000 in
theorem anchor_any (w0 w:World) (hb:Below w0.heap.size w0 w) (hg:Gl w0):Calls Tryz.prog 4 #[] w fun e w'=>e=.returned (.bool true)∧Below w0.heap.size w0 w':=by
 have HB:=lh hb
 have HG:=lh hg
 clear hb hg
 go_enter Tryz.func4,Tryz.ntmps4
 go_wp2_with (fail)
 refine (one_any w0 w HB.out HG.out).mono ?_
 rintro e w1 ⟨s,m,rfl,hm⟩
 have M:=lh hm
 clear hm
 go_wp2_with (fail)
 refine (show Calls Tryz.prog 11 #[.pointer (some ⟨m,0,none⟩),.int .i64 1,.int .i64 0] w1 fun e w'=>e=.returned (.int .i64 0)∧MS w0 w' m (fun _=>False) md1 from arm_ms M.out rfl 1 0).mono ?_
 rintro e w2 ⟨rfl,hm⟩
 replace M:=lh hm
 clear hm
 go_wp2_with (fail)
 refine (show Calls Tryz.prog 7 #[.pointer (some ⟨m,0,none⟩),.int .i64 5] w2 fun e w'=>e=.returned (.int .i64 140)∧MS w0 w' m (fun _=>False) md2 from (create_ms M.out snok_new 5 (by decide) (by decide)).mono (by
  rintro e w' (⟨h,-⟩ | ⟨-,st,-,-,rfl,hm,-⟩)
  ·exact absurd rfl h
  ·rw [(saved_one _).1]
   rw [(saved_one _).2] at hm
   exact ⟨rfl,hm⟩)).mono ?_
 rintro e w3 ⟨rfl,hm⟩
 replace M:=lh hm
 clear hm
 go_wp2_with (fail)
 refine (show Calls Tryz.prog 7 #[.pointer (some ⟨m,0,none⟩),.int .i64 5] w3 fun e w'=>e=.returned (.int .i64 170)∧MS w0 w' m (fun _=>False) md2 from (create_ms M.out snok_new 5 (by decide) (by decide)).mono (by
  rintro e w' (⟨-,rfl,hm,-⟩ | ⟨h,-⟩)
  ·exact ⟨rfl,hm⟩
  ·exact absurd h (by decide))).mono ?_
 rintro e w4 ⟨rfl,hm⟩
 replace M:=lh hm
 clear hm
 go_wp2_with (fail)
 refine (show Calls Tryz.prog 12 #[.pointer (some ⟨m,0,none⟩)] w4 fun e w'=>e=.returned (.int .i64 0)∧MS w0 w' m (fun _=>False) md0 from (recover_ms M.out rfl (by decide) snapNew back_one.1).mono (by
  rintro e w' ⟨rfl,hm⟩
  rw [back_one.2] at hm
  exact ⟨rfl,hm⟩)).mono ?_
 rintro e w5 ⟨rfl,hm⟩
 replace M:=lh hm
 clear hm
 go_wp2_with (fail)
 refine (groups_ms M.out (by decide)).mono ?_
 rintro e w6 ⟨A,c,rfl,-,hm,-⟩
 replace M:=lh hm
 clear hm
 have g0:(gids md0).length=0:=rfl
 rw [g0]
 clear g0
 go_wp2_with (fail)
 refine (show Calls Tryz.prog 11 #[.pointer (some ⟨m,0,none⟩),.int .i64 2,.int .i64 2] w6 fun e w'=>e=.returned (.int .i64 0)∧MS w0 w' m (fun _=>False) md4 from arm_ms M.out rfl 2 2).mono ?_
 rintro e w7 ⟨rfl,hm⟩
 replace M:=lh hm
 clear hm
 go_wp2_with (fail)
 refine (show Calls Tryz.prog 7 #[.pointer (some ⟨m,0,none⟩),.int .i64 5] w7 fun e w'=>e=.returned (.int .i64 140)∧∃ st,Sm st∧MS w0 w' m (fun _=>False) (md5 (withG md4 st)) from (create_ms M.out snok_new 5 (by decide) (by decide)).mono (by
  rintro e w' (⟨h,-⟩ | ⟨-,st,hst,-,rfl,hm,-⟩)
  ·exact absurd rfl h
  ·rw [(saved_two _).1]
   rw [(saved_two _).2] at hm
   exact ⟨rfl,st,hst,hm⟩)).mono ?_
 rintro e w8 ⟨rfl,st,hst,hm⟩
 replace M:=lh hm
 have hso:SnOk (withG md4 st):=snok_new.more hst (by decide)
 have HSO:=lh hso
 clear hm hst hso
 go_wp2_with (fail)
 refine (show Calls Tryz.prog 12 #[.pointer (some ⟨m,0,none⟩)] w8 fun e w'=>e=.returned (.int .i64 0)∧MS w0 w' m (fun _=>False) (md6 (withG md4 st)) from (recover_ms M.out rfl (by
  have h1:=HSO.out.enc.2
  have h2:=frameS_length (bsRr snapG (withG md4 st))
  have h3:=putN_len (bsRr snapG (withG md4 st)).length ⟨[],0⟩
  have h4:(encN (bsRr snapG (withG md4 st)).length).length≤8:=by simpa [putN] using h3
  show (frameS (bsRr snapG (withG md4 st)) ++ []).length≤_
  rw [List.append_nil,h2]
  omega) (withG md4 st) (back_two HSO.out).1).mono (by
  rintro e w' ⟨rfl,hm⟩
  rw [(back_two HSO.out).2] at hm
  exact ⟨rfl,hm⟩)).mono ?_
 rintro e w9 ⟨rfl,hm⟩
 replace M:=lh hm
 clear hm
 go_wp2_with (fail)
 refine (groups_ms M.out (show 1≤900 by decide)).mono ?_
 rintro e wa ⟨A2,c2,rfl,-,hm,-⟩
 have BL:=lh hm.bel
 clear hm M
 have g0:(gids (md6 (withG md4 st))).length=1:=rfl
 rw [g0]
 clear g0
 go_wp2
 go_ret
 exact ⟨rfl,BL.out⟩
end Go.Proofs.YtogkkfdkeefjnaaGreatDoor.Member
namespace Go.Proofs.YtogkkfdkeefjnaaGreatDoor.Member
open Go.RowKit Go.Proofs.YtogkkfdkeefjnaaGreatDoorBase Go.Proofs.YtogkkfdkeefjnaaGreatDoorLex2 Go.Proofs.YtogkkfdkeefjnaaGreatDoorNum Go.Proofs.YtogkkfdkeefjnaaGreatDoor.Codec Go.Proofs.YtogkkfdkeefjnaaGreatDoor.Term
set_option linter.unusedVariables false
set_option maxRecDepth 100000
set_option linter.unusedSimpArgs false
structure Inv (l:List Int) (i:Nat) (x:MD):Prop where
 gids:gids x=l
 nd:l.Nodup
 sn:SnOk x.snap
 down:x.down=false
 fdown:x.fd.down=false
 fuse:x.fd.fuse=0
 sz:x.fd.safe.length+x.fd.loose.length≤2100 * i
section
variable {l : List Int} {i : Nat} {x : MD}
theorem Inv.next (h:Inv l i x):Inv l (i+1) x:=⟨h.gids,h.nd,h.sn,h.down,h.fdown,h.fuse,by have:=h.sz; omega⟩
theorem Inv.len (h:Inv l i x):l.length=x.snap.groups.length:=by rw [← h.gids]; simp [Member.gids]
theorem Inv.le4 (h:Inv l i x):l.length≤4:=by rw [h.len]; exact h.sn.len
theorem Inv.room (h:Inv l i x) (hi:i≤40):x.fd.safe.length+x.fd.loose.length≤100000000000000:=by have:=h.sz; omega
theorem Inv.get (h:Inv l i x) {j:Nat} {g:StfD} (hg:x.snap.groups[j]?=some g):l[j]?=some g.s.id:=by rw [← h.gids]; simp [Member.gids,hg]
theorem Inv.ix_no (h:Inv l i x) {id:Int} (hn:∀ j:Nat,l[j]?≠some id):ix x.snap.groups id=none:=ix_none fun j g _ hg e=>hn j (by rw [h.get hg,e])
theorem Inv.ix_at (h:Inv l i x) {id:Int} {j:Nat} (hj:l[j]?=some id):ix x.snap.groups id=some j:=by
 have hl:j < x.snap.groups.length:=by rw [← h.len]; exact (List.getElem?_eq_some_iff.1 hj).1
 have hg:x.snap.groups[j]?=some x.snap.groups[j]:=List.getElem?_eq_getElem hl
 have h1:=h.get hg
 rw [hj] at h1
 refine ix_some hg (Option.some.inj h1).symm fun t y ht hy e=>?_
 have h2:=h.get hy
 rw [e] at h2
 have hlt:=(List.getElem?_eq_some_iff.1 h2).1
 have:=(List.getElem?_inj hlt h.nd).1 (h2.trans hj.symm)
 omega
theorem Inv.svd (h:Inv l i x) {sn:SnapD} (hs:SnOk sn):(savedR x sn).1=0∧(saved x sn).snap=sn∧(saved x sn).down=false∧(saved x sn).fd.down=false∧(saved x sn).fd.fuse=0∧(saved x sn).fd.safe.length+(saved x sn).fd.loose.length≤2100 * (i+1):=by
 have h1:=hs.enc.2
 have h2:=frameS_length (bsRr snapG sn)
 have h3:=putN_len (bsRr snapG sn).length ⟨[],0⟩
 have h4:(encN (bsRr snapG sn).length).length≤8:=by simpa [putN] using h3
 have h5:=h.sz
 obtain ⟨⟨sf,lo,fu,ke,dn⟩,s0,d0⟩:=x
 obtain rfl:d0=false:=h.down
 obtain rfl:dn=false:=h.fdown
 obtain rfl:fu=0:=h.fuse
 have hr:savedR ⟨⟨sf,lo,0,ke,false⟩,s0,false⟩ sn=(0,⟨sf ++ (lo ++ frameS (bsRr snapG sn)),[],0,ke,false⟩):=by simp [savedR,addJ,Disk.FD.add,Disk.FD.sync,Disk.FD.burns,Disk.FD.burn]
 have hv:saved ⟨⟨sf,lo,0,ke,false⟩,s0,false⟩ sn=⟨⟨sf ++ (lo ++ frameS (bsRr snapG sn)),[],0,ke,false⟩,sn,false⟩:=by unfold saved; rw [hr]; simp
 rw [hr,hv]
 refine ⟨rfl,rfl,rfl,rfl,rfl,?_⟩
 simp only [List.length_append,List.length_nil] at h5 ⊢
 omega
theorem Inv.more (h:Inv l i x) {st:StfD} {id:Int} (hs:Sm st) (hid:st.s.id=id) (hn:∀ j:Nat,l[j]?≠some id) (h4:l.length < 4):(savedR x (withG x st)).1=0∧Inv (l ++ [id]) (i+1) (saved x (withG x st)):=by
 have hso:SnOk (withG x st):=h.sn.more hs (by rw [← h.len]; exact h4)
 obtain ⟨a,b,c,d,e,f⟩:=h.svd hso
 refine ⟨a,⟨?_,?_,by rw [b]; exact hso,c,d,e,f⟩⟩
 ·rw [← h.gids,← hid]
  unfold Member.gids
  rw [b]
  simp [withG]
 ·rw [List.nodup_append]
  refine ⟨h.nd,List.nodup_cons.2 ⟨by simp,List.nodup_nil⟩,fun y hy z hz e=>?_⟩
  obtain rfl:=List.mem_singleton.1 hz
  subst e
  obtain ⟨j,hj⟩:=List.getElem?_of_mem hy
  exact hn j hj
theorem Inv.less (h:Inv l i x) (k:Nat):(savedR x (withoutG x k)).1=0∧Inv (cutAt l k) (i+1) (saved x (withoutG x k)):=by
 have hso:SnOk (withoutG x k):=h.sn.less k
 obtain ⟨a,b,c,d,e,f⟩:=h.svd hso
 refine ⟨a,⟨?_,?_,by rw [b]; exact hso,c,d,e,f⟩⟩
 ·rw [← h.gids]
  unfold Member.gids
  rw [b]
  simp [withoutG,cutAt,List.map_take,List.map_drop]
 ·have h1:=List.take_append_drop k l
  have hsub:(cutAt l k).Sublist l:=by
   unfold cutAt
   conv=>rhs; rw [← List.take_append_drop k l]
   refine List.Sublist.append (List.Sublist.refl _) ?_
   rw [← List.drop_drop]
   exact List.drop_sublist _ _
  exact h.nd.sublist hsub
theorem Inv.roomV_at (h:Inv l i x) {id:Int} {j:Nat} (hj:l[j]?=some id):roomV x id=110:=by
 unfold roomV
 rw [h.down,h.ix_at hj]
 rfl
theorem Inv.roomV_no (h:Inv l i x) {id:Int} (hn:∀ j:Nat,l[j]?≠some id):roomV x id=if 4≤l.length then 171 else 0:=by
 unfold roomV
 rw [h.down,h.ix_no hn,h.len]
 rfl
theorem Inv.far (h:Inv l i x):ix x.snap.groups 1099511627776=none:=by
 refine ix_none fun j g _ hg e=>?_
 obtain ⟨id,k,cl,sg,lf,a1,a2,a3,a4,a5,a6,a7,a8,cf,it,cx,rt,rfl,hid,-⟩:=h.sn.sm g (List.mem_of_getElem? hg)
 have:id=1099511627776:=e
 omega
end
theorem inv_new:Inv [] 0 md0:=⟨rfl,List.nodup_nil,snok_new,rfl,rfl,rfl,by decide⟩
end Go.Proofs.YtogkkfdkeefjnaaGreatDoor.Member
namespace Go.Proofs.YtogkkfdkeefjnaaGreatDoor.Member
open Go.RowKit Go.Proofs.YtogkkfdkeefjnaaGreatDoorBase Go.Proofs.YtogkkfdkeefjnaaGreatDoorLex2 Go.Proofs.YtogkkfdkeefjnaaGreatDoorNum Go.Proofs.YtogkkfdkeefjnaaGreatDoor.Codec Go.Proofs.YtogkkfdkeefjnaaGreatDoor.Term
set_option linter.unusedVariables false
set_option maxRecDepth 100000
set_option linter.unusedSimpArgs false
theorem own_base {w:World} {b b':Nat} {e:TypeId} {size:Nat} {v:Value} {n:Nat} {xs:List Value} (h:w.ownsRow b e size v n xs) (hb:b'≤b):w.ownsRow b' e size v n xs:=by
 refine ⟨h.1,?_⟩
 rcases h.2 with h | ⟨g,cap,cur,h1,h2,h3⟩
 ·exact .inl h
 ·exact .inr ⟨g,cap,cur,h1,Nat.le_trans hb h2,h3⟩
/-- The law's row of numbers, and that it isn't the client's. -/
def InAt (w:World) (ov:Value) (l:List Int):Prop:=w.ownsRow 0 3 1 ov l.length (ic l)
def PB (ov:Value) (j:Nat):Prop:=ov.ownBlock=some j
theorem InAt.keep {w w':World} {ov:Value} {l:List Int} {F:Nat→Prop} (h:InAt w ov l) (hk:Kept w w' F) (hF:∀ j,PB ov j→¬ F j):InAt w' ov l:=own_keptF h hk hF
section
variable {w0 w w1 w' : World} {L : Lay} {sig now : Int} {wv kv pv gv : Value} {ts : TS} {x x' : MD} {m : Nat} {P P' : Nat → Prop}
theorem InAt.row {w:World} {B:Option Addr} {n cp:Nat} {l:List Int} (h:InAt w (.slice B n cp) l):n=l.length∧RowIn w B l.length (ic l):=by
 obtain ⟨A,c,e,hr,-⟩:=own_rowIn h
 simp only [Value.slice.injEq] at e
 obtain ⟨rfl,rfl,rfl⟩:=e
 exact ⟨rfl,hr⟩
theorem InAt.form {w:World} {ov:Value} {l:List Int} (h:InAt w ov l):∃ B cp,ov=.slice B l.length cp:=by
 obtain ⟨A,c,e,-,-⟩:=own_rowIn h
 exact ⟨A,c,e⟩
theorem ic_one (l:List Int):∀ u∈ic l,u.oneCell'=true:=by
 intro u hu
 obtain ⟨i,-,rfl⟩:=List.mem_map.1 hu
 rfl
theorem src_one (w:World) (x:Int):Src Tryz.prog 1 22 (.slice (some ⟨w.heap.size,0,none⟩) 1 1) 1 [.int .i64 x] (w.alloc (.cells #[.int .i64 x] 3)):=by
 refine Src.ofSlice _ elemI.under _ 1 1 _ rfl (fun j u hj=>?_) (by intro z hz; rw [List.mem_singleton.1 hz]; rfl)
 rw [Addr.add_lit,Nat.zero_add,cellOf (heap_alloc_new w _)]
 simpa using hj
theorem src_take {w:World} {g cp t:Nat} {l:List Int} (hn:∀ j u,(ic l)[j]?=some u→w.cell? ⟨g,j,none⟩=some u) (ht:t≤l.length):Src Tryz.prog 1 22 (.slice (some ⟨g,0,none⟩) t cp) t ((ic l).take t) w:=by
 refine Src.ofSlice _ elemI.under _ t cp _ (by rw [List.length_take]; unfold ic; rw [List.length_map]; omega) (fun j u hj=>?_) (fun u hu=>ic_one l u (List.mem_of_mem_take hu))
 rw [Addr.add_lit,Nat.zero_add]
 rw [List.getElem?_take] at hj
 split at hj
 ·exact hn j u hj
 ·cases hj
theorem src_drop {w:World} {g cp t:Nat} {l:List Int} (hn:∀ j u,(ic l)[j]?=some u→w.cell? ⟨g,j,none⟩=some u) (ht:t < l.length) (hq:l.length≤cp):Src Tryz.prog 1 22 (.slice (if cp=t+1 then some ⟨g,0,none⟩ else some ⟨g,t+1,none⟩) (l.length - (t+1)) (cp - (t+1))) (l.length - (t+1)) ((ic l).drop (t+1)) w:=by
 have hlen:((ic l).drop (t+1)).length=l.length - (t+1):=by rw [List.length_drop]; unfold ic; rw [List.length_map]
 by_cases hc:cp=t+1
 ·rw [if_pos hc]
  have h0:l.length - (t+1)=0:=by omega
  have hnil:(ic l).drop (t+1)=[]:=List.eq_nil_of_length_eq_zero (by omega)
  rw [h0,hnil]
  exact Src.ofSlice _ elemI.under _ 0 _ [] rfl (fun j u h=>by cases h) (fun u h=>by cases h)
 ·rw [if_neg hc]
  refine Src.ofSlice _ elemI.under _ _ _ _ (by rw [hlen,Nat.mul_one]) (fun j u hj=>?_) (fun u hu=>ic_one l u (List.mem_of_mem_drop hu))
  rw [Addr.add_lit]
  rw [List.getElem?_drop] at hj
  exact hn _ u hj
theorem in_more {w:World} {b:Nat} {v:Value} {l:List Int} {id:Int} (h:w.ownsRow b 3 1 v (l.length+1) (ic l ++ [.int .i64 id])):InAt w v (l ++ [id]):=by
 have h:=own_base (b':=0) h (Nat.zero_le _)
 unfold InAt
 have e1:(l ++ [id]).length=l.length+1:=by rw [List.length_append]; rfl
 have e2:ic (l ++ [id])=ic l ++ [.int .i64 id]:=by unfold ic; rw [List.map_append]; rfl
 rw [e1,e2]
 exact h
theorem in_less {w:World} {b:Nat} {v:Value} {l:List Int} {t:Nat} (ht:t < l.length) (h:w.ownsRow b 3 1 v (t+(l.length - (t+1))) ((ic l).take t ++ (ic l).drop (t+1))):InAt w v (cutAt l t):=by
 have h:=own_base (b':=0) h (Nat.zero_le _)
 unfold InAt
 have e1:(cutAt l t).length=t+(l.length - (t+1)):=by unfold cutAt; rw [List.length_append,List.length_take,List.length_drop]; omega
 have e2:ic (cutAt l t)=(ic l).take t ++ (ic l).drop (t+1):=by unfold ic cutAt; rw [List.map_append,List.map_take,List.map_drop]
 rw [e1,e2]
 exact h
theorem InAt.some {w:World} {B:Option Addr} {n cp:Nat} {l:List Int} (h:InAt w (.slice B n cp) l) (h0:0 < l.length):∃ g,B=some ⟨g,0,none⟩∧l.length≤cp∧g < w.heap.size∧∀ j u,(ic l)[j]?=some u→w.cell? ⟨g,j,none⟩=some u:=by
 have h1:=h
 rcases h1.2 with ⟨-,h2⟩ | ⟨g,cap,cur,hv,hb,hg,hnc,hcm,hcs,htake⟩
 ·omega
 ·simp only [Value.slice.injEq] at hv
  obtain ⟨rfl,rfl,rfl⟩:=hv
  refine ⟨g,rfl,hnc,blk_lt hg,fun k u hu=>?_⟩
  have:=h.cells (g:=g) rfl k u hu
  rw [Addr.add_lit,Nat.zero_add] at this
  exact this
theorem tell_ms (h:MS w0 w m P x) (hd:x.down=false) (id:Int) (hx:ix x.snap.groups id=none) (hn:x.snap.groups.length≤1000) :
  Calls Tryz.prog 10 #[.pointer (some ⟨m,0,none⟩),.int .i64 id] w fun e w'=>e=.returned (.tuple #[.agg #[.int .i64 0,.int .i64 0,.int .i64 0,.int .i64 0,.int .i64 0,.int .i64 0,.int .i64 0,.int .i64 0,.int .i64 0,.int .i64 0,.int .i64 0,.int .i64 0,.int .i64 0,.int .i64 0,.int .i64 0,.slice none 0 0,.slice none 0 0,.bool false,.int .i64 0,.int .i64 0,.slice none 0 0,.slice none 0 0,.int .i64 0,.int .i64 0,.int .i64 0,.int .i64 0,.int .i64 0,.slice none 0 0,.slice none 0 0,.int .i64 0,.int .i64 0,.int .i64 0,.slice none 0 0,.int .i64 0,.int .i64 0,.int .i64 0,.int .i64 0,.slice none 0 0,.int .i64 0],.int .i64 110])∧Below w0.heap.size w0 w':=by
 obtain ⟨L,sig,now,wv,kv,pv,gv,ts,hm,rfl,hp⟩:=h
 refine (mtell_any hm hd id hx hn).mono ?_
 rintro e w' ⟨rfl,hk⟩
 exact ⟨rfl,(hm.kept hk).st.bel⟩
end
set_option maxHeartbeats 6400000 in
theorem groups_law (w:World) (hg:Gl w) (A:Option Addr) (n c:Nat) (ids:List Int) (hr:RowIn w A n (ic ids)) :
  Calls Tryz.prog 3 #[.slice A n c] w fun e w'=>e=.returned (.bool true)∧Below w.heap.size w w':=by
 have hn:n=ids.length:=by rw [hr.len]; simp [ic]
 have HG:=lh hg
 have HR:=lh hr
 have HN:=lh hn
 clear hg hr hn
 by_cases h40:n≤40
 ·have q40:¬ (40:Int) < n:=by omega
  have H40:=lh h40
  clear h40
  go_enter Tryz.func3,Tryz.ntmps3
  go_wp2_with (fail)
  refine (anchor_any w w (Below.refl _ _) HG.out).mono ?_
  rintro e w1 ⟨rfl,hb1⟩
  have B1:=lh hb1
  clear hb1
  go_wp2_with (fail)
  refine (one_any w w1 B1.out HG.out).mono ?_
  rintro e w2 ⟨s,m,rfl,hm⟩
  have M2:=lh hm
  clear hm
  go_wp2_with (fail)
  clear q40
  go_loopw [5,32] (fun ov iv wr=>∃ k:Nat,k≤n∧iv=.int .i64 k∧∃ (l:List Int) (x:MD),InAt wr ov l∧Inv l k x∧MS w wr m (PB ov) x) (fun _ iv _=>(n - intOf iv).toNat)
  case atStart=>exact ⟨0,Nat.zero_le _,rfl,[],md0,World.ownsRow_nil _ _ _ _,inv_new,M2.out.kept (Kept.refl _ _) (fun k hk=>by cases hk)⟩
  case round=>
   obtain ⟨k,hk,rfl,l,x,ho,hi,hm⟩:=hrel
   have O:=lh ho
   have I:=lh hi
   have M:=lh hm
   clear ho hi hm M2
   by_cases hlast:k=n
   ·subst hlast
    go_wp2_with (fail)
    refine (tell_ms M.out I.out.down 1099511627776 I.out.far (by have:=I.out.sn.len; omega)).mono ?_
    rintro e w3 ⟨rfl,hb3⟩
    have B3:=lh (hb3.alloc hb3.size (.cells #[.int .i64 0,.int .i64 0,.int .i64 0,.int .i64 0,.int .i64 0,.int .i64 0,.int .i64 0,.int .i64 0,.int .i64 0,.int .i64 0,.int .i64 0,.int .i64 0,.int .i64 0,.int .i64 0,.int .i64 0,.slice none 0 0,.slice none 0 0,.bool false,.int .i64 0,.int .i64 0,.slice none 0 0,.slice none 0 0,.int .i64 0,.int .i64 0,.int .i64 0,.int .i64 0,.int .i64 0,.slice none 0 0,.slice none 0 0,.int .i64 0,.int .i64 0,.int .i64 0,.slice none 0 0,.int .i64 0,.int .i64 0,.int .i64 0,.int .i64 0,.slice none 0 0,.int .i64 0] 44))
    have HZ:=lh (heap_alloc_new w3 (.cells #[.int .i64 0,.int .i64 0,.int .i64 0,.int .i64 0,.int .i64 0,.int .i64 0,.int .i64 0,.int .i64 0,.int .i64 0,.int .i64 0,.int .i64 0,.int .i64 0,.int .i64 0,.int .i64 0,.int .i64 0,.slice none 0 0,.slice none 0 0,.bool false,.int .i64 0,.int .i64 0,.slice none 0 0,.slice none 0 0,.int .i64 0,.int .i64 0,.int .i64 0,.int .i64 0,.int .i64 0,.slice none 0 0,.slice none 0 0,.int .i64 0,.int .i64 0,.int .i64 0,.slice none 0 0,.int .i64 0,.int .i64 0,.int .i64 0,.int .i64 0,.slice none 0 0,.int .i64 0] 44))
    clear hb3
    go_wp2_with (first|(refine wpList_store_row rfl 44 (.tmp 13) (.tmp 113) rfl w3.heap.size #[.int .i64 0,.int .i64 0,.int .i64 0,.int .i64 0,.int .i64 0,.int .i64 0,.int .i64 0,.int .i64 0,.int .i64 0,.int .i64 0,.int .i64 0,.int .i64 0,.int .i64 0,.int .i64 0,.int .i64 0,.slice none 0 0,.slice none 0 0,.bool false,.int .i64 0,.int .i64 0,.slice none 0 0,.slice none 0 0,.int .i64 0,.int .i64 0,.int .i64 0,.int .i64 0,.int .i64 0,.slice none 0 0,.slice none 0 0,.int .i64 0,.int .i64 0,.int .i64 0,.slice none 0 0,.int .i64 0,.int .i64 0,.int .i64 0,.int .i64 0,.slice none 0 0,.int .i64 0] rfl rfl _ _ HZ.out (by kernel_rfl) rfl (by simp [Value.oneCell']) ?_; rw [Go.World.setRow_alloc_new]; apply hold))
    unfold Hold
    go_wp2
    go_ret
    exact ⟨rfl,B3.out⟩
   ·have hkn:k < n:=by omega
    obtain ⟨id,hid⟩:∃ id,ids[k]?=some id:=⟨_,List.getElem?_eq_getElem (by rw [← HN.out]; exact hkn)⟩
    obtain ⟨g0,o0,rfl,-,cid⟩:=row_at (rowK HR.out (kept_bel M.out.bel)) hid
    obtain ⟨B,cp,rfl⟩:=O.out.form
    have q0:(0:Int)≤k:=by omega
    have q1:(k:Int) < n:=by omega
    have hk40:k≤40:=by have:=H40.out; omega
    have HK40:=lh hk40
    clear hlast hid hk40 hk
    by_cases hlo:id < 0
    ·go_wp2
     go_roundw
     case rel=>exact ⟨k+1,by omega,by go_num,l,x,O.out,I.out.next,M.out⟩
     case measure=>simp [intOf]; omega
    ·by_cases hhi:65536 < id
     ·go_wp2
      go_roundw
      case rel=>exact ⟨k+1,by omega,by go_num,l,x,O.out,I.out.next,M.out⟩
      case measure=>simp [intOf]; omega
     ·have HID:=lh (show 0≤id∧id≤65536 by omega)
      go_wp2_with (fail)
      clear cid hlo hhi
      go_loopw [8,45] (fun av jv wi=>wi=wr∧∃ j:Nat,j≤l.length∧jv=.int .i64 j∧∃ a:Int,av=.int .i64 a∧((a=-1∧∀ t:Nat,t < j→l[t]?≠some id)∨∃ t:Nat,t < j∧a=t∧l[t]?=some id)) (fun _ jv _=>(l.length - intOf jv).toNat)
      case atStart=>exact ⟨rfl,0,Nat.zero_le _,rfl,-1,rfl,.inl ⟨rfl,fun t h=>absurd h (Nat.not_lt_zero _)⟩⟩
      case round=>
       obtain ⟨rfl,j,hj,rfl,a,rfl,hat⟩:=hrel
       have HAT:=lh hat
       clear hat
       by_cases hjl:j=l.length
       ·subst hjl
        have hl4:=I.out.le4
        have I1:=lh I.out.next
        rcases HAT.out with ⟨rfl,hno⟩ | ⟨t,htl,rfl,htx⟩
        ·have NO:=lh (show ∀ j:Nat,l[j]?≠some id from fun j hj=>hno j (List.getElem?_eq_some_iff.1 hj).1 hj)
         clear hno HAT
         by_cases h3:k % 3=2
         ·have q4:(k:Int) % 3=2:=by omega
          have q44:((k:Int) % 3 == 2)=true:=by simpa using q4
          clear h3
          go_wp2_with (fail)
          refine (leave_ms M.out I.out.sn I.out.down id (I.out.room HK40.out)).mono ?_
          rintro e w3 (⟨-,rfl,hm3,hk3⟩ | ⟨j,hix,-⟩)
          ·have M3:=lh hm3
           have O3:=lh (O.out.keep hk3 (fun j hj hf=>hf hj))
           clear hm3 hk3
           go_wp2_with (fail)
           refine (groups_ms M3.out (by have:=I1.out.sn.len; omega)).mono ?_
           rintro e wg ⟨B2,cp2,rfl,hrow2,hm2,hk2⟩
           rw [I1.out.gids] at hrow2 ⊢
           have M9:=lh hm2
           have ROW9:=lh hrow2
           have O9:=lh (O3.out.keep hk2 (fun _ _ h=>h))
           clear hrow2 hm2 hk2
           go_wp2_with (fail)
           refine (ints_any wg l l B2 B cp2 cp ROW9.out (O9.out.row).2).mono ?_
           rintro e wh ⟨rfl,hk9⟩
           rw [decide_eq_true (rfl:l=l)]
           have M10:=lh (M9.out.kept hk9 (fun k hk=>.inl hk))
           have O10:=lh (O9.out.keep hk9 (fun _ _ h=>h))
           clear hk9
           go_wp2
           go_roundw
           case rel=>exact ⟨k+1,by omega,by go_num,l,x,O10.out,I1.out,M10.out⟩
           case measure=>simp [intOf]; omega
          ·rw [I.out.ix_no NO.out] at hix
           cases hix
         ·have q4:¬ (k:Int) % 3=2:=by omega
          have q44:((k:Int) % 3 == 2)=false:=by simpa using q4
          clear h3
          by_cases h4:4≤l.length
          ·have q5:(4:Int)≤l.length:=by omega
           have hv:roomV x id=171:=by rw [I.out.roomV_no NO.out,if_pos h4]
           have HV:=lh hv
           clear hv
           go_wp2_with (fail)
           refine (create_ms M.out I.out.sn id HID.out (I.out.room HK40.out)).mono ?_
           rw [HV.out]
           rintro e w3 (⟨-,rfl,hm3,hk3⟩ | ⟨h0,-⟩)
           ·have M3:=lh hm3
            have O3:=lh (O.out.keep hk3 (fun j hj hf=>hf hj))
            clear hm3 hk3
            go_wp2_with (fail)
            refine (groups_ms M3.out (by have:=I1.out.sn.len; omega)).mono ?_
            rintro e wg ⟨B2,cp2,rfl,hrow2,hm2,hk2⟩
            rw [I1.out.gids] at hrow2 ⊢
            have M9:=lh hm2
            have ROW9:=lh hrow2
            have O9:=lh (O3.out.keep hk2 (fun _ _ h=>h))
            clear hrow2 hm2 hk2
            go_wp2_with (fail)
            refine (ints_any wg l l B2 B cp2 cp ROW9.out (O9.out.row).2).mono ?_
            rintro e wh ⟨rfl,hk9⟩
            rw [decide_eq_true (rfl:l=l)]
            have M10:=lh (M9.out.kept hk9 (fun k hk=>.inl hk))
            have O10:=lh (O9.out.keep hk9 (fun _ _ h=>h))
            clear hk9
            go_wp2
            go_roundw
            case rel=>exact ⟨k+1,by omega,by go_num,l,x,O10.out,I1.out,M10.out⟩
            case measure=>simp [intOf]; omega
           ·cases h0
          ·have q5:¬ (4:Int)≤l.length:=by omega
           have hv:roomV x id=0:=by rw [I.out.roomV_no NO.out,if_neg h4]
           have HV:=lh hv
           clear hv
           go_wp2_with (fail)
           refine (create_ms M.out I.out.sn id HID.out (I.out.room HK40.out)).mono ?_
           rw [HV.out]
           rintro e w3 (⟨h0,-⟩ | ⟨-,st,hst,hsid,rfl,hm3,hk3⟩)
           ·exact absurd rfl h0
           ·obtain ⟨hc,hi⟩:=I.out.more hst hsid NO.out (by omega)
            rw [hc]
            have M3:=lh hm3
            have I3:=lh hi
            have O3:=lh (O.out.keep hk3 (fun j hj hf=>hf hj))
            have OE:=lh (own_empty w3 w3.heap.size 3 (Nat.le_refl _))
            have KE:=lh ((Kept.refl w3 (fun _=>False)).alloc (.cells #[] 3))
            have SR:=lh (src_row (c:=cp) ((rowK (O3.out.row).2 KE.out)) (t:=22) elemI.under (ic_one l))
            clear hst hsid hm3 hk3 hc hi
            go_wp2_with (at_builtin; apply hold)
            unfold Hold
            refine wpList_append_ownS _ rfl (.tmp 98) (.tmp 99) 22 22 rfl w3.heap.size 3 (.int .i64 0) 1 8 elemI _ 0 [] rfl OE.out _ l.length (ic l) rfl SR.out (by omega) (by simp) (fun v4 w4 o1 g1 b1=>?_)
            simp only [Nat.zero_add,List.nil_append] at o1
            have K4:=lh (Kept.grown KE.out g1 (fun j hj=>.inr (Nat.le_of_eq (Option.some.inj hj))))
            have OA:=lh (own_keep o1 ((Kept.refl w4 (fun _=>False)).alloc (.cells #[.int .i64 id] 3)))
            have SO:=lh (src_one w4 id)
            have BA:=lh (show w3.heap.size≤(w4.alloc (.cells #[.int .i64 id] 3)).heap.size from Nat.le_trans K4.out.size (by simp))
            clear o1 g1 b1 OE SR
            go_wp2_with (at_builtin; apply hold)
            unfold Hold
            refine wpList_append_ownS _ rfl (.tmp 100) (.tmp 102) 22 22 rfl w3.heap.size 3 (.int .i64 0) 1 8 elemI _ l.length (ic l) rfl OA.out _ 1 [.int .i64 id] rfl SO.out (by omega) BA.out (fun v5 w5 o1 g1 b1=>?_)
            have hk5:Kept w3 w5 (fun _=>False):=Kept.grown (K4.out.alloc (.cells #[.int .i64 id] 3)) g1 (fun j hj=>.inr (OA.out.lt j hj).1)
            have hin:=in_more o1
            have hm5:=M3.out.kept (P':=PB v5) hk5 (fun j hj=>.inr (o1.lt j hj))
            obtain ⟨l',hl'⟩:∃ l',l ++ [id]=l':=⟨_,rfl⟩
            obtain ⟨x',hx'⟩:∃ x',saved x (withG x st)=x':=⟨_,rfl⟩
            rw [hl'] at hin I3
            rw [hx'] at hm5 I3
            obtain ⟨B5,cp5,rfl⟩:=hin.form
            have M5:=lh hm5
            have O5:=lh hin
            clear o1 g1 b1 hk5 hin hm5 M3 O3 KE K4 OA SO BA hl' hx'
            go_wp2_with (fail)
            refine (groups_ms M5.out (by have:=I3.out.sn.len; omega)).mono ?_
            rintro e wg ⟨B2,cp2,rfl,hrow2,hm2,hk2⟩
            rw [I3.out.gids] at hrow2 ⊢
            have M9:=lh hm2
            have ROW9:=lh hrow2
            have O9:=lh (O5.out.keep hk2 (fun _ _ h=>h))
            clear hrow2 hm2 hk2
            go_wp2_with (fail)
            refine (ints_any wg l' l' B2 B5 cp2 cp5 ROW9.out (O9.out.row).2).mono ?_
            rintro e wh ⟨rfl,hk9⟩
            rw [decide_eq_true (rfl:l'=l')]
            have M10:=lh (M9.out.kept hk9 (fun k hk=>.inl hk))
            have O10:=lh (O9.out.keep hk9 (fun _ _ h=>h))
            clear hk9
            go_wp2
            go_roundw
            case rel=>exact ⟨k+1,by omega,by go_num,l',x',O10.out,I3.out,M10.out⟩
            case measure=>simp [intOf]; omega
        ·have q6:(0:Int)≤t:=by omega
         have q7:(t:Int) < l.length:=by omega
         have HTX:=lh htx
         have HTL:=lh htl
         clear HAT htx htl
         by_cases h3:k % 3=2
         ·have q4:(k:Int) % 3=2:=by omega
          have q44:((k:Int) % 3 == 2)=true:=by simpa using q4
          clear h3
          go_wp2_with (fail)
          refine (leave_ms M.out I.out.sn I.out.down id (I.out.room HK40.out)).mono ?_
          rw [I.out.ix_at HTX.out]
          rintro e w3 (⟨hix,-⟩ | ⟨j,hix,rfl,hm3,hk3⟩)
          ·cases hix
          ·obtain rfl:t=j:=Option.some.inj hix
           obtain ⟨hc,hi⟩:=I.out.less t
           rw [hc]
           have M3:=lh hm3
           have I3:=lh hi
           have ho3:=O.out.keep hk3 (fun j hj hf=>hf hj)
           obtain ⟨g,rfl,hcap,hgl,hcell⟩:=ho3.some (by have:=HTL.out; omega)
           have q8:(t:Int)≤cp:=by omega
           have q9:(t:Int)+1≤l.length:=by omega
           have qa:(t:Int)+1≤cp:=by omega
           have qs:IntKind.i64.wrap ((t:Int)+1)=(t:Int)+1:=IntWalk.i64_in _ (by omega)
           have qb:(l.length:Int)≤cp:=by omega
           have HCELL:=lh hcell
           have HGL:=lh hgl
           have HCP:=lh hcap
           clear hix hm3 hk3 hc hi ho3 hcell hgl hcap
           have KE:=lh ((Kept.refl w3 (fun _=>False)).alloc (.cells #[] 3)).drew
           have OE:Hid ((w3.alloc (.cells #[] 3)).drew.ownsRow w3.heap.size 3 1 (.slice (some ⟨w3.heap.size,0,none⟩) 0 0) 0 []):=lh (own_empty w3 w3.heap.size 3 (Nat.le_refl _))
           have S1:=lh (src_take (cp:=cp) (fun j u hj=>(cell_same (KE.out.block g HGL.out (fun h=>h))).trans (HCELL.out j u hj)) (Nat.le_of_lt HTL.out))
           go_wp2
           refine wp_region_lex (fun _=>True) [4,0,0,0,4,0,0,0,0,4,0] (by kernel_rfl) (by kernel_rfl) (by kernel_rfl) (trivial) (fun Q' hQ'=>?_)
           simp only [List.zip_cons_cons,List.zip_nil_right]
           repeat((first|(refine wpX_silent ?_ fun K hK=>?_;rfl;apply Exists.intro;refine ⟨fun w'=>?_,?_⟩;go_simp;exact⟨rfl,rfl⟩)|(refine wpX_read ?_ fun K hK=>?_;rfl;apply Exists.intro;refine ⟨?_,?_⟩;go_simp;exact⟨rfl,rfl⟩)|(refine wpX_float ?_ fun K hK=>?_;rfl;apply Exists.intro;refine ⟨fun w' hw'=>?_,?_⟩;(try dsimp only at hw');go_simp;exact⟨rfl,rfl⟩)|(refine wpX_not ?_ fun K hK=>?_;rfl));go_simp;refine hK _ _ ?_;clear hK K)
           refine wpX_heavy ?_ (fun K hK=>?_)
           ·rfl
           go_wp2
           repeat((first|(refine wpX_silent ?_ fun K hK=>?_;rfl;apply Exists.intro;refine ⟨fun w'=>?_,?_⟩;go_simp;exact⟨rfl,rfl⟩)|(refine wpX_read ?_ fun K hK=>?_;rfl;apply Exists.intro;refine ⟨?_,?_⟩;go_simp;exact⟨rfl,rfl⟩)|(refine wpX_float ?_ fun K hK=>?_;rfl;apply Exists.intro;refine ⟨fun w' hw'=>?_,?_⟩;(try dsimp only at hw');go_simp;exact⟨rfl,rfl⟩)|(refine wpX_not ?_ fun K hK=>?_;rfl));go_simp;refine hK _ _ ?_;clear hK K)
           refine wpX_heavy ?_ (fun K hK=>?_)
           ·rfl
           refine wp_append_ownS _ (.tmp 76) (.tmp 79) 22 22 rfl w3.heap.size 3 (.int .i64 0) 1 8 elemI _ 0 [] rfl OE.out _ t ((ic l).take t) rfl S1.out (by omega) (by simp) (fun v4 w4 o1 g1 b1=>?_)
           simp only [Nat.zero_add,List.nil_append] at o1
           have K4:=lh (Kept.grown KE.out g1 (fun j hj=>.inr (Nat.le_of_eq (Option.some.inj hj))))
           have OA:=lh o1
           have S2:=lh (src_drop (cp:=cp) (fun j u hj=>(cell_same (K4.out.block g HGL.out (fun h=>h))).trans (HCELL.out j u hj)) HTL.out HCP.out)
           have BA:=lh K4.out.size
           clear o1 g1 b1 OE S1
           go_simp
           refine hK _ _ ⟨rfl,?_⟩
           clear hK K
           repeat((first|(refine wpX_silent ?_ fun K hK=>?_;rfl;apply Exists.intro;refine ⟨fun w'=>?_,?_⟩;go_simp;exact⟨rfl,rfl⟩)|(refine wpX_read ?_ fun K hK=>?_;rfl;apply Exists.intro;refine ⟨?_,?_⟩;go_simp;exact⟨rfl,rfl⟩)|(refine wpX_float ?_ fun K hK=>?_;rfl;apply Exists.intro;refine ⟨fun w' hw'=>?_,?_⟩;(try dsimp only at hw');go_simp;exact⟨rfl,rfl⟩)|(refine wpX_not ?_ fun K hK=>?_;rfl));go_simp;refine hK _ _ ?_;clear hK K)
           have SRC:=S2.out
           clear S2
           generalize (if cp=t+1 then (some ⟨g,0,none⟩:Option Addr) else some ⟨g,t+1,none⟩)=z25 at SRC ⊢
           have SRC:=lh SRC
           refine wpX_heavy ?_ (fun K hK=>?_)
           ·rfl
           refine wp_append_ownS _ (.tmp 80) (.tmp 84) 22 22 rfl w3.heap.size 3 (.int .i64 0) 1 8 elemI _ t ((ic l).take t) rfl OA.out _ (l.length - (t+1)) ((ic l).drop (t+1)) rfl SRC.out (by omega) BA.out (fun v5 w5 o1 g1 b1=>?_)
           have hk5:Kept w3 w5 (fun _=>False):=Kept.grown K4.out g1 (fun j hj=>.inr (OA.out.lt j hj).1)
           have hin:=in_less HTL.out o1
           have hm5:=M3.out.kept (P':=PB v5) hk5 (fun j hj=>.inr (o1.lt j hj))
           have HM5:=lh hm5
           have HIN:=lh hin
           clear o1 g1 b1 hk5 hin hm5
           go_simp
           refine hK _ _ ⟨rfl,?_⟩
           clear hK K
           repeat((first|(refine wpX_silent ?_ fun K hK=>?_;rfl;apply Exists.intro;refine ⟨fun w'=>?_,?_⟩;go_simp;exact⟨rfl,rfl⟩)|(refine wpX_read ?_ fun K hK=>?_;rfl;apply Exists.intro;refine ⟨?_,?_⟩;go_simp;exact⟨rfl,rfl⟩)|(refine wpX_float ?_ fun K hK=>?_;rfl;apply Exists.intro;refine ⟨fun w' hw'=>?_,?_⟩;(try dsimp only at hw');go_simp;exact⟨rfl,rfl⟩)|(refine wpX_not ?_ fun K hK=>?_;rfl));go_simp;refine hK _ _ ?_;clear hK K)
           refine wpX_nil (hQ' _ _ ?_)
           have hin:=HIN.out
           have hm5:=HM5.out
           obtain ⟨l',hl'⟩:∃ l',cutAt l t=l':=⟨_,rfl⟩
           obtain ⟨x',hx'⟩:∃ x',saved x (withoutG x t)=x':=⟨_,rfl⟩
           rw [hl'] at hin I3
           rw [hx'] at hm5 I3
           obtain ⟨B5,cp5,rfl⟩:=hin.form
           have M5:=lh hm5
           have O5:=lh hin
           clear hin hm5 M3 KE K4 OA BA SRC HIN HM5 HCELL HGL HCP hl' hx'
           go_wp2_with (fail)
           refine (groups_ms M5.out (by have:=I3.out.sn.len; omega)).mono ?_
           rintro e wg ⟨B2,cp2,rfl,hrow2,hm2,hk2⟩
           rw [I3.out.gids] at hrow2 ⊢
           have M9:=lh hm2
           have ROW9:=lh hrow2
           have O9:=lh (O5.out.keep hk2 (fun _ _ h=>h))
           clear hrow2 hm2 hk2
           go_wp2_with (fail)
           refine (ints_any wg l' l' B2 B5 cp2 cp5 ROW9.out (O9.out.row).2).mono ?_
           rintro e wh ⟨rfl,hk9⟩
           rw [decide_eq_true (rfl:l'=l')]
           have M10:=lh (M9.out.kept hk9 (fun k hk=>.inl hk))
           have O10:=lh (O9.out.keep hk9 (fun _ _ h=>h))
           clear hk9
           go_wp2
           go_roundw
           case rel=>exact ⟨k+1,by omega,by go_num,l',x',O10.out,I3.out,M10.out⟩
           case measure=>simp [intOf]; omega
         ·have q4:¬ (k:Int) % 3=2:=by omega
          have q44:((k:Int) % 3 == 2)=false:=by simpa using q4
          clear h3
          have HV:=lh (I.out.roomV_at HTX.out)
          by_cases h4:4≤l.length
          ·have q5:(4:Int)≤l.length:=by omega
           go_wp2_with (fail)
           refine (create_ms M.out I.out.sn id HID.out (I.out.room HK40.out)).mono ?_
           rw [HV.out]
           rintro e w3 (⟨-,rfl,hm3,hk3⟩ | ⟨h0,-⟩)
           ·have M3:=lh hm3
            have O3:=lh (O.out.keep hk3 (fun j hj hf=>hf hj))
            clear hm3 hk3
            go_wp2_with (fail)
            refine (groups_ms M3.out (by have:=I1.out.sn.len; omega)).mono ?_
            rintro e wg ⟨B2,cp2,rfl,hrow2,hm2,hk2⟩
            rw [I1.out.gids] at hrow2 ⊢
            have M9:=lh hm2
            have ROW9:=lh hrow2
            have O9:=lh (O3.out.keep hk2 (fun _ _ h=>h))
            clear hrow2 hm2 hk2
            go_wp2_with (fail)
            refine (ints_any wg l l B2 B cp2 cp ROW9.out (O9.out.row).2).mono ?_
            rintro e wh ⟨rfl,hk9⟩
            rw [decide_eq_true (rfl:l=l)]
            have M10:=lh (M9.out.kept hk9 (fun k hk=>.inl hk))
            have O10:=lh (O9.out.keep hk9 (fun _ _ h=>h))
            clear hk9
            go_wp2
            go_roundw
            case rel=>exact ⟨k+1,by omega,by go_num,l,x,O10.out,I1.out,M10.out⟩
            case measure=>simp [intOf]; omega
           ·cases h0
          ·have q5:¬ (4:Int)≤l.length:=by omega
           go_wp2_with (fail)
           refine (create_ms M.out I.out.sn id HID.out (I.out.room HK40.out)).mono ?_
           rw [HV.out]
           rintro e w3 (⟨-,rfl,hm3,hk3⟩ | ⟨h0,-⟩)
           ·have M3:=lh hm3
            have O3:=lh (O.out.keep hk3 (fun j hj hf=>hf hj))
            clear hm3 hk3
            go_wp2_with (fail)
            refine (groups_ms M3.out (by have:=I1.out.sn.len; omega)).mono ?_
            rintro e wg ⟨B2,cp2,rfl,hrow2,hm2,hk2⟩
            rw [I1.out.gids] at hrow2 ⊢
            have M9:=lh hm2
            have ROW9:=lh hrow2
            have O9:=lh (O3.out.keep hk2 (fun _ _ h=>h))
            clear hrow2 hm2 hk2
            go_wp2_with (fail)
            refine (ints_any wg l l B2 B cp2 cp ROW9.out (O9.out.row).2).mono ?_
            rintro e wh ⟨rfl,hk9⟩
            rw [decide_eq_true (rfl:l=l)]
            have M10:=lh (M9.out.kept hk9 (fun k hk=>.inl hk))
            have O10:=lh (O9.out.keep hk9 (fun _ _ h=>h))
            clear hk9
            go_wp2
            go_roundw
            case rel=>exact ⟨k+1,by omega,by go_num,l,x,O10.out,I1.out,M10.out⟩
            case measure=>simp [intOf]; omega
           ·cases h0
       ·have hjn:j < l.length:=by omega
        obtain ⟨y,hy⟩:∃ y,l[j]?=some y:=⟨_,List.getElem?_eq_getElem hjn⟩
        obtain ⟨g1,o1,rfl,-,cy⟩:=row_at O.out.row.2 hy
        have p0:(0:Int)≤j:=by omega
        have p1:(j:Int) < l.length:=by omega
        have hl4:=I.out.le4
        have HY:=lh hy
        clear hy hjl hj
        by_cases hyi:y=id
        ·go_wp2
         go_roundw
         case rel=>exact ⟨by trivial,j+1,by omega,by go_num,j,rfl,.inr ⟨j,by omega,rfl,by rw [← hyi]; exact HY.out⟩⟩
         case measure=>simp [intOf]; omega
        ·have p2:(y == id)=false:=by simpa using hyi
         have HAT2:Hid ((a=-1∧∀ t:Nat,t < j+1→l[t]?≠some id)∨∃ t:Nat,t < j+1∧a=t∧l[t]?=some id):=lh (by
          rcases HAT.out with ⟨h1,h2⟩ | ⟨t,h1,h2,h3⟩
          ·refine .inl ⟨h1,fun t ht=>?_⟩
           by_cases htj:t=j
           ·subst htj
            rw [HY.out]
            exact fun e=>hyi (Option.some.inj e)
           ·exact h2 t (by omega)
          ·exact .inr ⟨t,by omega,h2,h3⟩)
         clear hyi
         go_wp2
         go_roundw
         case rel=>exact ⟨by trivial,j+1,by omega,by go_num,a,rfl,HAT2.out⟩
         case measure=>simp [intOf]; omega
 ·have q40:(40:Int) < n:=by omega
  clear h40
  go_enter Tryz.func3,Tryz.ntmps3
  go_wp2_with (fail)
  refine (anchor_any w w (Below.refl _ _) HG.out).mono ?_
  rintro e w1 ⟨rfl,hb1⟩
  have B1:=lh hb1
  clear hb1
  go_wp2
  go_ret
  exact ⟨rfl,B1.out⟩
theorem groups_row (A:Option Addr) (n c:Nat) (ids:List Int) (w:World) (hg:Gl w) (hr:RowIn w A n (ids.map (Value.int .i64))) :
  Calls Tryz.prog 3 #[.slice A n c] w fun e w'=>e=.returned (.bool true)∧Below w.heap.size w w':=groups_law w hg A n c ids hr
end Go.Proofs.YtogkkfdkeefjnaaGreatDoor.Member
namespace Go.Proofs.YtogkkfdkeefjnaaGreatDoorBase
open Go.RowKit Go.ChangeShapes Go.WideShapes Go.Deep
set_option linter.unusedVariables false
set_option maxRecDepth 100000
section
variable {H : Type} {enc : TypeId × Value → H} {P : Program} {w : World}
theorem open_ints_row {k:IntKind} {t e:TypeId} {d:DataW H} {A:Option Addr} {n c base:Nat} {held:Bool} {ps:List MemPlace} (ht:P.underlying t=some (.slice e)) (he:P.underlying e=some (.int k)) (hc:P.cellsOf e=1)
  (h:DataW.Trod enc P w base (fun _=>true) held t (.slice A n c) d ps) :
  ∃ l:List Int,RowIn w A n (l.map (Value.int k))∧∀ z∈l,(Lit.int k z).wf=true:=by
 obtain ⟨fuel,hf⟩:=h
 rcases open_ints ht he hc hf with ⟨hcs,_⟩ | ⟨a,len,cap,zs,hcs,_,hl,hm,hlen,hx,hcell,hwf⟩
 ·simp [Value.cells] at hcs
  obtain ⟨rfl,rfl,rfl⟩:=hcs
  exact ⟨[],⟨rfl,Nat.zero_le _,fun h=>absurd h (Nat.lt_irrefl 0)⟩,fun s hs=>by cases hs⟩
 ·simp [Value.cells] at hcs
  obtain ⟨rfl,rfl,rfl⟩:=hcs
  simp only [if_true] at hlen
  refine ⟨zs.take n,rowIn_of_cells (by simp; omega) (Nat.le_trans hl hm) (fun i u hu=>?_),fun s hs=>hwf s (List.mem_of_mem_take hs)⟩
  have hi:i < n:=by
   have:=(List.getElem?_eq_some_iff.1 hu).1
   simp at this; omega
  rw [hcell i (by omega)]
  simp [hi,show i < zs.length by omega] at hu
  simp [List.getD,show i < zs.length by omega,hu]
end
end Go.Proofs.YtogkkfdkeefjnaaGreatDoorBase
