/-
  The codec of lists, read, walked.
-/
import Derived.Test.YtcnikobmepjgcaaCodec9
namespace Go.Proofs.Ytcnikobmepjgcaa.Codec
open Go.RowKit Go.Proofs.YtcnikobmepjgcaaBase Go.Proofs.YtcnikobmepjgcaaLex2 Go.Proofs.YtcnikobmepjgcaaNum
set_option linter.unusedVariables false
set_option linter.unusedSimpArgs false

/-- What the loop has read. -/
structure GetRel {α : Type} (c : Cod α) (T : TypeId) (p : Nat) (d : ByteArray) (res : List α × RS) (m : Nat) (w : World) (vv iv : Value) (wr : World) : Prop where
  it : ∃ (j : Nat) (xs : List α) (s : RS) (us : List Value) (G : Nat → Prop), iv = .int .i64 j ∧ xs.length + j ≤ m ∧ ReaderAt wr p d s ∧ Kept w wr (fun k => k = p) ∧ wr.ownsRow w.heap.size T 1 vv xs.length us ∧
    (∀ (i : Nat) (x : α), xs[i]? = some x → ∃ u, us[i]? = some u ∧ c.rep G wr x u) ∧ (∀ k, G k → w.heap.size ≤ k ∧ k < wr.heap.size ∧ vv.ownBlock ≠ some k) ∧
    res = (xs ++ (getL c.get j s).1, (getL c.get j s).2)

theorem getRel_end {α : Type} {c : Cod α} {T : TypeId} {w wr : World} {vv : Value} {xs : List α} {us : List Value} {G : Nat → Prop} (hf : Fair c)
    (ho : wr.ownsRow w.heap.size T 1 vv xs.length us) (hx : ∀ (i : Nat) (x : α), xs[i]? = some x → ∃ u, us[i]? = some u ∧ c.rep G wr x u) (hG : ∀ k, G k → w.heap.size ≤ k ∧ k < wr.heap.size ∧ vv.ownBlock ≠ some k) (hm : xs.length ≤ 1048576) :
    RowRep c (fun k => w.heap.size ≤ k ∧ k < wr.heap.size) wr xs vv := by
  rcases ho.2 with ⟨rfl, h0⟩ | ⟨g, cap, cur, rfl, hb, hg, hnc, hcm, hcs, htake⟩
  · refine ⟨none, 0, 0, rfl, h0.symm, Nat.zero_le _, fun h => absurd h (Nat.lt_irrefl 0)⟩
  · refine ⟨_, _, _, rfl, rfl, by unfold maxLen; omega, fun _ => ⟨g, 0, rfl, ⟨hb, blk_lt hg⟩, blk_lt hg, fun k x hk => ?_⟩⟩
    obtain ⟨u, hu, hr⟩ := hx k x hk
    refine ⟨u, ?_, hf.mono (fun k hk => ⟨(hG k hk).1, (hG k hk).2.1⟩) hr⟩
    have := ho.cells (g := g) rfl k u hu
    rw [Addr.add_lit] at this
    exact this
theorem countN_le (m : Nat) (s : RS) : (countN m s).1 ≤ m := by
  unfold countN
  simp only
  by_cases h : (m : Int) < ((getN s).1 : Int)
  · rw [if_pos h]
    have : ((getN s).2.fail 22).err ≠ 0 := by unfold RS.fail; split <;> simp_all
    rw [if_pos this]; omega
  · rw [if_neg h]
    split <;> omega

theorem cells_one1 {v : Value} (h : v.oneCell' = true) : v.cells = #[v] := by cases v <;> first | rfl | (simp [Value.oneCell'] at h)
theorem own_grownA {w : World} {base : Nat} {e : TypeId} {size : Nat} {v : Value} {n : Nat} {xs : List Value} (h : w.ownsRow base e size v n xs) (o : Obj) : (w.alloc o).ownsRow base e size v n xs := h.alloc o
/-- One round more. -/
theorem getRel_step {α : Type} {c : Cod α} {T : TypeId} {p : Nat} {d : ByteArray} {res : List α × RS} {m j : Nat} {w wr w2 w3 : World} {vv v' u : Value} {xs : List α} {x : α} {s3 : RS} {us : List Value} {G : Nat → Prop} {o : Obj}
    (hf : Fair c) (hr : res = ((xs ++ [x]) ++ (getL c.get j s3).1, (getL c.get j s3).2)) (hjm : xs.length + (j + 1) ≤ m) (hlt : p < w.heap.size) (hm2 : RMoved wr w2 p d s3) (hu : c.rep (fun k => wr.heap.size ≤ k ∧ k < w2.heap.size) w2 x u)
    (ho : wr.ownsRow w.heap.size T 1 vv xs.length us) (hx : ∀ (i : Nat) (x : α), xs[i]? = some x → ∃ u, us[i]? = some u ∧ c.rep G wr x u) (hG : ∀ k, G k → w.heap.size ≤ k ∧ k < wr.heap.size ∧ vv.ownBlock ≠ some k) (hk : Kept w wr (fun k => k = p)) (hvp : vv.ownBlock ≠ some p)
    (o1 : w3.ownsRow w.heap.size T 1 v' (xs.length + 1) (us ++ [u])) (g1 : (w2.alloc o).grownBy w3 vv.ownBlock) (b1 : ∀ g, v'.ownBlock = some g → vv.ownBlock = some g ∨ (w2.alloc o).heap.size ≤ g) :
    GetRel c T p d res m w v' (.int .i64 (j : Int)) w3 := by
  have hs1 := hk.size
  have hs2 := hm2.2.size
  have hs3 := g1.size
  have hal : (w2.alloc o).heap.size = w2.heap.size + 1 := by simp
  have hvl : ∀ g, vv.ownBlock = some g → g < wr.heap.size := fun g hg => (ho.lt g hg).2
  have K3 : Kept wr w3 (fun k => k = p ∨ vv.ownBlock = some k) := by
    refine Kept.grown ((hm2.2.mono (fun k hk => .inl hk)).alloc o) g1 ?_
    intro k hk
    exact .inl (.inr hk)
  have hul : us.length = xs.length := by simpa using ho.1
  refine ⟨j, xs ++ [x], s3, us ++ [u], fun k => G k ∨ (wr.heap.size ≤ k ∧ k < w2.heap.size), rfl, by simp; omega, ?_, ?_, by simpa using o1, ?_, ?_, hr⟩
  · obtain ⟨a, hb, ha, hra⟩ := hm2.1
    refine ⟨a, ?_, ha, hra⟩
    rw [g1.block p (by omega) (fun e => hvp e.symm), Below.heap_alloc _ _ _ (by omega)]
    exact hb
  · refine Kept.grown (Kept.alloc (Kept.trans hk hm2.2 (fun k hk => .inl hk)) o) g1 ?_
    intro k hk
    exact .inr (ho.lt k hk).1
  · intro i y hi
    rcases Nat.lt_or_ge i xs.length with h | h
    · rw [List.getElem?_append_left h] at hi
      obtain ⟨z, hz, hrz⟩ := hx i y hi
      refine ⟨z, by rw [List.getElem?_append_left (by omega)]; exact hz, ?_⟩
      refine hf.mono (fun k hk => .inl hk) (hf.keep hrz (fun k hk1 hGk => K3.block k hk1 ?_))
      obtain ⟨h1, h2, h3⟩ := hG k hGk
      rintro (rfl | hk)
      · omega
      · exact h3 hk
    · have hi2 : i = xs.length := by
        have := (List.getElem?_eq_some_iff.1 hi).1
        simp at this
        omega
      subst hi2
      rw [List.getElem?_append_right (Nat.le_refl _)] at hi
      simp at hi
      subst hi
      refine ⟨u, by rw [List.getElem?_append_right (by omega), hul]; simp, ?_⟩
      refine hf.mono (fun k hk => .inr hk) (hf.keep hu (fun k hk1 hGk => ?_))
      have hne : some k ≠ vv.ownBlock := fun e => by
        have := hvl k e.symm
        have := hGk.1
        omega
      rw [g1.block k (by omega) hne, Below.heap_alloc _ _ _ hk1]
  · rintro k (hGk | ⟨h1, h2⟩)
    · obtain ⟨h1, h2, h3⟩ := hG k hGk
      refine ⟨h1, by omega, fun e => ?_⟩
      rcases b1 k e with h | h
      · exact h3 h
      · omega
    · refine ⟨by omega, by omega, fun e => ?_⟩
      rcases b1 k e with h | h
      · have := hvl k h
        omega
      · omega

theorem elem_int : Elem Try.prog 22 3 (.int .i64 0) 1 8 := ⟨by kernel_rfl, by obtain ⟨i, h1, h2, h3, h4⟩ := info_parts (show (Try.prog.info? 3).map (fun i => (i.zero, i.size, i.bytes)) = some (some (.int .i64 0), 1, 8) by kernel_rfl); exact ⟨i, h1, h2, h3, h4⟩, rfl, by decide, by decide⟩

set_option maxHeartbeats 3200000 in
theorem list_get_int {α : Type} (c : Cod α) (hf : Fair c) (hone : ∀ (G : Nat → Prop) (w : World) (x : α) (u : Value), c.rep G w x u → u.oneCell' = true) (W : World) (pv gv : Value) (T : TypeId) (hp : GetOk W gv c) (p b m cb : Nat) (d : ByteArray) (s : RS) (w : World) (hB : W.heap.size ≤ p) (hw : Same W w) (h : ReaderAt w p d s) (hd : DSize d)
    (hb : W.cell? ⟨b, 0, none⟩ = some (.int .i64 m)) (hbl : b < W.heap.size) (hcb : W.heap[cb]? = some (.cells #[pv, gv] T (0, 0))) (hm : m ≤ 1048576) :
    Calls Try.prog 58 #[.pointer (some ⟨p, 0, none⟩), .pointer (some ⟨b, 0, none⟩), .pointer (some ⟨cb, 0, none⟩)] w fun r w' => ∃ v, r = .returned v ∧ RMoved w w' p d ((listC c m).get s).2 ∧ RowRep c (fun k => w.heap.size ≤ k ∧ k < w'.heap.size) w' ((listC c m).get s).1 v := by
  obtain ⟨f, caps, rfl, he, hp⟩ := hp
  unfold Proofs.Enters at he
  have c0 : w.cell? ⟨b, 0, none⟩ = some (.int .i64 m) := by rw [← hb]; simp only [World.cell?, hw.2 b hbl]
  have P := Lib.hid (count_any p d s m w h hd)
  have hnm := countN_le m s
  obtain ⟨res, hres⟩ : ∃ res, (listC c m).get s = res := ⟨_, rfl⟩
  have hres2 : getL c.get (countN m s).1 (countN m s).2 = res := hres
  obtain ⟨n, s1, hns⟩ : ∃ n s1, countN m s = (n, s1) := ⟨_, _, rfl⟩
  rw [hres]
  rw [hns] at P hnm hres2
  simp only at hnm hres2
  have HRES := Lib.hid hres2
  have HLT := Lib.hid (show p < w.heap.size from by obtain ⟨a, hb1, _⟩ := h; exact blk_lt hb1)
  have HD := Lib.hid hd
  have HW := Lib.hid hw
  have HP := Lib.hid hp
  have HCB := Lib.hid hcb
  have HF := Lib.hid hf
  have HBB := Lib.hid hB
  have HNM := Lib.hid hnm
  have HMM := Lib.hid hm
  have HONE := Lib.hid hone
  clear h hp hcb hb hbl hw hf hB hres hres2 hns hnm hd hone hm
  go_enter Try.func58, Try.ntmps58
  go_wp2_with (fail)
  refine P.out.mono ?_
  rintro e w1 ⟨rfl, hm⟩
  have HM := Lib.hid hm
  clear hm
  go_wp2
  go_loopw [5, 6] (fun vv iv wr => GetRel c 3 p d res m w vv iv wr) (fun _ iv _ => (intOf iv).toNat)
  case atStart => exact ⟨n, [], s1, [], fun _ => False, rfl, by simpa using HNM.out, HM.out.1, HM.out.2, World.ownsRow_nil _ _ _ _, fun i x hi => by simp at hi, fun _ h => h.elim, by rw [HRES.out]; rfl⟩
  case round =>
    obtain ⟨⟨j, xs, s2, us, G, rfl, hjm, hrd, hk, ho, hx, hG, hr⟩⟩ := hrel
    cases j with
    | zero =>
      have E := Lib.hid (getRel_end HF.out ho hx hG (by have := HMM.out; omega))
      have HK := Lib.hid hk
      have HRD := Lib.hid hrd
      have HR := Lib.hid hr
      clear hjm hrd hk ho hx hG hr
      go_wp2
      go_ret
      rw [HR.out]
      simp only [getL, List.append_nil]
      exact ⟨_, rfl, ⟨HRD.out, HK.out⟩, E.out⟩
    | succ j =>
      have q1 : (0 : Int) < ((j + 1 : Nat) : Int) := by omega
      have c5 := hrd.err
      by_cases herr : s2.err = 0
      · obtain ⟨sa, sc, hse, hsc, hsm0⟩ := own_slice ho
        subst hse
        have hsm : Same W wr := HW.out.kept hk (fun k hk => by rw [hk]; exact HBB.out)
        have c6 := cellOf (j := 1) (hsm.blk HCB.out)
        simp at c6
        have P2 := Lib.hid (HP.out p d s2 wr HBB.out hsm hrd HD.out)
        have hvp : (Value.slice sa xs.length sc).ownBlock ≠ some p := by obtain ⟨a, hb1, _⟩ := hrd; exact own_ne ho hb1 (by decide)
        have hby : ((xs.length + 1) + (xs.length + 1) / 4 + 192) * 8 ≤ 281474976710656 := by have := HMM.out; omega
        have Q5 : Hid (wrap64 (j : Int) = (j : Int)) := by have h1 := HMM.out; refine Lib.hid ?_; unfold wrap64; omega
        have hlt := HLT.out
        obtain ⟨x, s3, hxs⟩ : ∃ x s3, c.get s2 = (x, s3) := ⟨_, _, rfl⟩
        have hr2 : res = ((xs ++ [x]) ++ (getL c.get j s3).1, (getL c.get j s3).2) := by
          rw [hr]; simp only [getL]; rw [if_neg (by simpa using herr), hxs]; simp
        have HR := Lib.hid hr2
        have HXS := Lib.hid hxs
        have HO := Lib.hid ho
        have HX := Lib.hid hx
        have HG := Lib.hid hG
        have HK := Lib.hid hk
        have HVP := Lib.hid hvp
        have HBY := Lib.hid hby
        have HJM := Lib.hid hjm
        rw [herr] at c5
        clear hjm hrd hk ho hx hG hr herr hsm hvp hby hr2 hxs
        go_wp2_with (fail)
        refine P2.out.mono ?_
        rw [HXS.out]
        rintro e w2 ⟨u, rfl, hm2, hu⟩
        have HM2 := Lib.hid hm2
        have HU := Lib.hid hu
        have hsz := Lib.hid hm2.2.size
        have ho2 := Lib.hid (own_keptF HO.out hm2.2 (fun g hg e => HVP.out (by rw [hg, e])))
        have hu1 := Lib.hid (HONE.out _ _ _ _ hu)
        have hcl := cells_one1 hu1.out
        unfold Value.cells at hcl
        clear hm2 hu
        have SRC : Hid (Src Try.prog 1 22 (.slice (some ⟨w2.heap.size, 0, none⟩) 1 1) 1 [u] (w2.alloc (.cells #[u] 3))) := by
          refine Lib.hid (Src.ofSlice _ elem_int.under _ 1 1 _ rfl (fun j u hj => ?_) (by intro z hz; rw [List.mem_singleton.1 hz]; exact hu1.out))
          match j, hj with
          | 0, hj =>
            simp at hj
            subst hj
            simp [Addr.add]
        have BA : Hid (w.heap.size ≤ (w2.alloc (.cells #[u] 3)).heap.size) := by
          have h1 := hsz.out
          have h2 := HK.out.size
          refine Lib.hid ?_
          simp
          omega
        go_wp2_with (at_builtin; apply hold)
        unfold Hold
        refine wpList_append_ownS _ rfl (.tmp 21) (.tmp 26) 22 22 rfl w.heap.size 3 (.int .i64 0) 1 8 elem_int (.slice sa xs.length sc) xs.length us rfl (own_grownA ho2.out _) (.slice (some ⟨w2.heap.size, 0, none⟩) 1 1) 1 [u] rfl SRC.out HBY.out BA.out (fun v' w3 o1 g1 b1 => ?_)
        · skip
          have O1 := Lib.hid o1
          have G1 := Lib.hid g1
          have B1 := Lib.hid b1
          clear o1 g1 b1
          go_wp2
          go_roundw
          case rel =>
            rw [Q5.out]
            exact getRel_step HF.out HR.out HJM.out HLT.out HM2.out HU.out HO.out HX.out HG.out HK.out HVP.out O1.out G1.out B1.out
          case measure =>
            rw [Q5.out]
            simp only [intOf]
            omega
      · have q2 : (s2.err == 0) = false := by simpa using herr
        have q3 : decide (s2.err = 0) = false := by simpa using herr
        have E := Lib.hid (getRel_end HF.out ho hx hG (by have := HMM.out; omega))
        have HK := Lib.hid hk
        have HRD := Lib.hid hrd
        have HR := Lib.hid hr
        have HERR := Lib.hid herr
        clear hjm hrd hk ho hx hG hr herr
        go_wp2
        go_ret
        rw [HR.out]
        simp only [getL, if_pos HERR.out, List.append_nil]
        exact ⟨_, rfl, ⟨HRD.out, HK.out⟩, E.out⟩

theorem elem_str : Elem Try.prog 55 9 (.string ⟨#[]⟩) 1 16 := ⟨by kernel_rfl, by obtain ⟨i, h1, h2, h3, h4⟩ := info_parts (show (Try.prog.info? 9).map (fun i => (i.zero, i.size, i.bytes)) = some (some (.string ⟨#[]⟩), 1, 16) by kernel_rfl); exact ⟨i, h1, h2, h3, h4⟩, rfl, by decide, by decide⟩

set_option maxHeartbeats 3200000 in
theorem list_get_str {α : Type} (c : Cod α) (hf : Fair c) (hone : ∀ (G : Nat → Prop) (w : World) (x : α) (u : Value), c.rep G w x u → u.oneCell' = true) (W : World) (pv gv : Value) (T : TypeId) (hp : GetOk W gv c) (p b m cb : Nat) (d : ByteArray) (s : RS) (w : World) (hB : W.heap.size ≤ p) (hw : Same W w) (h : ReaderAt w p d s) (hd : DSize d)
    (hb : W.cell? ⟨b, 0, none⟩ = some (.int .i64 m)) (hbl : b < W.heap.size) (hcb : W.heap[cb]? = some (.cells #[pv, gv] T (0, 0))) (hm : m ≤ 1048576) :
    Calls Try.prog 64 #[.pointer (some ⟨p, 0, none⟩), .pointer (some ⟨b, 0, none⟩), .pointer (some ⟨cb, 0, none⟩)] w fun r w' => ∃ v, r = .returned v ∧ RMoved w w' p d ((listC c m).get s).2 ∧ RowRep c (fun k => w.heap.size ≤ k ∧ k < w'.heap.size) w' ((listC c m).get s).1 v := by
  obtain ⟨f, caps, rfl, he, hp⟩ := hp
  unfold Proofs.Enters at he
  have c0 : w.cell? ⟨b, 0, none⟩ = some (.int .i64 m) := by rw [← hb]; simp only [World.cell?, hw.2 b hbl]
  have P := Lib.hid (count_any p d s m w h hd)
  have hnm := countN_le m s
  obtain ⟨res, hres⟩ : ∃ res, (listC c m).get s = res := ⟨_, rfl⟩
  have hres2 : getL c.get (countN m s).1 (countN m s).2 = res := hres
  obtain ⟨n, s1, hns⟩ : ∃ n s1, countN m s = (n, s1) := ⟨_, _, rfl⟩
  rw [hres]
  rw [hns] at P hnm hres2
  simp only at hnm hres2
  have HRES := Lib.hid hres2
  have HLT := Lib.hid (show p < w.heap.size from by obtain ⟨a, hb1, _⟩ := h; exact blk_lt hb1)
  have HD := Lib.hid hd
  have HW := Lib.hid hw
  have HP := Lib.hid hp
  have HCB := Lib.hid hcb
  have HF := Lib.hid hf
  have HBB := Lib.hid hB
  have HNM := Lib.hid hnm
  have HMM := Lib.hid hm
  have HONE := Lib.hid hone
  clear h hp hcb hb hbl hw hf hB hres hres2 hns hnm hd hone hm
  go_enter Try.func64, Try.ntmps64
  go_wp2_with (fail)
  refine P.out.mono ?_
  rintro e w1 ⟨rfl, hm⟩
  have HM := Lib.hid hm
  clear hm
  go_wp2
  go_loopw [5, 6] (fun vv iv wr => GetRel c 9 p d res m w vv iv wr) (fun _ iv _ => (intOf iv).toNat)
  case atStart => exact ⟨n, [], s1, [], fun _ => False, rfl, by simpa using HNM.out, HM.out.1, HM.out.2, World.ownsRow_nil _ _ _ _, fun i x hi => by simp at hi, fun _ h => h.elim, by rw [HRES.out]; rfl⟩
  case round =>
    obtain ⟨⟨j, xs, s2, us, G, rfl, hjm, hrd, hk, ho, hx, hG, hr⟩⟩ := hrel
    cases j with
    | zero =>
      have E := Lib.hid (getRel_end HF.out ho hx hG (by have := HMM.out; omega))
      have HK := Lib.hid hk
      have HRD := Lib.hid hrd
      have HR := Lib.hid hr
      clear hjm hrd hk ho hx hG hr
      go_wp2
      go_ret
      rw [HR.out]
      simp only [getL, List.append_nil]
      exact ⟨_, rfl, ⟨HRD.out, HK.out⟩, E.out⟩
    | succ j =>
      have q1 : (0 : Int) < ((j + 1 : Nat) : Int) := by omega
      have c5 := hrd.err
      by_cases herr : s2.err = 0
      · obtain ⟨sa, sc, hse, hsc, hsm0⟩ := own_slice ho
        subst hse
        have hsm : Same W wr := HW.out.kept hk (fun k hk => by rw [hk]; exact HBB.out)
        have c6 := cellOf (j := 1) (hsm.blk HCB.out)
        simp at c6
        have P2 := Lib.hid (HP.out p d s2 wr HBB.out hsm hrd HD.out)
        have hvp : (Value.slice sa xs.length sc).ownBlock ≠ some p := by obtain ⟨a, hb1, _⟩ := hrd; exact own_ne ho hb1 (by decide)
        have hby : ((xs.length + 1) + (xs.length + 1) / 4 + 192) * 16 ≤ 281474976710656 := by have := HMM.out; omega
        have Q5 : Hid (wrap64 (j : Int) = (j : Int)) := by have h1 := HMM.out; refine Lib.hid ?_; unfold wrap64; omega
        have hlt := HLT.out
        obtain ⟨x, s3, hxs⟩ : ∃ x s3, c.get s2 = (x, s3) := ⟨_, _, rfl⟩
        have hr2 : res = ((xs ++ [x]) ++ (getL c.get j s3).1, (getL c.get j s3).2) := by
          rw [hr]; simp only [getL]; rw [if_neg (by simpa using herr), hxs]; simp
        have HR := Lib.hid hr2
        have HXS := Lib.hid hxs
        have HO := Lib.hid ho
        have HX := Lib.hid hx
        have HG := Lib.hid hG
        have HK := Lib.hid hk
        have HVP := Lib.hid hvp
        have HBY := Lib.hid hby
        have HJM := Lib.hid hjm
        rw [herr] at c5
        clear hjm hrd hk ho hx hG hr herr hsm hvp hby hr2 hxs
        go_wp2_with (fail)
        refine P2.out.mono ?_
        rw [HXS.out]
        rintro e w2 ⟨u, rfl, hm2, hu⟩
        have HM2 := Lib.hid hm2
        have HU := Lib.hid hu
        have hsz := Lib.hid hm2.2.size
        have ho2 := Lib.hid (own_keptF HO.out hm2.2 (fun g hg e => HVP.out (by rw [hg, e])))
        have hu1 := Lib.hid (HONE.out _ _ _ _ hu)
        have hcl := cells_one1 hu1.out
        unfold Value.cells at hcl
        clear hm2 hu
        have SRC : Hid (Src Try.prog 1 55 (.slice (some ⟨w2.heap.size, 0, none⟩) 1 1) 1 [u] (w2.alloc (.cells #[u] 9))) := by
          refine Lib.hid (Src.ofSlice _ elem_str.under _ 1 1 _ rfl (fun j u hj => ?_) (by intro z hz; rw [List.mem_singleton.1 hz]; exact hu1.out))
          match j, hj with
          | 0, hj =>
            simp at hj
            subst hj
            simp [Addr.add]
        have BA : Hid (w.heap.size ≤ (w2.alloc (.cells #[u] 9)).heap.size) := by
          have h1 := hsz.out
          have h2 := HK.out.size
          refine Lib.hid ?_
          simp
          omega
        go_wp2_with (at_builtin; apply hold)
        unfold Hold
        refine wpList_append_ownS _ rfl (.tmp 21) (.tmp 26) 55 55 rfl w.heap.size 9 (.string ⟨#[]⟩) 1 16 elem_str (.slice sa xs.length sc) xs.length us rfl (own_grownA ho2.out _) (.slice (some ⟨w2.heap.size, 0, none⟩) 1 1) 1 [u] rfl SRC.out HBY.out BA.out (fun v' w3 o1 g1 b1 => ?_)
        · skip
          have O1 := Lib.hid o1
          have G1 := Lib.hid g1
          have B1 := Lib.hid b1
          clear o1 g1 b1
          go_wp2
          go_roundw
          case rel =>
            rw [Q5.out]
            exact getRel_step HF.out HR.out HJM.out HLT.out HM2.out HU.out HO.out HX.out HG.out HK.out HVP.out O1.out G1.out B1.out
          case measure =>
            rw [Q5.out]
            simp only [intOf]
            omega
      · have q2 : (s2.err == 0) = false := by simpa using herr
        have q3 : decide (s2.err = 0) = false := by simpa using herr
        have E := Lib.hid (getRel_end HF.out ho hx hG (by have := HMM.out; omega))
        have HK := Lib.hid hk
        have HRD := Lib.hid hrd
        have HR := Lib.hid hr
        have HERR := Lib.hid herr
        clear hjm hrd hk ho hx hG hr herr
        go_wp2
        go_ret
        rw [HR.out]
        simp only [getL, if_pos HERR.out, List.append_nil]
        exact ⟨_, rfl, ⟨HRD.out, HK.out⟩, E.out⟩

theorem elem_strs : Elem Try.prog 66 55 (.slice none 0 0) 1 24 := ⟨by kernel_rfl, by obtain ⟨i, h1, h2, h3, h4⟩ := info_parts (show (Try.prog.info? 55).map (fun i => (i.zero, i.size, i.bytes)) = some (some (.slice none 0 0), 1, 24) by kernel_rfl); exact ⟨i, h1, h2, h3, h4⟩, rfl, by decide, by decide⟩

set_option maxHeartbeats 3200000 in
theorem list_get_strs {α : Type} (c : Cod α) (hf : Fair c) (hone : ∀ (G : Nat → Prop) (w : World) (x : α) (u : Value), c.rep G w x u → u.oneCell' = true) (W : World) (pv gv : Value) (T : TypeId) (hp : GetOk W gv c) (p b m cb : Nat) (d : ByteArray) (s : RS) (w : World) (hB : W.heap.size ≤ p) (hw : Same W w) (h : ReaderAt w p d s) (hd : DSize d)
    (hb : W.cell? ⟨b, 0, none⟩ = some (.int .i64 m)) (hbl : b < W.heap.size) (hcb : W.heap[cb]? = some (.cells #[pv, gv] T (0, 0))) (hm : m ≤ 1048576) :
    Calls Try.prog 62 #[.pointer (some ⟨p, 0, none⟩), .pointer (some ⟨b, 0, none⟩), .pointer (some ⟨cb, 0, none⟩)] w fun r w' => ∃ v, r = .returned v ∧ RMoved w w' p d ((listC c m).get s).2 ∧ RowRep c (fun k => w.heap.size ≤ k ∧ k < w'.heap.size) w' ((listC c m).get s).1 v := by
  obtain ⟨f, caps, rfl, he, hp⟩ := hp
  unfold Proofs.Enters at he
  have c0 : w.cell? ⟨b, 0, none⟩ = some (.int .i64 m) := by rw [← hb]; simp only [World.cell?, hw.2 b hbl]
  have P := Lib.hid (count_any p d s m w h hd)
  have hnm := countN_le m s
  obtain ⟨res, hres⟩ : ∃ res, (listC c m).get s = res := ⟨_, rfl⟩
  have hres2 : getL c.get (countN m s).1 (countN m s).2 = res := hres
  obtain ⟨n, s1, hns⟩ : ∃ n s1, countN m s = (n, s1) := ⟨_, _, rfl⟩
  rw [hres]
  rw [hns] at P hnm hres2
  simp only at hnm hres2
  have HRES := Lib.hid hres2
  have HLT := Lib.hid (show p < w.heap.size from by obtain ⟨a, hb1, _⟩ := h; exact blk_lt hb1)
  have HD := Lib.hid hd
  have HW := Lib.hid hw
  have HP := Lib.hid hp
  have HCB := Lib.hid hcb
  have HF := Lib.hid hf
  have HBB := Lib.hid hB
  have HNM := Lib.hid hnm
  have HMM := Lib.hid hm
  have HONE := Lib.hid hone
  clear h hp hcb hb hbl hw hf hB hres hres2 hns hnm hd hone hm
  go_enter Try.func62, Try.ntmps62
  go_wp2_with (fail)
  refine P.out.mono ?_
  rintro e w1 ⟨rfl, hm⟩
  have HM := Lib.hid hm
  clear hm
  go_wp2
  go_loopw [5, 6] (fun vv iv wr => GetRel c 55 p d res m w vv iv wr) (fun _ iv _ => (intOf iv).toNat)
  case atStart => exact ⟨n, [], s1, [], fun _ => False, rfl, by simpa using HNM.out, HM.out.1, HM.out.2, World.ownsRow_nil _ _ _ _, fun i x hi => by simp at hi, fun _ h => h.elim, by rw [HRES.out]; rfl⟩
  case round =>
    obtain ⟨⟨j, xs, s2, us, G, rfl, hjm, hrd, hk, ho, hx, hG, hr⟩⟩ := hrel
    cases j with
    | zero =>
      have E := Lib.hid (getRel_end HF.out ho hx hG (by have := HMM.out; omega))
      have HK := Lib.hid hk
      have HRD := Lib.hid hrd
      have HR := Lib.hid hr
      clear hjm hrd hk ho hx hG hr
      go_wp2
      go_ret
      rw [HR.out]
      simp only [getL, List.append_nil]
      exact ⟨_, rfl, ⟨HRD.out, HK.out⟩, E.out⟩
    | succ j =>
      have q1 : (0 : Int) < ((j + 1 : Nat) : Int) := by omega
      have c5 := hrd.err
      by_cases herr : s2.err = 0
      · obtain ⟨sa, sc, hse, hsc, hsm0⟩ := own_slice ho
        subst hse
        have hsm : Same W wr := HW.out.kept hk (fun k hk => by rw [hk]; exact HBB.out)
        have c6 := cellOf (j := 1) (hsm.blk HCB.out)
        simp at c6
        have P2 := Lib.hid (HP.out p d s2 wr HBB.out hsm hrd HD.out)
        have hvp : (Value.slice sa xs.length sc).ownBlock ≠ some p := by obtain ⟨a, hb1, _⟩ := hrd; exact own_ne ho hb1 (by decide)
        have hby : ((xs.length + 1) + (xs.length + 1) / 4 + 192) * 24 ≤ 281474976710656 := by have := HMM.out; omega
        have Q5 : Hid (wrap64 (j : Int) = (j : Int)) := by have h1 := HMM.out; refine Lib.hid ?_; unfold wrap64; omega
        have hlt := HLT.out
        obtain ⟨x, s3, hxs⟩ : ∃ x s3, c.get s2 = (x, s3) := ⟨_, _, rfl⟩
        have hr2 : res = ((xs ++ [x]) ++ (getL c.get j s3).1, (getL c.get j s3).2) := by
          rw [hr]; simp only [getL]; rw [if_neg (by simpa using herr), hxs]; simp
        have HR := Lib.hid hr2
        have HXS := Lib.hid hxs
        have HO := Lib.hid ho
        have HX := Lib.hid hx
        have HG := Lib.hid hG
        have HK := Lib.hid hk
        have HVP := Lib.hid hvp
        have HBY := Lib.hid hby
        have HJM := Lib.hid hjm
        rw [herr] at c5
        clear hjm hrd hk ho hx hG hr herr hsm hvp hby hr2 hxs
        go_wp2_with (fail)
        refine P2.out.mono ?_
        rw [HXS.out]
        rintro e w2 ⟨u, rfl, hm2, hu⟩
        have HM2 := Lib.hid hm2
        have HU := Lib.hid hu
        have hsz := Lib.hid hm2.2.size
        have ho2 := Lib.hid (own_keptF HO.out hm2.2 (fun g hg e => HVP.out (by rw [hg, e])))
        have hu1 := Lib.hid (HONE.out _ _ _ _ hu)
        have hcl := cells_one1 hu1.out
        unfold Value.cells at hcl
        clear hm2 hu
        have SRC : Hid (Src Try.prog 1 66 (.slice (some ⟨w2.heap.size, 0, none⟩) 1 1) 1 [u] (w2.alloc (.cells #[u] 55))) := by
          refine Lib.hid (Src.ofSlice _ elem_strs.under _ 1 1 _ rfl (fun j u hj => ?_) (by intro z hz; rw [List.mem_singleton.1 hz]; exact hu1.out))
          match j, hj with
          | 0, hj =>
            simp at hj
            subst hj
            simp [Addr.add]
        have BA : Hid (w.heap.size ≤ (w2.alloc (.cells #[u] 55)).heap.size) := by
          have h1 := hsz.out
          have h2 := HK.out.size
          refine Lib.hid ?_
          simp
          omega
        go_wp2_with (at_builtin; apply hold)
        unfold Hold
        refine wpList_append_ownS _ rfl (.tmp 21) (.tmp 26) 66 66 rfl w.heap.size 55 (.slice none 0 0) 1 24 elem_strs (.slice sa xs.length sc) xs.length us rfl (own_grownA ho2.out _) (.slice (some ⟨w2.heap.size, 0, none⟩) 1 1) 1 [u] rfl SRC.out HBY.out BA.out (fun v' w3 o1 g1 b1 => ?_)
        · skip
          have O1 := Lib.hid o1
          have G1 := Lib.hid g1
          have B1 := Lib.hid b1
          clear o1 g1 b1
          go_wp2
          go_roundw
          case rel =>
            rw [Q5.out]
            exact getRel_step HF.out HR.out HJM.out HLT.out HM2.out HU.out HO.out HX.out HG.out HK.out HVP.out O1.out G1.out B1.out
          case measure =>
            rw [Q5.out]
            simp only [intOf]
            omega
      · have q2 : (s2.err == 0) = false := by simpa using herr
        have q3 : decide (s2.err = 0) = false := by simpa using herr
        have E := Lib.hid (getRel_end HF.out ho hx hG (by have := HMM.out; omega))
        have HK := Lib.hid hk
        have HRD := Lib.hid hrd
        have HR := Lib.hid hr
        have HERR := Lib.hid herr
        clear hjm hrd hk ho hx hG hr herr
        go_wp2
        go_ret
        rw [HR.out]
        simp only [getL, if_pos HERR.out, List.append_nil]
        exact ⟨_, rfl, ⟨HRD.out, HK.out⟩, E.out⟩

theorem elem_bool : Elem Try.prog 91 4 (.bool false) 1 1 := ⟨by kernel_rfl, by obtain ⟨i, h1, h2, h3, h4⟩ := info_parts (show (Try.prog.info? 4).map (fun i => (i.zero, i.size, i.bytes)) = some (some (.bool false), 1, 1) by kernel_rfl); exact ⟨i, h1, h2, h3, h4⟩, rfl, by decide, by decide⟩

set_option maxHeartbeats 3200000 in
theorem list_get_bool {α : Type} (c : Cod α) (hf : Fair c) (hone : ∀ (G : Nat → Prop) (w : World) (x : α) (u : Value), c.rep G w x u → u.oneCell' = true) (W : World) (pv gv : Value) (T : TypeId) (hp : GetOk W gv c) (p b m cb : Nat) (d : ByteArray) (s : RS) (w : World) (hB : W.heap.size ≤ p) (hw : Same W w) (h : ReaderAt w p d s) (hd : DSize d)
    (hb : W.cell? ⟨b, 0, none⟩ = some (.int .i64 m)) (hbl : b < W.heap.size) (hcb : W.heap[cb]? = some (.cells #[pv, gv] T (0, 0))) (hm : m ≤ 1048576) :
    Calls Try.prog 71 #[.pointer (some ⟨p, 0, none⟩), .pointer (some ⟨b, 0, none⟩), .pointer (some ⟨cb, 0, none⟩)] w fun r w' => ∃ v, r = .returned v ∧ RMoved w w' p d ((listC c m).get s).2 ∧ RowRep c (fun k => w.heap.size ≤ k ∧ k < w'.heap.size) w' ((listC c m).get s).1 v := by
  obtain ⟨f, caps, rfl, he, hp⟩ := hp
  unfold Proofs.Enters at he
  have c0 : w.cell? ⟨b, 0, none⟩ = some (.int .i64 m) := by rw [← hb]; simp only [World.cell?, hw.2 b hbl]
  have P := Lib.hid (count_any p d s m w h hd)
  have hnm := countN_le m s
  obtain ⟨res, hres⟩ : ∃ res, (listC c m).get s = res := ⟨_, rfl⟩
  have hres2 : getL c.get (countN m s).1 (countN m s).2 = res := hres
  obtain ⟨n, s1, hns⟩ : ∃ n s1, countN m s = (n, s1) := ⟨_, _, rfl⟩
  rw [hres]
  rw [hns] at P hnm hres2
  simp only at hnm hres2
  have HRES := Lib.hid hres2
  have HLT := Lib.hid (show p < w.heap.size from by obtain ⟨a, hb1, _⟩ := h; exact blk_lt hb1)
  have HD := Lib.hid hd
  have HW := Lib.hid hw
  have HP := Lib.hid hp
  have HCB := Lib.hid hcb
  have HF := Lib.hid hf
  have HBB := Lib.hid hB
  have HNM := Lib.hid hnm
  have HMM := Lib.hid hm
  have HONE := Lib.hid hone
  clear h hp hcb hb hbl hw hf hB hres hres2 hns hnm hd hone hm
  go_enter Try.func71, Try.ntmps71
  go_wp2_with (fail)
  refine P.out.mono ?_
  rintro e w1 ⟨rfl, hm⟩
  have HM := Lib.hid hm
  clear hm
  go_wp2
  go_loopw [5, 6] (fun vv iv wr => GetRel c 4 p d res m w vv iv wr) (fun _ iv _ => (intOf iv).toNat)
  case atStart => exact ⟨n, [], s1, [], fun _ => False, rfl, by simpa using HNM.out, HM.out.1, HM.out.2, World.ownsRow_nil _ _ _ _, fun i x hi => by simp at hi, fun _ h => h.elim, by rw [HRES.out]; rfl⟩
  case round =>
    obtain ⟨⟨j, xs, s2, us, G, rfl, hjm, hrd, hk, ho, hx, hG, hr⟩⟩ := hrel
    cases j with
    | zero =>
      have E := Lib.hid (getRel_end HF.out ho hx hG (by have := HMM.out; omega))
      have HK := Lib.hid hk
      have HRD := Lib.hid hrd
      have HR := Lib.hid hr
      clear hjm hrd hk ho hx hG hr
      go_wp2
      go_ret
      rw [HR.out]
      simp only [getL, List.append_nil]
      exact ⟨_, rfl, ⟨HRD.out, HK.out⟩, E.out⟩
    | succ j =>
      have q1 : (0 : Int) < ((j + 1 : Nat) : Int) := by omega
      have c5 := hrd.err
      by_cases herr : s2.err = 0
      · obtain ⟨sa, sc, hse, hsc, hsm0⟩ := own_slice ho
        subst hse
        have hsm : Same W wr := HW.out.kept hk (fun k hk => by rw [hk]; exact HBB.out)
        have c6 := cellOf (j := 1) (hsm.blk HCB.out)
        simp at c6
        have P2 := Lib.hid (HP.out p d s2 wr HBB.out hsm hrd HD.out)
        have hvp : (Value.slice sa xs.length sc).ownBlock ≠ some p := by obtain ⟨a, hb1, _⟩ := hrd; exact own_ne ho hb1 (by decide)
        have hby : ((xs.length + 1) + (xs.length + 1) / 4 + 192) * 1 ≤ 281474976710656 := by have := HMM.out; omega
        have Q5 : Hid (wrap64 (j : Int) = (j : Int)) := by have h1 := HMM.out; refine Lib.hid ?_; unfold wrap64; omega
        have hlt := HLT.out
        obtain ⟨x, s3, hxs⟩ : ∃ x s3, c.get s2 = (x, s3) := ⟨_, _, rfl⟩
        have hr2 : res = ((xs ++ [x]) ++ (getL c.get j s3).1, (getL c.get j s3).2) := by
          rw [hr]; simp only [getL]; rw [if_neg (by simpa using herr), hxs]; simp
        have HR := Lib.hid hr2
        have HXS := Lib.hid hxs
        have HO := Lib.hid ho
        have HX := Lib.hid hx
        have HG := Lib.hid hG
        have HK := Lib.hid hk
        have HVP := Lib.hid hvp
        have HBY := Lib.hid hby
        have HJM := Lib.hid hjm
        rw [herr] at c5
        clear hjm hrd hk ho hx hG hr herr hsm hvp hby hr2 hxs
        go_wp2_with (fail)
        refine P2.out.mono ?_
        rw [HXS.out]
        rintro e w2 ⟨u, rfl, hm2, hu⟩
        have HM2 := Lib.hid hm2
        have HU := Lib.hid hu
        have hsz := Lib.hid hm2.2.size
        have ho2 := Lib.hid (own_keptF HO.out hm2.2 (fun g hg e => HVP.out (by rw [hg, e])))
        have hu1 := Lib.hid (HONE.out _ _ _ _ hu)
        have hcl := cells_one1 hu1.out
        unfold Value.cells at hcl
        clear hm2 hu
        have SRC : Hid (Src Try.prog 1 91 (.slice (some ⟨w2.heap.size, 0, none⟩) 1 1) 1 [u] (w2.alloc (.cells #[u] 4))) := by
          refine Lib.hid (Src.ofSlice _ elem_bool.under _ 1 1 _ rfl (fun j u hj => ?_) (by intro z hz; rw [List.mem_singleton.1 hz]; exact hu1.out))
          match j, hj with
          | 0, hj =>
            simp at hj
            subst hj
            simp [Addr.add]
        have BA : Hid (w.heap.size ≤ (w2.alloc (.cells #[u] 4)).heap.size) := by
          have h1 := hsz.out
          have h2 := HK.out.size
          refine Lib.hid ?_
          simp
          omega
        go_wp2_with (at_builtin; apply hold)
        unfold Hold
        refine wpList_append_ownS _ rfl (.tmp 21) (.tmp 26) 91 91 rfl w.heap.size 4 (.bool false) 1 1 elem_bool (.slice sa xs.length sc) xs.length us rfl (own_grownA ho2.out _) (.slice (some ⟨w2.heap.size, 0, none⟩) 1 1) 1 [u] rfl SRC.out HBY.out BA.out (fun v' w3 o1 g1 b1 => ?_)
        · skip
          have O1 := Lib.hid o1
          have G1 := Lib.hid g1
          have B1 := Lib.hid b1
          clear o1 g1 b1
          go_wp2
          go_roundw
          case rel =>
            rw [Q5.out]
            exact getRel_step HF.out HR.out HJM.out HLT.out HM2.out HU.out HO.out HX.out HG.out HK.out HVP.out O1.out G1.out B1.out
          case measure =>
            rw [Q5.out]
            simp only [intOf]
            omega
      · have q2 : (s2.err == 0) = false := by simpa using herr
        have q3 : decide (s2.err = 0) = false := by simpa using herr
        have E := Lib.hid (getRel_end HF.out ho hx hG (by have := HMM.out; omega))
        have HK := Lib.hid hk
        have HRD := Lib.hid hrd
        have HR := Lib.hid hr
        have HERR := Lib.hid herr
        clear hjm hrd hk ho hx hG hr herr
        go_wp2
        go_ret
        rw [HR.out]
        simp only [getL, if_pos HERR.out, List.append_nil]
        exact ⟨_, rfl, ⟨HRD.out, HK.out⟩, E.out⟩

end Go.Proofs.Ytcnikobmepjgcaa.Codec
