/-
  The reference's store: terms opened, lists taken apart.
-/
import Derived.Test.YtaifjojfmkcmjaaDoorRt6
namespace Go.Proofs.YtaifjojfmkcmjaaDoor.Term
open Go.RowKit Go.Sort Go.Proofs.YtaifjojfmkcmjaaDoorBase Go.Proofs.YtaifjojfmkcmjaaDoorLex2
set_option linter.unusedVariables false
set_option linter.unusedSimpArgs false

theorem openT_kind {l : List Node} {key t : Int} : openT l key t = if (getN l t).kind = 7 ∧ (getN l t).a = key then ((getN l t).b, true) else (0, false) := by
  unfold openT
  by_cases h : (getN l t).kind = 7
  · have kn := getN_kind (l := l) (t := t) (by rw [h]; decide)
    simp [kn]
  · simp [h]
theorem ropen_any (base : Nat) (w : World) (q : Nat) (G : Nat → Prop) (s : TS) (key t : Int) (h : RAt base w q G s) :
    Calls Tryd.prog 17 #[.pointer (some ⟨q, 0, none⟩), .int .i64 key, .int .i64 t] w fun e w' => e = .returned (.tuple #[.int .i64 (openT s.nodes key t).1, .bool (openT s.nodes key t).2]) ∧ Kept w w' (fun _ => False) := by
  have C := fun w1 h1 => rget_any base w1 q G s t h1
  rw [openT_kind]
  obtain ⟨x, hx⟩ : ∃ x, getN s.nodes t = x := ⟨_, rfl⟩
  rw [hx] at C ⊢
  have H := Lib.hid h
  have HC := Lib.hid C
  clear h C hx
  obtain ⟨xk, xl, xa, xb⟩ := x
  simp only
  by_cases h7 : xk = 7
  · by_cases ha : xa = key
    · rw [if_pos ⟨h7, ha⟩]
      subst h7 ha
      go_enter Tryd.func17, Tryd.ntmps17
      go_wp2_with (fail)
      refine (HC.out _ H.out).mono ?_
      rintro e w1 ⟨rfl, hk⟩
      have K := Lib.hid hk
      clear hk
      unfold nodeV
      go_wp2
      go_ret2
      exact ⟨rfl, K.out.alloc _⟩
    · rw [if_neg (fun hh => ha hh.2)]
      have qa : (xa == key) = false := by simpa using ha
      subst h7
      go_enter Tryd.func17, Tryd.ntmps17
      go_wp2_with (fail)
      refine (HC.out _ H.out).mono ?_
      rintro e w1 ⟨rfl, hk⟩
      have K := Lib.hid hk
      clear hk
      unfold nodeV
      go_wp2
      go_ret2
      exact ⟨rfl, K.out.alloc _⟩
  · rw [if_neg (fun hh => h7 hh.1)]
    have q7 : (xk == 7) = false := by simpa using h7
    go_enter Tryd.func17, Tryd.ntmps17
    go_wp2_with (fail)
    refine (HC.out _ H.out).mono ?_
    rintro e w1 ⟨rfl, hk⟩
    have K := Lib.hid hk
    clear hk
    unfold nodeV
    go_wp2
    go_ret2
    exact ⟨rfl, K.out.alloc _⟩
theorem empty_iff {l : List Node} (h : Built l) (t : Int) : (knownB l t = true ∧ getN l t = empty) ↔ (getN l t).kind = 2 ∧ (getN l t).label = ⟨#[]⟩ := by
  constructor
  · rintro ⟨_, h2⟩
    rw [h2]
    exact ⟨rfl, rfl⟩
  · rintro ⟨h2, h3⟩
    have kn := getN_kind (l := l) (t := t) (by rw [h2]; decide)
    have hr := built_at h kn
    unfold Right at hr
    rw [if_neg (by rw [h2]; decide), h2] at hr
    refine ⟨kn, Node.ext' h2 h3 (hr.2.1 (by decide)) (hr.2.2.1 (by decide))⟩
set_option maxHeartbeats 1600000 in
set_option maxRecDepth 100000 in
theorem ritems_any (base : Nat) (w : World) (q : Nat) (G : Nat → Prop) (s : TS) (t : Int) (h : RAt base w q G s) :
    Calls Tryd.prog 18 #[.pointer (some ⟨q, 0, none⟩), .int .i64 t] w fun e w' => ItemsV w w' (items s.nodes t) e ∧ Kept w w' (fun _ => False) := by
  have hlen := h.ok.len
  have hbt := h.ok.built
  have H := Lib.hid h
  have HL := Lib.hid hlen
  have HB := Lib.hid hbt
  clear h hlen hbt
  obtain ⟨res, hres⟩ : ∃ r, items s.nodes t = r := ⟨_, rfl⟩
  rw [hres]
  have R0 := Lib.hid hres
  clear hres
  go_enter Tryd.func18, Tryd.ntmps18
  go_wp2
  go_loopw [1, 6] (fun tv ov wr => ∃ (u : Int) (done : List Int), tv = .int .i64 u ∧ wr.ownsRow w.heap.size 3 1 ov done.length (ic done) ∧ Kept w wr (fun _ => False) ∧ res = (items s.nodes u).map (done ++ ·) ∧ ((done.length : Int) + u ≤ 262144 ∧ 0 ≤ u ∨ done = [])) (fun tv _ _ => (intOf tv).toNat)
  case atStart => exact ⟨t, [], rfl, World.ownsRow_nil _ _ _ _, Kept.refl _ _, by rw [R0.out]; simp, .inr rfl⟩
  case round =>
    obtain ⟨u, done, rfl, ho, hk, hr, hb⟩ := hrel
    have hie := items_eq HB.out u
    obtain ⟨sa, sc, rfl, hsc, hsm⟩ := own_slice ho
    have hem := empty_iff HB.out u
    obtain ⟨x, hx⟩ : ∃ x, getN s.nodes u = x := ⟨_, rfl⟩
    have hpp := pair_parts HB.out (t := u)
    have hC := fun w1 h1 => rget_any base w1 q G s u h1
    rw [hx] at hie hpp hem hC
    rw [hie] at hr
    have hkn : x.kind = 2 ∨ x.kind = 3 → knownB s.nodes u = true := fun h => getN_kind (by rw [hx]; rcases h with h | h <;> rw [h] <;> decide)
    clear hie
    have HX := Lib.hid hx
    have HR := Lib.hid hr
    have HO := Lib.hid ho
    have HK := Lib.hid hk
    have HBB := Lib.hid hb
    have HPP := Lib.hid hpp
    have HEM := Lib.hid hem
    have HC := Lib.hid hC
    have HKK := Lib.hid hkn
    clear hx hr ho hk hb hpp hem hC hkn
    obtain ⟨xk, xl, xa, xb⟩ := x
    go_wp2_with (fail)
    refine (HC.out wr (H.out.kept HK.out)).mono ?_
    rintro e w1 ⟨rfl, hk1⟩
    have K1 := Lib.hid (HK.out.trans (hk1.alloc (.cells #[.int .i64 xk, .string xl, .int .i64 xa, .int .i64 xb] 37)) (fun _ h => h.elim))
    have O1 := Lib.hid (own_keptF HO.out (hk1.alloc (.cells #[.int .i64 xk, .string xl, .int .i64 xa, .int .i64 xb] 37)) (fun _ _ h => h))
    have hb1 := heap_alloc_new w1 (.cells #[.int .i64 xk, .string xl, .int .i64 xa, .int .i64 xb] 37)
    clear hk1
    unfold nodeV
    by_cases h2 : xk = 2
    · subst h2
      by_cases hl : xl = ⟨#[]⟩
      · subst hl
        have HR2 : Hid (res = some done) := Lib.hid (by rw [HR.out, if_pos (HEM.out.2 ⟨rfl, rfl⟩)]; simp)
        have hl : Hid (done.length ≤ 262144) := Lib.hid (by rcases HBB.out with h | h; (· omega); (· rw [h]; simp))
        clear HR
        go_wp2
        go_ret2
        rw [HR2.out]
        exact ⟨⟨_, rfl, O1.out, hl.out⟩, K1.out⟩
      · have HR2 : Hid (res = none) := Lib.hid (by rw [HR.out, if_neg (fun hh => hl (HEM.out.1 hh).2), if_pos (by simp)]; rfl)
        have qs : (xl.toList == []) = false := by
          rw [beq_eq_false_iff_ne]
          intro e
          exact hl ((str_nil xl).2 e)
        have qs' : ¬ xl.toList = [] := fun e => hl ((str_nil xl).2 e)
        clear HR hl
        go_wp2
        go_ret2
        rw [HR2.out]
        exact ⟨rfl, K1.out⟩
    · have he : ¬ (knownB s.nodes u = true ∧ (⟨xk, xl, xa, xb⟩ : Node) = empty) := fun hh => h2 (HEM.out.1 hh).1
      have q2 : (xk == 2) = false := by simpa using h2
      rw [if_neg he] at HR
      by_cases h3 : xk = 3
      · subst h3
        have HKN := Lib.hid (HKK.out (.inr rfl))
        have HNO : Hid True := Lib.hid trivial
        clear q2
        obtain ⟨-, p2, p3, p4, p5, p6⟩ := HPP.out rfl
        subst p6
        have hu := knownB_iff.1 HKN.out
        have HR2 : Hid (res = (items s.nodes xb).map ((done ++ [xa]) ++ ·)) := Lib.hid (by rw [HR.out, if_neg (by simp), Option.map_map]; congr 1; funext z; simp)
        have hdl : done.length + 1 + xb.toNat ≤ 262144 := by
          have h1 := HL.out
          have h2 := knownB_iff.1 p3
          have h3 := HKN.out
          rw [knownB_iff] at h3
          rcases HBB.out with h | h
          · omega
          · rw [h, List.length_nil]; omega
        have hdl := Lib.hid hdl
        have hsize : Hid (((done.length + 1) + (done.length + 1) / 4 + 192) * 8 ≤ 281474976710656) := Lib.hid (by have := hdl.out; omega)
        have P3 := Lib.hid (knownB_iff.1 p3)
        have P5 := Lib.hid p5
        clear HR p2 p3 p4 p5 hu he HPP HNO
        go_wp2_with (at_builtin; apply hold)
        unfold Hold
        obtain ⟨w2, hw2⟩ : ∃ w2, w1.alloc (.cells #[.int .i64 3, .string ⟨#[]⟩, .int .i64 xa, .int .i64 xb] 37) = w2 := ⟨_, rfl⟩
        have hw2s : w2.heap.size = w1.heap.size + 1 := by rw [← hw2]; simp
        rw [hw2] at O1 K1 hb1 ⊢
        have SRC : Hid (Src Tryd.prog 1 46 (.slice (some ⟨w1.heap.size + 1, 0, none⟩) 1 1) 1 [.int .i64 xa] (w2.alloc (.cells #[.int .i64 xa] 3))) := by
          refine Lib.hid (Src.ofSlice _ elemI.under _ 1 1 _ rfl (fun j u hj => ?_) (by intro z hz; rw [List.mem_singleton.1 hz]; rfl))
          match j, hj with
          | 0, hj =>
            simp at hj
            subst hj
            have := heap_alloc_new w2 (.cells #[.int .i64 xa] 3)
            rw [hw2s] at this
            have c := cellOf (j := 0) this
            simpa [Addr.add] using c
        have O2 := Lib.hid (own_keptF O1.out ((Kept.refl w2 (fun _ => False)).alloc (.cells #[.int .i64 xa] 3)) (fun _ _ h => h))
        have K2 := Lib.hid (K1.out.alloc (.cells #[.int .i64 xa] 3))
        have hne : (Value.slice sa done.length sc).ownBlock ≠ some w1.heap.size := own_ne O1.out hb1 (by decide)
        have hb2 := ((Kept.refl w2 (fun _ => False)).alloc (.cells #[.int .i64 xa] 3)).blk hb1 (fun h => h)
        have HB2 := Lib.hid hb2
        have HNE := Lib.hid hne
        have BA : Hid (w.heap.size ≤ (w2.alloc (.cells #[.int .i64 xa] 3)).heap.size) := Lib.hid K2.out.size
        clear hb1 hb2 hne hw2
        refine wpList_append_ownS _ rfl (.tmp 23) (.tmp 26) 46 46 rfl w.heap.size 3 (.int .i64 0) 1 8 elemI (.slice sa done.length sc) done.length (ic done) rfl O2.out (.slice (some ⟨w1.heap.size + 1, 0, none⟩) 1 1) 1 [.int .i64 xa] rfl SRC.out hsize.out BA.out (fun v' w3 o1 g1 b1 => ?_)
        have b3 := blk_grown HB2.out g1 (fun e => HNE.out e.symm)
        have ql := blk_lt b3
        have c3 := cellOf (j := 3) b3
        simp at c3
        have K3 := Lib.hid (Kept.grown K2.out g1 (fun k hk => .inr (O2.out.lt k hk).1))
        have O3 := Lib.hid o1
        clear b3 g1 b1 o1
        go_wp2
        go_roundw
        case rel =>
          refine ⟨xb, done ++ [xa], rfl, ?_, K3.out, HR2.out, .inl ?_⟩
          · have := O3.out
            simpa [ic] using this
          · have h1 := hdl.out
            have h2 := P3.out
            rw [List.length_append, List.length_singleton]
            omega
        case measure =>
          have h2 := P3.out
          have h5 := P5.out
          simp only [intOf]
          omega
      · have q3 : (xk == 3) = false := by simpa using h3
        have HR2 : Hid (res = none) := Lib.hid (by rw [HR.out, if_pos h3]; rfl)
        clear HR he
        go_wp2
        go_ret2
        rw [HR2.out]
        exact ⟨rfl, K1.out⟩
end Go.Proofs.YtaifjojfmkcmjaaDoor.Term
