/-
  Lists of terms taken apart, walked.
-/
import Derived.Test.YtaifjojfmkcmjaaDoorTerm6
import Derived.Test.YtaifjojfmkcmjaaDoorTerm5
namespace Go.Proofs.YtaifjojfmkcmjaaDoor.Term
open Go.RowKit Go.Proofs.YtaifjojfmkcmjaaDoorBase Go.Proofs.YtaifjojfmkcmjaaDoorLex2
set_option linter.unusedVariables false
set_option linter.unusedSimpArgs false

theorem toList_data (b : ByteArray) : b.toList = b.data.toList := ByteArray.toList_eq b
theorem str_ne {a b : ByteArray} (h : a ≠ b) : (a.toList == b.toList) = false := by
  rw [beq_eq_false_iff_ne]
  intro e
  rw [toList_data, toList_data] at e
  exact h (by cases a; cases b; simpa using Array.toList_inj.1 e)
def itemsN (l : List Node) : Nat → Int → Option (List Int)
  | 0, _ => none
  | f + 1, t =>
    if knownB l t = true ∧ getN l t = empty then some []
    else if ¬ ((getN l t).kind = 3) then none
    else (itemsN l f (getN l t).b).map ((getN l t).a :: ·)
/-- What a list holds, if it is one. -/
def items (l : List Node) (t : Int) : Option (List Int) := itemsN l (t.toNat + 1) t

theorem getN_kind {l : List Node} {t : Int} (h : (getN l t).kind ≠ 0) : knownB l t = true := by
  cases hk : knownB l t with
  | true => rfl
  | false => rw [getN_no hk] at h; exact absurd rfl h
theorem built_at {l : List Node} (h : Built l) {t : Int} (hk : knownB l t = true) : Right (l.take (t.toNat - 1)) (getN l t) := h _ _ (getN_at hk)
theorem known_take {l : List Node} {i : Nat} {t : Int} (h : knownB (l.take i) t = true) : t ≤ i ∧ knownB l t = true := by
  rw [knownB_iff] at *
  rw [List.length_take] at h
  omega
/-- What a pair is of. -/
theorem pair_parts {l : List Node} (h : Built l) {t : Int} (hk : (getN l t).kind = 3) : knownB l t = true ∧ knownB l (getN l t).a = true ∧ knownB l (getN l t).b = true ∧ (getN l t).a < t ∧ (getN l t).b < t ∧ (getN l t).label = ⟨#[]⟩ := by
  have kn := getN_kind (l := l) (t := t) (by rw [hk]; decide)
  have hr := built_at h kn
  unfold Right at hr
  rw [if_neg (by rw [hk]; decide), hk] at hr
  have h1 := hr.2.2.2.1 (by decide)
  have h2 := hr.2.2.2.2.1 (by decide)
  have ht := knownB_iff.1 kn
  obtain ⟨a1, a2⟩ := known_take h1
  obtain ⟨b1, b2⟩ := known_take h2
  refine ⟨kn, a2, b2, by omega, by omega, ?_⟩
  have h3 : ((getN l t).label.size : Int) ≤ 0 := hr.1
  have h4 : (getN l t).label.size = 0 := by omega
  generalize (getN l t).label = x at h4
  obtain ⟨⟨d⟩⟩ := x
  simp [ByteArray.size] at h4
  subst h4
  rfl
theorem itemsN_fuel {l : List Node} (h : Built l) : ∀ (f g : Nat) (t : Int), t.toNat < f → t.toNat < g → itemsN l f t = itemsN l g t := by
  intro f
  induction f with
  | zero => intro g t h1; omega
  | succ f ih =>
    intro g t h1 h2
    obtain ⟨g, rfl⟩ : ∃ k, g = k + 1 := ⟨g - 1, by omega⟩
    simp only [itemsN]
    split
    · rfl
    · split
      · rfl
      · rename_i h3 h4
        obtain ⟨p1, p2, p3, p4, p5, p6⟩ := pair_parts h (Decidable.not_not.1 h4)
        have q1 := knownB_iff.1 p1
        have q3 := knownB_iff.1 p3
        rw [ih g _ (by omega) (by omega)]
theorem items_eq {l : List Node} (h : Built l) (t : Int) : items l t = if knownB l t = true ∧ getN l t = empty then some [] else if ¬ ((getN l t).kind = 3) then none else (items l (getN l t).b).map ((getN l t).a :: ·) := by
  conv => lhs; unfold items; simp only [itemsN]
  split
  · rfl
  · split
    · rfl
    · rename_i h3 h4
      obtain ⟨p1, p2, p3, p4, p5, p6⟩ := pair_parts h (Decidable.not_not.1 h4)
      have q1 := knownB_iff.1 p1
      have q3 := knownB_iff.1 p3
      unfold items
      rw [itemsN_fuel h t.toNat ((getN l t).b.toNat + 1) _ (by omega) (by omega)]

theorem elemI : Elem Tryd.prog 46 3 (.int .i64 0) 1 8 := ⟨by kernel_rfl, by obtain ⟨i, h1, h2, h3, h4⟩ := info_parts (show (Tryd.prog.info? 3).map (fun i => (i.zero, i.size, i.bytes)) = some (some (.int .i64 0), 1, 8) by kernel_rfl); exact ⟨i, h1, h2, h3, h4⟩, rfl, by decide, by decide⟩
def ic (l : List Int) : List Value := l.map (Value.int .i64)
/-- What taking apart answers. -/
def ItemsV (w : World) (w' : World) (r : Option (List Int)) (e : Ending) : Prop :=
  match r with
  | none => e = .returned (.tuple #[.slice none 0 0, .bool false])
  | some l => ∃ v, e = .returned (.tuple #[v, .bool true]) ∧ w'.ownsRow w.heap.size 3 1 v l.length (ic l) ∧ l.length ≤ 262144

set_option maxHeartbeats 1600000 in
set_option maxRecDepth 100000 in
theorem items_any (w0 w : World) (p : Nat) (F : Nat → Prop) (s : TS) (t : Int) (h : SAt w0 w p F s) :
    Calls Tryd.prog 22 #[.pointer (some ⟨p, 0, none⟩), .int .i64 t] w fun e w' => ItemsV w w' (items s.nodes t) e ∧ Kept w w' (fun _ => False) := by
  have hlen := h.ok.len
  have hbt := h.ok.built
  have H := Lib.hid h
  have HL := Lib.hid hlen
  have HB := Lib.hid hbt
  clear h hlen hbt
  obtain ⟨res, hres⟩ : ∃ r, items s.nodes t = r := ⟨_, rfl⟩
  rw [hres]
  have R0 := Lib.hid hres
  clear hres
  go_enter Tryd.func22, Tryd.ntmps22
  go_wp2
  go_loopw [1, 6] (fun tv ov wr => ∃ (u : Int) (done : List Int), tv = .int .i64 u ∧ wr.ownsRow w.heap.size 3 1 ov done.length (ic done) ∧ Kept w wr (fun _ => False) ∧ res = (items s.nodes u).map (done ++ ·) ∧ ((done.length : Int) + u ≤ 262144 ∧ 0 ≤ u ∨ done = [])) (fun tv _ _ => (intOf tv).toNat)
  case atStart => exact ⟨t, [], rfl, World.ownsRow_nil _ _ _ _, Kept.refl _ _, by rw [R0.out]; simp, .inr rfl⟩
  case round =>
    obtain ⟨u, done, rfl, ho, hk, hr, hb⟩ := hrel
    have hie := items_eq HB.out u
    obtain ⟨sa, sc, rfl, hsc, hsm⟩ := own_slice ho
    obtain ⟨kn, hkn⟩ : ∃ b, knownB s.nodes u = b := ⟨_, rfl⟩
    obtain ⟨x, hx⟩ : ∃ x, getN s.nodes u = x := ⟨_, rfl⟩
    have hpp := pair_parts HB.out (t := u)
    have hno := getN_no (l := s.nodes) (t := u)
    rw [hkn, hx] at hie hpp
    rw [hkn, hx] at hno
    rw [hie] at hr
    clear hie
    have HKN := Lib.hid hkn
    have HX := Lib.hid hx
    have HR := Lib.hid hr
    have HO := Lib.hid ho
    have HK := Lib.hid hk
    have HBB := Lib.hid hb
    have HPP := Lib.hid hpp
    have HNO := Lib.hid hno
    clear hkn hx hr ho hk hb hpp hno
    obtain ⟨xk, xl, xa, xb⟩ := x
    go_wp2_with (fail)
    refine (get_any w0 wr p F s u (H.out.kept HK.out)).mono ?_
    rw [HKN.out, HX.out]
    rintro e w1 ⟨rfl, hk1⟩
    have K1 := Lib.hid (HK.out.trans (hk1.alloc (.cells #[.int .i64 xk, .string xl, .int .i64 xa, .int .i64 xb] 37)) (fun _ h => h.elim))
    have O1 := Lib.hid (own_keptF HO.out (hk1.alloc (.cells #[.int .i64 xk, .string xl, .int .i64 xa, .int .i64 xb] 37)) (fun _ _ h => h))
    have hb1 := heap_alloc_new w1 (.cells #[.int .i64 xk, .string xl, .int .i64 xa, .int .i64 xb] 37)
    clear hk1
    unfold nodeV
    cases kn with
    | false =>
      have e := HNO.out rfl
      simp only [zeroN, Node.mk.injEq] at e
      obtain ⟨rfl, rfl, rfl, rfl⟩ := e
      go_wp2
      go_ret2
      rw [HR.out]
      exact ⟨by simp [ItemsV], K1.out⟩
    | true =>
      by_cases he : (⟨xk, xl, xa, xb⟩ : Node) = empty
      · have he' := he
        unfold empty textN at he
        simp only [Node.mk.injEq] at he
        obtain ⟨rfl, rfl, rfl, rfl⟩ := he
        have HR2 : Hid (res = some done) := Lib.hid (by rw [HR.out, if_pos ⟨rfl, rfl⟩]; simp)
        clear HR he'
        have hl : Hid (done.length ≤ 262144) := Lib.hid (by rcases HBB.out with h | rfl; · omega
                                                            · simp)
        go_wp2
        go_ret2
        rw [HR2.out]
        exact ⟨⟨_, rfl, O1.out, hl.out⟩, K1.out⟩
      · rw [if_neg (by simp [he])] at HR
        by_cases h3 : xk = 3
        · subst h3
          obtain ⟨-, p2, p3, p4, p5, p6⟩ := HPP.out rfl
          subst p6
          have hu := knownB_iff.1 HKN.out
          have HR2 : Hid (res = (items s.nodes xb).map ((done ++ [xa]) ++ ·)) := Lib.hid (by rw [HR.out, if_neg (by simp), Option.map_map]; congr 1; funext z; simp)
          have hdl : done.length + 1 + xb.toNat ≤ 262144 := by
            have h1 := HL.out
            have h2 := knownB_iff.1 p3
            have h3 := HKN.out
            rw [knownB_iff] at h3
            rcases HBB.out with h | h
            · omega
            · rw [h, List.length_nil]; omega
          have hdl := Lib.hid hdl
          have hsize : Hid (((done.length + 1) + (done.length + 1) / 4 + 192) * 8 ≤ 281474976710656) := Lib.hid (by have := hdl.out; omega)
          have P3 := Lib.hid (knownB_iff.1 p3)
          have P5 := Lib.hid p5
          clear HR p2 p3 p4 p5 hu he HPP HNO
          go_wp2_with (at_builtin; apply hold)
          unfold Hold
          obtain ⟨w2, hw2⟩ : ∃ w2, w1.alloc (.cells #[.int .i64 3, .string ⟨#[]⟩, .int .i64 xa, .int .i64 xb] 37) = w2 := ⟨_, rfl⟩
          have hw2s : w2.heap.size = w1.heap.size + 1 := by rw [← hw2]; simp
          rw [hw2] at O1 K1 hb1 ⊢
          have SRC : Hid (Src Tryd.prog 1 46 (.slice (some ⟨w1.heap.size + 1, 0, none⟩) 1 1) 1 [.int .i64 xa] (w2.alloc (.cells #[.int .i64 xa] 3))) := by
            refine Lib.hid (Src.ofSlice _ elemI.under _ 1 1 _ rfl (fun j u hj => ?_) (by intro z hz; rw [List.mem_singleton.1 hz]; rfl))
            match j, hj with
            | 0, hj =>
              simp at hj
              subst hj
              have := heap_alloc_new w2 (.cells #[.int .i64 xa] 3)
              rw [hw2s] at this
              have c := cellOf (j := 0) this
              simpa [Addr.add] using c
          have O2 := Lib.hid (own_keptF O1.out ((Kept.refl w2 (fun _ => False)).alloc (.cells #[.int .i64 xa] 3)) (fun _ _ h => h))
          have K2 := Lib.hid (K1.out.alloc (.cells #[.int .i64 xa] 3))
          have hne : (Value.slice sa done.length sc).ownBlock ≠ some w1.heap.size := own_ne O1.out hb1 (by decide)
          have hb2 := ((Kept.refl w2 (fun _ => False)).alloc (.cells #[.int .i64 xa] 3)).blk hb1 (fun h => h)
          have HB2 := Lib.hid hb2
          have HNE := Lib.hid hne
          have BA : Hid (w.heap.size ≤ (w2.alloc (.cells #[.int .i64 xa] 3)).heap.size) := Lib.hid K2.out.size
          clear hb1 hb2 hne hw2
          refine wpList_append_ownS _ rfl (.tmp 31) (.tmp 34) 46 46 rfl w.heap.size 3 (.int .i64 0) 1 8 elemI (.slice sa done.length sc) done.length (ic done) rfl O2.out (.slice (some ⟨w1.heap.size + 1, 0, none⟩) 1 1) 1 [.int .i64 xa] rfl SRC.out hsize.out BA.out (fun v' w3 o1 g1 b1 => ?_)
          have b3 := blk_grown HB2.out g1 (fun e => HNE.out e.symm)
          have ql := blk_lt b3
          have c3 := cellOf (j := 3) b3
          simp at c3
          have K3 := Lib.hid (Kept.grown K2.out g1 (fun k hk => .inr (O2.out.lt k hk).1))
          have O3 := Lib.hid o1
          clear b3 g1 b1 o1
          go_wp2
          go_roundw
          case rel =>
            refine ⟨xb, done ++ [xa], rfl, ?_, K3.out, HR2.out, .inl ?_⟩
            · have := O3.out
              simpa [ic] using this
            · have h1 := hdl.out
              have h2 := P3.out
              rw [List.length_append, List.length_singleton]
              omega
          case measure =>
            have h2 := P3.out
            have h5 := P5.out
            simp only [intOf]
            omega
        · have q3 : (xk == 3) = false := by simpa using h3
          have HR2 : Hid (res = none) := Lib.hid (by rw [HR.out, if_pos h3]; rfl)
          have HE := Lib.hid he
          clear HR he
          go_wp2
          all_goals go_ret2
          all_goals rw [HR2.out]
          all_goals first
            | exact ⟨rfl, K1.out⟩
            | (refine ⟨rfl, ?_⟩; simpa [*] using K1.out; done)
            | (exfalso; rename_i h1 h2 h3 h4; rw [← str_nil] at h2; exact HE.out (by rw [h1, h2, h3, h4]; rfl))
end Go.Proofs.YtaifjojfmkcmjaaDoor.Term
