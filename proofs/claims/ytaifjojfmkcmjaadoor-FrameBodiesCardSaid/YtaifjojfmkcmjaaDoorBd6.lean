/-
  Commits' bodies: the proposals' terms, walked.
-/
import Derived.Test.YtaifjojfmkcmjaaDoorBd5
namespace Go.Proofs.YtaifjojfmkcmjaaDoor.Term
open Go.RowKit Go.Sort Go.Proofs.YtaifjojfmkcmjaaDoorBase Go.Proofs.YtaifjojfmkcmjaaDoorLex2 Go.Proofs.YtaifjojfmkcmjaaDoor.Dec
set_option linter.unusedVariables false
set_option linter.unusedSimpArgs false

/-- Proposals to remove, in a row that isn't the store's. -/
def PropsIn (w : World) (F : Nat → Prop) (A : Option Addr) (rem : List Int) : Prop := ∀ k x, rem[k]? = some x → ∃ g o, A = some ⟨g, o, none⟩ ∧ Out w F g ∧ w.cell? ⟨g, o + k * 11, none⟩ = some (.int .i64 3) ∧ w.cell? ⟨g, o + k * 11 + 1, none⟩ = some (.int .i64 0) ∧ w.cell? ⟨g, o + k * 11 + 2, none⟩ = some (.int .i64 0) ∧ w.cell? ⟨g, o + k * 11 + 3, none⟩ = some (.int .i64 0) ∧ w.cell? ⟨g, o + k * 11 + 4, none⟩ = some (.int .i64 0) ∧ w.cell? ⟨g, o + k * 11 + 5, none⟩ = some (.int .i64 0) ∧ w.cell? ⟨g, o + k * 11 + 6, none⟩ = some (.int .i64 0) ∧ w.cell? ⟨g, o + k * 11 + 7, none⟩ = some (.int .i64 0) ∧ w.cell? ⟨g, o + k * 11 + 8, none⟩ = some (.int .i64 x) ∧ w.cell? ⟨g, o + k * 11 + 9, none⟩ = some (.int .i64 0) ∧ w.cell? ⟨g, o + k * 11 + 10, none⟩ = some (.int .i64 0)
theorem PropsIn.next {w w2 : World} {F F2 : Nat → Prop} {A : Option Addr} {rem : List Int} (h : PropsIn w F A rem) (hb : ∀ k, F2 k → F k ∨ w.heap.size ≤ k) (hk : Kept w w2 F) : PropsIn w2 F2 A rem := by
  intro k x hx
  obtain ⟨g, o, hA, ho, hc⟩ := h k x hx
  have e := hk.block g ho.1 ho.2
  exact ⟨g, o, hA, ho.next hb hk, by simp only [World.cell?, e] at *; exact hc⟩
theorem PropsIn.kept {w w2 : World} {F : Nat → Prop} {A : Option Addr} {rem : List Int} (h : PropsIn w F A rem) (hk : Kept w w2 (fun _ => False)) : PropsIn w2 F A rem := by
  intro k x hx
  obtain ⟨g, o, hA, ho, hc⟩ := h k x hx
  have e := hk.block g ho.1 (fun h => h)
  exact ⟨g, o, hA, ho.kept hk, by simp only [World.cell?, e] at *; exact hc⟩
/-- A cell that isn't the store's. -/
def CellIn (w : World) (F : Nat → Prop) (g : Nat) (v : Value) : Prop := Out w F g ∧ w.cell? ⟨g, 0, none⟩ = some v
theorem CellIn.next {w w2 : World} {F F2 : Nat → Prop} {g : Nat} {v : Value} (h : CellIn w F g v) (hb : ∀ k, F2 k → F k ∨ w.heap.size ≤ k) (hk : Kept w w2 F) : CellIn w2 F2 g v := by
  have e := hk.block g h.1.1 h.1.2
  refine ⟨h.1.next hb hk, ?_⟩
  have hc := h.2
  simp only [World.cell?, e] at *
  exact hc
theorem CellIn.kept {w w2 : World} {F : Nat → Prop} {g : Nat} {v : Value} (h : CellIn w F g v) (hk : Kept w w2 (fun _ => False)) : CellIn w2 F g v := ⟨h.1.kept hk, cellK hk h.2⟩

theorem prop_all {w : World} {q : Nat} {i : Int} {T : TypeId} (h : w.heap[q]? = some (.cells (propC i).toArray T (0, 0))) : w.cell? ⟨q, 0, none⟩ = some (.int .i64 3) ∧ w.cell? ⟨q, 1, none⟩ = some (.int .i64 0) ∧ w.cell? ⟨q, 2, none⟩ = some (.int .i64 0) ∧ w.cell? ⟨q, 3, none⟩ = some (.int .i64 0) ∧ w.cell? ⟨q, 4, none⟩ = some (.int .i64 0) ∧ w.cell? ⟨q, 5, none⟩ = some (.int .i64 0) ∧ w.cell? ⟨q, 6, none⟩ = some (.int .i64 0) ∧ w.cell? ⟨q, 7, none⟩ = some (.int .i64 0) ∧ w.cell? ⟨q, 8, none⟩ = some (.int .i64 i) ∧ w.cell? ⟨q, 9, none⟩ = some (.int .i64 0) ∧ w.cell? ⟨q, 10, none⟩ = some (.int .i64 0) :=
  ⟨cellOf h, cellOf h, cellOf h, cellOf h, cellOf h, cellOf h, cellOf h, cellOf h, cellOf h, cellOf h, cellOf h⟩
theorem one_any (w0 w : World) (p q : Nat) (F : Nat → Prop) (s : TS) (i : Int) (h : SAt w0 w p F s) (hc : CellIn w F q (.pointer (some ⟨p, 0, none⟩))) (hi : I64 i) :
    Calls Tryd.prog 53 #[propV i, .pointer (some ⟨q, 0, none⟩)] w fun e w' => e = .returned (.int .i64 (remT s i).1) ∧ TNext w0 w w' p F (remT s i).2 := by
  have ka := (Kept.refl w (fun _ => False)).alloc (.cells (propC i).toArray 97)
  have H := Lib.hid (h.kept ka)
  have HI := Lib.hid hi
  have hq := cellK ka hc.2
  have KA := Lib.hid ka
  obtain ⟨wa, hwa⟩ : ∃ wa, w.alloc (.cells (propC i).toArray 97) = wa := ⟨_, rfl⟩
  have hb := heap_alloc_new w (.cells (propC i).toArray 97)
  rw [hwa] at H hq KA hb
  obtain ⟨b0, b1, b2, b3, b4, b5, b6, b7, b8, b9, b10⟩ := prop_all hb
  simp only [propC, List.toArray] at hwa
  clear h hi hc ka hb
  unfold propV
  go_enter Tryd.func53, Tryd.ntmps53
  go_wp2_with (fail)
  refine (term_any w0 wa p F s i H.out HI.out).mono ?_
  rintro e w1 ⟨rfl, hT⟩
  have T := Lib.hid (TNext.after KA.out hT)
  clear hT hq hwa b0 b1 b2 b3 b4 b5 b6 b7 b8 b9 b10
  go_wp2
  go_ret
  exact ⟨rfl, T.out⟩
set_option maxHeartbeats 3200000 in
set_option maxRecDepth 100000 in
theorem listedP_any (w0 w : World) (p q : Nat) (F : Nat → Prop) (s : TS) (ls : List Int) (A : Option Addr) (c : Nat) (h : SAt w0 w p F s) (hr : PropsIn w F A ls) (hc : CellIn w F q (.pointer (some ⟨p, 0, none⟩))) (hn : ls.length ≤ 20) (hi : ∀ x ∈ ls, I64 x) :
    Calls Tryd.prog 52 #[.pointer (some ⟨p, 0, none⟩), .slice A ls.length c, .func (.func 53) #[] #[.pointer (some ⟨q, 0, none⟩)]] w fun e w' => e = .returned (.int .i64 (listedT remT s ls).1) ∧ TNext w0 w w' p F (listedT remT s ls).2 := by
  have H := Lib.hid h
  have HR := Lib.hid hr
  have HC := Lib.hid hc
  have HN := Lib.hid hn
  have HI := Lib.hid hi
  clear h hr hc hn hi
  go_enter Tryd.func52, Tryd.ntmps52
  go_wp2
  go_loopw [7, 12] (fun ov iv wr => ∃ (k : Nat) (F1 : Nat → Prop), k ≤ ls.length ∧ iv = .int .i64 k ∧ SAt w0 wr p F1 (mapT remT s (ls.take k)).2 ∧ (∀ k, F1 k → F k ∨ w.heap.size ≤ k) ∧ Kept w wr F ∧ wr.ownsRow w.heap.size 3 1 ov k (ic (mapT remT s (ls.take k)).1) ∧ Free w0 F1 ov) (fun _ iv _ => (ls.length - intOf iv).toNat)
  case atStart => exact ⟨0, F, Nat.zero_le _, rfl, H.out, fun k h => .inl h, Kept.refl _ _, World.ownsRow_nil _ _ _ _, fun k hk => by cases hk⟩
  case round =>
    obtain ⟨k, F1, hkn, rfl, s1, b1, k1, ow, fr⟩ := hrel
    obtain ⟨sa, sc, rfl, hsc, hsm⟩ := own_slice ow
    have S1 := Lib.hid s1
    have B1 := Lib.hid b1
    have K1 := Lib.hid k1
    have OW := Lib.hid ow
    have FR := Lib.hid fr
    have HR := Lib.hid (HR.out.next b1 k1)
    have HC := Lib.hid (HC.out.next b1 k1)
    have qb := HN.out
    clear s1 b1 k1 ow fr
    by_cases hlt : k < ls.length
    · obtain ⟨x, hx⟩ : ∃ x, ls[k]? = some x := ⟨_, List.getElem?_eq_getElem hlt⟩
      have MT := Lib.hid (mapT_take (f := remT) (s := s) hx)
      have IX := Lib.hid (HI.out x (List.mem_of_getElem? hx))
      obtain ⟨g, o, rfl, -, c0, c1, c2, c3, c4, c5, c6, c7, c8, c9, c10⟩ := HR.out k x hx
      have q1 : (0 : Int) ≤ k := by omega
      have q2 : (k : Int) < ls.length := by omega
      have KN := Lib.hid hlt
      clear hx hlt
      obtain ⟨⟨rl, rs⟩, hm⟩ : ∃ r, mapT remT s (ls.take k) = r := ⟨_, rfl⟩
      rw [hm] at MT S1 OW
      simp only at MT S1 OW
      clear hm
      go_wp2_with (fail)
      have ka := (Kept.refl wr (fun _ => False)).alloc (.cells (propC x).toArray 97)
      refine (one_any w0 _ p q F1 rs x (S1.out.kept ka) (HC.out.kept ka) IX.out).mono ?_
      obtain ⟨⟨t, ts⟩, ht⟩ : ∃ r, remT rs x = r := ⟨_, rfl⟩
      rw [ht] at MT ⊢
      simp only at MT ⊢
      clear ht
      rintro e w2 ⟨rfl, F2, s2, b2, k2⟩
      have b3 : ∀ g, F2 g → F1 g ∨ wr.heap.size ≤ g := fun g hg => (b2 g hg).elim .inl fun hh => .inr (Nat.le_trans ka.size hh)
      have k3 : Kept wr w2 F1 := (ka.mono (fun _ h => h.elim)).trans k2 (fun _ h => .inl h)
      have S2 := Lib.hid s2
      have B2 := Lib.hid (chain B1.out K1.out b3 k3).1
      have K2 := Lib.hid (chain B1.out K1.out b3 k3).2
      have FR2 : Hid (Free w0 F2 (.slice sa k sc)) := Lib.hid (FR.out.next (fun g hg => (OW.out.lt g hg).2) b3)
      have OW2 := Lib.hid (own_keptF OW.out k3 (fun g hg => (FR.out g hg).1))
      have OW3 := Lib.hid (own_keptF OW2.out ((Kept.refl w2 (fun _ => False)).alloc (.cells #[.int .i64 (t : Int)] 3)) (fun _ _ h => h))
      have SRC := Lib.hid (src_one w2 t)
      have BA : Hid (w.heap.size ≤ (w2.alloc (.cells #[.int .i64 (t : Int)] 3)).heap.size) := Lib.hid (by have := K2.out.size; simp; omega)
      have BY : Hid (((k + 1) + (k + 1) / 4 + 192) * 8 ≤ 281474976710656) := Lib.hid (by have := KN.out; omega)
      clear s2 b2 k2 b3 k3 ka c0 c1 c2 c3 c4 c5 c6 c7 c8 c9 c10
      go_wp2_with (at_builtin; apply hold)
      unfold Hold
      refine wpList_append_ownS _ rfl (.tmp 16) (.tmp 20) 46 46 rfl w.heap.size 3 (.int .i64 0) 1 8 elemI (.slice sa k sc) k (ic rl) rfl OW3.out (.slice (some ⟨w2.heap.size, 0, none⟩) 1 1) 1 [.int .i64 t] rfl SRC.out BY.out BA.out (fun v' w3 o1 g1 b1 => ?_)
      obtain ⟨s3, f3, k3⟩ := SAt.app S2.out FR2.out g1 b1
      have S3 := Lib.hid s3
      have F3 := Lib.hid f3
      have K3 := Lib.hid (K2.out.trans k3 (fun g hg => .inr (OW2.out.lt g hg).1))
      have O3 := Lib.hid o1
      clear s3 f3 k3 g1 b1 o1
      go_wp2
      go_roundw
      case rel =>
        refine ⟨k + 1, F2, KN.out, by go_num, ?_, B2.out, K3.out, ?_, F3.out⟩
        · rw [MT.out]; exact S3.out
        · rw [MT.out]; have := O3.out; simpa [ic] using this
      case measure => have := KN.out; simp [intOf]; omega
    · have hk' : k = ls.length := by omega
      subst hk'
      rw [List.take_length] at S1 OW
      have hl := mapT_len (f := remT) (s := s) (l := ls)
      have RL : Hid (listedT remT s ls = listT (mapT remT s ls).2 (mapT remT s ls).1) := Lib.hid rfl
      obtain ⟨⟨rl, rs⟩, hm⟩ : ∃ r, mapT remT s ls = r := ⟨_, rfl⟩
      rw [hm] at S1 OW hl RL
      simp only at S1 OW hl RL
      rw [← hl] at OW FR
      have R3 := Lib.hid (row_ownI OW.out)
      clear hm hlt
      go_wp2_with (fail)
      rw [← hl]
      refine (list_any w0 wr p F1 rs rl sa sc S1.out R3.out (fun _ => FR.out.clear)).mono ?_
      rw [← RL.out]
      rintro e w4 ⟨rfl, F4, s4, b4, k4⟩
      have E := Lib.hid (chain B1.out K1.out b4 k4)
      have S4 := Lib.hid s4
      clear s4 b4 k4
      go_wp2
      go_ret
      exact ⟨rfl, F4, S4.out, E.out⟩
end Go.Proofs.YtaifjojfmkcmjaaDoor.Term
