/-
  Commits' bodies: lists of what is made of each, walked.
-/
import Derived.Test.YtaifjojfmkcmjaaDoorBd4
namespace Go.Proofs.YtaifjojfmkcmjaaDoor.Term
open Go.RowKit Go.Sort Go.Proofs.YtaifjojfmkcmjaaDoorBase Go.Proofs.YtaifjojfmkcmjaaDoorLex2 Go.Proofs.YtaifjojfmkcmjaaDoor.Dec
set_option linter.unusedVariables false
set_option linter.unusedSimpArgs false

/-- What is made of each, one behind the other. -/
def mapT {α : Type} (f : TS → α → Nat × TS) (s : TS) (l : List α) : List Int × TS := l.foldl (fun r x => (r.1 ++ [((f r.2 x).1 : Int)], (f r.2 x).2)) ([], s)
theorem mapT_take {α : Type} {f : TS → α → Nat × TS} {s : TS} {l : List α} {k : Nat} {x : α} (h : l[k]? = some x) : mapT f s (l.take (k + 1)) = ((mapT f s (l.take k)).1 ++ [((f (mapT f s (l.take k)).2 x).1 : Int)], (f (mapT f s (l.take k)).2 x).2) := by
  rw [List.take_add_one, h]
  simp [mapT, List.foldl_append]
theorem mapT_snoc {α : Type} {f : TS → α → Nat × TS} {s : TS} {l : List α} {x : α} : mapT f s (l ++ [x]) = ((mapT f s l).1 ++ [((f (mapT f s l).2 x).1 : Int)], (f (mapT f s l).2 x).2) := by simp [mapT, List.foldl_append]
theorem mapT_len {α : Type} {f : TS → α → Nat × TS} {s : TS} {l : List α} : (mapT f s l).1.length = l.length := by
  have key : ∀ (l : List α) (acc : List Int) (t : TS), (l.foldl (fun (r : List Int × TS) x => (r.1 ++ [((f r.2 x).1 : Int)], (f r.2 x).2)) (acc, t)).1.length = acc.length + l.length := by
    intro l
    induction l with
    | nil => intro acc t; simp
    | cons x l ih => intro acc t; rw [List.foldl_cons, ih]; simp; omega
  have := key l [] s
  simpa [mapT] using this
def listedT {α : Type} (f : TS → α → Nat × TS) (s : TS) (l : List α) : Nat × TS := listT (mapT f s l).2 (mapT f s l).1
/-- What came in is not the store's. -/
def Old (wz w : World) (F : Nat → Prop) : Prop := Kept wz w (fun _ => False) ∧ ∀ k, F k → wz.heap.size ≤ k
theorem Old.next {wz w w1 : World} {F F1 : Nat → Prop} (h : Old wz w F) (b : ∀ k, F1 k → F k ∨ w.heap.size ≤ k) (k : Kept w w1 F) : Old wz w1 F1 :=
  ⟨h.1.trans k (fun g hg => .inr (h.2 g hg)), fun g hg => (b g hg).elim (h.2 g) (fun hh => Nat.le_trans h.1.size hh)⟩
theorem Old.row {wz w : World} {F : Nat → Prop} {A : Option Addr} {l : List Int} {n : Nat} (h : Old wz w F) (hr : RowIn wz A n (ic l)) : RowIn w A n (ic l) ∧ (0 < n → Clear A F) := by
  refine ⟨rowK hr h.1, fun hn b hb hF => ?_⟩
  obtain ⟨g, o, rfl, hg, -⟩ := hr.cell hn
  have e : g = b := by simpa [Value.ownBlock] using hb
  have := h.2 b hF
  omega
theorem list_old (wz w0 w : World) (p : Nat) (F : Nat → Prop) (s : TS) (l : List Int) (A : Option Addr) (c : Nat) (h : SAt w0 w p F s) (ho : Old wz w F) (hr : RowIn wz A l.length (ic l)) :
    Calls Tryd.prog 36 #[.pointer (some ⟨p, 0, none⟩), .slice A l.length c] w fun e w' => e = .returned (.int .i64 (listT s l).1) ∧ TNext w0 w w' p F (listT s l).2 :=
  list_any w0 w p F s l A c h (ho.row hr).1 (ho.row hr).2

theorem Free.next {w0 w : World} {F F2 : Nat → Prop} {v : Value} (h : Free w0 F v) (hl : ∀ g, v.ownBlock = some g → g < w.heap.size) (b : ∀ k, F2 k → F k ∨ w.heap.size ≤ k) : Free w0 F2 v := fun g hg => ⟨fun hF => (b g hF).elim (h g hg).1 (fun hh => by have := hl g hg; omega), (h g hg).2⟩
set_option maxHeartbeats 3200000 in
set_option maxRecDepth 100000 in
theorem listedB_any (wz w0 w : World) (p : Nat) (F : Nat → Prop) (s : TS) (ls : List (List Int)) (A : Option Addr) (c : Nat) (h : SAt w0 w p F s) (ho : Old wz w F) (hr : BoxesIn wz A ls) (hn : ls.length ≤ 20) :
    Calls Tryd.prog 65 #[.pointer (some ⟨p, 0, none⟩), .slice A ls.length c, .func (.func 36) #[.pointer (some ⟨p, 0, none⟩)] #[]] w fun e w' => e = .returned (.int .i64 (listedT listT s ls).1) ∧ TNext w0 w w' p F (listedT listT s ls).2 := by
  have H := Lib.hid h
  have HO := Lib.hid ho
  have HR := Lib.hid hr
  have HN := Lib.hid hn
  clear h ho hr hn
  go_enter Tryd.func65, Tryd.ntmps65
  go_wp2
  go_loopw [7, 12] (fun ov iv wr => ∃ (k : Nat) (F1 : Nat → Prop), k ≤ ls.length ∧ iv = .int .i64 k ∧ SAt w0 wr p F1 (mapT listT s (ls.take k)).2 ∧ (∀ k, F1 k → F k ∨ w.heap.size ≤ k) ∧ Kept w wr F ∧ wr.ownsRow w.heap.size 3 1 ov k (ic (mapT listT s (ls.take k)).1) ∧ Free w0 F1 ov) (fun _ iv _ => (ls.length - intOf iv).toNat)
  case atStart => exact ⟨0, F, Nat.zero_le _, rfl, H.out, fun k h => .inl h, Kept.refl _ _, World.ownsRow_nil _ _ _ _, fun k hk => by cases hk⟩
  case round =>
    obtain ⟨k, F1, hkn, rfl, s1, b1, k1, ow, fr⟩ := hrel
    obtain ⟨sa, sc, rfl, hsc, hsm⟩ := own_slice ow
    have S1 := Lib.hid s1
    have B1 := Lib.hid b1
    have K1 := Lib.hid k1
    have OW := Lib.hid ow
    have FR := Lib.hid fr
    have OL := Lib.hid (HO.out.next b1 k1)
    have qb := HN.out
    clear s1 b1 k1 ow fr
    by_cases hlt : k < ls.length
    · obtain ⟨l, hx⟩ : ∃ x, ls[k]? = some x := ⟨_, List.getElem?_eq_getElem hlt⟩
      have MT := Lib.hid (mapT_take (f := listT) (s := s) hx)
      obtain ⟨g, o, B, cb, rfl, -, cx0, hrow⟩ := HR.out.cell k l hx
      have cx := cellK OL.out.1 cx0
      have ROW := Lib.hid hrow
      have q1 : (0 : Int) ≤ k := by omega
      have q2 : (k : Int) < ls.length := by omega
      have KN := Lib.hid hlt
      clear hx cx0 hrow hlt
      obtain ⟨⟨rl, rs⟩, hm⟩ : ∃ r, mapT listT s (ls.take k) = r := ⟨_, rfl⟩
      rw [hm] at MT S1 OW
      simp only at MT S1 OW
      clear hm
      go_wp2_with (fail)
      refine (list_old wz w0 wr p F1 rs l B cb S1.out OL.out ROW.out).mono ?_
      obtain ⟨⟨t, ts⟩, ht⟩ : ∃ r, listT rs l = r := ⟨_, rfl⟩
      rw [ht] at MT ⊢
      simp only at MT ⊢
      clear ht
      rintro e w2 ⟨rfl, F2, s2, b2, k2⟩
      have S2 := Lib.hid s2
      have B2 := Lib.hid (chain B1.out K1.out b2 k2).1
      have K2 := Lib.hid (chain B1.out K1.out b2 k2).2
      have FR2 : Hid (Free w0 F2 (.slice sa k sc)) := Lib.hid (FR.out.next (fun g hg => (OW.out.lt g hg).2) b2)
      have OW2 := Lib.hid (own_keptF OW.out k2 (fun g hg => (FR.out g hg).1))
      have OW3 := Lib.hid (own_keptF OW2.out ((Kept.refl w2 (fun _ => False)).alloc (.cells #[.int .i64 (t : Int)] 3)) (fun _ _ h => h))
      have SRC := Lib.hid (src_one w2 t)
      have BA : Hid (w.heap.size ≤ (w2.alloc (.cells #[.int .i64 (t : Int)] 3)).heap.size) := Lib.hid (by have := K2.out.size; simp; omega)
      have BY : Hid (((k + 1) + (k + 1) / 4 + 192) * 8 ≤ 281474976710656) := Lib.hid (by have := KN.out; omega)
      clear s2 b2 k2 cx
      go_wp2_with (at_builtin; apply hold)
      unfold Hold
      refine wpList_append_ownS _ rfl (.tmp 16) (.tmp 20) 46 46 rfl w.heap.size 3 (.int .i64 0) 1 8 elemI (.slice sa k sc) k (ic rl) rfl OW3.out (.slice (some ⟨w2.heap.size, 0, none⟩) 1 1) 1 [.int .i64 t] rfl SRC.out BY.out BA.out (fun v' w3 o1 g1 b1 => ?_)
      obtain ⟨s3, f3, k3⟩ := SAt.app S2.out FR2.out g1 b1
      have S3 := Lib.hid s3
      have F3 := Lib.hid f3
      have K3 := Lib.hid (K2.out.trans k3 (fun g hg => .inr (OW2.out.lt g hg).1))
      have O3 := Lib.hid o1
      clear s3 f3 k3 g1 b1 o1
      go_wp2
      go_roundw
      case rel =>
        refine ⟨k + 1, F2, KN.out, by go_num, ?_, B2.out, K3.out, ?_, F3.out⟩
        · rw [MT.out]; exact S3.out
        · rw [MT.out]; have := O3.out; simpa [ic] using this
      case measure => have := KN.out; simp [intOf]; omega
    · have hk' : k = ls.length := by omega
      subst hk'
      rw [List.take_length] at S1 OW
      have hl := mapT_len (f := listT) (s := s) (l := ls)
      have RL : Hid (listedT listT s ls = listT (mapT listT s ls).2 (mapT listT s ls).1) := Lib.hid rfl
      obtain ⟨⟨rl, rs⟩, hm⟩ : ∃ r, mapT listT s ls = r := ⟨_, rfl⟩
      rw [hm] at S1 OW hl RL
      simp only at S1 OW hl RL
      rw [← hl] at OW FR
      have R3 := Lib.hid (row_ownI OW.out)
      clear hm hlt
      go_wp2_with (fail)
      rw [← hl]
      refine (list_any w0 wr p F1 rs rl sa sc S1.out R3.out (fun _ => FR.out.clear)).mono ?_
      rw [← RL.out]
      rintro e w4 ⟨rfl, F4, s4, b4, k4⟩
      have E := Lib.hid (chain B1.out K1.out b4 k4)
      have S4 := Lib.hid s4
      clear s4 b4 k4
      go_wp2
      go_ret
      exact ⟨rfl, F4, S4.out, E.out⟩
end Go.Proofs.YtaifjojfmkcmjaaDoor.Term
