/-
  A commit's body that came in, opened.
-/
import Derived.Test.YtaifjojfmkcmjaaDoorLawBodies0
import Derived.Test.YtaifjojfmkcmjaaDoorOpen3
import Derived.Lib.SmallJoins
namespace Go.Proofs.YtaifjojfmkcmjaaDoor.Term
open Go.RowKit Go.Proofs.YtaifjojfmkcmjaaDoorBase Go.ChangeShapes Go.WideShapes Go.Deep
set_option linter.unusedVariables false
theorem bodyFields : ∃ f0 f1 f2 f3 f4, Tryd.prog.underlying 60 = some (.struct #[f0, f1, f2, f3, f4]) ∧ f0.type = 46 ∧ f1.type = 46 ∧ f2.type = 46 ∧ f3.type = 58 ∧ f4.type = 4 ∧ oneCellFields Tryd.prog #[f0, f1, f2, f3, f4] = true :=
  ⟨_, _, _, _, _, Tryd.underlying60, rfl, rfl, rfl, rfl, rfl, by kernel_rfl⟩
theorem open_ints_at {H : Type} {enc : TypeId × Value → H} {W : World} {base m : Nat} {held : Bool} {u : Value} {y : DataW H × List MemPlace} (t : DataW.trod enc Tryd.prog W base (fun _ => true) held m 46 [u] = some y) :
    ∃ (A : Option Addr) (c : Nat) (l : List Int), u = .slice A l.length c ∧ RowIn W A l.length (ic l) ∧ ∀ x ∈ l, I64 x := by
  obtain ⟨A, n, c, e⟩ := Joins.slice_form (t := 46) Tryd.underlying46 t
  simp only [List.cons.injEq, and_true] at e
  subst e
  obtain ⟨l, hr, hw⟩ := open_ints_row (k := .i64) (t := 46) (e := 3) (d := y.1) (ps := y.2) (enc := enc) (base := base) (held := held) (n := n) (c := c) Tryd.underlying46 Tryd.underlying3 (by kernel_rfl) ⟨m, t⟩
  have hl : n = l.length := by have := hr.len; simpa using this
  subst hl
  exact ⟨A, c, l, rfl, hr, fun x hx => by have := hw x hx; simpa [Lit.wf, IntKind.min, IntKind.max, IntKind.signed, IntKind.bits, I64] using this⟩
theorem choose_fn {α : Type} {n : Nat} {p : Nat → α → Prop} (h : ∀ i, i < n → ∃ x, p i x) : ∃ l : List α, l.length = n ∧ ∀ i x, l[i]? = some x → p i x := by
  induction n with
  | zero => exact ⟨[], rfl, fun i x hx => by simp at hx⟩
  | succ n ih =>
    obtain ⟨l, hl, hp⟩ := ih fun i hi => h i (by omega)
    obtain ⟨x, hx⟩ := h n (by omega)
    refine ⟨l ++ [x], by simp [hl], fun i y hy => ?_⟩
    rcases Nat.lt_or_ge i l.length with hlt | hge
    · rw [List.getElem?_append_left hlt] at hy; exact hp i y hy
    · rw [List.getElem?_append_right hge] at hy
      have h0 : i - l.length = 0 := by
        rcases Nat.eq_zero_or_pos (i - l.length) with h0 | h0
        · exact h0
        · rw [List.getElem?_eq_none (by simp; omega)] at hy; cases hy
      rw [h0] at hy
      simp at hy
      subst hy
      rw [show i = n by omega]; exact hx
theorem open_boxes_at {H : Type} {enc : TypeId × Value → H} {W : World} {base m : Nat} {held : Bool} {u : Value} {y : DataW H × List MemPlace} (t : DataW.trod enc Tryd.prog W base (fun _ => true) held m 58 [u] = some y) :
    ∃ (A : Option Addr) (c : Nat) (l : List (List Int)), u = .slice A l.length c ∧ BoxesIn W A l := by
  rcases open_slice1 (t := 58) (e := 46) Tryd.underlying58 (by kernel_rfl) t with ⟨hcs, _⟩ | ⟨a, len, cap, m', n, V, D, Pl, hcs, _, hl, hm, hmm, _, hx⟩
  · simp only [List.cons.injEq, and_true] at hcs
    subst hcs
    exact ⟨none, 0, [], rfl, Nat.zero_le _, fun k l hk => by cases hk⟩
  · simp only [List.cons.injEq, and_true] at hcs
    subst hcs
    simp only [if_true] at hmm
    subst hmm
    have each : ∀ i, i < len → ∃ q : List Int, ∃ B c, W.cell? (a.add i) = some (.slice B q.length c) ∧ RowIn W B q.length (ic q) := by
      intro i hi
      obtain ⟨h1, h2⟩ := hx i (by omega)
      obtain ⟨B, c, q, e, hr, _⟩ := open_ints_at h2
      exact ⟨q, B, c, by rw [h1, e], hr⟩
    obtain ⟨ls, hlen, hls⟩ := choose_fn each
    subst hlen
    refine ⟨some a, m', ls, rfl, Nat.le_trans hl hm, fun k l hk => ?_⟩
    obtain ⟨B, c, h1, h2⟩ := hls k l hk
    obtain ⟨b, off, spot⟩ := a
    have hspot : spot = none := by
      have hpos : 0 < ls.length := by have := (List.getElem?_eq_some_iff.1 hk).1; omega
      obtain ⟨q, B', c', hz, _⟩ := each 0 hpos
      simpa [Addr.add] using World.cell?_spot hz
    subst hspot
    rw [add_plain] at h1
    exact ⟨b, off, B, c, rfl, World.block_lt_of_cell? _ _ h1, h1, h2⟩
set_option maxRecDepth 100000 in
theorem open_body {H : Type} {enc : TypeId × Value → H} {W : World} {b0 base : Nat} {r : Reach} {held : Bool} {v : Value} {d : DataW H} {p : List MemPlace} (hv : Value.okWide Tryd.prog W r b0 60 v) (h : DataW.Trod enc Tryd.prog W base (fun _ => true) held 60 v d p) :
    ∃ (A B C D : Option Addr) (ca cb cc cd : Nat) (b : BodyD), v = bodyV A B C D ca cb cc cd b ∧ BodyIn W A B C D b ∧ ∀ x ∈ b.rem, I64 x := by
  obtain ⟨f0, f1, f2, f3, f4, hs, t0, t1, t2, t3, t4, hone⟩ := bodyFields
  obtain ⟨cs, rfl, hsz⟩ := okWide_struct hs hv
  have hC : Tryd.prog.cellsOf 60 = 5 := by kernel_rfl
  rw [hC] at hsz
  obtain ⟨l⟩ := cs
  obtain ⟨c0, c1, c2, c3, c4, rfl⟩ : ∃ c0 c1 c2 c3 c4, l = [c0, c1, c2, c3, c4] := by
    match l, hsz with
    | [a, b, c, d, e], _ => exact ⟨_, _, _, _, _, rfl⟩
  obtain ⟨fuel, hf⟩ := h
  obtain ⟨ys, n', _, _, _, hyl, hfl⟩ := DataW.trod_struct hs hf
  have get : ∀ (j : Nat) (f : Field) (c : Value), #[f0, f1, f2, f3, f4][j]? = some f → [c0, c1, c2, c3, c4][j]? = some c → ∃ y, DataW.trod enc Tryd.prog W base (fun _ => true) held n' f.type [c] = some y := by
    intro j f c hj hc
    obtain ⟨ho, hk⟩ := hone_of hone j f hj
    have h1 := hfl j f hj
    have hj5 : j < 5 := (List.getElem?_eq_some_iff.1 hc).1
    have h2 : ((Value.agg { toList := [c0, c1, c2, c3, c4] }).cells.toList.drop f.offset).take (Tryd.prog.cellsOf f.type) = [c] := by
      rw [ho, hk]
      show ([c0, c1, c2, c3, c4].drop j).take 1 = [c]
      rw [List.drop_eq_getElem_cons (by simpa using hj5)]
      have := List.getElem?_eq_some_iff.1 hc
      obtain ⟨_, e⟩ := this
      simp [e]
    rw [h2] at h1
    have h3 : j < ys.length := by rw [hyl]; exact hj5
    exact ⟨ys[j], by rw [h1, List.getElem?_eq_getElem h3]⟩
  obtain ⟨y0, r0⟩ := get 0 f0 c0 rfl rfl
  obtain ⟨y1, r1⟩ := get 1 f1 c1 rfl rfl
  obtain ⟨y2, r2⟩ := get 2 f2 c2 rfl rfl
  obtain ⟨y3, r3⟩ := get 3 f3 c3 rfl rfl
  obtain ⟨y4, r4⟩ := get 4 f4 c4 rfl rfl
  rw [t0] at r0; rw [t1] at r1; rw [t2] at r2; rw [t3] at r3; rw [t4] at r4
  obtain ⟨A, ca, rem, e0, g0, i0⟩ := open_ints_at r0
  obtain ⟨B, cb, refs, e1, g1, _⟩ := open_ints_at r1
  obtain ⟨C, cc, keys, e2, g2, _⟩ := open_ints_at r2
  obtain ⟨D, cd, boxes, e3, g3⟩ := open_boxes_at r3
  obtain ⟨has, e4, _⟩ := DataW.trod_bool (t := 4) Tryd.underlying4 r4
  simp only [List.cons.injEq, and_true] at e4
  subst e0 e1 e2 e3 e4
  exact ⟨A, B, C, D, ca, cb, cc, cd, ⟨rem, refs, keys, boxes, has⟩, rfl, ⟨g0, g1, g2, g3⟩, i0⟩
end Go.Proofs.YtaifjojfmkcmjaaDoor.Term
