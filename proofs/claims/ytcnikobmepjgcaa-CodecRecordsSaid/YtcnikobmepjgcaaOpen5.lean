/-
  A record that came in, opened.
-/
import Derived.Test.YtcnikobmepjgcaaCodRecs
import Derived.Test.YtcnikobmepjgcaaOpen3
import Derived.Lib.SmallJoins
namespace Go.Proofs.Ytcnikobmepjgcaa.Codec
open Go.RowKit Go.Proofs.YtcnikobmepjgcaaBase Go.ChangeShapes Go.WideShapes
set_option linter.unusedVariables false
set_option maxRecDepth 100000 in
theorem open_thing {H : Type} {enc : TypeId × Value → H} {W : World} {b0 base : Nat} {r : Reach} {held : Bool} {v : Value} {d : DataW H} {p : List MemPlace} (hv : Value.okWide Try.prog W r b0 103 v) (h : DataW.Trod enc Try.prog W base (fun _ => true) held 103 v d p) :
    ∃ (x : Thg) (A : Option Addr) (c : Nat), v = .agg #[.int .i64 x.a, .string x.s, .slice A x.l.length c, .bool x.f] ∧ RowIn W A x.l.length (x.l.map (Value.int .i64)) ∧ x.s.size ≤ 9223372036854775807 := by
  obtain ⟨u0, u1, u2, u3, y0, y1, y2, y3, m, rfl, _, _, t0, t1, t2, t3⟩ := Joins.open_agg4 Try.underlying103 (by kernel_rfl) (by kernel_rfl) hv h
  obtain ⟨a, e0, _, _⟩ := DataW.trod_int (k := .i64) (t := 3) Try.underlying3 t0
  obtain ⟨s, e1, _, hs⟩ := DataW.trod_string (t := 9) Try.underlying9 t1
  obtain ⟨A, n, c, e2⟩ := Joins.slice_form (t := 22) Try.underlying22 t2
  obtain ⟨f, e3, _⟩ := DataW.trod_bool (t := 4) Try.underlying4 t3
  simp only [List.cons.injEq, and_true] at e0 e1 e2 e3
  subst e0 e1 e2 e3
  obtain ⟨l, hr, _⟩ := open_ints_row (k := .i64) (t := 22) (e := 3) (d := y2.1) (ps := y2.2) (enc := enc) (base := base) (held := held) (n := n) (c := c) Try.underlying22 Try.underlying3 (by kernel_rfl) ⟨m, t2⟩
  have hl : n = l.length := by have := hr.len; simpa using this
  subst hl
  unfold maxLen at hs
  exact ⟨⟨a, s, l, f⟩, A, c, rfl, hr, by omega⟩
end Go.Proofs.Ytcnikobmepjgcaa.Codec
