/-
  Rows in memory, copied and kept; what numbers' and texts' codecs hold.
-/
import Derived.Test.YtcnikobmepjgcaaCodec8
namespace Go.Proofs.Ytcnikobmepjgcaa.Codec
open Go.RowKit Go.Proofs.YtcnikobmepjgcaaBase Go.Proofs.YtcnikobmepjgcaaLex2 Go.Proofs.YtcnikobmepjgcaaNum
set_option linter.unusedVariables false
set_option linter.unusedSimpArgs false

def Nil : Nat → Prop := fun _ => False
theorem _root_.Go.Proofs.YtcnikobmepjgcaaBase.Kept.nil_trans {w w1 w2 : World} (h : Kept w w1 (fun _ => False)) (h2 : Kept w1 w2 (fun _ => False)) : Kept w w2 (fun _ => False) := h.trans h2 fun _ h => h.elim
theorem _root_.Go.Proofs.YtcnikobmepjgcaaBase.Kept.nil_below {w w1 : World} (h : Kept w w1 (fun _ => False)) : Below w.heap.size w w1 := h.below (fun _ h => h.elim) (Nat.le_refl _)
theorem _root_.Go.Proofs.YtcnikobmepjgcaaBase.Kept.same {w w1 : World} (h : Kept w w1 (fun _ => False)) : Same w w1 := ⟨h.size, fun k hk => h.block k hk fun h => h⟩
theorem _root_.Go.Proofs.YtcnikobmepjgcaaBase.RowIn.kept {w w1 : World} {A : Option Addr} {n : Nat} {xs : List Value} (h : RowIn w A n xs) (hk : Kept w w1 (fun _ => False)) : RowIn w1 A n xs := h.below hk.nil_below
theorem num_rep {G : Nat → Prop} {w : World} {x : Int} {u : Value} (h : numC.rep G w x u) : u = .int .i64 x := h
theorem text_rep {m : Nat} {G : Nat → Prop} {w : World} {x : ByteArray} {u : Value} (h : (textC m).rep G w x u) : u = .string x := h

theorem src_row {w : World} {A : Option Addr} {n c : Nat} {xs : List Value} {t e : TypeId} (h : RowIn w A n xs) (ht : Try.prog.underlying t = some (.slice e)) (h1 : ∀ u ∈ xs, u.oneCell' = true) : Src Try.prog 1 t (.slice A n c) n xs w := by
  have hl := h.len
  by_cases h0 : n = 0
  · subst h0
    have : xs = [] := List.eq_nil_of_length_eq_zero (by omega)
    subst this
    cases A with
    | none => exact Src.ofNil _ ht c
    | some a => exact Src.ofSlice _ ht a 0 c [] rfl (fun j u hj => by simp at hj) (fun u hu => by cases hu)
  · obtain ⟨b, off, rfl, hb, hx⟩ := h.cell (by omega)
    exact Src.ofSlice _ ht _ n c xs (by omega) (fun j u hj => by rw [Addr.add_lit]; exact hx j u hj) h1
theorem own_empty (w : World) (base : Nat) (e : TypeId) (hb : base ≤ w.heap.size) : (w.alloc (.cells #[] e)).ownsRow base e 1 (.slice (some ⟨w.heap.size, 0, none⟩) 0 0) 0 [] :=
  ⟨rfl, .inr ⟨w.heap.size, 0, #[], rfl, hb, heap_alloc_new _ _, Nat.le_refl _, Nat.zero_le _, rfl, rfl⟩⟩
theorem row_own {w : World} {base : Nat} {e : TypeId} {v : Value} {n : Nat} {xs : List Value} (h : w.ownsRow base e 1 v n xs) : ∃ A c, v = .slice A n c ∧ n ≤ c ∧ RowIn w A n xs := by
  have hl : n = xs.length := by have := h.1; omega
  rcases h.2 with ⟨rfl, rfl⟩ | ⟨g, cap, cur, rfl, hbg, hh, hnc, hcm, r⟩
  · exact ⟨none, 0, rfl, Nat.le_refl _, hl, Nat.zero_le _, fun h => absurd h (Nat.lt_irrefl 0)⟩
  · refine ⟨_, _, rfl, hnc, hl, by omega, fun _ => ⟨g, 0, rfl, blk_lt hh, fun k u hk => ?_⟩⟩
    have := h.cells (g := g) rfl k u hk
    rw [Addr.add_lit] at this
    exact this
theorem ints_one (l : List Int) : ∀ u ∈ l.map (Value.int .i64), u.oneCell' = true := by
  intro u hu
  obtain ⟨_, _, rfl⟩ := List.mem_map.1 hu
  rfl
theorem strs_one (l : List ByteArray) : ∀ u ∈ l.map Value.string, u.oneCell' = true := by
  intro u hu
  obtain ⟨_, _, rfl⟩ := List.mem_map.1 hu
  rfl
theorem bools_one (l : List Bool) : ∀ u ∈ l.map Value.bool, u.oneCell' = true := by
  intro u hu
  obtain ⟨_, _, rfl⟩ := List.mem_map.1 hu
  rfl
/-- A codec's two cells. -/
def CB (w : World) (p : Nat) (pf : FuncId) (pc : Array Value) (gf : FuncId) (gc : Array Value) : Prop :=
  w.cell? ⟨p, 0, none⟩ = some (.func (.func pf) #[] pc) ∧ w.cell? ⟨p, 1, none⟩ = some (.func (.func gf) #[] gc)
theorem CB.of {w : World} {p : Nat} {pf : FuncId} {pc : Array Value} {gf : FuncId} {gc : Array Value} {T : TypeId} {f : Nat × Nat} (h : w.heap[p]? = some (.cells #[.func (.func pf) #[] pc, .func (.func gf) #[] gc] T f)) : CB w p pf pc gf gc := by
  constructor
  · have := cell_of_row w p 0 _ T f h; simpa using this
  · have := cell_of_row w p 1 _ T f h; simpa using this
theorem cell_same {w w' : World} {p j : Nat} (h : w'.heap[p]? = w.heap[p]?) : w'.cell? ⟨p, j, none⟩ = w.cell? ⟨p, j, none⟩ := by simp only [World.cell?, h]
theorem CB.same {w w' : World} {p : Nat} {pf : FuncId} {pc : Array Value} {gf : FuncId} {gc : Array Value} (hb : CB w p pf pc gf gc) (h : w'.heap[p]? = w.heap[p]?) : CB w' p pf pc gf gc := ⟨(cell_same h).trans hb.1, (cell_same h).trans hb.2⟩
theorem CB.kept {w w' : World} {p : Nat} {pf : FuncId} {pc : Array Value} {gf : FuncId} {gc : Array Value} (hb : CB w p pf pc gf gc) (h : Kept w w' (fun _ => False)) (hp : p < w.heap.size) : CB w' p pf pc gf gc := hb.same (h.block p hp fun h => h)
end Go.Proofs.Ytcnikobmepjgcaa.Codec
