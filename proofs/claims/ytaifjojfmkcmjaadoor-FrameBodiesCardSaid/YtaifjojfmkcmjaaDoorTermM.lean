/-
  Maps whose keys are terms: asked and written.
-/
import Derived.Test.YtaifjojfmkcmjaaDoorTermP
import Derived.Test.YtaifjojfmkcmjaaDoorLex3
import Derived.WideKeyRuns
import Derived.Laws.StructEq
import Derived.ChangeKeysEq
namespace Go.Proofs.YtaifjojfmkcmjaaDoor.Term
open Go.RowKit Go.Proofs.YtaifjojfmkcmjaaDoorBase Go.Proofs.YtaifjojfmkcmjaaDoorLex2
set_option linter.unusedVariables false
set_option linter.unusedSimpArgs false

theorem Node.ext_iff' {x y : Node} : x = y ↔ x.kind = y.kind ∧ x.label = y.label ∧ x.a = y.a ∧ x.b = y.b := ⟨fun e => by subst e; exact ⟨rfl, rfl, rfl, rfl⟩, fun h => Node.ext' h.1 h.2.1 h.2.2.1 h.2.2.2⟩
def nodeC (n : Node) : List Value := [.int .i64 n.kind, .string n.label, .int .i64 n.a, .int .i64 n.b]
def nodeV (n : Node) : Value := .agg #[.int .i64 n.kind, .string n.label, .int .i64 n.a, .int .i64 n.b]
def entryOf (n : Node) (i : Nat) : MapEntry := ⟨nodeV n, .int .i64 ((i : Int) + 1), i⟩
def entries (l : List Node) : List MapEntry := l.mapIdx fun i n => entryOf n i

theorem run_checkKey_n (em : Bool) (n : Node) (k : Nat) (w : World) : (Instr.checkKey em (k + 1 + 1) 37 (nodeV n)).run Tryd.prog w = .ok () w := by
  have hi := @run_part_plain Tryd.prog w 3 (by kernel_rfl)
  have hs := @run_part_plain Tryd.prog w 9 (by kernel_rfl)
  have h0 := hi (xs := #[.int .i64 n.kind, .string n.label, .int .i64 n.a, .int .i64 n.b]) (off := 0) rfl
  have h1 := hs (xs := #[.int .i64 n.kind, .string n.label, .int .i64 n.a, .int .i64 n.b]) (off := 1) rfl
  have h2 := hi (xs := #[.int .i64 n.kind, .string n.label, .int .i64 n.a, .int .i64 n.b]) (off := 2) rfl
  have h3 := hi (xs := #[.int .i64 n.kind, .string n.label, .int .i64 n.a, .int .i64 n.b]) (off := 3) rfl
  clear hi hs
  simp [Instr.checkKey, nodeV, run_underlying Tryd.underlying37, run_underlying Tryd.underlying3, run_underlying Tryd.underlying9, h0, h1, h2, h3, Result.andThen]
theorem run_checkKey_node (em : Bool) (n : Node) (w : World) : (Instr.checkKey em 10000 37 (nodeV n)).run Tryd.prog w = .ok () w := run_checkKey_n em n 9998 w
theorem run_equal_n (x y : Node) (k : Nat) (w : World) : (Op.equalIn (k + 1 + 1) 37 (nodeV x) (nodeV y)).run Tryd.prog w = .ok (decide (x = y)) w := by
  have hi := fun w => @run_part_plain Tryd.prog w 3 (by kernel_rfl)
  have hs := fun w => @run_part_plain Tryd.prog w 9 (by kernel_rfl)
  have hu := Tryd.underlying37
  unfold nodeV
  rw [run_equalIn_struct w _ _ _ _ (by simp only [Program.fieldsOf, hu]) (by kernel_rfl)]
  have e1 := fun w a b => run_equalIn_int (P := Tryd.prog) w k 3 .i64 .i64 a b Tryd.underlying3
  have e2 := fun w a b => run_equalIn_string (P := Tryd.prog) w k 9 a b Tryd.underlying9
  have p0 := fun (w : World) (n : Node) => hi w (xs := #[.int .i64 n.kind, .string n.label, .int .i64 n.a, .int .i64 n.b]) (off := 0) rfl
  have p1 := fun (w : World) (n : Node) => hs w (xs := #[.int .i64 n.kind, .string n.label, .int .i64 n.a, .int .i64 n.b]) (off := 1) rfl
  have p2 := fun (w : World) (n : Node) => hi w (xs := #[.int .i64 n.kind, .string n.label, .int .i64 n.a, .int .i64 n.b]) (off := 2) rfl
  have p3 := fun (w : World) (n : Node) => hi w (xs := #[.int .i64 n.kind, .string n.label, .int .i64 n.a, .int .i64 n.b]) (off := 3) rfl
  clear hi hs
  have x4 : (x.label.toList == y.label.toList) = decide (x.label = y.label) := by
    rw [ByteArray.toList_eq, ByteArray.toList_eq, Bool.eq_iff_iff]
    simp only [beq_iff_eq, decide_eq_true_eq]
    refine ⟨fun e => ?_, fun e => by rw [e]⟩
    have h1 := mk_data x.label
    rw [e, mk_data] at h1
    exact h1.symm
  simp only [Program.fieldsOf, hu]
  clear hu
  simp only [Op.eqFields, Sem.run_bind, Sem.run_ite, Sem.run_pure, Result.andThen_ok, p0, p1, p2, p3, e1, e2, x4]
  simp only [Node.ext_iff']
  by_cases h0 : x.kind = y.kind <;> by_cases h1 : x.label = y.label <;> by_cases h2 : x.a = y.a <;> by_cases h3 : x.b = y.b <;> simp [h0, h1, h2, h3, e1, e2, x4, p0, p1, p2, p3, Result.andThen]
theorem run_equal_node (x y : Node) (w : World) : (Op.equal 37 (nodeV x) (nodeV y)).run Tryd.prog w = .ok (decide (x = y)) w := run_equal_n x y 9998 w

/-- Asked for a key: its place, or none. -/
theorem run_findAsking (n : Node) (w : World) : ∀ (l : List Node) (j : Nat) (i : Nat), (Instr.findAsking 37 (nodeV n) (l.mapIdx fun i n => entryOf n (i + j)) i).run Tryd.prog w = .ok (match l.findIdx? (fun x => decide (x = n)) with | some k => some (i + k, .int .i64 ((k + j : Nat) + 1)) | none => none) w
  | [], j, i => by simp [Instr.findAsking]
  | x :: l, j, i => by
    have h := run_equal_node n x w
    have ih := run_findAsking n w l (j + 1) (i + 1)
    rw [List.mapIdx_cons, List.findIdx?_cons]
    simp only [Instr.findAsking, entryOf, Nat.zero_add, Sem.run_bind, h, Result.andThen_ok, Sem.run_ite, Sem.run_pure]
    by_cases e : x = n
    · subst e
      simp
    · have e' : ¬ n = x := fun h => e h.symm
      rw [if_neg (by simpa using e'), if_neg (by simpa using e)]
      have e2 : (fun (i : Nat) (n : Node) => (⟨nodeV n, .int .i64 (((i + 1 + j : Nat) : Int) + 1), i + 1 + j⟩ : MapEntry)) = fun i n => entryOf n (i + (j + 1)) := by
        funext i n
        unfold entryOf
        have : i + 1 + j = i + (j + 1) := by omega
        rw [this]
      rw [e2, ih]
      cases l.findIdx? (fun x => decide (x = n)) with
      | none => rfl
      | some k =>
        simp only [Option.map_some, Result.ok.injEq, Option.some.injEq, Prod.mk.injEq, and_true]
        refine ⟨by omega, ?_⟩
        rw [show k + (j + 1) = k + 1 + j from by omega]
set_option maxRecDepth 20000 in
theorem run_findKey_node (n : Node) (l : List Node) (w : World) : (Instr.findKey 37 (nodeV n) (entries l)).run Tryd.prog w = .ok (if idx l n = 0 then none else some (idx l n - 1, .int .i64 (idx l n))) w := by
  have h0 := run_findKey_eq (P := Tryd.prog) (k := 37) w (by kernel_rfl) (nodeV n) (entries l)
  have h := run_findAsking n w l 0 0
  rw [h0]
  have e : (l.mapIdx fun i n => entryOf n (i + 0)) = entries l := rfl
  rw [e] at h
  rw [h]
  unfold idx
  cases l.findIdx? (fun x => decide (x = n)) with
  | none => rfl
  | some k => simp
set_option maxRecDepth 20000 in
theorem run_lookup_node (n : Node) (l : List Node) (c m : Nat) (w : World) (hb : w.heap[m]? = some (.map (entries l).toArray c)) :
    (Instr.lookup 79 (.map (some m)) (nodeV n) true).run Tryd.prog w = .ok (.tuple #[.int .i64 (idx l n), .bool (decide (idx l n ≠ 0))]) w := by
  have hz : (zeroValue 3).run Tryd.prog w = .ok (.int .i64 0) w := by kernel_rfl
  have hk := run_findKey_node n l w
  have hc := run_checkKey_node (entries l).isEmpty n w
  by_cases h : idx l n = 0
  · rw [if_pos h] at hk
    simp [Instr.lookup, run_underlying Tryd.underlying79, MapKept.run_getObj_map hb, hc, hk, hz, h, Result.andThen]
  · rw [if_neg h] at hk
    simp [Instr.lookup, run_underlying Tryd.underlying79, MapKept.run_getObj_map hb, hc, hk, hz, h, Result.andThen]
def setMap (w : World) (m : Nat) (o : Obj) : World := { w with heap := w.heap.setIfInBounds m o }
set_option maxRecDepth 20000 in
theorem run_update_node (n : Node) (l : List Node) (m : Nat) (v : Value) (w : World) (hn : idx l n = 0) (hb : w.heap[m]? = some (.map (entries l).toArray l.length)) :
    (Instr.mapUpdate 79 (.map (some m)) (nodeV n) v).run Tryd.prog w = .ok () (setMap w m (.map ((entries l).toArray.push ⟨nodeV n, v, l.length⟩) (l.length + 1))) := by
  have hk := run_findKey_node n l w
  have hc := run_checkKey_node false n w
  rw [if_pos hn] at hk
  simp [Instr.mapUpdate, run_underlying Tryd.underlying79, MapKept.run_getObj_map hb, hc, hk, MapKept.run_setObj_map _ hb, Result.andThen, setMap]
theorem entries_snoc (l : List Node) (n : Node) : (entries (l ++ [n])).toArray = (entries l).toArray.push ⟨nodeV n, .int .i64 ((l.length : Int) + 1), l.length⟩ := by
  unfold entries
  rw [List.mapIdx_append]
  simp [entryOf]
end Go.Proofs.YtaifjojfmkcmjaaDoor.Term
