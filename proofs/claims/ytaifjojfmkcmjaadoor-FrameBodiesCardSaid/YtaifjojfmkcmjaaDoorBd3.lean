/-
  Commits' bodies: their proposals and their path, walked.
-/
import Derived.Test.YtaifjojfmkcmjaaDoorBd2
namespace Go.Proofs.YtaifjojfmkcmjaaDoor.Term
open Go.RowKit Go.Sort Go.Proofs.YtaifjojfmkcmjaaDoorBase Go.Proofs.YtaifjojfmkcmjaaDoorLex2 Go.Proofs.YtaifjojfmkcmjaaDoor.Dec
set_option linter.unusedVariables false
set_option linter.unusedSimpArgs false

/-- A proposal to remove, cell by cell. -/
def propC (i : Int) : List Value := [.int .i64 3, .int .i64 0, .int .i64 0, .int .i64 0, .int .i64 0, .int .i64 0, .int .i64 0, .int .i64 0, .int .i64 i, .int .i64 0, .int .i64 0]
def propV (i : Int) : Value := .agg #[.int .i64 3, .int .i64 0, .int .i64 0, .int .i64 0, .int .i64 0, .int .i64 0, .int .i64 0, .int .i64 0, .int .i64 i, .int .i64 0, .int .i64 0]
def propZ : Value := .agg #[.int .i64 0, .int .i64 0, .int .i64 0, .int .i64 0, .int .i64 0, .int .i64 0, .int .i64 0, .int .i64 0, .int .i64 0, .int .i64 0, .int .i64 0]
theorem infoProp : (Tryd.prog.info? 97).map (fun i => (i.zero, i.size, i.bytes)) = some (some propZ, 11, 88) := by kernel_rfl
theorem elemProp : Elem Tryd.prog 62 97 propZ 11 88 := ⟨by kernel_rfl, by obtain ⟨i, h1, h2, h3, h4⟩ := info_parts infoProp; exact ⟨i, h1, h2, h3, h4⟩, rfl, by decide, by decide⟩
set_option maxHeartbeats 3200000 in
set_option maxRecDepth 100000 in
theorem path_b (w : World) (A B C D : Option Addr) (ca cb cc cd : Nat) (b : BodyD) :
    Calls Tryd.prog 29 #[bodyV A B C D ca cb cc cd b] w fun e w' => e = .returned (.agg #[.int .i64 3, .int .i64 4, .slice C b.keys.length cc, .slice D b.boxes.length cd]) ∧ Kept w w' (fun _ => False) := by
  unfold bodyV
  go_enter Tryd.func29, Tryd.ntmps29
  go_wp2
  go_returns
  exact ⟨rfl, ((Kept.refl _ _).alloc _).alloc _⟩
set_option maxHeartbeats 3200000 in
set_option maxRecDepth 100000 in
theorem props_b (w : World) (A B C D : Option Addr) (ca cb cc cd : Nat) (b : BodyD) (h : RowIn w A b.rem.length (ic b.rem)) (hm : b.rem.length ≤ 20) :
    Calls Tryd.prog 28 #[bodyV A B C D ca cb cc cd b] w fun e w' => (∃ A' c', e = .returned (.slice A' b.rem.length c') ∧ w'.ownsRow w.heap.size 97 11 (.slice A' b.rem.length c') b.rem.length (b.rem.flatMap propC)) ∧ Kept w w' (fun _ => False) := by
  obtain ⟨rem, refs, keys, boxes, has⟩ := b
  have H := Lib.hid h
  have HM := Lib.hid hm
  clear h hm
  simp only at H HM ⊢
  unfold bodyV
  simp only
  go_enter Tryd.func28, Tryd.ntmps28
  go_wp2
  have K0 := Lib.hid ((Kept.refl w (fun _ => False)).alloc (.cells #[.slice A rem.length ca, .slice B refs.length cb, .slice C keys.length cc, .slice D boxes.length cd, .bool has] 60))
  obtain ⟨wb, hwb⟩ : ∃ wb, w.alloc (.cells #[.slice A rem.length ca, .slice B refs.length cb, .slice C keys.length cc, .slice D boxes.length cd, .bool has] 60) = wb := ⟨_, rfl⟩
  rw [hwb] at K0 ⊢
  clear hwb
  go_loopw [3, 9] (fun ov iv wr => Kept w wr (fun _ => False) ∧ ∃ k : Nat, k ≤ rem.length ∧ iv = .int .i64 k ∧ wr.ownsRow w.heap.size 97 11 ov k ((rem.take k).flatMap propC)) (fun _ iv _ => (rem.length - intOf iv).toNat)
  case atStart => exact ⟨K0.out, 0, Nat.zero_le _, rfl, World.ownsRow_nil _ _ _ _⟩
  case round =>
    obtain ⟨hk, k, hkn, rfl, ho⟩ := hrel
    obtain ⟨sa, sc, rfl, hsc, hsm⟩ := own_slice ho
    have K1 := Lib.hid hk
    have O1 := Lib.hid ho
    have qb := HM.out
    clear hk ho
    by_cases hlt : k < rem.length
    · obtain ⟨x, hx⟩ : ∃ x, rem[k]? = some x := ⟨_, List.getElem?_eq_getElem hlt⟩
      obtain ⟨g, o, rfl, -, ca⟩ := row_at (rowK H.out K1.out) hx
      have HX := Lib.hid hx
      have q1 : (0 : Int) ≤ k := by omega
      have q2 : (k : Int) < rem.length := by omega
      have KN := Lib.hid hlt
      clear hx hlt
      go_wp2_with (at_builtin; apply hold)
      unfold Hold
      have SRC : Hid (Src Tryd.prog 11 62 (.slice (some ⟨wr.heap.size, 0, none⟩) 1 1) 1 (propC x) (wr.alloc (.cells (propC x).toArray 97))) := by
        refine Lib.hid (Src.ofSlice _ elemProp.under _ 1 1 _ rfl (fun j u hj => ?_) ?_)
        · rw [Addr.add_lit, Nat.zero_add, cellOf (heap_alloc_new wr _), ← hj]
          simp
        · intro u hu
          simp only [propC, List.mem_cons, List.not_mem_nil, or_false] at hu
          rcases hu with rfl | rfl | rfl | rfl | rfl | rfl | rfl | rfl | rfl | rfl | rfl <;> rfl
      have O2 := Lib.hid (own_keptF O1.out ((Kept.refl wr (fun _ => False)).alloc (.cells (propC x).toArray 97)) (fun _ _ h => h))
      have K2 := Lib.hid (K1.out.alloc (.cells (propC x).toArray 97))
      have BA : Hid (w.heap.size ≤ (wr.alloc (.cells (propC x).toArray 97)).heap.size) := Lib.hid K2.out.size
      have BY : Hid (((k + 1) + (k + 1) / 4 + 192) * 88 ≤ 281474976710656) := Lib.hid (by omega)
      refine wpList_append_ownS _ rfl (.tmp 13) (.tmp 16) 62 62 rfl w.heap.size 97 propZ 11 88 elemProp (.slice sa k sc) k ((rem.take k).flatMap propC) rfl O2.out (.slice (some ⟨wr.heap.size, 0, none⟩) 1 1) 1 (propC x) rfl SRC.out BY.out BA.out (fun v' w3 o1 g1 b1 => ?_)
      have K3 := Lib.hid (Kept.grown K2.out g1 (fun k hk => .inr (O2.out.lt k hk).1))
      have O3 := Lib.hid o1
      clear g1 b1 o1 ca
      go_wp2
      go_roundw
      case rel =>
        refine ⟨K3.out, k + 1, KN.out, by go_num, ?_⟩
        rw [List.take_add_one, HX.out, Option.toList_some, List.flatMap_append]
        simpa using O3.out
      case measure => have := KN.out; simp [intOf]; omega
    · have hk' : k = rem.length := by omega
      subst hk'
      rw [List.take_length] at O1
      go_wp2
      go_ret
      exact ⟨⟨_, _, rfl, O1.out⟩, K1.out⟩
end Go.Proofs.YtaifjojfmkcmjaaDoor.Term
