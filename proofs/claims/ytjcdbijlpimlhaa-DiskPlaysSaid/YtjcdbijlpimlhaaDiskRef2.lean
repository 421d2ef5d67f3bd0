/-
  The document's answer for layer 15, walked: the steps without a crash, Restart and Arm.
-/
import Derived.Test.YtjcdbijlpimlhaaDiskRef
namespace Go.Proofs.Ytjcdbijlpimlhaa.Disk
open Go.RowKit Go.Proofs.YtjcdbijlpimlhaaBase Go.Proofs.YtjcdbijlpimlhaaLex
set_option linter.unusedVariables false

theorem heap_set (w : World) (g j : Nat) (u : Value) : (w.setCell ⟨g, j, none⟩ u).heap[g]? = (w.heap[g]?).map fun | .cells c e f => .cells (c.setIfInBounds j u) e f | o => o := by
  simp only [World.setCell, Array.getElem?_modify, if_pos]
  rfl

set_option maxHeartbeats 1600000 in
theorem ref_none1 (r : Nat) (x : FD) (d : ByteArray) (n : Int) (w : World) (h : RefAt w r x) (hd : x.down = false) (hf : x.fuse = 0) (hn : Room ⟨x.safe, x.loose ++ d.data.toList, 0, 0, false⟩) :
    Calls Try.prog 17 #[.pointer (some ⟨r, 0, none⟩), .int .i64 1, .string d, .int .i64 n] w fun e w' => e = .returned (.int .i64 0) ∧ RMoved w w' r ⟨x.safe, x.loose ++ d.data.toList, x.fuse - 1, x.keep, x.down⟩ := by
  obtain ⟨Al, h1, h2, hb⟩ := h
  have c0 := cellOf (j := 0) hb
  have c1 := cellOf (j := 1) hb
  have c4 := cellOf (j := 4) hb
  simp [hd] at c0 c1 c4
  have c2 := cellOf (j := 2) hb
  simp [hf] at c2
  have f0 := freeOf (j := 0) hb
  have f1 := freeOf (j := 1) hb
  have f2 := freeOf (j := 2) hb
  have f4 := freeOf (j := 4) hb
  have hal : Al.size = x.safe.length + x.loose.length := by rw [← len_data, h1, List.length_append]
  obtain ⟨B, hB⟩ : ∃ B, B = Al ++ d := ⟨_, rfl⟩
  have qa : ∀ w', (Op.stringOp .add Al d).run Try.prog w' = .ok (.string B) w' := fun w' => by
    rw [hB]
    refine run_string_add_sum w' _ _ ?_
    unfold Room at hn
    simp only [List.length_append, len_data] at hn
    omega
  have G1 : Hid ((B).data.toList = (⟨x.safe, x.loose ++ d.data.toList, x.fuse - 1, x.keep, x.down⟩ : FD).safe ++ (⟨x.safe, x.loose ++ d.data.toList, x.fuse - 1, x.keep, x.down⟩ : FD).loose) := Lib.hid (by rw [hB]; simp [ByteArray.data_append, h1])
  have G2 : Hid ((x.safe.length : Int) = (((⟨x.safe, x.loose ++ d.data.toList, x.fuse - 1, x.keep, x.down⟩ : FD).safe.length : Nat) : Int)) := Lib.hid rfl
  have HBB := Lib.hid hb
  have HF := Lib.hid hf
  have HD := Lib.hid hd
  have HFE : Hid ((((x.fuse - 1 : Nat)) : Int) = 0) := Lib.hid (by omega)
  clear hb hd h1 h2 hal hB
  try clear hn
  try clear hf
  try clear hfe
  go_enter Try.func17, Try.ntmps17
  go_wp2
  go_ret
  refine ⟨rfl, ?_, ?_⟩
  · refine ⟨B, G1.out, fun hh => by first | rfl | (rw [HD.out] at hh; cases hh), ?_⟩
    have E1 := HBB.out
    have E2 := G2.out
    have E3 := HFE.out
    have E4 := HF.out
    have E5 := HD.out
    simp only [World.heap_drewN, heap_set, E1, Option.map_some]
    simp [E3, E4, E5]
    all_goals (simp at E2; omega)
  · repeat (first | with_reducible exact Kept.refl _ _ | with_reducible refine Kept.setOwn ?_ _ | with_reducible refine Kept.drew ?_ | with_reducible refine Kept.drewN ?_ _)
set_option maxHeartbeats 1600000 in
theorem ref_more1 (r : Nat) (x : FD) (d : ByteArray) (n : Int) (w : World) (h : RefAt w r x) (hd : x.down = false) (hf : 1 < x.fuse ∧ x.fuse ≤ 65536) (hn : Room ⟨x.safe, x.loose ++ d.data.toList, 0, 0, false⟩) :
    Calls Try.prog 17 #[.pointer (some ⟨r, 0, none⟩), .int .i64 1, .string d, .int .i64 n] w fun e w' => e = .returned (.int .i64 0) ∧ RMoved w w' r ⟨x.safe, x.loose ++ d.data.toList, x.fuse - 1, x.keep, x.down⟩ := by
  obtain ⟨Al, h1, h2, hb⟩ := h
  have c0 := cellOf (j := 0) hb
  have c1 := cellOf (j := 1) hb
  have c4 := cellOf (j := 4) hb
  simp [hd] at c0 c1 c4
  obtain ⟨f, hfe⟩ : ∃ f : Int, (x.fuse : Int) = f := ⟨_, rfl⟩
  have fb1 : 1 < f := by omega
  have fb2 : f ≤ 65536 := by omega
  have fb3 : (f == 1) = false := by simp; omega
  have c2 := cellOf (j := 2) hb
  simp [hfe] at c2
  have f0 := freeOf (j := 0) hb
  have f1 := freeOf (j := 1) hb
  have f2 := freeOf (j := 2) hb
  have f4 := freeOf (j := 4) hb
  have hal : Al.size = x.safe.length + x.loose.length := by rw [← len_data, h1, List.length_append]
  obtain ⟨B, hB⟩ : ∃ B, B = Al ++ d := ⟨_, rfl⟩
  have qa : ∀ w', (Op.stringOp .add Al d).run Try.prog w' = .ok (.string B) w' := fun w' => by
    rw [hB]
    refine run_string_add_sum w' _ _ ?_
    unfold Room at hn
    simp only [List.length_append, len_data] at hn
    omega
  have G1 : Hid ((B).data.toList = (⟨x.safe, x.loose ++ d.data.toList, x.fuse - 1, x.keep, x.down⟩ : FD).safe ++ (⟨x.safe, x.loose ++ d.data.toList, x.fuse - 1, x.keep, x.down⟩ : FD).loose) := Lib.hid (by rw [hB]; simp [ByteArray.data_append, h1])
  have G2 : Hid ((x.safe.length : Int) = (((⟨x.safe, x.loose ++ d.data.toList, x.fuse - 1, x.keep, x.down⟩ : FD).safe.length : Nat) : Int)) := Lib.hid rfl
  have HBB := Lib.hid hb
  have HF := Lib.hid hf
  have HD := Lib.hid hd
  have HFE : Hid ((((x.fuse - 1 : Nat)) : Int) = (f - 1)) := Lib.hid (by omega)
  clear hb hd h1 h2 hal hB
  try clear hn
  try clear hf
  try clear hfe
  go_enter Try.func17, Try.ntmps17
  go_wp2
  go_ret
  refine ⟨rfl, ?_, ?_⟩
  · refine ⟨B, G1.out, fun hh => by first | rfl | (rw [HD.out] at hh; cases hh), ?_⟩
    have E1 := HBB.out
    have E2 := G2.out
    have E3 := HFE.out
    have E4 := HF.out
    have E5 := HD.out
    simp only [World.heap_drewN, heap_set, E1, Option.map_some]
    simp [E3, E4, E5]
    all_goals (simp at E2; omega)
  · repeat (first | with_reducible exact Kept.refl _ _ | with_reducible refine Kept.setOwn ?_ _ | with_reducible refine Kept.drew ?_ | with_reducible refine Kept.drewN ?_ _)
set_option maxHeartbeats 1600000 in
theorem ref_none2 (r : Nat) (x : FD) (d : ByteArray) (n : Int) (w : World) (h : RefAt w r x) (hd : x.down = false) (hf : x.fuse = 0) (hn : Room x) :
    Calls Try.prog 17 #[.pointer (some ⟨r, 0, none⟩), .int .i64 2, .string d, .int .i64 n] w fun e w' => e = .returned (.int .i64 0) ∧ RMoved w w' r ⟨x.safe ++ x.loose, [], x.fuse - 1, x.keep, x.down⟩ := by
  obtain ⟨Al, h1, h2, hb⟩ := h
  have c0 := cellOf (j := 0) hb
  have c1 := cellOf (j := 1) hb
  have c4 := cellOf (j := 4) hb
  simp [hd] at c0 c1 c4
  have c2 := cellOf (j := 2) hb
  simp [hf] at c2
  have f0 := freeOf (j := 0) hb
  have f1 := freeOf (j := 1) hb
  have f2 := freeOf (j := 2) hb
  have f4 := freeOf (j := 4) hb
  have hal : Al.size = x.safe.length + x.loose.length := by rw [← len_data, h1, List.length_append]
  obtain ⟨B, hB⟩ : ∃ B, B = Al := ⟨_, rfl⟩
  have _t := trivial
  have G1 : Hid ((Al).data.toList = (⟨x.safe ++ x.loose, [], x.fuse - 1, x.keep, x.down⟩ : FD).safe ++ (⟨x.safe ++ x.loose, [], x.fuse - 1, x.keep, x.down⟩ : FD).loose) := Lib.hid (by rw [h1]; simp)
  have G2 : Hid ((Al.size : Int) = (((⟨x.safe ++ x.loose, [], x.fuse - 1, x.keep, x.down⟩ : FD).safe.length : Nat) : Int)) := Lib.hid (by simp only [List.length_append] <;> omega)
  have HBB := Lib.hid hb
  have HF := Lib.hid hf
  have HD := Lib.hid hd
  have HFE : Hid ((((x.fuse - 1 : Nat)) : Int) = 0) := Lib.hid (by omega)
  clear hb hd h1 h2 hal hB
  try clear hn
  try clear hf
  try clear hfe
  go_enter Try.func17, Try.ntmps17
  go_wp2
  go_ret
  refine ⟨rfl, ?_, ?_⟩
  · refine ⟨Al, G1.out, fun hh => by first | rfl | (rw [HD.out] at hh; cases hh), ?_⟩
    have E1 := HBB.out
    have E2 := G2.out
    have E3 := HFE.out
    have E4 := HF.out
    have E5 := HD.out
    simp only [World.heap_drewN, heap_set, E1, Option.map_some]
    simp [E3, E4, E5]
    all_goals (simp at E2; omega)
  · repeat (first | with_reducible exact Kept.refl _ _ | with_reducible refine Kept.setOwn ?_ _ | with_reducible refine Kept.drew ?_ | with_reducible refine Kept.drewN ?_ _)
set_option maxHeartbeats 1600000 in
theorem ref_more2 (r : Nat) (x : FD) (d : ByteArray) (n : Int) (w : World) (h : RefAt w r x) (hd : x.down = false) (hf : 1 < x.fuse ∧ x.fuse ≤ 65536) (hn : Room x) :
    Calls Try.prog 17 #[.pointer (some ⟨r, 0, none⟩), .int .i64 2, .string d, .int .i64 n] w fun e w' => e = .returned (.int .i64 0) ∧ RMoved w w' r ⟨x.safe ++ x.loose, [], x.fuse - 1, x.keep, x.down⟩ := by
  obtain ⟨Al, h1, h2, hb⟩ := h
  have c0 := cellOf (j := 0) hb
  have c1 := cellOf (j := 1) hb
  have c4 := cellOf (j := 4) hb
  simp [hd] at c0 c1 c4
  obtain ⟨f, hfe⟩ : ∃ f : Int, (x.fuse : Int) = f := ⟨_, rfl⟩
  have fb1 : 1 < f := by omega
  have fb2 : f ≤ 65536 := by omega
  have fb3 : (f == 1) = false := by simp; omega
  have c2 := cellOf (j := 2) hb
  simp [hfe] at c2
  have f0 := freeOf (j := 0) hb
  have f1 := freeOf (j := 1) hb
  have f2 := freeOf (j := 2) hb
  have f4 := freeOf (j := 4) hb
  have hal : Al.size = x.safe.length + x.loose.length := by rw [← len_data, h1, List.length_append]
  obtain ⟨B, hB⟩ : ∃ B, B = Al := ⟨_, rfl⟩
  have _t := trivial
  have G1 : Hid ((Al).data.toList = (⟨x.safe ++ x.loose, [], x.fuse - 1, x.keep, x.down⟩ : FD).safe ++ (⟨x.safe ++ x.loose, [], x.fuse - 1, x.keep, x.down⟩ : FD).loose) := Lib.hid (by rw [h1]; simp)
  have G2 : Hid ((Al.size : Int) = (((⟨x.safe ++ x.loose, [], x.fuse - 1, x.keep, x.down⟩ : FD).safe.length : Nat) : Int)) := Lib.hid (by simp only [List.length_append] <;> omega)
  have HBB := Lib.hid hb
  have HF := Lib.hid hf
  have HD := Lib.hid hd
  have HFE : Hid ((((x.fuse - 1 : Nat)) : Int) = (f - 1)) := Lib.hid (by omega)
  clear hb hd h1 h2 hal hB
  try clear hn
  try clear hf
  try clear hfe
  go_enter Try.func17, Try.ntmps17
  go_wp2
  go_ret
  refine ⟨rfl, ?_, ?_⟩
  · refine ⟨Al, G1.out, fun hh => by first | rfl | (rw [HD.out] at hh; cases hh), ?_⟩
    have E1 := HBB.out
    have E2 := G2.out
    have E3 := HFE.out
    have E4 := HF.out
    have E5 := HD.out
    simp only [World.heap_drewN, heap_set, E1, Option.map_some]
    simp [E3, E4, E5]
    all_goals (simp at E2; omega)
  · repeat (first | with_reducible exact Kept.refl _ _ | with_reducible refine Kept.setOwn ?_ _ | with_reducible refine Kept.drew ?_ | with_reducible refine Kept.drewN ?_ _)
set_option maxHeartbeats 1600000 in
theorem ref_none3 (r : Nat) (x : FD) (d : ByteArray) (n : Int) (w : World) (h : RefAt w r x) (hd : x.down = false) (hf : x.fuse = 0) (hn : 0 ≤ n ∧ n ≤ (x.safe.length : Int) + x.loose.length ∧ Room x) :
    Calls Try.prog 17 #[.pointer (some ⟨r, 0, none⟩), .int .i64 3, .string d, .int .i64 n] w fun e w' => e = .returned (.int .i64 0) ∧ RMoved w w' r ⟨(x.safe ++ x.loose).take n.toNat, [], x.fuse - 1, x.keep, x.down⟩ := by
  obtain ⟨Al, h1, h2, hb⟩ := h
  have c0 := cellOf (j := 0) hb
  have c1 := cellOf (j := 1) hb
  have c4 := cellOf (j := 4) hb
  simp [hd] at c0 c1 c4
  have c2 := cellOf (j := 2) hb
  simp [hf] at c2
  have f0 := freeOf (j := 0) hb
  have f1 := freeOf (j := 1) hb
  have f2 := freeOf (j := 2) hb
  have f4 := freeOf (j := 4) hb
  have hal : Al.size = x.safe.length + x.loose.length := by rw [← len_data, h1, List.length_append]
  obtain ⟨B, hB⟩ : ∃ B, B = Al := ⟨_, rfl⟩
  obtain ⟨qn1, qn2, qr⟩ := hn
  have qn3 : n ≤ (Al.size : Int) := by omega
  have qn4 : ¬ n < 0 := by omega
  have G1 : Hid (((Al.extract 0 n.toNat)).data.toList = (⟨(x.safe ++ x.loose).take n.toNat, [], x.fuse - 1, x.keep, x.down⟩ : FD).safe ++ (⟨(x.safe ++ x.loose).take n.toNat, [], x.fuse - 1, x.keep, x.down⟩ : FD).loose) := Lib.hid (by rw [← mk_take, h1]; simp)
  have G2 : Hid (n = (((⟨(x.safe ++ x.loose).take n.toNat, [], x.fuse - 1, x.keep, x.down⟩ : FD).safe.length : Nat) : Int)) := Lib.hid (by simp only [List.length_take, List.length_append] <;> omega)
  have HBB := Lib.hid hb
  have HF := Lib.hid hf
  have HD := Lib.hid hd
  have HFE : Hid ((((x.fuse - 1 : Nat)) : Int) = 0) := Lib.hid (by omega)
  clear hb hd h1 h2 hal hB
  try clear hn
  try clear hf
  try clear hfe
  go_enter Try.func17, Try.ntmps17
  go_wp2
  go_ret
  refine ⟨rfl, ?_, ?_⟩
  · refine ⟨(Al.extract 0 n.toNat), G1.out, fun hh => by first | rfl | (rw [HD.out] at hh; cases hh), ?_⟩
    have E1 := HBB.out
    have E2 := G2.out
    have E3 := HFE.out
    have E4 := HF.out
    have E5 := HD.out
    simp only [World.heap_drewN, heap_set, E1, Option.map_some]
    simp [E3, E4, E5]
    all_goals (simp at E2; omega)
  · repeat (first | with_reducible exact Kept.refl _ _ | with_reducible refine Kept.setOwn ?_ _ | with_reducible refine Kept.drew ?_ | with_reducible refine Kept.drewN ?_ _)
set_option maxHeartbeats 1600000 in
theorem ref_more3 (r : Nat) (x : FD) (d : ByteArray) (n : Int) (w : World) (h : RefAt w r x) (hd : x.down = false) (hf : 1 < x.fuse ∧ x.fuse ≤ 65536) (hn : 0 ≤ n ∧ n ≤ (x.safe.length : Int) + x.loose.length ∧ Room x) :
    Calls Try.prog 17 #[.pointer (some ⟨r, 0, none⟩), .int .i64 3, .string d, .int .i64 n] w fun e w' => e = .returned (.int .i64 0) ∧ RMoved w w' r ⟨(x.safe ++ x.loose).take n.toNat, [], x.fuse - 1, x.keep, x.down⟩ := by
  obtain ⟨Al, h1, h2, hb⟩ := h
  have c0 := cellOf (j := 0) hb
  have c1 := cellOf (j := 1) hb
  have c4 := cellOf (j := 4) hb
  simp [hd] at c0 c1 c4
  obtain ⟨f, hfe⟩ : ∃ f : Int, (x.fuse : Int) = f := ⟨_, rfl⟩
  have fb1 : 1 < f := by omega
  have fb2 : f ≤ 65536 := by omega
  have fb3 : (f == 1) = false := by simp; omega
  have c2 := cellOf (j := 2) hb
  simp [hfe] at c2
  have f0 := freeOf (j := 0) hb
  have f1 := freeOf (j := 1) hb
  have f2 := freeOf (j := 2) hb
  have f4 := freeOf (j := 4) hb
  have hal : Al.size = x.safe.length + x.loose.length := by rw [← len_data, h1, List.length_append]
  obtain ⟨B, hB⟩ : ∃ B, B = Al := ⟨_, rfl⟩
  obtain ⟨qn1, qn2, qr⟩ := hn
  have qn3 : n ≤ (Al.size : Int) := by omega
  have qn4 : ¬ n < 0 := by omega
  have G1 : Hid (((Al.extract 0 n.toNat)).data.toList = (⟨(x.safe ++ x.loose).take n.toNat, [], x.fuse - 1, x.keep, x.down⟩ : FD).safe ++ (⟨(x.safe ++ x.loose).take n.toNat, [], x.fuse - 1, x.keep, x.down⟩ : FD).loose) := Lib.hid (by rw [← mk_take, h1]; simp)
  have G2 : Hid (n = (((⟨(x.safe ++ x.loose).take n.toNat, [], x.fuse - 1, x.keep, x.down⟩ : FD).safe.length : Nat) : Int)) := Lib.hid (by simp only [List.length_take, List.length_append] <;> omega)
  have HBB := Lib.hid hb
  have HF := Lib.hid hf
  have HD := Lib.hid hd
  have HFE : Hid ((((x.fuse - 1 : Nat)) : Int) = (f - 1)) := Lib.hid (by omega)
  clear hb hd h1 h2 hal hB
  try clear hn
  try clear hf
  try clear hfe
  go_enter Try.func17, Try.ntmps17
  go_wp2
  go_ret
  refine ⟨rfl, ?_, ?_⟩
  · refine ⟨(Al.extract 0 n.toNat), G1.out, fun hh => by first | rfl | (rw [HD.out] at hh; cases hh), ?_⟩
    have E1 := HBB.out
    have E2 := G2.out
    have E3 := HFE.out
    have E4 := HF.out
    have E5 := HD.out
    simp only [World.heap_drewN, heap_set, E1, Option.map_some]
    simp [E3, E4, E5]
    all_goals (simp at E2; omega)
  · repeat (first | with_reducible exact Kept.refl _ _ | with_reducible refine Kept.setOwn ?_ _ | with_reducible refine Kept.drew ?_ | with_reducible refine Kept.drewN ?_ _)
theorem ref_restart (r : Nat) (x : FD) (w : World) (h : RefAt w r x) (hr : Room x) :
    Calls Try.prog 19 #[.pointer (some ⟨r, 0, none⟩)] w fun e w' => e = .returned (.tuple #[]) ∧ RMoved w w' r x.restart := by
  obtain ⟨Al, h1, h2, hb⟩ := h
  have c0 := cellOf (j := 0) hb
  have c1 := cellOf (j := 1) hb
  have c2 := cellOf (j := 2) hb
  have c4 := cellOf (j := 4) hb
  simp at c0 c1 c2 c4
  have f0 := freeOf (j := 0) hb
  have f2 := freeOf (j := 2) hb
  have f4 := freeOf (j := 4) hb
  have hal : Al.size = x.safe.length + x.loose.length := by rw [← len_data, h1, List.length_append]
  have q1 : (x.safe.length : Int) ≤ (Al.size : Int) := by omega
  have G1 : Hid ((Al.extract 0 x.safe.length).data.toList = x.restart.safe ++ x.restart.loose) := by
    refine Lib.hid ?_
    rw [← mk_take, h1, toList_mk, List.take_left]
    unfold FD.restart
    cases hd : x.down with
    | false => simp
    | true => simp [h2 hd]
  have HBB := Lib.hid hb
  clear hb h1 h2 hal
  go_enter Try.func19, Try.ntmps19
  go_wp2
  refine wp_region_lex (fun _ => True) [0, 0, 0, 0, 1, 0, 0, 0, 1, 0, 0, 0, 2] (by kernel_rfl) (by kernel_rfl) (by kernel_rfl) (trivial) (fun Q' hQ' => ?_)
  simp only [List.zip_cons_cons, List.zip_nil_right]
  repeat (first
    | (refine wpX_light rfl (fun K hK => ?_)
       apply Exists.intro
       refine ⟨fun w' hw' => ?_, ?_⟩
       · try dsimp only at hw'
         go_simp
         exact ⟨rfl, rfl⟩
       go_simp
       refine hK _ _ ?_
       clear hK K)
    | (refine wpX_read rfl (fun K hK => ?_)
       apply Exists.intro
       refine ⟨?_, ?_⟩
       · go_simp
         exact ⟨rfl, rfl⟩
       go_simp
       refine hK _ _ ?_
       clear hK K)
    | (refine wpX_not rfl (fun K hK => ?_)
       go_simp
       refine hK _ _ ?_
       clear hK K)
    | (refine wpX_light_g rfl (fun K hK => ?_)
       apply Exists.intro
       refine ⟨fun w' hw' => ?_, ?_⟩
       · try dsimp only at hw'
         go_simp
         exact ⟨rfl, rfl⟩
       go_simp
       refine hK _ _ ?_
       clear hK K)
    | (refine wpX_read_g rfl (fun K hK => ?_)
       apply Exists.intro
       refine ⟨?_, ?_⟩
       · go_simp
         exact ⟨rfl, rfl⟩
       go_simp
       refine hK _ _ ?_
       clear hK K))
  refine wpX_heavy rfl (fun K hK => ?_)
  go_wp2
  refine hQ' _ _ ?_
  go_wp2
  go_end0
  refine ⟨rfl, ?_, ?_⟩
  · refine ⟨Al.extract 0 x.safe.length, G1.out, (fun hh => by cases hh), ?_⟩
    have E1 := HBB.out
    simp only [show ∀ v : World, v.drew.heap = v.heap from fun _ => rfl, heap_set, E1, Option.map_some]
    simp [FD.restart]
  · repeat (first | with_reducible exact Kept.refl _ _ | with_reducible refine Kept.setOwn ?_ _ | with_reducible refine Kept.drew ?_ | with_reducible refine Kept.drewN ?_ _)

theorem ref_arm_bad (r : Nat) (o k : Int) (w : World) (h : o < 1 ∨ 65536 < o ∨ k < 0 ∨ 2 < k) :
    Calls Try.prog 18 #[.pointer (some ⟨r, 0, none⟩), .int .i64 o, .int .i64 k] w fun e w' => e = .returned (.int .i64 141) ∧ w' = w := by
  have H := Lib.hid h
  clear h
  by_cases h1 : o < 1
  · go_enter Try.func18, Try.ntmps18
    go_wp2
    go_ret
    exact ⟨rfl, rfl⟩
  by_cases h2 : 65536 < o
  · go_enter Try.func18, Try.ntmps18
    go_wp2
    go_ret
    exact ⟨rfl, rfl⟩
  by_cases h3 : k < 0
  · go_enter Try.func18, Try.ntmps18
    go_wp2
    go_ret
    exact ⟨rfl, rfl⟩
  have h4 : 2 < k := ((H.out.resolve_left h1).resolve_left h2).resolve_left h3
  go_enter Try.func18, Try.ntmps18
  go_wp2
  go_ret
  exact ⟨rfl, rfl⟩

theorem ref_arm_ok (r : Nat) (x : FD) (o k : Nat) (w : World) (h : RefAt w r x) (h1 : 1 ≤ o) (h2 : o ≤ 65536) (h3 : k ≤ 2) :
    Calls Try.prog 18 #[.pointer (some ⟨r, 0, none⟩), .int .i64 o, .int .i64 k] w fun e w' => e = .returned (.int .i64 0) ∧ RMoved w w' r { x with fuse := o, keep := k } := by
  obtain ⟨Al, ha, hd, hb⟩ := h
  have c2 := cellOf (j := 2) hb
  have c3 := cellOf (j := 3) hb
  simp at c2 c3
  have f2 := freeOf (j := 2) hb
  have f3 := freeOf (j := 3) hb
  have HBB := Lib.hid hb
  have HA := Lib.hid ha
  have HD := Lib.hid hd
  clear hb ha hd
  have q1 : ¬ (o : Int) < 1 := by omega
  have q2 : ¬ (65536 : Int) < o := by omega
  have q3 : ¬ (k : Int) < 0 := by omega
  have q4 : ¬ (2 : Int) < k := by omega
  go_enter Try.func18, Try.ntmps18
  go_wp2
  go_ret
  refine ⟨rfl, ?_, ?_⟩
  · refine ⟨Al, HA.out, HD.out, ?_⟩
    have E1 := HBB.out
    simp only [heap_set, E1, Option.map_some]
    simp
  · repeat (first | with_reducible exact Kept.refl _ _ | with_reducible refine Kept.setOwn ?_ _)
end Go.Proofs.Ytjcdbijlpimlhaa.Disk
