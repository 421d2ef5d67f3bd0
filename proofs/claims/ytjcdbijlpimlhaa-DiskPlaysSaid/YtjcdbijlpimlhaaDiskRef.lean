/-
  The document's answer for layer 15, walked: its file, told by the program's file, does what the program's does.
-/
import Derived.Test.YtjcdbijlpimlhaaDiskSt
import Derived.Test.YtjcdbijlpimlhaaBase2
import Derived.Laws.DeepStrings4
import Derived.IntWalk
namespace Go.Proofs.Ytjcdbijlpimlhaa.Disk
open Go.RowKit Go.Proofs.YtjcdbijlpimlhaaBase Go.Proofs.YtjcdbijlpimlhaaLex
set_option linter.unusedVariables false

/-- The document's file at block r is the file x's. -/
def RefAt (w : World) (r : Nat) (x : FD) : Prop :=
  ∃ Al : ByteArray, Al.data.toList = x.safe ++ x.loose ∧ (x.down = true → x.loose = []) ∧ w.heap[r]? = some (.cells #[.string Al, .int .i64 x.safe.length, .int .i64 x.fuse, .int .i64 x.keep, .bool x.down] 37 (0, 0))
theorem RefAt.kept {w w' : World} {r : Nat} {x : FD} {F : Nat → Prop} (h : RefAt w r x) (hk : Kept w w' F) (hn : ¬ F r) : RefAt w' r x := by
  obtain ⟨Al, h1, h2, h3⟩ := h
  exact ⟨Al, h1, h2, hk.blk h3 hn⟩
theorem Kept.setOwn {w w1 : World} {r j : Nat} (h : Kept w w1 (fun k => k = r)) (u : Value) : Kept w (w1.setCell ⟨r, j, none⟩ u) (fun k => k = r) := Kept.setCell h (Or.inl rfl) u
theorem RefAt.heap {w w' : World} {r : Nat} {x : FD} (h : RefAt w r x) (e : w'.heap = w.heap) : RefAt w' r x := by
  unfold RefAt at *
  rw [e]
  exact h
theorem RefAt.lt {w : World} {r : Nat} {x : FD} (h : RefAt w r x) : r < w.heap.size := by
  obtain ⟨Al, h1, h2, h3⟩ := h
  exact blk_lt h3

/-- A step of the document's file: all else is as it was. -/
def RMoved (w w' : World) (r : Nat) (x' : FD) : Prop := RefAt w' r x' ∧ Kept w w' (fun k => k = r)

theorem ref_down (r : Nat) (x : FD) (k : Int) (d : ByteArray) (n : Int) (w : World) (h : RefAt w r x) (hd : x.down = true) :
    Calls Try.prog 17 #[.pointer (some ⟨r, 0, none⟩), .int .i64 k, .string d, .int .i64 n] w fun e w' => e = .returned (.int .i64 170) ∧ w' = w := by
  obtain ⟨Al, h1, h2, hb⟩ := h
  have c4 := cellOf (j := 4) hb
  simp [hd] at c4
  clear hb hd h2
  go_enter Try.func17, Try.ntmps17
  go_wp2
  go_ret
  exact ⟨rfl, rfl⟩

theorem ref_bad (r : Nat) (x : FD) (d : ByteArray) (n : Int) (w : World) (h : RefAt w r x) (hd : x.down = false) (hn : n < 0 ∨ (x.safe.length : Int) + x.loose.length < n) :
    Calls Try.prog 17 #[.pointer (some ⟨r, 0, none⟩), .int .i64 3, .string d, .int .i64 n] w fun e w' => e = .returned (.int .i64 141) ∧ w' = w := by
  obtain ⟨Al, h1, h2, hb⟩ := h
  have c4 := cellOf (j := 4) hb
  have c0 := cellOf (j := 0) hb
  simp [hd] at c4 c0
  have hsz : (Al.size : Int) = x.safe.length + x.loose.length := by rw [← len_data, h1, List.length_append]; simp
  have HSZ := Lib.hid hsz
  have HN := Lib.hid hn
  clear hb hd h2 h1 hsz hn
  by_cases hneg : n < 0
  · go_enter Try.func17, Try.ntmps17
    go_wp2
    go_ret
    exact ⟨rfl, rfl⟩
  · have q : (Al.size : Int) < n := by have := HN.out.resolve_left hneg; have := HSZ.out; omega
    go_enter Try.func17, Try.ntmps17
    go_wp2
    go_ret
    exact ⟨rfl, rfl⟩
/-- What the document's file holds behind a crash. -/
theorem ref_end {w : World} {r m : Nat} {x : FD} {B : ByteArray} {L : List UInt8} {v0 v1 : Value} {fu ke : Int} {dn : Bool} (hB : B.data.toList = x.safe ++ L) (hm : m ≤ L.length) (hb : w.heap[r]? = some (.cells #[v0, v1, .int .i64 fu, .int .i64 ke, .bool dn] 37 (0, 0))) {n : Int} (hn : n = ((x.safe.length + m : Nat) : Int)) {e : Int} (he : e = x.keep) (hke : ke = e) :
    RefAt ((((w.setCell ⟨r, 1, none⟩ (.int .i64 n)).drew.setCell ⟨r, 0, none⟩ (.string (B.extract 0 n.toNat))).setCell ⟨r, 2, none⟩ (.int .i64 0)).setCell ⟨r, 4, none⟩ (.bool true)) r ⟨x.safe ++ L.take m, [], 0, x.keep, true⟩ := by
  subst hn
  refine ⟨B.extract 0 (x.safe.length + m), ?_, fun _ => rfl, ?_⟩
  · rw [← mk_take, hB]
    simp only [toList_mk, List.append_nil]
    rw [List.take_append, List.take_of_length_le (by omega)]
    simp
  · have h1 := blk_set (w := w) hb 1 (.int .i64 ((x.safe.length + m : Nat) : Int))
    have h2 := blk_set (w := (w.setCell ⟨r, 1, none⟩ (.int .i64 ((x.safe.length + m : Nat) : Int))).drew) h1 0 (.string (B.extract 0 (x.safe.length + m)))
    have h3 := blk_set (blk_set h2 2 (.int .i64 0)) 4 (.bool true)
    rw [Int.toNat_natCast]
    subst hke
    have hl : (x.safe ++ L.take m).length = x.safe.length + m := by simp; omega
    simp only [hl]
    simpa [he] using h3

set_option maxHeartbeats 1600000 in
theorem ref_crash1_0 (r : Nat) (x : FD) (d : ByteArray) (n : Int) (w : World) (h : RefAt w r x) (hd : x.down = false) (hf : x.fuse = 1) (hk : x.keep = 0) (hr : Room ⟨x.safe, x.loose ++ d.data.toList, 0, 0, false⟩) (hn : True) (L : Nat) (hL : (x.loose ++ d.data.toList).length = L) :
    Calls Try.prog 17 #[.pointer (some ⟨r, 0, none⟩), .int .i64 1, .string d, .int .i64 n] w fun e w' => e = .returned (.int .i64 140) ∧ RMoved w w' r ⟨x.safe ++ (x.loose ++ d.data.toList).take 0, [], 0, x.keep, true⟩ := by
  obtain ⟨Al, h1, h2, hb⟩ := h
  have c0 := cellOf (j := 0) hb
  have c1 := cellOf (j := 1) hb
  have c2 := cellOf (j := 2) hb
  have c3 := cellOf (j := 3) hb
  have c4 := cellOf (j := 4) hb
  simp [hd, hf] at c0 c1 c2 c3 c4
  simp [hk] at c3
  have f0 := freeOf (j := 0) hb
  have f1 := freeOf (j := 1) hb
  have f2 := freeOf (j := 2) hb
  have f4 := freeOf (j := 4) hb
  obtain ⟨B, hB⟩ : ∃ B, B = Al ++ d := ⟨_, rfl⟩
  have hBd : B.data.toList = x.safe ++ (x.loose ++ d.data.toList) := by rw [hB]; simp [ByteArray.data_append, h1]
  have hBs : B.size = x.safe.length + L := by rw [← len_data, hBd, List.length_append, hL]
  have hbound : x.safe.length + L ≤ 200000000000000 := by unfold Room at hr; simp only at hr; rw [hL] at hr; exact hr
  have hal : Al.size = x.safe.length + x.loose.length := by rw [← len_data, h1, List.length_append]
  have qa : ∀ w', (Op.stringOp .add Al d).run Try.prog w' = .ok (.string B) w' := fun w' => by
    rw [hB]
    refine run_string_add_sum w' _ _ ?_
    unfold Room at hr
    simp only [List.length_append, len_data] at hr
    omega
  have q1 : IntKind.i64.wrap ((B.size : Int) - x.safe.length) = (L : Int) := by rw [IntWalk.i64_in _ (by omega)]; omega
  have q2 : (0 : Int) ≤ (x.safe.length : Int) + (0 : Int) := by omega
  have q3 : (x.safe.length : Int) + (0 : Int) ≤ (B.size : Int) := by omega
  have q4 : (x.safe.length : Int) + (0 : Int) ≤ 9223372036854775807 := by omega
  have q5 : (0 : Int) ≤ (0 : Int) := by omega
  simp only [Int.add_zero] at q2 q3 q4
  have HN := Lib.hid (show (x.safe.length : Int) = ((x.safe.length + 0 : Nat) : Int) by omega)
  have HM := Lib.hid (show 0 ≤ (x.loose ++ d.data.toList).length by omega)
  have HBD := Lib.hid hBd
  have HBB0 := Lib.hid (show ((w.setCell ⟨r, 0, none⟩ (.string B))).heap[r]? = some (.cells #[.string B, .int .i64 x.safe.length, .int .i64 x.fuse, .int .i64 x.keep, .bool x.down] 37 (0, 0)) from (by simpa using blk_set hb 0 (.string B)))
  have HK := Lib.hid hk
  have _t := trivial
  try clear hB
  clear hBd hBs hbound hal hb hk hf hd h1 h2 hL hr
  try clear hn
  go_enter Try.func17, Try.ntmps17
  go_wp2
  refine wp_region_lex (fun _ => True) [0, 0, 0, 1, 0, 0, 0, 0, 1, 0, 0] (by kernel_rfl) (by kernel_rfl) (by kernel_rfl) (trivial) (fun Q' hQ' => ?_)
  simp only [List.zip_cons_cons, List.zip_nil_right]
  repeat (first
    | (refine wpX_light rfl (fun K hK => ?_)
       apply Exists.intro
       refine ⟨fun w' hw' => ?_, ?_⟩
       · try dsimp only at hw'
         go_simp
         exact ⟨rfl, rfl⟩
       go_simp
       refine hK _ _ ?_
       clear hK K)
    | (refine wpX_read rfl (fun K hK => ?_)
       apply Exists.intro
       refine ⟨?_, ?_⟩
       · go_simp
         exact ⟨rfl, rfl⟩
       go_simp
       refine hK _ _ ?_
       clear hK K)
    | (refine wpX_not rfl (fun K hK => ?_)
       go_simp
       refine hK _ _ ?_
       clear hK K)
    | (refine wpX_light_g rfl (fun K hK => ?_)
       apply Exists.intro
       refine ⟨fun w' hw' => ?_, ?_⟩
       · try dsimp only at hw'
         go_simp
         exact ⟨rfl, rfl⟩
       go_simp
       refine hK _ _ ?_
       clear hK K)
    | (refine wpX_read_g rfl (fun K hK => ?_)
       apply Exists.intro
       refine ⟨?_, ?_⟩
       · go_simp
         exact ⟨rfl, rfl⟩
       go_simp
       refine hK _ _ ?_
       clear hK K))
  refine wpX_nil (hQ' _ _ ?_)
  go_wp2
  refine wp_region_lex (fun _ => True) [0, 0, 0, 0, 1, 0, 0, 0, 1, 0, 0, 0, 2] (by kernel_rfl) (by kernel_rfl) (by kernel_rfl) (trivial) (fun Q' hQ' => ?_)
  simp only [List.zip_cons_cons, List.zip_nil_right]
  repeat (first
    | (refine wpX_light rfl (fun K hK => ?_)
       apply Exists.intro
       refine ⟨fun w' hw' => ?_, ?_⟩
       · try dsimp only at hw'
         go_simp
         exact ⟨rfl, rfl⟩
       go_simp
       refine hK _ _ ?_
       clear hK K)
    | (refine wpX_read rfl (fun K hK => ?_)
       apply Exists.intro
       refine ⟨?_, ?_⟩
       · go_simp
         exact ⟨rfl, rfl⟩
       go_simp
       refine hK _ _ ?_
       clear hK K)
    | (refine wpX_not rfl (fun K hK => ?_)
       go_simp
       refine hK _ _ ?_
       clear hK K)
    | (refine wpX_light_g rfl (fun K hK => ?_)
       apply Exists.intro
       refine ⟨fun w' hw' => ?_, ?_⟩
       · try dsimp only at hw'
         go_simp
         exact ⟨rfl, rfl⟩
       go_simp
       refine hK _ _ ?_
       clear hK K)
    | (refine wpX_read_g rfl (fun K hK => ?_)
       apply Exists.intro
       refine ⟨?_, ?_⟩
       · go_simp
         exact ⟨rfl, rfl⟩
       go_simp
       refine hK _ _ ?_
       clear hK K))
  refine wpX_heavy rfl (fun K hK => ?_)
  go_wp2
  refine hQ' _ _ ?_
  go_wp2
  go_ret
  refine ⟨rfl, ?_, ?_⟩
  · exact RefAt.heap (ref_end (w := (w.setCell ⟨r, 0, none⟩ (.string B))) (x := x) (e := x.keep) (ke := x.keep) HBD.out HM.out HBB0.out HN.out rfl rfl) rfl
  · repeat (first | with_reducible exact Kept.refl _ _ | with_reducible refine Kept.setOwn ?_ _ | with_reducible refine Kept.drew ?_ | with_reducible refine Kept.drewN ?_ _)
set_option maxHeartbeats 1600000 in
theorem ref_crash1_1 (r : Nat) (x : FD) (d : ByteArray) (n : Int) (w : World) (h : RefAt w r x) (hd : x.down = false) (hf : x.fuse = 1) (hk : x.keep = 1) (hr : Room ⟨x.safe, x.loose ++ d.data.toList, 0, 0, false⟩) (hn : True) (L : Nat) (hL : (x.loose ++ d.data.toList).length = L) :
    Calls Try.prog 17 #[.pointer (some ⟨r, 0, none⟩), .int .i64 1, .string d, .int .i64 n] w fun e w' => e = .returned (.int .i64 140) ∧ RMoved w w' r ⟨x.safe ++ (x.loose ++ d.data.toList).take (L / 2), [], 0, x.keep, true⟩ := by
  obtain ⟨Al, h1, h2, hb⟩ := h
  have c0 := cellOf (j := 0) hb
  have c1 := cellOf (j := 1) hb
  have c2 := cellOf (j := 2) hb
  have c3 := cellOf (j := 3) hb
  have c4 := cellOf (j := 4) hb
  simp [hd, hf] at c0 c1 c2 c3 c4
  simp [hk] at c3
  have f0 := freeOf (j := 0) hb
  have f1 := freeOf (j := 1) hb
  have f2 := freeOf (j := 2) hb
  have f4 := freeOf (j := 4) hb
  obtain ⟨B, hB⟩ : ∃ B, B = Al ++ d := ⟨_, rfl⟩
  have hBd : B.data.toList = x.safe ++ (x.loose ++ d.data.toList) := by rw [hB]; simp [ByteArray.data_append, h1]
  have hBs : B.size = x.safe.length + L := by rw [← len_data, hBd, List.length_append, hL]
  have hbound : x.safe.length + L ≤ 200000000000000 := by unfold Room at hr; simp only at hr; rw [hL] at hr; exact hr
  have hal : Al.size = x.safe.length + x.loose.length := by rw [← len_data, h1, List.length_append]
  have qa : ∀ w', (Op.stringOp .add Al d).run Try.prog w' = .ok (.string B) w' := fun w' => by
    rw [hB]
    refine run_string_add_sum w' _ _ ?_
    unfold Room at hr
    simp only [List.length_append, len_data] at hr
    omega
  have q1 : IntKind.i64.wrap ((B.size : Int) - x.safe.length) = (L : Int) := by rw [IntWalk.i64_in _ (by omega)]; omega
  have q2 : (0 : Int) ≤ (x.safe.length : Int) + ((L : Int) / 2) := by omega
  have q3 : (x.safe.length : Int) + ((L : Int) / 2) ≤ (B.size : Int) := by omega
  have q4 : (x.safe.length : Int) + ((L : Int) / 2) ≤ 9223372036854775807 := by omega
  have q5 : (0 : Int) ≤ ((L : Int) / 2) := by omega
  have _t2 := trivial
  have HN := Lib.hid (show ((x.safe.length : Int) + (L : Int) / 2) = ((x.safe.length + (L / 2) : Nat) : Int) by omega)
  have HM := Lib.hid (show (L / 2) ≤ (x.loose ++ d.data.toList).length by omega)
  have HBD := Lib.hid hBd
  have HBB0 := Lib.hid (show ((w.setCell ⟨r, 0, none⟩ (.string B))).heap[r]? = some (.cells #[.string B, .int .i64 x.safe.length, .int .i64 x.fuse, .int .i64 x.keep, .bool x.down] 37 (0, 0)) from (by simpa using blk_set hb 0 (.string B)))
  have HK := Lib.hid hk
  have _t := trivial
  try clear hB
  clear hBd hBs hbound hal hb hk hf hd h1 h2 hL hr
  try clear hn
  go_enter Try.func17, Try.ntmps17
  go_wp2
  refine wp_region_lex (fun _ => True) [0, 0, 0, 1, 0, 0, 0, 0, 1, 0, 0] (by kernel_rfl) (by kernel_rfl) (by kernel_rfl) (trivial) (fun Q' hQ' => ?_)
  simp only [List.zip_cons_cons, List.zip_nil_right]
  repeat (first
    | (refine wpX_light rfl (fun K hK => ?_)
       apply Exists.intro
       refine ⟨fun w' hw' => ?_, ?_⟩
       · try dsimp only at hw'
         go_simp
         exact ⟨rfl, rfl⟩
       go_simp
       refine hK _ _ ?_
       clear hK K)
    | (refine wpX_read rfl (fun K hK => ?_)
       apply Exists.intro
       refine ⟨?_, ?_⟩
       · go_simp
         exact ⟨rfl, rfl⟩
       go_simp
       refine hK _ _ ?_
       clear hK K)
    | (refine wpX_not rfl (fun K hK => ?_)
       go_simp
       refine hK _ _ ?_
       clear hK K)
    | (refine wpX_light_g rfl (fun K hK => ?_)
       apply Exists.intro
       refine ⟨fun w' hw' => ?_, ?_⟩
       · try dsimp only at hw'
         go_simp
         exact ⟨rfl, rfl⟩
       go_simp
       refine hK _ _ ?_
       clear hK K)
    | (refine wpX_read_g rfl (fun K hK => ?_)
       apply Exists.intro
       refine ⟨?_, ?_⟩
       · go_simp
         exact ⟨rfl, rfl⟩
       go_simp
       refine hK _ _ ?_
       clear hK K))
  refine wpX_nil (hQ' _ _ ?_)
  go_wp2
  refine wp_region_lex (fun _ => True) [0, 0, 0, 0, 1, 0, 0, 0, 1, 0, 0, 0, 2] (by kernel_rfl) (by kernel_rfl) (by kernel_rfl) (trivial) (fun Q' hQ' => ?_)
  simp only [List.zip_cons_cons, List.zip_nil_right]
  repeat (first
    | (refine wpX_light rfl (fun K hK => ?_)
       apply Exists.intro
       refine ⟨fun w' hw' => ?_, ?_⟩
       · try dsimp only at hw'
         go_simp
         exact ⟨rfl, rfl⟩
       go_simp
       refine hK _ _ ?_
       clear hK K)
    | (refine wpX_read rfl (fun K hK => ?_)
       apply Exists.intro
       refine ⟨?_, ?_⟩
       · go_simp
         exact ⟨rfl, rfl⟩
       go_simp
       refine hK _ _ ?_
       clear hK K)
    | (refine wpX_not rfl (fun K hK => ?_)
       go_simp
       refine hK _ _ ?_
       clear hK K)
    | (refine wpX_light_g rfl (fun K hK => ?_)
       apply Exists.intro
       refine ⟨fun w' hw' => ?_, ?_⟩
       · try dsimp only at hw'
         go_simp
         exact ⟨rfl, rfl⟩
       go_simp
       refine hK _ _ ?_
       clear hK K)
    | (refine wpX_read_g rfl (fun K hK => ?_)
       apply Exists.intro
       refine ⟨?_, ?_⟩
       · go_simp
         exact ⟨rfl, rfl⟩
       go_simp
       refine hK _ _ ?_
       clear hK K))
  refine wpX_heavy rfl (fun K hK => ?_)
  go_wp2
  refine hQ' _ _ ?_
  go_wp2
  go_ret
  refine ⟨rfl, ?_, ?_⟩
  · exact RefAt.heap (ref_end (w := (w.setCell ⟨r, 0, none⟩ (.string B))) (x := x) (e := x.keep) (ke := x.keep) HBD.out HM.out HBB0.out HN.out rfl rfl) rfl
  · repeat (first | with_reducible exact Kept.refl _ _ | with_reducible refine Kept.setOwn ?_ _ | with_reducible refine Kept.drew ?_ | with_reducible refine Kept.drewN ?_ _)
set_option maxHeartbeats 1600000 in
theorem ref_crash1_2 (r : Nat) (x : FD) (d : ByteArray) (n : Int) (w : World) (h : RefAt w r x) (hd : x.down = false) (hf : x.fuse = 1) (hk : x.keep = 2) (hr : Room ⟨x.safe, x.loose ++ d.data.toList, 0, 0, false⟩) (hn : True) (L : Nat) (hL : (x.loose ++ d.data.toList).length = L) :
    Calls Try.prog 17 #[.pointer (some ⟨r, 0, none⟩), .int .i64 1, .string d, .int .i64 n] w fun e w' => e = .returned (.int .i64 140) ∧ RMoved w w' r ⟨x.safe ++ (x.loose ++ d.data.toList).take L, [], 0, x.keep, true⟩ := by
  obtain ⟨Al, h1, h2, hb⟩ := h
  have c0 := cellOf (j := 0) hb
  have c1 := cellOf (j := 1) hb
  have c2 := cellOf (j := 2) hb
  have c3 := cellOf (j := 3) hb
  have c4 := cellOf (j := 4) hb
  simp [hd, hf] at c0 c1 c2 c3 c4
  simp [hk] at c3
  have f0 := freeOf (j := 0) hb
  have f1 := freeOf (j := 1) hb
  have f2 := freeOf (j := 2) hb
  have f4 := freeOf (j := 4) hb
  obtain ⟨B, hB⟩ : ∃ B, B = Al ++ d := ⟨_, rfl⟩
  have hBd : B.data.toList = x.safe ++ (x.loose ++ d.data.toList) := by rw [hB]; simp [ByteArray.data_append, h1]
  have hBs : B.size = x.safe.length + L := by rw [← len_data, hBd, List.length_append, hL]
  have hbound : x.safe.length + L ≤ 200000000000000 := by unfold Room at hr; simp only at hr; rw [hL] at hr; exact hr
  have hal : Al.size = x.safe.length + x.loose.length := by rw [← len_data, h1, List.length_append]
  have qa : ∀ w', (Op.stringOp .add Al d).run Try.prog w' = .ok (.string B) w' := fun w' => by
    rw [hB]
    refine run_string_add_sum w' _ _ ?_
    unfold Room at hr
    simp only [List.length_append, len_data] at hr
    omega
  have q1 : IntKind.i64.wrap ((B.size : Int) - x.safe.length) = (L : Int) := by rw [IntWalk.i64_in _ (by omega)]; omega
  have q2 : (0 : Int) ≤ (x.safe.length : Int) + (L : Int) := by omega
  have q3 : (x.safe.length : Int) + (L : Int) ≤ (B.size : Int) := by omega
  have q4 : (x.safe.length : Int) + (L : Int) ≤ 9223372036854775807 := by omega
  have q5 : (0 : Int) ≤ (L : Int) := by omega
  have _t2 := trivial
  have HN := Lib.hid (show ((x.safe.length : Int) + L) = ((x.safe.length + L : Nat) : Int) by omega)
  have HM := Lib.hid (show L ≤ (x.loose ++ d.data.toList).length by omega)
  have HBD := Lib.hid hBd
  have HBB0 := Lib.hid (show ((w.setCell ⟨r, 0, none⟩ (.string B))).heap[r]? = some (.cells #[.string B, .int .i64 x.safe.length, .int .i64 x.fuse, .int .i64 x.keep, .bool x.down] 37 (0, 0)) from (by simpa using blk_set hb 0 (.string B)))
  have HK := Lib.hid hk
  have _t := trivial
  try clear hB
  clear hBd hBs hbound hal hb hk hf hd h1 h2 hL hr
  try clear hn
  go_enter Try.func17, Try.ntmps17
  go_wp2
  refine wp_region_lex (fun _ => True) [0, 0, 0, 1, 0, 0, 0, 0, 1, 0, 0] (by kernel_rfl) (by kernel_rfl) (by kernel_rfl) (trivial) (fun Q' hQ' => ?_)
  simp only [List.zip_cons_cons, List.zip_nil_right]
  repeat (first
    | (refine wpX_light rfl (fun K hK => ?_)
       apply Exists.intro
       refine ⟨fun w' hw' => ?_, ?_⟩
       · try dsimp only at hw'
         go_simp
         exact ⟨rfl, rfl⟩
       go_simp
       refine hK _ _ ?_
       clear hK K)
    | (refine wpX_read rfl (fun K hK => ?_)
       apply Exists.intro
       refine ⟨?_, ?_⟩
       · go_simp
         exact ⟨rfl, rfl⟩
       go_simp
       refine hK _ _ ?_
       clear hK K)
    | (refine wpX_not rfl (fun K hK => ?_)
       go_simp
       refine hK _ _ ?_
       clear hK K)
    | (refine wpX_light_g rfl (fun K hK => ?_)
       apply Exists.intro
       refine ⟨fun w' hw' => ?_, ?_⟩
       · try dsimp only at hw'
         go_simp
         exact ⟨rfl, rfl⟩
       go_simp
       refine hK _ _ ?_
       clear hK K)
    | (refine wpX_read_g rfl (fun K hK => ?_)
       apply Exists.intro
       refine ⟨?_, ?_⟩
       · go_simp
         exact ⟨rfl, rfl⟩
       go_simp
       refine hK _ _ ?_
       clear hK K))
  refine wpX_nil (hQ' _ _ ?_)
  go_wp2
  refine wp_region_lex (fun _ => True) [0, 0, 0, 0, 1, 0, 0, 0, 1, 0, 0, 0, 2] (by kernel_rfl) (by kernel_rfl) (by kernel_rfl) (trivial) (fun Q' hQ' => ?_)
  simp only [List.zip_cons_cons, List.zip_nil_right]
  repeat (first
    | (refine wpX_light rfl (fun K hK => ?_)
       apply Exists.intro
       refine ⟨fun w' hw' => ?_, ?_⟩
       · try dsimp only at hw'
         go_simp
         exact ⟨rfl, rfl⟩
       go_simp
       refine hK _ _ ?_
       clear hK K)
    | (refine wpX_read rfl (fun K hK => ?_)
       apply Exists.intro
       refine ⟨?_, ?_⟩
       · go_simp
         exact ⟨rfl, rfl⟩
       go_simp
       refine hK _ _ ?_
       clear hK K)
    | (refine wpX_not rfl (fun K hK => ?_)
       go_simp
       refine hK _ _ ?_
       clear hK K)
    | (refine wpX_light_g rfl (fun K hK => ?_)
       apply Exists.intro
       refine ⟨fun w' hw' => ?_, ?_⟩
       · try dsimp only at hw'
         go_simp
         exact ⟨rfl, rfl⟩
       go_simp
       refine hK _ _ ?_
       clear hK K)
    | (refine wpX_read_g rfl (fun K hK => ?_)
       apply Exists.intro
       refine ⟨?_, ?_⟩
       · go_simp
         exact ⟨rfl, rfl⟩
       go_simp
       refine hK _ _ ?_
       clear hK K))
  refine wpX_heavy rfl (fun K hK => ?_)
  go_wp2
  refine hQ' _ _ ?_
  go_wp2
  go_ret
  refine ⟨rfl, ?_, ?_⟩
  · exact RefAt.heap (ref_end (w := (w.setCell ⟨r, 0, none⟩ (.string B))) (x := x) (e := x.keep) (ke := x.keep) HBD.out HM.out HBB0.out HN.out rfl rfl) rfl
  · repeat (first | with_reducible exact Kept.refl _ _ | with_reducible refine Kept.setOwn ?_ _ | with_reducible refine Kept.drew ?_ | with_reducible refine Kept.drewN ?_ _)
set_option maxHeartbeats 1600000 in
theorem ref_crash2_0 (r : Nat) (x : FD) (d : ByteArray) (n : Int) (w : World) (h : RefAt w r x) (hd : x.down = false) (hf : x.fuse = 1) (hk : x.keep = 0) (hr : Room ⟨x.safe, x.loose, 0, 0, false⟩) (hn : True) (L : Nat) (hL : (x.loose).length = L) :
    Calls Try.prog 17 #[.pointer (some ⟨r, 0, none⟩), .int .i64 2, .string d, .int .i64 n] w fun e w' => e = .returned (.int .i64 140) ∧ RMoved w w' r ⟨x.safe ++ (x.loose).take 0, [], 0, x.keep, true⟩ := by
  obtain ⟨Al, h1, h2, hb⟩ := h
  have c0 := cellOf (j := 0) hb
  have c1 := cellOf (j := 1) hb
  have c2 := cellOf (j := 2) hb
  have c3 := cellOf (j := 3) hb
  have c4 := cellOf (j := 4) hb
  simp [hd, hf] at c0 c1 c2 c3 c4
  simp [hk] at c3
  have f0 := freeOf (j := 0) hb
  have f1 := freeOf (j := 1) hb
  have f2 := freeOf (j := 2) hb
  have f4 := freeOf (j := 4) hb
  obtain ⟨B, hB⟩ : ∃ B, B = Al := ⟨_, rfl⟩
  have hBd : B.data.toList = x.safe ++ (x.loose) := by rw [hB]; simp [ByteArray.data_append, h1]
  have hBs : B.size = x.safe.length + L := by rw [← len_data, hBd, List.length_append, hL]
  have hbound : x.safe.length + L ≤ 200000000000000 := by unfold Room at hr; simp only at hr; rw [hL] at hr; exact hr
  have hal : Al.size = x.safe.length + x.loose.length := by rw [← len_data, h1, List.length_append]
  have qa : True := trivial
  have q1 : IntKind.i64.wrap ((B.size : Int) - x.safe.length) = (L : Int) := by rw [IntWalk.i64_in _ (by omega)]; omega
  have q2 : (0 : Int) ≤ (x.safe.length : Int) + (0 : Int) := by omega
  have q3 : (x.safe.length : Int) + (0 : Int) ≤ (B.size : Int) := by omega
  have q4 : (x.safe.length : Int) + (0 : Int) ≤ 9223372036854775807 := by omega
  have q5 : (0 : Int) ≤ (0 : Int) := by omega
  simp only [Int.add_zero] at q2 q3 q4
  have HN := Lib.hid (show (x.safe.length : Int) = ((x.safe.length + 0 : Nat) : Int) by omega)
  have HM := Lib.hid (show 0 ≤ (x.loose).length by omega)
  have HBD := Lib.hid hBd
  have HBB0 := Lib.hid (show (w).heap[r]? = some (.cells #[.string B, .int .i64 x.safe.length, .int .i64 x.fuse, .int .i64 x.keep, .bool x.down] 37 (0, 0)) from (by rw [hB]; exact hb))
  have HK := Lib.hid hk
  subst hB
  try clear hB
  clear hBd hBs hbound hal hb hk hf hd h1 h2 hL hr
  try clear hn
  go_enter Try.func17, Try.ntmps17
  go_wp2
  refine wp_region_lex (fun _ => True) [0, 0, 0, 1, 0, 0, 0, 0, 1, 0, 0] (by kernel_rfl) (by kernel_rfl) (by kernel_rfl) (trivial) (fun Q' hQ' => ?_)
  simp only [List.zip_cons_cons, List.zip_nil_right]
  repeat (first
    | (refine wpX_light rfl (fun K hK => ?_)
       apply Exists.intro
       refine ⟨fun w' hw' => ?_, ?_⟩
       · try dsimp only at hw'
         go_simp
         exact ⟨rfl, rfl⟩
       go_simp
       refine hK _ _ ?_
       clear hK K)
    | (refine wpX_read rfl (fun K hK => ?_)
       apply Exists.intro
       refine ⟨?_, ?_⟩
       · go_simp
         exact ⟨rfl, rfl⟩
       go_simp
       refine hK _ _ ?_
       clear hK K)
    | (refine wpX_not rfl (fun K hK => ?_)
       go_simp
       refine hK _ _ ?_
       clear hK K)
    | (refine wpX_light_g rfl (fun K hK => ?_)
       apply Exists.intro
       refine ⟨fun w' hw' => ?_, ?_⟩
       · try dsimp only at hw'
         go_simp
         exact ⟨rfl, rfl⟩
       go_simp
       refine hK _ _ ?_
       clear hK K)
    | (refine wpX_read_g rfl (fun K hK => ?_)
       apply Exists.intro
       refine ⟨?_, ?_⟩
       · go_simp
         exact ⟨rfl, rfl⟩
       go_simp
       refine hK _ _ ?_
       clear hK K))
  refine wpX_nil (hQ' _ _ ?_)
  go_wp2
  refine wp_region_lex (fun _ => True) [0, 0, 0, 0, 1, 0, 0, 0, 1, 0, 0, 0, 2] (by kernel_rfl) (by kernel_rfl) (by kernel_rfl) (trivial) (fun Q' hQ' => ?_)
  simp only [List.zip_cons_cons, List.zip_nil_right]
  repeat (first
    | (refine wpX_light rfl (fun K hK => ?_)
       apply Exists.intro
       refine ⟨fun w' hw' => ?_, ?_⟩
       · try dsimp only at hw'
         go_simp
         exact ⟨rfl, rfl⟩
       go_simp
       refine hK _ _ ?_
       clear hK K)
    | (refine wpX_read rfl (fun K hK => ?_)
       apply Exists.intro
       refine ⟨?_, ?_⟩
       · go_simp
         exact ⟨rfl, rfl⟩
       go_simp
       refine hK _ _ ?_
       clear hK K)
    | (refine wpX_not rfl (fun K hK => ?_)
       go_simp
       refine hK _ _ ?_
       clear hK K)
    | (refine wpX_light_g rfl (fun K hK => ?_)
       apply Exists.intro
       refine ⟨fun w' hw' => ?_, ?_⟩
       · try dsimp only at hw'
         go_simp
         exact ⟨rfl, rfl⟩
       go_simp
       refine hK _ _ ?_
       clear hK K)
    | (refine wpX_read_g rfl (fun K hK => ?_)
       apply Exists.intro
       refine ⟨?_, ?_⟩
       · go_simp
         exact ⟨rfl, rfl⟩
       go_simp
       refine hK _ _ ?_
       clear hK K))
  refine wpX_heavy rfl (fun K hK => ?_)
  go_wp2
  refine hQ' _ _ ?_
  go_wp2
  go_ret
  refine ⟨rfl, ?_, ?_⟩
  · exact RefAt.heap (ref_end (w := w) (x := x) (e := x.keep) (ke := x.keep) HBD.out HM.out HBB0.out HN.out rfl rfl) rfl
  · repeat (first | with_reducible exact Kept.refl _ _ | with_reducible refine Kept.setOwn ?_ _ | with_reducible refine Kept.drew ?_ | with_reducible refine Kept.drewN ?_ _)
set_option maxHeartbeats 1600000 in
theorem ref_crash2_1 (r : Nat) (x : FD) (d : ByteArray) (n : Int) (w : World) (h : RefAt w r x) (hd : x.down = false) (hf : x.fuse = 1) (hk : x.keep = 1) (hr : Room ⟨x.safe, x.loose, 0, 0, false⟩) (hn : True) (L : Nat) (hL : (x.loose).length = L) :
    Calls Try.prog 17 #[.pointer (some ⟨r, 0, none⟩), .int .i64 2, .string d, .int .i64 n] w fun e w' => e = .returned (.int .i64 140) ∧ RMoved w w' r ⟨x.safe ++ (x.loose).take (L / 2), [], 0, x.keep, true⟩ := by
  obtain ⟨Al, h1, h2, hb⟩ := h
  have c0 := cellOf (j := 0) hb
  have c1 := cellOf (j := 1) hb
  have c2 := cellOf (j := 2) hb
  have c3 := cellOf (j := 3) hb
  have c4 := cellOf (j := 4) hb
  simp [hd, hf] at c0 c1 c2 c3 c4
  simp [hk] at c3
  have f0 := freeOf (j := 0) hb
  have f1 := freeOf (j := 1) hb
  have f2 := freeOf (j := 2) hb
  have f4 := freeOf (j := 4) hb
  obtain ⟨B, hB⟩ : ∃ B, B = Al := ⟨_, rfl⟩
  have hBd : B.data.toList = x.safe ++ (x.loose) := by rw [hB]; simp [ByteArray.data_append, h1]
  have hBs : B.size = x.safe.length + L := by rw [← len_data, hBd, List.length_append, hL]
  have hbound : x.safe.length + L ≤ 200000000000000 := by unfold Room at hr; simp only at hr; rw [hL] at hr; exact hr
  have hal : Al.size = x.safe.length + x.loose.length := by rw [← len_data, h1, List.length_append]
  have qa : True := trivial
  have q1 : IntKind.i64.wrap ((B.size : Int) - x.safe.length) = (L : Int) := by rw [IntWalk.i64_in _ (by omega)]; omega
  have q2 : (0 : Int) ≤ (x.safe.length : Int) + ((L : Int) / 2) := by omega
  have q3 : (x.safe.length : Int) + ((L : Int) / 2) ≤ (B.size : Int) := by omega
  have q4 : (x.safe.length : Int) + ((L : Int) / 2) ≤ 9223372036854775807 := by omega
  have q5 : (0 : Int) ≤ ((L : Int) / 2) := by omega
  have _t2 := trivial
  have HN := Lib.hid (show ((x.safe.length : Int) + (L : Int) / 2) = ((x.safe.length + (L / 2) : Nat) : Int) by omega)
  have HM := Lib.hid (show (L / 2) ≤ (x.loose).length by omega)
  have HBD := Lib.hid hBd
  have HBB0 := Lib.hid (show (w).heap[r]? = some (.cells #[.string B, .int .i64 x.safe.length, .int .i64 x.fuse, .int .i64 x.keep, .bool x.down] 37 (0, 0)) from (by rw [hB]; exact hb))
  have HK := Lib.hid hk
  subst hB
  try clear hB
  clear hBd hBs hbound hal hb hk hf hd h1 h2 hL hr
  try clear hn
  go_enter Try.func17, Try.ntmps17
  go_wp2
  refine wp_region_lex (fun _ => True) [0, 0, 0, 1, 0, 0, 0, 0, 1, 0, 0] (by kernel_rfl) (by kernel_rfl) (by kernel_rfl) (trivial) (fun Q' hQ' => ?_)
  simp only [List.zip_cons_cons, List.zip_nil_right]
  repeat (first
    | (refine wpX_light rfl (fun K hK => ?_)
       apply Exists.intro
       refine ⟨fun w' hw' => ?_, ?_⟩
       · try dsimp only at hw'
         go_simp
         exact ⟨rfl, rfl⟩
       go_simp
       refine hK _ _ ?_
       clear hK K)
    | (refine wpX_read rfl (fun K hK => ?_)
       apply Exists.intro
       refine ⟨?_, ?_⟩
       · go_simp
         exact ⟨rfl, rfl⟩
       go_simp
       refine hK _ _ ?_
       clear hK K)
    | (refine wpX_not rfl (fun K hK => ?_)
       go_simp
       refine hK _ _ ?_
       clear hK K)
    | (refine wpX_light_g rfl (fun K hK => ?_)
       apply Exists.intro
       refine ⟨fun w' hw' => ?_, ?_⟩
       · try dsimp only at hw'
         go_simp
         exact ⟨rfl, rfl⟩
       go_simp
       refine hK _ _ ?_
       clear hK K)
    | (refine wpX_read_g rfl (fun K hK => ?_)
       apply Exists.intro
       refine ⟨?_, ?_⟩
       · go_simp
         exact ⟨rfl, rfl⟩
       go_simp
       refine hK _ _ ?_
       clear hK K))
  refine wpX_nil (hQ' _ _ ?_)
  go_wp2
  refine wp_region_lex (fun _ => True) [0, 0, 0, 0, 1, 0, 0, 0, 1, 0, 0, 0, 2] (by kernel_rfl) (by kernel_rfl) (by kernel_rfl) (trivial) (fun Q' hQ' => ?_)
  simp only [List.zip_cons_cons, List.zip_nil_right]
  repeat (first
    | (refine wpX_light rfl (fun K hK => ?_)
       apply Exists.intro
       refine ⟨fun w' hw' => ?_, ?_⟩
       · try dsimp only at hw'
         go_simp
         exact ⟨rfl, rfl⟩
       go_simp
       refine hK _ _ ?_
       clear hK K)
    | (refine wpX_read rfl (fun K hK => ?_)
       apply Exists.intro
       refine ⟨?_, ?_⟩
       · go_simp
         exact ⟨rfl, rfl⟩
       go_simp
       refine hK _ _ ?_
       clear hK K)
    | (refine wpX_not rfl (fun K hK => ?_)
       go_simp
       refine hK _ _ ?_
       clear hK K)
    | (refine wpX_light_g rfl (fun K hK => ?_)
       apply Exists.intro
       refine ⟨fun w' hw' => ?_, ?_⟩
       · try dsimp only at hw'
         go_simp
         exact ⟨rfl, rfl⟩
       go_simp
       refine hK _ _ ?_
       clear hK K)
    | (refine wpX_read_g rfl (fun K hK => ?_)
       apply Exists.intro
       refine ⟨?_, ?_⟩
       · go_simp
         exact ⟨rfl, rfl⟩
       go_simp
       refine hK _ _ ?_
       clear hK K))
  refine wpX_heavy rfl (fun K hK => ?_)
  go_wp2
  refine hQ' _ _ ?_
  go_wp2
  go_ret
  refine ⟨rfl, ?_, ?_⟩
  · exact RefAt.heap (ref_end (w := w) (x := x) (e := x.keep) (ke := x.keep) HBD.out HM.out HBB0.out HN.out rfl rfl) rfl
  · repeat (first | with_reducible exact Kept.refl _ _ | with_reducible refine Kept.setOwn ?_ _ | with_reducible refine Kept.drew ?_ | with_reducible refine Kept.drewN ?_ _)
set_option maxHeartbeats 1600000 in
theorem ref_crash2_2 (r : Nat) (x : FD) (d : ByteArray) (n : Int) (w : World) (h : RefAt w r x) (hd : x.down = false) (hf : x.fuse = 1) (hk : x.keep = 2) (hr : Room ⟨x.safe, x.loose, 0, 0, false⟩) (hn : True) (L : Nat) (hL : (x.loose).length = L) :
    Calls Try.prog 17 #[.pointer (some ⟨r, 0, none⟩), .int .i64 2, .string d, .int .i64 n] w fun e w' => e = .returned (.int .i64 140) ∧ RMoved w w' r ⟨x.safe ++ (x.loose).take L, [], 0, x.keep, true⟩ := by
  obtain ⟨Al, h1, h2, hb⟩ := h
  have c0 := cellOf (j := 0) hb
  have c1 := cellOf (j := 1) hb
  have c2 := cellOf (j := 2) hb
  have c3 := cellOf (j := 3) hb
  have c4 := cellOf (j := 4) hb
  simp [hd, hf] at c0 c1 c2 c3 c4
  simp [hk] at c3
  have f0 := freeOf (j := 0) hb
  have f1 := freeOf (j := 1) hb
  have f2 := freeOf (j := 2) hb
  have f4 := freeOf (j := 4) hb
  obtain ⟨B, hB⟩ : ∃ B, B = Al := ⟨_, rfl⟩
  have hBd : B.data.toList = x.safe ++ (x.loose) := by rw [hB]; simp [ByteArray.data_append, h1]
  have hBs : B.size = x.safe.length + L := by rw [← len_data, hBd, List.length_append, hL]
  have hbound : x.safe.length + L ≤ 200000000000000 := by unfold Room at hr; simp only at hr; rw [hL] at hr; exact hr
  have hal : Al.size = x.safe.length + x.loose.length := by rw [← len_data, h1, List.length_append]
  have qa : True := trivial
  have q1 : IntKind.i64.wrap ((B.size : Int) - x.safe.length) = (L : Int) := by rw [IntWalk.i64_in _ (by omega)]; omega
  have q2 : (0 : Int) ≤ (x.safe.length : Int) + (L : Int) := by omega
  have q3 : (x.safe.length : Int) + (L : Int) ≤ (B.size : Int) := by omega
  have q4 : (x.safe.length : Int) + (L : Int) ≤ 9223372036854775807 := by omega
  have q5 : (0 : Int) ≤ (L : Int) := by omega
  have _t2 := trivial
  have HN := Lib.hid (show ((x.safe.length : Int) + L) = ((x.safe.length + L : Nat) : Int) by omega)
  have HM := Lib.hid (show L ≤ (x.loose).length by omega)
  have HBD := Lib.hid hBd
  have HBB0 := Lib.hid (show (w).heap[r]? = some (.cells #[.string B, .int .i64 x.safe.length, .int .i64 x.fuse, .int .i64 x.keep, .bool x.down] 37 (0, 0)) from (by rw [hB]; exact hb))
  have HK := Lib.hid hk
  subst hB
  try clear hB
  clear hBd hBs hbound hal hb hk hf hd h1 h2 hL hr
  try clear hn
  go_enter Try.func17, Try.ntmps17
  go_wp2
  refine wp_region_lex (fun _ => True) [0, 0, 0, 1, 0, 0, 0, 0, 1, 0, 0] (by kernel_rfl) (by kernel_rfl) (by kernel_rfl) (trivial) (fun Q' hQ' => ?_)
  simp only [List.zip_cons_cons, List.zip_nil_right]
  repeat (first
    | (refine wpX_light rfl (fun K hK => ?_)
       apply Exists.intro
       refine ⟨fun w' hw' => ?_, ?_⟩
       · try dsimp only at hw'
         go_simp
         exact ⟨rfl, rfl⟩
       go_simp
       refine hK _ _ ?_
       clear hK K)
    | (refine wpX_read rfl (fun K hK => ?_)
       apply Exists.intro
       refine ⟨?_, ?_⟩
       · go_simp
         exact ⟨rfl, rfl⟩
       go_simp
       refine hK _ _ ?_
       clear hK K)
    | (refine wpX_not rfl (fun K hK => ?_)
       go_simp
       refine hK _ _ ?_
       clear hK K)
    | (refine wpX_light_g rfl (fun K hK => ?_)
       apply Exists.intro
       refine ⟨fun w' hw' => ?_, ?_⟩
       · try dsimp only at hw'
         go_simp
         exact ⟨rfl, rfl⟩
       go_simp
       refine hK _ _ ?_
       clear hK K)
    | (refine wpX_read_g rfl (fun K hK => ?_)
       apply Exists.intro
       refine ⟨?_, ?_⟩
       · go_simp
         exact ⟨rfl, rfl⟩
       go_simp
       refine hK _ _ ?_
       clear hK K))
  refine wpX_nil (hQ' _ _ ?_)
  go_wp2
  refine wp_region_lex (fun _ => True) [0, 0, 0, 0, 1, 0, 0, 0, 1, 0, 0, 0, 2] (by kernel_rfl) (by kernel_rfl) (by kernel_rfl) (trivial) (fun Q' hQ' => ?_)
  simp only [List.zip_cons_cons, List.zip_nil_right]
  repeat (first
    | (refine wpX_light rfl (fun K hK => ?_)
       apply Exists.intro
       refine ⟨fun w' hw' => ?_, ?_⟩
       · try dsimp only at hw'
         go_simp
         exact ⟨rfl, rfl⟩
       go_simp
       refine hK _ _ ?_
       clear hK K)
    | (refine wpX_read rfl (fun K hK => ?_)
       apply Exists.intro
       refine ⟨?_, ?_⟩
       · go_simp
         exact ⟨rfl, rfl⟩
       go_simp
       refine hK _ _ ?_
       clear hK K)
    | (refine wpX_not rfl (fun K hK => ?_)
       go_simp
       refine hK _ _ ?_
       clear hK K)
    | (refine wpX_light_g rfl (fun K hK => ?_)
       apply Exists.intro
       refine ⟨fun w' hw' => ?_, ?_⟩
       · try dsimp only at hw'
         go_simp
         exact ⟨rfl, rfl⟩
       go_simp
       refine hK _ _ ?_
       clear hK K)
    | (refine wpX_read_g rfl (fun K hK => ?_)
       apply Exists.intro
       refine ⟨?_, ?_⟩
       · go_simp
         exact ⟨rfl, rfl⟩
       go_simp
       refine hK _ _ ?_
       clear hK K))
  refine wpX_heavy rfl (fun K hK => ?_)
  go_wp2
  refine hQ' _ _ ?_
  go_wp2
  go_ret
  refine ⟨rfl, ?_, ?_⟩
  · exact RefAt.heap (ref_end (w := w) (x := x) (e := x.keep) (ke := x.keep) HBD.out HM.out HBB0.out HN.out rfl rfl) rfl
  · repeat (first | with_reducible exact Kept.refl _ _ | with_reducible refine Kept.setOwn ?_ _ | with_reducible refine Kept.drew ?_ | with_reducible refine Kept.drewN ?_ _)
set_option maxHeartbeats 1600000 in
theorem ref_crash3_0 (r : Nat) (x : FD) (d : ByteArray) (n : Int) (w : World) (h : RefAt w r x) (hd : x.down = false) (hf : x.fuse = 1) (hk : x.keep = 0) (hr : Room ⟨x.safe, x.loose, 0, 0, false⟩) (hn : 0 ≤ n ∧ n ≤ (x.safe.length : Int) + x.loose.length) (L : Nat) (hL : (x.loose).length = L) :
    Calls Try.prog 17 #[.pointer (some ⟨r, 0, none⟩), .int .i64 3, .string d, .int .i64 n] w fun e w' => e = .returned (.int .i64 140) ∧ RMoved w w' r ⟨x.safe ++ (x.loose).take 0, [], 0, x.keep, true⟩ := by
  obtain ⟨Al, h1, h2, hb⟩ := h
  have c0 := cellOf (j := 0) hb
  have c1 := cellOf (j := 1) hb
  have c2 := cellOf (j := 2) hb
  have c3 := cellOf (j := 3) hb
  have c4 := cellOf (j := 4) hb
  simp [hd, hf] at c0 c1 c2 c3 c4
  simp [hk] at c3
  have f0 := freeOf (j := 0) hb
  have f1 := freeOf (j := 1) hb
  have f2 := freeOf (j := 2) hb
  have f4 := freeOf (j := 4) hb
  obtain ⟨B, hB⟩ : ∃ B, B = Al := ⟨_, rfl⟩
  have hBd : B.data.toList = x.safe ++ (x.loose) := by rw [hB]; simp [ByteArray.data_append, h1]
  have hBs : B.size = x.safe.length + L := by rw [← len_data, hBd, List.length_append, hL]
  have hbound : x.safe.length + L ≤ 200000000000000 := by unfold Room at hr; simp only at hr; rw [hL] at hr; exact hr
  have hal : Al.size = x.safe.length + x.loose.length := by rw [← len_data, h1, List.length_append]
  obtain ⟨qn1, qn2⟩ := hn
  have qn3 : n ≤ (Al.size : Int) := by omega
  have qn4 : ¬ n < 0 := by omega
  clear qn2
  have q1 : IntKind.i64.wrap ((B.size : Int) - x.safe.length) = (L : Int) := by rw [IntWalk.i64_in _ (by omega)]; omega
  have q2 : (0 : Int) ≤ (x.safe.length : Int) + (0 : Int) := by omega
  have q3 : (x.safe.length : Int) + (0 : Int) ≤ (B.size : Int) := by omega
  have q4 : (x.safe.length : Int) + (0 : Int) ≤ 9223372036854775807 := by omega
  have q5 : (0 : Int) ≤ (0 : Int) := by omega
  simp only [Int.add_zero] at q2 q3 q4
  have HN := Lib.hid (show (x.safe.length : Int) = ((x.safe.length + 0 : Nat) : Int) by omega)
  have HM := Lib.hid (show 0 ≤ (x.loose).length by omega)
  have HBD := Lib.hid hBd
  have HBB0 := Lib.hid (show (w).heap[r]? = some (.cells #[.string B, .int .i64 x.safe.length, .int .i64 x.fuse, .int .i64 x.keep, .bool x.down] 37 (0, 0)) from (by rw [hB]; exact hb))
  have HK := Lib.hid hk
  subst hB
  try clear hB
  clear hBd hBs hbound hal hb hk hf hd h1 h2 hL hr
  try clear hn
  go_enter Try.func17, Try.ntmps17
  go_wp2
  refine wp_region_lex (fun _ => True) [0, 0, 0, 1, 0, 0, 0, 0, 1, 0, 0] (by kernel_rfl) (by kernel_rfl) (by kernel_rfl) (trivial) (fun Q' hQ' => ?_)
  simp only [List.zip_cons_cons, List.zip_nil_right]
  repeat (first
    | (refine wpX_light rfl (fun K hK => ?_)
       apply Exists.intro
       refine ⟨fun w' hw' => ?_, ?_⟩
       · try dsimp only at hw'
         go_simp
         exact ⟨rfl, rfl⟩
       go_simp
       refine hK _ _ ?_
       clear hK K)
    | (refine wpX_read rfl (fun K hK => ?_)
       apply Exists.intro
       refine ⟨?_, ?_⟩
       · go_simp
         exact ⟨rfl, rfl⟩
       go_simp
       refine hK _ _ ?_
       clear hK K)
    | (refine wpX_not rfl (fun K hK => ?_)
       go_simp
       refine hK _ _ ?_
       clear hK K)
    | (refine wpX_light_g rfl (fun K hK => ?_)
       apply Exists.intro
       refine ⟨fun w' hw' => ?_, ?_⟩
       · try dsimp only at hw'
         go_simp
         exact ⟨rfl, rfl⟩
       go_simp
       refine hK _ _ ?_
       clear hK K)
    | (refine wpX_read_g rfl (fun K hK => ?_)
       apply Exists.intro
       refine ⟨?_, ?_⟩
       · go_simp
         exact ⟨rfl, rfl⟩
       go_simp
       refine hK _ _ ?_
       clear hK K))
  refine wpX_nil (hQ' _ _ ?_)
  go_wp2
  refine wp_region_lex (fun _ => True) [0, 0, 0, 0, 1, 0, 0, 0, 1, 0, 0, 0, 2] (by kernel_rfl) (by kernel_rfl) (by kernel_rfl) (trivial) (fun Q' hQ' => ?_)
  simp only [List.zip_cons_cons, List.zip_nil_right]
  repeat (first
    | (refine wpX_light rfl (fun K hK => ?_)
       apply Exists.intro
       refine ⟨fun w' hw' => ?_, ?_⟩
       · try dsimp only at hw'
         go_simp
         exact ⟨rfl, rfl⟩
       go_simp
       refine hK _ _ ?_
       clear hK K)
    | (refine wpX_read rfl (fun K hK => ?_)
       apply Exists.intro
       refine ⟨?_, ?_⟩
       · go_simp
         exact ⟨rfl, rfl⟩
       go_simp
       refine hK _ _ ?_
       clear hK K)
    | (refine wpX_not rfl (fun K hK => ?_)
       go_simp
       refine hK _ _ ?_
       clear hK K)
    | (refine wpX_light_g rfl (fun K hK => ?_)
       apply Exists.intro
       refine ⟨fun w' hw' => ?_, ?_⟩
       · try dsimp only at hw'
         go_simp
         exact ⟨rfl, rfl⟩
       go_simp
       refine hK _ _ ?_
       clear hK K)
    | (refine wpX_read_g rfl (fun K hK => ?_)
       apply Exists.intro
       refine ⟨?_, ?_⟩
       · go_simp
         exact ⟨rfl, rfl⟩
       go_simp
       refine hK _ _ ?_
       clear hK K))
  refine wpX_heavy rfl (fun K hK => ?_)
  go_wp2
  refine hQ' _ _ ?_
  go_wp2
  go_ret
  refine ⟨rfl, ?_, ?_⟩
  · exact RefAt.heap (ref_end (w := w) (x := x) (e := x.keep) (ke := x.keep) HBD.out HM.out HBB0.out HN.out rfl rfl) rfl
  · repeat (first | with_reducible exact Kept.refl _ _ | with_reducible refine Kept.setOwn ?_ _ | with_reducible refine Kept.drew ?_ | with_reducible refine Kept.drewN ?_ _)
set_option maxHeartbeats 1600000 in
theorem ref_crash3_1 (r : Nat) (x : FD) (d : ByteArray) (n : Int) (w : World) (h : RefAt w r x) (hd : x.down = false) (hf : x.fuse = 1) (hk : x.keep = 1) (hr : Room ⟨x.safe, x.loose, 0, 0, false⟩) (hn : 0 ≤ n ∧ n ≤ (x.safe.length : Int) + x.loose.length) (L : Nat) (hL : (x.loose).length = L) :
    Calls Try.prog 17 #[.pointer (some ⟨r, 0, none⟩), .int .i64 3, .string d, .int .i64 n] w fun e w' => e = .returned (.int .i64 140) ∧ RMoved w w' r ⟨x.safe ++ (x.loose).take (L / 2), [], 0, x.keep, true⟩ := by
  obtain ⟨Al, h1, h2, hb⟩ := h
  have c0 := cellOf (j := 0) hb
  have c1 := cellOf (j := 1) hb
  have c2 := cellOf (j := 2) hb
  have c3 := cellOf (j := 3) hb
  have c4 := cellOf (j := 4) hb
  simp [hd, hf] at c0 c1 c2 c3 c4
  simp [hk] at c3
  have f0 := freeOf (j := 0) hb
  have f1 := freeOf (j := 1) hb
  have f2 := freeOf (j := 2) hb
  have f4 := freeOf (j := 4) hb
  obtain ⟨B, hB⟩ : ∃ B, B = Al := ⟨_, rfl⟩
  have hBd : B.data.toList = x.safe ++ (x.loose) := by rw [hB]; simp [ByteArray.data_append, h1]
  have hBs : B.size = x.safe.length + L := by rw [← len_data, hBd, List.length_append, hL]
  have hbound : x.safe.length + L ≤ 200000000000000 := by unfold Room at hr; simp only at hr; rw [hL] at hr; exact hr
  have hal : Al.size = x.safe.length + x.loose.length := by rw [← len_data, h1, List.length_append]
  obtain ⟨qn1, qn2⟩ := hn
  have qn3 : n ≤ (Al.size : Int) := by omega
  have qn4 : ¬ n < 0 := by omega
  clear qn2
  have q1 : IntKind.i64.wrap ((B.size : Int) - x.safe.length) = (L : Int) := by rw [IntWalk.i64_in _ (by omega)]; omega
  have q2 : (0 : Int) ≤ (x.safe.length : Int) + ((L : Int) / 2) := by omega
  have q3 : (x.safe.length : Int) + ((L : Int) / 2) ≤ (B.size : Int) := by omega
  have q4 : (x.safe.length : Int) + ((L : Int) / 2) ≤ 9223372036854775807 := by omega
  have q5 : (0 : Int) ≤ ((L : Int) / 2) := by omega
  have _t2 := trivial
  have HN := Lib.hid (show ((x.safe.length : Int) + (L : Int) / 2) = ((x.safe.length + (L / 2) : Nat) : Int) by omega)
  have HM := Lib.hid (show (L / 2) ≤ (x.loose).length by omega)
  have HBD := Lib.hid hBd
  have HBB0 := Lib.hid (show (w).heap[r]? = some (.cells #[.string B, .int .i64 x.safe.length, .int .i64 x.fuse, .int .i64 x.keep, .bool x.down] 37 (0, 0)) from (by rw [hB]; exact hb))
  have HK := Lib.hid hk
  subst hB
  try clear hB
  clear hBd hBs hbound hal hb hk hf hd h1 h2 hL hr
  try clear hn
  go_enter Try.func17, Try.ntmps17
  go_wp2
  refine wp_region_lex (fun _ => True) [0, 0, 0, 1, 0, 0, 0, 0, 1, 0, 0] (by kernel_rfl) (by kernel_rfl) (by kernel_rfl) (trivial) (fun Q' hQ' => ?_)
  simp only [List.zip_cons_cons, List.zip_nil_right]
  repeat (first
    | (refine wpX_light rfl (fun K hK => ?_)
       apply Exists.intro
       refine ⟨fun w' hw' => ?_, ?_⟩
       · try dsimp only at hw'
         go_simp
         exact ⟨rfl, rfl⟩
       go_simp
       refine hK _ _ ?_
       clear hK K)
    | (refine wpX_read rfl (fun K hK => ?_)
       apply Exists.intro
       refine ⟨?_, ?_⟩
       · go_simp
         exact ⟨rfl, rfl⟩
       go_simp
       refine hK _ _ ?_
       clear hK K)
    | (refine wpX_not rfl (fun K hK => ?_)
       go_simp
       refine hK _ _ ?_
       clear hK K)
    | (refine wpX_light_g rfl (fun K hK => ?_)
       apply Exists.intro
       refine ⟨fun w' hw' => ?_, ?_⟩
       · try dsimp only at hw'
         go_simp
         exact ⟨rfl, rfl⟩
       go_simp
       refine hK _ _ ?_
       clear hK K)
    | (refine wpX_read_g rfl (fun K hK => ?_)
       apply Exists.intro
       refine ⟨?_, ?_⟩
       · go_simp
         exact ⟨rfl, rfl⟩
       go_simp
       refine hK _ _ ?_
       clear hK K))
  refine wpX_nil (hQ' _ _ ?_)
  go_wp2
  refine wp_region_lex (fun _ => True) [0, 0, 0, 0, 1, 0, 0, 0, 1, 0, 0, 0, 2] (by kernel_rfl) (by kernel_rfl) (by kernel_rfl) (trivial) (fun Q' hQ' => ?_)
  simp only [List.zip_cons_cons, List.zip_nil_right]
  repeat (first
    | (refine wpX_light rfl (fun K hK => ?_)
       apply Exists.intro
       refine ⟨fun w' hw' => ?_, ?_⟩
       · try dsimp only at hw'
         go_simp
         exact ⟨rfl, rfl⟩
       go_simp
       refine hK _ _ ?_
       clear hK K)
    | (refine wpX_read rfl (fun K hK => ?_)
       apply Exists.intro
       refine ⟨?_, ?_⟩
       · go_simp
         exact ⟨rfl, rfl⟩
       go_simp
       refine hK _ _ ?_
       clear hK K)
    | (refine wpX_not rfl (fun K hK => ?_)
       go_simp
       refine hK _ _ ?_
       clear hK K)
    | (refine wpX_light_g rfl (fun K hK => ?_)
       apply Exists.intro
       refine ⟨fun w' hw' => ?_, ?_⟩
       · try dsimp only at hw'
         go_simp
         exact ⟨rfl, rfl⟩
       go_simp
       refine hK _ _ ?_
       clear hK K)
    | (refine wpX_read_g rfl (fun K hK => ?_)
       apply Exists.intro
       refine ⟨?_, ?_⟩
       · go_simp
         exact ⟨rfl, rfl⟩
       go_simp
       refine hK _ _ ?_
       clear hK K))
  refine wpX_heavy rfl (fun K hK => ?_)
  go_wp2
  refine hQ' _ _ ?_
  go_wp2
  go_ret
  refine ⟨rfl, ?_, ?_⟩
  · exact RefAt.heap (ref_end (w := w) (x := x) (e := x.keep) (ke := x.keep) HBD.out HM.out HBB0.out HN.out rfl rfl) rfl
  · repeat (first | with_reducible exact Kept.refl _ _ | with_reducible refine Kept.setOwn ?_ _ | with_reducible refine Kept.drew ?_ | with_reducible refine Kept.drewN ?_ _)
set_option maxHeartbeats 1600000 in
theorem ref_crash3_2 (r : Nat) (x : FD) (d : ByteArray) (n : Int) (w : World) (h : RefAt w r x) (hd : x.down = false) (hf : x.fuse = 1) (hk : x.keep = 2) (hr : Room ⟨x.safe, x.loose, 0, 0, false⟩) (hn : 0 ≤ n ∧ n ≤ (x.safe.length : Int) + x.loose.length) (L : Nat) (hL : (x.loose).length = L) :
    Calls Try.prog 17 #[.pointer (some ⟨r, 0, none⟩), .int .i64 3, .string d, .int .i64 n] w fun e w' => e = .returned (.int .i64 140) ∧ RMoved w w' r ⟨x.safe ++ (x.loose).take L, [], 0, x.keep, true⟩ := by
  obtain ⟨Al, h1, h2, hb⟩ := h
  have c0 := cellOf (j := 0) hb
  have c1 := cellOf (j := 1) hb
  have c2 := cellOf (j := 2) hb
  have c3 := cellOf (j := 3) hb
  have c4 := cellOf (j := 4) hb
  simp [hd, hf] at c0 c1 c2 c3 c4
  simp [hk] at c3
  have f0 := freeOf (j := 0) hb
  have f1 := freeOf (j := 1) hb
  have f2 := freeOf (j := 2) hb
  have f4 := freeOf (j := 4) hb
  obtain ⟨B, hB⟩ : ∃ B, B = Al := ⟨_, rfl⟩
  have hBd : B.data.toList = x.safe ++ (x.loose) := by rw [hB]; simp [ByteArray.data_append, h1]
  have hBs : B.size = x.safe.length + L := by rw [← len_data, hBd, List.length_append, hL]
  have hbound : x.safe.length + L ≤ 200000000000000 := by unfold Room at hr; simp only at hr; rw [hL] at hr; exact hr
  have hal : Al.size = x.safe.length + x.loose.length := by rw [← len_data, h1, List.length_append]
  obtain ⟨qn1, qn2⟩ := hn
  have qn3 : n ≤ (Al.size : Int) := by omega
  have qn4 : ¬ n < 0 := by omega
  clear qn2
  have q1 : IntKind.i64.wrap ((B.size : Int) - x.safe.length) = (L : Int) := by rw [IntWalk.i64_in _ (by omega)]; omega
  have q2 : (0 : Int) ≤ (x.safe.length : Int) + (L : Int) := by omega
  have q3 : (x.safe.length : Int) + (L : Int) ≤ (B.size : Int) := by omega
  have q4 : (x.safe.length : Int) + (L : Int) ≤ 9223372036854775807 := by omega
  have q5 : (0 : Int) ≤ (L : Int) := by omega
  have _t2 := trivial
  have HN := Lib.hid (show ((x.safe.length : Int) + L) = ((x.safe.length + L : Nat) : Int) by omega)
  have HM := Lib.hid (show L ≤ (x.loose).length by omega)
  have HBD := Lib.hid hBd
  have HBB0 := Lib.hid (show (w).heap[r]? = some (.cells #[.string B, .int .i64 x.safe.length, .int .i64 x.fuse, .int .i64 x.keep, .bool x.down] 37 (0, 0)) from (by rw [hB]; exact hb))
  have HK := Lib.hid hk
  subst hB
  try clear hB
  clear hBd hBs hbound hal hb hk hf hd h1 h2 hL hr
  try clear hn
  go_enter Try.func17, Try.ntmps17
  go_wp2
  refine wp_region_lex (fun _ => True) [0, 0, 0, 1, 0, 0, 0, 0, 1, 0, 0] (by kernel_rfl) (by kernel_rfl) (by kernel_rfl) (trivial) (fun Q' hQ' => ?_)
  simp only [List.zip_cons_cons, List.zip_nil_right]
  repeat (first
    | (refine wpX_light rfl (fun K hK => ?_)
       apply Exists.intro
       refine ⟨fun w' hw' => ?_, ?_⟩
       · try dsimp only at hw'
         go_simp
         exact ⟨rfl, rfl⟩
       go_simp
       refine hK _ _ ?_
       clear hK K)
    | (refine wpX_read rfl (fun K hK => ?_)
       apply Exists.intro
       refine ⟨?_, ?_⟩
       · go_simp
         exact ⟨rfl, rfl⟩
       go_simp
       refine hK _ _ ?_
       clear hK K)
    | (refine wpX_not rfl (fun K hK => ?_)
       go_simp
       refine hK _ _ ?_
       clear hK K)
    | (refine wpX_light_g rfl (fun K hK => ?_)
       apply Exists.intro
       refine ⟨fun w' hw' => ?_, ?_⟩
       · try dsimp only at hw'
         go_simp
         exact ⟨rfl, rfl⟩
       go_simp
       refine hK _ _ ?_
       clear hK K)
    | (refine wpX_read_g rfl (fun K hK => ?_)
       apply Exists.intro
       refine ⟨?_, ?_⟩
       · go_simp
         exact ⟨rfl, rfl⟩
       go_simp
       refine hK _ _ ?_
       clear hK K))
  refine wpX_nil (hQ' _ _ ?_)
  go_wp2
  refine wp_region_lex (fun _ => True) [0, 0, 0, 0, 1, 0, 0, 0, 1, 0, 0, 0, 2] (by kernel_rfl) (by kernel_rfl) (by kernel_rfl) (trivial) (fun Q' hQ' => ?_)
  simp only [List.zip_cons_cons, List.zip_nil_right]
  repeat (first
    | (refine wpX_light rfl (fun K hK => ?_)
       apply Exists.intro
       refine ⟨fun w' hw' => ?_, ?_⟩
       · try dsimp only at hw'
         go_simp
         exact ⟨rfl, rfl⟩
       go_simp
       refine hK _ _ ?_
       clear hK K)
    | (refine wpX_read rfl (fun K hK => ?_)
       apply Exists.intro
       refine ⟨?_, ?_⟩
       · go_simp
         exact ⟨rfl, rfl⟩
       go_simp
       refine hK _ _ ?_
       clear hK K)
    | (refine wpX_not rfl (fun K hK => ?_)
       go_simp
       refine hK _ _ ?_
       clear hK K)
    | (refine wpX_light_g rfl (fun K hK => ?_)
       apply Exists.intro
       refine ⟨fun w' hw' => ?_, ?_⟩
       · try dsimp only at hw'
         go_simp
         exact ⟨rfl, rfl⟩
       go_simp
       refine hK _ _ ?_
       clear hK K)
    | (refine wpX_read_g rfl (fun K hK => ?_)
       apply Exists.intro
       refine ⟨?_, ?_⟩
       · go_simp
         exact ⟨rfl, rfl⟩
       go_simp
       refine hK _ _ ?_
       clear hK K))
  refine wpX_heavy rfl (fun K hK => ?_)
  go_wp2
  refine hQ' _ _ ?_
  go_wp2
  go_ret
  refine ⟨rfl, ?_, ?_⟩
  · exact RefAt.heap (ref_end (w := w) (x := x) (e := x.keep) (ke := x.keep) HBD.out HM.out HBB0.out HN.out rfl rfl) rfl
  · repeat (first | with_reducible exact Kept.refl _ _ | with_reducible refine Kept.setOwn ?_ _ | with_reducible refine Kept.drew ?_ | with_reducible refine Kept.drewN ?_ _)
end Go.Proofs.Ytjcdbijlpimlhaa.Disk
