/-
  The codec of lists, made.
-/
import Derived.Test.YtcnikobmepjgcaaCodec10
namespace Go.Proofs.Ytcnikobmepjgcaa.Codec
open Go.RowKit Go.Proofs.YtcnikobmepjgcaaBase Go.Proofs.YtcnikobmepjgcaaLex2 Go.Proofs.YtcnikobmepjgcaaNum
set_option linter.unusedVariables false
set_option linter.unusedSimpArgs false

/-- Its values have one cell. -/
def One {α : Type} (c : Cod α) : Prop := ∀ (G : Nat → Prop) (w : World) (x : α) (u : Value), c.rep G w x u → u.oneCell' = true
theorem numC_one : One numC := by rintro G w x u rfl; rfl
theorem flagC_one : One flagC := by rintro G w x u rfl; rfl
theorem textC_one (m : Nat) : One (textC m) := by rintro G w x u rfl; rfl
theorem listC_one {α : Type} (c : Cod α) (m : Nat) : One (listC c m) := by rintro G w x u ⟨A, n, cp, rfl, _⟩; rfl

theorem heap_alloc3_new (w : World) (A B C : Obj) : (((w.alloc A).alloc B).alloc C).heap[w.heap.size + 2]? = some C := by
  have := heap_alloc_new ((w.alloc A).alloc B) C
  simpa using this

theorem list_codec_int {α : Type} (c : Cod α) (hf : Fair c) (hone : One c) (W : World) (b cb m : Nat) (hm : m ≤ 1048576) (pv gv : Value) (T : TypeId) (hp : PutOk W pv c) (hg : GetOk W gv c) (hb : W.cell? ⟨b, 0, none⟩ = some (.int .i64 m)) (hl : b < W.heap.size) (hcb : W.heap[cb]? = some (.cells #[pv, gv] T (0, 0))) :
    IsCodec W (.agg #[.func (.func 56) #[] #[.pointer (some ⟨b, 0, none⟩), .pointer (some ⟨cb, 0, none⟩)], .func (.func 58) #[] #[.pointer (some ⟨b, 0, none⟩), .pointer (some ⟨cb, 0, none⟩)]]) (listC c m) := by
  refine ⟨_, _, rfl, ⟨_, _, rfl, Proofs.enters_of Try.func56 (by kernel_rfl) rfl, ?_⟩, ⟨_, _, rfl, Proofs.enters_of Try.func58 (by kernel_rfl) rfl, ?_⟩⟩
  · intro B p F s w x v hB hw hv h hr
    show Calls Try.prog _ #[_, _, _, _] w _
    by_cases ho : m < x.length
    · have e : (listC c m).put x s = s.fail 22 := if_pos ho
      rw [e]
      exact list_put_over_int c B p b m cb F s w x v h hv (by rw [← hb]; simp only [World.cell?, hw.2 b hl]) ho
    · have e : (listC c m).put x s = puts c x (putN x.length s) := if_neg ho
      rw [e]
      exact list_put_fits_int c hf W pv gv T hp B p b m cb F s w x v hB hw h hv hb hl hcb ho hm hr
  · intro p d s w hp hw h hd
    show Calls Try.prog _ #[_, _, _] w _
    exact list_get_int c hf hone W pv gv T hg p b m cb d s w hp hw h hd hb hl hcb hm
theorem listof_int {α : Type} (c : Cod α) (hf : Fair c) (hone : One c) (cv : Value) (m : Int) (w : World) (hc : IsCodec w cv c) :
    Calls Try.prog 18 #[cv, .int .i64 m] w fun r w' => ∃ cv', r = .returned cv' ∧ IsCodec w' cv' (listC c (bnd m)) ∧ Kept w w' (fun _ => False) := by
  have HC := Lib.hid hc
  obtain ⟨pv, gv, rfl, hp, hg⟩ := hc
  have HP := Lib.hid hp
  have HG := Lib.hid hg
  clear hp hg
  go_enter Try.func18, Try.ntmps18
  go_wp2_with (go_at_call 55; refine (bound_any m _).mono ?_; rintro e w1 ⟨rfl, rfl⟩)
  refine bodyPost_ret (results_cell_row rfl _ _ _ _ _ _ _ rfl (heap_alloc3_new _ _ _ _) Try.underlying40 rfl (by kernel_rfl)) rfl ?_
  have hk : Kept w (((w.alloc (.cells #[pv, gv] 34)).alloc (.cells #[.int .i64 (bnd m)] 3)).alloc (.cells #[.func (.func 56) #[] #[.pointer (some ⟨w.heap.size + 1, 0, none⟩), .pointer (some ⟨w.heap.size, 0, none⟩)], .func (.func 58) #[] #[.pointer (some ⟨w.heap.size + 1, 0, none⟩), .pointer (some ⟨w.heap.size, 0, none⟩)]] 40)) (fun _ => False) := (((Kept.refl _ _).alloc _).alloc _).alloc _
  have hs := (Same.refl w).kept hk (fun _ h => h.elim)
  refine ⟨_, rfl, list_codec_int c hf hone _ _ _ _ (bnd_le m) pv gv 34 (HP.out.later hs) (HG.out.later hs) ?_ ?_ ?_, hk⟩
  · exact cellOf (j := 0) (Below.heap_alloc _ _ _ (by simp) |>.trans (heap_alloc2_new w _ _))
  · simp
  · exact (Below.heap_alloc _ _ _ (by simp; omega)).trans ((Below.heap_alloc _ _ _ (by simp)).trans (heap_alloc_new w _))

theorem list_codec_str {α : Type} (c : Cod α) (hf : Fair c) (hone : One c) (W : World) (b cb m : Nat) (hm : m ≤ 1048576) (pv gv : Value) (T : TypeId) (hp : PutOk W pv c) (hg : GetOk W gv c) (hb : W.cell? ⟨b, 0, none⟩ = some (.int .i64 m)) (hl : b < W.heap.size) (hcb : W.heap[cb]? = some (.cells #[pv, gv] T (0, 0))) :
    IsCodec W (.agg #[.func (.func 63) #[] #[.pointer (some ⟨b, 0, none⟩), .pointer (some ⟨cb, 0, none⟩)], .func (.func 64) #[] #[.pointer (some ⟨b, 0, none⟩), .pointer (some ⟨cb, 0, none⟩)]]) (listC c m) := by
  refine ⟨_, _, rfl, ⟨_, _, rfl, Proofs.enters_of Try.func63 (by kernel_rfl) rfl, ?_⟩, ⟨_, _, rfl, Proofs.enters_of Try.func64 (by kernel_rfl) rfl, ?_⟩⟩
  · intro B p F s w x v hB hw hv h hr
    show Calls Try.prog _ #[_, _, _, _] w _
    by_cases ho : m < x.length
    · have e : (listC c m).put x s = s.fail 22 := if_pos ho
      rw [e]
      exact list_put_over_str c B p b m cb F s w x v h hv (by rw [← hb]; simp only [World.cell?, hw.2 b hl]) ho
    · have e : (listC c m).put x s = puts c x (putN x.length s) := if_neg ho
      rw [e]
      exact list_put_fits_str c hf W pv gv T hp B p b m cb F s w x v hB hw h hv hb hl hcb ho hm hr
  · intro p d s w hp hw h hd
    show Calls Try.prog _ #[_, _, _] w _
    exact list_get_str c hf hone W pv gv T hg p b m cb d s w hp hw h hd hb hl hcb hm
theorem listof_str {α : Type} (c : Cod α) (hf : Fair c) (hone : One c) (cv : Value) (m : Int) (w : World) (hc : IsCodec w cv c) :
    Calls Try.prog 23 #[cv, .int .i64 m] w fun r w' => ∃ cv', r = .returned cv' ∧ IsCodec w' cv' (listC c (bnd m)) ∧ Kept w w' (fun _ => False) := by
  have HC := Lib.hid hc
  obtain ⟨pv, gv, rfl, hp, hg⟩ := hc
  have HP := Lib.hid hp
  have HG := Lib.hid hg
  clear hp hg
  go_enter Try.func23, Try.ntmps23
  go_wp2_with (go_at_call 55; refine (bound_any m _).mono ?_; rintro e w1 ⟨rfl, rfl⟩)
  refine bodyPost_ret (results_cell_row rfl _ _ _ _ _ _ _ rfl (heap_alloc3_new _ _ _ _) Try.underlying59 rfl (by kernel_rfl)) rfl ?_
  have hk : Kept w (((w.alloc (.cells #[pv, gv] 64)).alloc (.cells #[.int .i64 (bnd m)] 3)).alloc (.cells #[.func (.func 63) #[] #[.pointer (some ⟨w.heap.size + 1, 0, none⟩), .pointer (some ⟨w.heap.size, 0, none⟩)], .func (.func 64) #[] #[.pointer (some ⟨w.heap.size + 1, 0, none⟩), .pointer (some ⟨w.heap.size, 0, none⟩)]] 59)) (fun _ => False) := (((Kept.refl _ _).alloc _).alloc _).alloc _
  have hs := (Same.refl w).kept hk (fun _ h => h.elim)
  refine ⟨_, rfl, list_codec_str c hf hone _ _ _ _ (bnd_le m) pv gv 64 (HP.out.later hs) (HG.out.later hs) ?_ ?_ ?_, hk⟩
  · exact cellOf (j := 0) (Below.heap_alloc _ _ _ (by simp) |>.trans (heap_alloc2_new w _ _))
  · simp
  · exact (Below.heap_alloc _ _ _ (by simp; omega)).trans ((Below.heap_alloc _ _ _ (by simp)).trans (heap_alloc_new w _))

theorem list_codec_strs {α : Type} (c : Cod α) (hf : Fair c) (hone : One c) (W : World) (b cb m : Nat) (hm : m ≤ 1048576) (pv gv : Value) (T : TypeId) (hp : PutOk W pv c) (hg : GetOk W gv c) (hb : W.cell? ⟨b, 0, none⟩ = some (.int .i64 m)) (hl : b < W.heap.size) (hcb : W.heap[cb]? = some (.cells #[pv, gv] T (0, 0))) :
    IsCodec W (.agg #[.func (.func 61) #[] #[.pointer (some ⟨b, 0, none⟩), .pointer (some ⟨cb, 0, none⟩)], .func (.func 62) #[] #[.pointer (some ⟨b, 0, none⟩), .pointer (some ⟨cb, 0, none⟩)]]) (listC c m) := by
  refine ⟨_, _, rfl, ⟨_, _, rfl, Proofs.enters_of Try.func61 (by kernel_rfl) rfl, ?_⟩, ⟨_, _, rfl, Proofs.enters_of Try.func62 (by kernel_rfl) rfl, ?_⟩⟩
  · intro B p F s w x v hB hw hv h hr
    show Calls Try.prog _ #[_, _, _, _] w _
    by_cases ho : m < x.length
    · have e : (listC c m).put x s = s.fail 22 := if_pos ho
      rw [e]
      exact list_put_over_strs c B p b m cb F s w x v h hv (by rw [← hb]; simp only [World.cell?, hw.2 b hl]) ho
    · have e : (listC c m).put x s = puts c x (putN x.length s) := if_neg ho
      rw [e]
      exact list_put_fits_strs c hf W pv gv T hp B p b m cb F s w x v hB hw h hv hb hl hcb ho hm hr
  · intro p d s w hp hw h hd
    show Calls Try.prog _ #[_, _, _] w _
    exact list_get_strs c hf hone W pv gv T hg p b m cb d s w hp hw h hd hb hl hcb hm
theorem listof_strs {α : Type} (c : Cod α) (hf : Fair c) (hone : One c) (cv : Value) (m : Int) (w : World) (hc : IsCodec w cv c) :
    Calls Try.prog 22 #[cv, .int .i64 m] w fun r w' => ∃ cv', r = .returned cv' ∧ IsCodec w' cv' (listC c (bnd m)) ∧ Kept w w' (fun _ => False) := by
  have HC := Lib.hid hc
  obtain ⟨pv, gv, rfl, hp, hg⟩ := hc
  have HP := Lib.hid hp
  have HG := Lib.hid hg
  clear hp hg
  go_enter Try.func22, Try.ntmps22
  go_wp2_with (go_at_call 55; refine (bound_any m _).mono ?_; rintro e w1 ⟨rfl, rfl⟩)
  refine bodyPost_ret (results_cell_row rfl _ _ _ _ _ _ _ rfl (heap_alloc3_new _ _ _ _) Try.underlying53 rfl (by kernel_rfl)) rfl ?_
  have hk : Kept w (((w.alloc (.cells #[pv, gv] 59)).alloc (.cells #[.int .i64 (bnd m)] 3)).alloc (.cells #[.func (.func 61) #[] #[.pointer (some ⟨w.heap.size + 1, 0, none⟩), .pointer (some ⟨w.heap.size, 0, none⟩)], .func (.func 62) #[] #[.pointer (some ⟨w.heap.size + 1, 0, none⟩), .pointer (some ⟨w.heap.size, 0, none⟩)]] 53)) (fun _ => False) := (((Kept.refl _ _).alloc _).alloc _).alloc _
  have hs := (Same.refl w).kept hk (fun _ h => h.elim)
  refine ⟨_, rfl, list_codec_strs c hf hone _ _ _ _ (bnd_le m) pv gv 59 (HP.out.later hs) (HG.out.later hs) ?_ ?_ ?_, hk⟩
  · exact cellOf (j := 0) (Below.heap_alloc _ _ _ (by simp) |>.trans (heap_alloc2_new w _ _))
  · simp
  · exact (Below.heap_alloc _ _ _ (by simp; omega)).trans ((Below.heap_alloc _ _ _ (by simp)).trans (heap_alloc_new w _))

theorem list_codec_bool {α : Type} (c : Cod α) (hf : Fair c) (hone : One c) (W : World) (b cb m : Nat) (hm : m ≤ 1048576) (pv gv : Value) (T : TypeId) (hp : PutOk W pv c) (hg : GetOk W gv c) (hb : W.cell? ⟨b, 0, none⟩ = some (.int .i64 m)) (hl : b < W.heap.size) (hcb : W.heap[cb]? = some (.cells #[pv, gv] T (0, 0))) :
    IsCodec W (.agg #[.func (.func 70) #[] #[.pointer (some ⟨b, 0, none⟩), .pointer (some ⟨cb, 0, none⟩)], .func (.func 71) #[] #[.pointer (some ⟨b, 0, none⟩), .pointer (some ⟨cb, 0, none⟩)]]) (listC c m) := by
  refine ⟨_, _, rfl, ⟨_, _, rfl, Proofs.enters_of Try.func70 (by kernel_rfl) rfl, ?_⟩, ⟨_, _, rfl, Proofs.enters_of Try.func71 (by kernel_rfl) rfl, ?_⟩⟩
  · intro B p F s w x v hB hw hv h hr
    show Calls Try.prog _ #[_, _, _, _] w _
    by_cases ho : m < x.length
    · have e : (listC c m).put x s = s.fail 22 := if_pos ho
      rw [e]
      exact list_put_over_bool c B p b m cb F s w x v h hv (by rw [← hb]; simp only [World.cell?, hw.2 b hl]) ho
    · have e : (listC c m).put x s = puts c x (putN x.length s) := if_neg ho
      rw [e]
      exact list_put_fits_bool c hf W pv gv T hp B p b m cb F s w x v hB hw h hv hb hl hcb ho hm hr
  · intro p d s w hp hw h hd
    show Calls Try.prog _ #[_, _, _] w _
    exact list_get_bool c hf hone W pv gv T hg p b m cb d s w hp hw h hd hb hl hcb hm
theorem listof_bool {α : Type} (c : Cod α) (hf : Fair c) (hone : One c) (cv : Value) (m : Int) (w : World) (hc : IsCodec w cv c) :
    Calls Try.prog 36 #[cv, .int .i64 m] w fun r w' => ∃ cv', r = .returned cv' ∧ IsCodec w' cv' (listC c (bnd m)) ∧ Kept w w' (fun _ => False) := by
  have HC := Lib.hid hc
  obtain ⟨pv, gv, rfl, hp, hg⟩ := hc
  have HP := Lib.hid hp
  have HG := Lib.hid hg
  clear hp hg
  go_enter Try.func36, Try.ntmps36
  go_wp2_with (go_at_call 55; refine (bound_any m _).mono ?_; rintro e w1 ⟨rfl, rfl⟩)
  refine bodyPost_ret (results_cell_row rfl _ _ _ _ _ _ _ rfl (heap_alloc3_new _ _ _ _) Try.underlying95 rfl (by kernel_rfl)) rfl ?_
  have hk : Kept w (((w.alloc (.cells #[pv, gv] 78)).alloc (.cells #[.int .i64 (bnd m)] 3)).alloc (.cells #[.func (.func 70) #[] #[.pointer (some ⟨w.heap.size + 1, 0, none⟩), .pointer (some ⟨w.heap.size, 0, none⟩)], .func (.func 71) #[] #[.pointer (some ⟨w.heap.size + 1, 0, none⟩), .pointer (some ⟨w.heap.size, 0, none⟩)]] 95)) (fun _ => False) := (((Kept.refl _ _).alloc _).alloc _).alloc _
  have hs := (Same.refl w).kept hk (fun _ h => h.elim)
  refine ⟨_, rfl, list_codec_bool c hf hone _ _ _ _ (bnd_le m) pv gv 78 (HP.out.later hs) (HG.out.later hs) ?_ ?_ ?_, hk⟩
  · exact cellOf (j := 0) (Below.heap_alloc _ _ _ (by simp) |>.trans (heap_alloc2_new w _ _))
  · simp
  · exact (Below.heap_alloc _ _ _ (by simp; omega)).trans ((Below.heap_alloc _ _ _ (by simp)).trans (heap_alloc_new w _))

end Go.Proofs.Ytcnikobmepjgcaa.Codec
