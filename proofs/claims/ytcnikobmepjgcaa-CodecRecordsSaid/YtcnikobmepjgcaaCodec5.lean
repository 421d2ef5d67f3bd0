/-
  The package codec: counts, bounds; what a codec's two functions are to do (contracts of function values).
-/
import Derived.Test.YtcnikobmepjgcaaCodec4
import Derived.Laws.EntriesVeiled
import Derived.Shelf.Abstract
namespace Go.Proofs.Ytcnikobmepjgcaa.Codec
open Go.RowKit Go.Proofs.YtcnikobmepjgcaaBase Go.Proofs.YtcnikobmepjgcaaLex2 Go.Proofs.YtcnikobmepjgcaaNum
set_option linter.unusedVariables false
set_option linter.unusedSimpArgs false

theorem ReaderAt.err {w : World} {p : Nat} {d : ByteArray} {s : RS} (h : ReaderAt w p d s) : w.cell? ⟨p, 2, none⟩ = some (.int .i64 s.err) := by
  obtain ⟨a, hb, _⟩ := h
  simpa using cellOf (j := 2) hb

theorem count_any (p : Nat) (d : ByteArray) (s : RS) (most : Int) (w : World) (h : ReaderAt w p d s) (hd : DSize d) :
    Calls Try.prog 59 #[.pointer (some ⟨p, 0, none⟩), .int .i64 most] w fun r w' => r = .returned (.int .i64 (countN most s).1) ∧ RMoved w w' p d (countN most s).2 := by
  obtain ⟨n, s1, hg⟩ : ∃ n s1, getN s = (n, s1) := ⟨_, _, rfl⟩
  have hc : countN most s = (if (if most < (n : Int) then s1.fail 22 else s1).err ≠ 0 then 0 else n, if most < (n : Int) then s1.fail 22 else s1) := by
    unfold countN; rw [hg]
  rw [hc]
  have G := getN_any p d s w h hd
  rw [hg] at G
  have GG := Lib.hid G
  clear G hc hg h hd
  by_cases hm : most < (n : Int)
  · rw [if_pos hm]
    have he : (s1.fail 22).err ≠ 0 := by unfold RS.fail; split <;> simp_all
    rw [if_pos he]
    have q0 : ((s1.fail 22).err == 0) = false := by simpa using he
    have q1 : decide ((s1.fail 22).err = 0) = false := by simpa using he
    obtain ⟨s2, hs2⟩ : ∃ s2, s1.fail 22 = s2 := ⟨_, rfl⟩
    rw [hs2] at q0 q1 ⊢
    have HS := Lib.hid hs2
    clear hs2 he
    go_enter Try.func59, Try.ntmps59
    go_wp2_with (fail)
    refine GG.out.mono ?_
    rintro e w1 ⟨rfl, hm1⟩
    have M1 := Lib.hid hm1
    clear hm1
    go_wp2_with (fail)
    refine (rfail_any p d _ 22 _ M1.out.1).mono ?_
    rw [HS.out]
    rintro e w2 ⟨rfl, hm2⟩
    have k2 := hm2.1.err
    have M2 := Lib.hid hm2
    clear hm2
    go_wp2
    go_ret
    exact ⟨rfl, M1.out.trans M2.out⟩
  · rw [if_neg hm]
    by_cases he : s1.err = 0
    · rw [if_neg (by simpa using he)]
      have HE := Lib.hid he
      clear he
      go_enter Try.func59, Try.ntmps59
      go_wp2_with (fail)
      refine GG.out.mono ?_
      rintro e w1 ⟨rfl, hm1⟩
      have k2 := hm1.1.err
      rw [HE.out] at k2
      have M1 := Lib.hid hm1
      clear hm1
      go_wp2
      go_ret
      exact ⟨rfl, M1.out⟩
    · rw [if_pos he]
      have q0 : (s1.err == 0) = false := by simpa using he
      have q1 : decide (s1.err = 0) = false := by simpa using he
      clear he
      go_enter Try.func59, Try.ntmps59
      go_wp2_with (fail)
      refine GG.out.mono ?_
      rintro e w1 ⟨rfl, hm1⟩
      have k2 := hm1.1.err
      have M1 := Lib.hid hm1
      clear hm1
      go_wp2
      go_ret
      exact ⟨rfl, M1.out⟩

def bnd (m : Int) : Nat := if m < 0 then 0 else if 1048576 < m then 1048576 else m.toNat
theorem bnd_le (m : Int) : bnd m ≤ 1048576 := by unfold bnd; split; omega; split <;> omega
theorem bound_any (m : Int) (w : World) :
    Calls Try.prog 55 #[.int .i64 m] w fun r w' => r = .returned (.int .i64 (bnd m)) ∧ w' = w := by
  go_enter Try.func55, Try.ntmps55
  go_wp2
  go_ret
  refine ⟨?_, rfl⟩
  show Ending.returned (.int .i64 (max 0 (min m 1048576))) = _
  congr 2
  unfold bnd
  split
  · omega
  split <;> omega

/-! ### What a codec is -/

/-- What was there is as it was. -/
def Same (W w : World) : Prop := W.heap.size ≤ w.heap.size ∧ ∀ k, k < W.heap.size → w.heap[k]? = W.heap[k]?
theorem Same.refl (w : World) : Same w w := ⟨Nat.le_refl _, fun _ _ => rfl⟩
theorem Same.trans {a b c : World} (h : Same a b) (h2 : Same b c) : Same a c := ⟨Nat.le_trans h.1 h2.1, fun k hk => (h2.2 k (Nat.lt_of_lt_of_le hk h.1)).trans (h.2 k hk)⟩
theorem Same.kept {W w w' : World} {F : Nat → Prop} (h : Same W w) (hk : Kept w w' F) (hF : ∀ k, F k → W.heap.size ≤ k) : Same W w' :=
  ⟨Nat.le_trans h.1 hk.size, fun k hk1 => (hk.block k (Nat.lt_of_lt_of_le hk1 h.1) (fun hf => by have := hF k hf; omega)).trans (h.2 k hk1)⟩
theorem Same.blk {W w : World} (h : Same W w) {k : Nat} {o : Obj} (hb : W.heap[k]? = some o) : w.heap[k]? = some o := (h.2 k (blk_lt hb)).trans hb

/-- How values are, how they are written and read. -/
structure Cod (α : Type) where
  rep : (Nat → Prop) → World → α → Value → Prop
  put : α → WS → WS
  cost : α → Nat
  get : RS → α × RS
structure Fair {α : Type} (c : Cod α) : Prop where
  mono : ∀ {G G' : Nat → Prop} {w : World} {x : α} {v : Value}, (∀ k, G k → G' k) → c.rep G w x v → c.rep G' w x v
  keep : ∀ {G : Nat → Prop} {w w' : World} {x : α} {v : Value}, c.rep G w x v → (∀ k, k < w.heap.size → G k → w'.heap[k]? = w.heap[k]?) → c.rep G w' x v
  len : ∀ (x : α) (s : WS), (c.put x s).out.length ≤ s.out.length + c.cost x

def PutOk {α : Type} (W : World) (pv : Value) (c : Cod α) : Prop :=
  ∃ f caps, pv = .func (.func f) #[] caps ∧ Proofs.Enters Try.prog f ∧ ∀ (B p : Nat) (F : Nat → Prop) (s : WS) (w : World) (x : α) (v : Value), W.heap.size ≤ B → Same W w → c.rep (fun k => k < B) w x v → WriterAt B w p F s → WRoom s (c.cost x) →
    Calls Try.prog f (#[.pointer (some ⟨p, 0, none⟩), v] ++ caps) w fun r w' => r = .returned (.tuple #[]) ∧ WMoved B w w' p F (c.put x s)
def GetOk {α : Type} (W : World) (gv : Value) (c : Cod α) : Prop :=
  ∃ f caps, gv = .func (.func f) #[] caps ∧ Proofs.Enters Try.prog f ∧ ∀ (p : Nat) (d : ByteArray) (s : RS) (w : World), W.heap.size ≤ p → Same W w → ReaderAt w p d s → DSize d →
    Calls Try.prog f (#[.pointer (some ⟨p, 0, none⟩)] ++ caps) w fun r w' => ∃ v, r = .returned v ∧ RMoved w w' p d (c.get s).2 ∧ c.rep (fun k => w.heap.size ≤ k ∧ k < w'.heap.size) w' (c.get s).1 v
def IsCodec {α : Type} (W : World) (cv : Value) (c : Cod α) : Prop := ∃ pv gv, cv = .agg #[pv, gv] ∧ PutOk W pv c ∧ GetOk W gv c
theorem PutOk.later {α : Type} {W W' : World} {pv : Value} {c : Cod α} (h : PutOk W pv c) (hs : Same W W') : PutOk W' pv c := by
  obtain ⟨f, caps, rfl, he, h⟩ := h
  exact ⟨f, caps, rfl, he, fun B p F s w x v hB hw => h B p F s w x v (Nat.le_trans hs.1 hB) (hs.trans hw)⟩
theorem GetOk.later {α : Type} {W W' : World} {gv : Value} {c : Cod α} (h : GetOk W gv c) (hs : Same W W') : GetOk W' gv c := by
  obtain ⟨f, caps, rfl, he, h⟩ := h
  exact ⟨f, caps, rfl, he, fun p d s w hp hw => h p d s w (Nat.le_trans hs.1 hp) (hs.trans hw)⟩
theorem IsCodec.later {α : Type} {W W' : World} {cv : Value} {c : Cod α} (h : IsCodec W cv c) (hs : Same W W') : IsCodec W' cv c := by
  obtain ⟨pv, gv, rfl, h1, h2⟩ := h
  exact ⟨pv, gv, rfl, h1.later hs, h2.later hs⟩

/-! ### Numbers -/
def putN (n : Nat) (s : WS) : WS := { s with out := s.out ++ encN n }
def numC : Cod Int where
  rep := fun _ _ x v => v = .int .i64 x
  put := fun x s => if x < 0 ∨ 4611686018427387904 ≤ x then s.fail 22 else putN x.toNat s
  cost := fun _ => 8
  get := fun s => ((getN s).1, (getN s).2)
theorem wfail_len (s : WS) (e : Int) : (s.fail e).out = s.out := by unfold WS.fail; split <;> rfl
theorem putN_len (n : Nat) (s : WS) : (putN n s).out.length ≤ s.out.length + 8 := by
  unfold putN; simp only [List.length_append]; have := encN_le n; omega
theorem numC_fair : Fair numC := by
  refine ⟨fun _ h => h, fun h _ => h, fun x s => ?_⟩
  simp only [numC]
  split
  · rw [wfail_len]; omega
  · exact putN_len _ _
theorem num_codec (W : World) : IsCodec W (.agg #[.func (.func 53) #[] #[], .func (.func 54) #[] #[]]) numC := by
  refine ⟨_, _, rfl, ⟨_, _, rfl, Proofs.enters_of Try.func53 (by kernel_rfl) rfl, ?_⟩, ⟨_, _, rfl, Proofs.enters_of Try.func54 (by kernel_rfl) rfl, ?_⟩⟩
  · intro B p F s w x v hB hw hv h hr
    simp only [numC] at hv hr
    subst hv
    simp only [numC, Array.append_empty]
    by_cases hx : x < 0 ∨ 4611686018427387904 ≤ x
    · rw [if_pos hx]; exact put_bad B p F s x w h hx
    · rw [if_neg hx]
      obtain ⟨n, rfl⟩ : ∃ n : Nat, x = n := ⟨x.toNat, by omega⟩
      exact put_any B p F s n w h (by omega) hr
  · intro p d s w hp hw h hd
    simp only [numC, Array.append_empty]
    refine (getN_any p d s w h hd).mono ?_
    rintro r w' ⟨rfl, hm⟩
    exact ⟨_, rfl, hm, rfl⟩

theorem number_any (w : World) : Calls Try.prog 16 #[] w fun r w' => ∃ cv, r = .returned cv ∧ IsCodec w' cv numC ∧ Kept w w' (fun _ => False) := by
  go_enter Try.func16, Try.ntmps16
  go_wp2
  refine bodyPost_ret (results_cell_row rfl _ _ _ _ _ _ _ rfl (heap_alloc_new _ _) Try.underlying34 rfl (by kernel_rfl)) rfl ?_
  exact ⟨_, rfl, num_codec _, (Kept.refl _ _).alloc _⟩
end Go.Proofs.Ytcnikobmepjgcaa.Codec
