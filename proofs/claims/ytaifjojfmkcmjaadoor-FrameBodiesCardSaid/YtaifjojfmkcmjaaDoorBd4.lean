/-
  Commits' bodies: a proposal's term, walked.
-/
import Derived.Test.YtaifjojfmkcmjaaDoorBd3
namespace Go.Proofs.YtaifjojfmkcmjaaDoor.Term
open Go.RowKit Go.Sort Go.Proofs.YtaifjojfmkcmjaaDoorBase Go.Proofs.YtaifjojfmkcmjaaDoorLex2 Go.Proofs.YtaifjojfmkcmjaaDoor.Dec
set_option linter.unusedVariables false
set_option linter.unusedSimpArgs false

/-- A block that is there, and not the store's. -/
def Out (w : World) (F : Nat → Prop) (g : Nat) : Prop := g < w.heap.size ∧ ¬ F g
theorem Out.next {w w2 : World} {F F2 : Nat → Prop} {g : Nat} (h : Out w F g) (hb : ∀ k, F2 k → F k ∨ w.heap.size ≤ k) (hk : Kept w w2 F) : Out w2 F2 g := by
  have h1 := h.1
  exact ⟨Nat.lt_of_lt_of_le h.1 hk.size, fun hF => (hb g hF).elim h.2 (fun h => by omega)⟩
theorem Out.kept {w w2 : World} {F : Nat → Prop} {g : Nat} (h : Out w F g) (hk : Kept w w2 (fun _ => False)) : Out w2 F g := ⟨Nat.lt_of_lt_of_le h.1 hk.size, h.2⟩
theorem Out.new {w0 w w1 : World} {p : Nat} {F : Nat → Prop} {s : TS} (h : SAt w0 w p F s) {o : Obj} : Out (w.alloc o) F w.heap.size := by
  refine ⟨by simp, fun hF => ?_⟩
  have := h.at_.lt _ hF
  omega
theorem Out.blk {w w2 : World} {F : Nat → Prop} {g : Nat} {o : Obj} (h : Out w F g) (hk : Kept w w2 F) (hb : w.heap[g]? = some o) : w2.heap[g]? = some o := hk.blk hb h.2
theorem own_one {w : World} {base g : Nat} {e : TypeId} {v : Value} (h : w.heap[g]? = some (.cells #[v] e (0, 0))) (hb : base ≤ g) : w.ownsRow base e 1 (.slice (some ⟨g, 0, none⟩) 1 1) 1 [v] := ⟨rfl, .inr ⟨g, 1, #[v], rfl, hb, h, Nat.le_refl _, by decide, rfl, rfl⟩⟩
theorem row_ownI {w : World} {base : Nat} {e : TypeId} {A : Option Addr} {c n : Nat} {xs : List Value} (h : w.ownsRow base e 1 (.slice A n c) n xs) : RowIn w A n xs := by
  have hl : n = xs.length := by have := h.1; omega
  rcases h.2 with ⟨h1, rfl⟩ | ⟨g, cap, cur, h1, hbg, hh, hnc, hcm, r⟩
  · exact ⟨hl, Nat.zero_le _, fun h => absurd h (Nat.lt_irrefl 0)⟩
  · simp only [Value.slice.injEq] at h1
    obtain ⟨rfl, -, rfl⟩ := h1
    refine ⟨hl, by omega, fun _ => ⟨g, 0, rfl, blk_lt hh, fun k u hk => ?_⟩⟩
    have := h.cells (g := g) rfl k u hk
    rw [Addr.add_lit] at this
    exact this
/-- A row that isn't the store's. -/
def Free (w0 : World) (F : Nat → Prop) (v : Value) : Prop := ∀ g, v.ownBlock = some g → ¬ F g ∧ w0.heap.size ≤ g
theorem Free.clear {w0 : World} {F : Nat → Prop} {A : Option Addr} {n c : Nat} (h : Free w0 F (.slice A n c)) : Clear A F := by
  intro b hb
  cases A with
  | none => cases hb
  | some a => exact (h b hb).1
/-- Behind an append. -/
theorem SAt.app {w0 w2 w3 : World} {p : Nat} {F : Nat → Prop} {t : TS} {v v' : Value} {o : Obj} (h : SAt w0 w2 p F t) (hv : Free w0 F v) (g1 : (w2.alloc o).grownBy w3 v.ownBlock) (b1 : ∀ g, v'.ownBlock = some g → v.ownBlock = some g ∨ (w2.alloc o).heap.size ≤ g) : SAt w0 w3 p F t ∧ Free w0 F v' ∧ Kept w2 w3 (fun k => v.ownBlock = some k) := by
  have hk : Kept w2 w3 (fun k => v.ownBlock = some k) := Kept.grown ((Kept.refl w2 _).alloc o) g1 (fun k hk => .inl hk)
  refine ⟨h.keptG hk (fun k hF hG => (hv k hG).1 hF) (fun k hG => (hv k hG).2), fun g hg => ?_, hk⟩
  rcases b1 g hg with h1 | h1
  · exact hv g h1
  · have e : (w2.alloc o).heap.size = w2.heap.size + 1 := by simp
    rw [e] at h1
    refine ⟨fun hF => ?_, by have := h.bel.size; omega⟩
    have := h.at_.lt g hF
    omega
/-- A new row of one number, to be appended. -/
theorem src_one (w : World) (x : Int) : Src Tryd.prog 1 46 (.slice (some ⟨w.heap.size, 0, none⟩) 1 1) 1 [.int .i64 x] (w.alloc (.cells #[.int .i64 x] 3)) := by
  refine Src.ofSlice _ elemI.under _ 1 1 _ rfl (fun j u hj => ?_) (by intro z hz; rw [List.mem_singleton.1 hz]; rfl)
  rw [Addr.add_lit, Nat.zero_add, cellOf (heap_alloc_new w _), ← hj]
  simp
theorem chain {w w1 w2 : World} {F F1 F2 : Nat → Prop} (b1 : ∀ k, F1 k → F k ∨ w.heap.size ≤ k) (k1 : Kept w w1 F) (b2 : ∀ k, F2 k → F1 k ∨ w1.heap.size ≤ k) (k2 : Kept w1 w2 F1) : (∀ k, F2 k → F k ∨ w.heap.size ≤ k) ∧ Kept w w2 F :=
  ⟨fun k hk => (b2 k hk).elim (b1 k) (fun h => .inr (Nat.le_trans k1.size h)), k1.trans k2 b1⟩
def remT (s : TS) (i : Int) : Nat × TS := listT (numG (numG s 3).2 i).2 [((numG s 3).1 : Int), ((numG (numG s 3).2 i).1 : Int)]
theorem prop_cells {w : World} {q : Nat} {i : Int} {T : TypeId} (h : w.heap[q]? = some (.cells (propC i).toArray T (0, 0))) : w.cell? ⟨q, 0, none⟩ = some (.int .i64 3) ∧ w.cell? ⟨q, 8, none⟩ = some (.int .i64 i) := ⟨cellOf h, cellOf h⟩
set_option maxHeartbeats 3200000 in
set_option maxRecDepth 100000 in
theorem term_any (w0 w : World) (p : Nat) (F : Nat → Prop) (s : TS) (i : Int) (h : SAt w0 w p F s) (hi : I64 i) :
    Calls Tryd.prog 54 #[.pointer (some ⟨p, 0, none⟩), propV i] w fun e w' => e = .returned (.int .i64 (remT s i).1) ∧ TNext w0 w w' p F (remT s i).2 := by
  have HI := Lib.hid hi
  have KA := Lib.hid ((Kept.refl w (fun _ => False)).alloc (.cells (propC i).toArray 97))
  have HB := Lib.hid (heap_alloc_new w (.cells (propC i).toArray 97))
  have OA := Lib.hid (Out.new (w1 := w) h (o := .cells (propC i).toArray 97))
  have SA := Lib.hid (h.kept KA.out)
  clear h hi
  unfold propV
  obtain ⟨wa, hwa⟩ : ∃ wa, w.alloc (.cells (propC i).toArray 97) = wa := ⟨_, rfl⟩
  obtain ⟨q, hq⟩ : ∃ q, w.heap.size = q := ⟨_, rfl⟩
  rw [hwa] at KA HB OA SA
  rw [hq] at HB OA
  go_enter Tryd.func54, Tryd.ntmps54
  have hwa' := hwa
  simp only [propC, List.toArray] at hwa'
  obtain ⟨c0, c8⟩ := prop_cells HB.out
  go_wp2_with (fail)
  refine (num_any w0 wa p F s 3 SA.out (by unfold I64; omega)).mono ?_
  rintro e w1 ⟨rfl, F1, s1, b1, k1⟩
  have S1 := Lib.hid s1
  have B1 : Hid (∀ k, F1 k → F k ∨ w.heap.size ≤ k) := Lib.hid fun k hk => (b1 k hk).elim .inl fun h => .inr (Nat.le_trans KA.out.size h)
  have K1 : Hid (Kept w w1 F) := Lib.hid ((KA.out.mono (fun _ h => h.elim)).trans k1 (fun _ h => .inl h))
  have GW : Hid (w0.heap.size ≤ w1.heap.size) := Lib.hid s1.bel.size
  have GB : Hid (w.heap.size ≤ w1.heap.size) := Lib.hid K1.out.size
  have HB := Lib.hid (OA.out.blk k1 HB.out)
  have OA := Lib.hid (OA.out.next b1 k1)
  clear s1 b1 k1 c0 c8 hwa hwa'
  obtain ⟨⟨n1, t1⟩, hn1⟩ : ∃ r, numG s 3 = r := ⟨_, rfl⟩
  have RT : Hid (remT s i = listT (numG t1 i).2 [(n1 : Int), ((numG t1 i).1 : Int)]) := Lib.hid (by unfold remT; rw [hn1])
  rw [hn1] at S1 ⊢
  simp only at S1 ⊢
  clear hn1
  have ka := (Kept.refl w1 (fun _ => False)).alloc (.cells #[.int .i64 (n1 : Int)] 3)
  have HL := Lib.hid (heap_alloc_new w1 (.cells #[.int .i64 (n1 : Int)] 3))
  have OL := Lib.hid (Out.new (w1 := w1) S1.out (o := .cells #[.int .i64 (n1 : Int)] 3))
  have HB := Lib.hid (ka.blk HB.out (fun h => h))
  have OA := Lib.hid (OA.out.kept ka)
  have S1 := Lib.hid (S1.out.kept ka)
  have KL := Lib.hid ka
  clear ka
  obtain ⟨wl, hwl⟩ : ∃ wl, w1.alloc (.cells #[.int .i64 (n1 : Int)] 3) = wl := ⟨_, rfl⟩
  obtain ⟨g, hg⟩ : ∃ g, w1.heap.size = g := ⟨_, rfl⟩
  have K1 := Lib.hid (K1.out.trans KL.out (fun _ h => h.elim))
  rw [hwl] at HL OL HB OA S1 KL K1
  rw [hg] at HL OL GB GW
  obtain ⟨c0, c8⟩ := prop_cells HB.out
  go_wp2_with (fail)
  refine (num_any w0 wl p F1 t1 i S1.out HI.out).mono ?_
  rintro e w2 ⟨rfl, F2, s2, b2, k2⟩
  have S2 := Lib.hid s2
  have B2 := Lib.hid (chain B1.out K1.out b2 k2).1
  have K2 := Lib.hid (chain B1.out K1.out b2 k2).2
  have HL := Lib.hid (OL.out.blk k2 HL.out)
  have OL := Lib.hid (OL.out.next b2 k2)
  clear s2 b2 k2 c0 c8 hwl hg
  obtain ⟨⟨n2, t2⟩, hn2⟩ : ∃ r, numG t1 i = r := ⟨_, rfl⟩
  rw [hn2] at S2 RT ⊢
  simp only at S2 RT ⊢
  clear hn2
  go_wp2_with (at_builtin; apply hold)
  unfold Hold
  have OW := Lib.hid (own_keptF (own_one (base := w0.heap.size) HL.out GW.out) ((Kept.refl w2 (fun _ => False)).alloc (.cells #[.int .i64 (n2 : Int)] 3)) (fun _ _ h => h))
  have SRC := Lib.hid (src_one w2 n2)
  have BA : Hid (w0.heap.size ≤ (w2.alloc (.cells #[.int .i64 (n2 : Int)] 3)).heap.size) := Lib.hid (by have := S2.out.bel.size; simp; omega)
  refine wpList_append_ownS _ rfl (.tmp 40) (.tmp 45) 46 46 rfl w0.heap.size 3 (.int .i64 0) 1 8 elemI (.slice (some ⟨g, 0, none⟩) 1 1) 1 [.int .i64 n1] rfl OW.out (.slice (some ⟨w2.heap.size, 0, none⟩) 1 1) 1 [.int .i64 n2] rfl SRC.out (by decide) BA.out (fun v' w3 o1 g1 b1 => ?_)
  have hv : Free w0 F2 (.slice (some ⟨g, 0, none⟩) 1 1) := fun k hk => by
    have e : g = k := by simpa [Value.ownBlock] using hk
    rw [← e]
    exact ⟨OL.out.2, GW.out⟩
  obtain ⟨s3, f3, k3⟩ := SAt.app S2.out hv g1 b1
  have K3 := Lib.hid (K2.out.trans k3 (fun k hk => .inr (by
    have e : g = k := by simpa [Value.ownBlock] using hk
    rw [← e]
    exact GB.out)))
  obtain ⟨A, c, rfl, hc1, hc2⟩ := own_slice o1
  have S3 := Lib.hid s3
  have F3 := Lib.hid f3
  have R3 := Lib.hid (row_ownI o1)
  clear s3 f3 k3 g1 b1 o1
  go_wp2_with (fail)
  refine (list_any w0 w3 p F2 t2 [n1, n2] A c S3.out R3.out (fun _ => F3.out.clear)).mono ?_
  rw [← RT.out]
  rintro e w4 ⟨rfl, F4, s4, b4, k4⟩
  go_wp2
  go_ret
  exact ⟨rfl, F4, s4, chain B2.out K3.out b4 k4⟩
end Go.Proofs.YtaifjojfmkcmjaaDoor.Term
