/-
  Records: parts that are found by a call; their codec, written and read, walked.
-/
import Derived.Test.YtcnikobmepjgcaaCodec11
namespace Go.Proofs.Ytcnikobmepjgcaa.Codec
open Go.RowKit Go.Proofs.YtcnikobmepjgcaaBase Go.Proofs.YtcnikobmepjgcaaLex2 Go.Proofs.YtcnikobmepjgcaaNum
set_option linter.unusedVariables false
set_option linter.unusedSimpArgs false

/-- A part of a record: its codec, how it lies in the record and among the record's cells. -/
structure Prt (α : Type) where
  β : Type
  c : Cod β
  fld : α → β
  set : β → α → α
  rd : Array Value → Value
  wr : Array Value → Value → Array Value
structure PFair {α : Type} (N : Nat) (p : Prt α) : Prop where
  fair : Fair p.c
  rdwr : ∀ {G w y v} {cs : Array Value}, p.c.rep G w y v → cs.size = N → p.rd (p.wr cs v) = v
  size : ∀ {G w y v} {cs : Array Value}, p.c.rep G w y v → cs.size = N → (p.wr cs v).size = N
  fldset : ∀ y x, p.fld (p.set y x) = y
  all : ∀ {G w y v} {cs : Array Value}, p.c.rep G w y v → cs.size = N → cs.all (·.oneCell') = true → (p.wr cs v).all (·.oneCell') = true
/-- The part p isn't touched by q. -/
structure Off {α : Type} (N : Nat) (p q : Prt α) : Prop where
  rd : ∀ {G w y v} {cs : Array Value}, q.c.rep G w y v → cs.size = N → p.rd (q.wr cs v) = p.rd cs
  fld : ∀ y x, p.fld (q.set y x) = p.fld x
def putP {α : Type} (ps : List (Prt α)) (x : α) (s : WS) : WS := ps.foldl (fun s p => p.c.put (p.fld x) s) s
def costP {α : Type} (ps : List (Prt α)) (x : α) : Nat := (ps.map fun p => p.c.cost (p.fld x)).sum
def getP {α : Type} (ps : List (Prt α)) (y : α × RS) : α × RS := ps.foldl (fun (y : α × RS) p => (p.set (p.c.get y.2).1 y.1, (p.c.get y.2).2)) y
def recC {α : Type} (N : Nat) (ps : List (Prt α)) (x0 : α) : Cod α where
  rep := fun G w x v => ∃ cs, v = .agg cs ∧ cs.size = N ∧ cs.all (·.oneCell') = true ∧ ∀ p ∈ ps, p.c.rep G w (p.fld x) (p.rd cs)
  put := putP ps
  cost := costP ps
  get := fun s => getP ps (x0, s)
section
variable {α : Type} {ps : List (Prt α)} {N : Nat}
theorem putP_len (hf : ∀ p ∈ ps, Fair p.c) (x : α) : ∀ s : WS, (putP ps x s).out.length ≤ s.out.length + costP ps x := by
  induction ps with
  | nil => intro s; simp [putP, costP]
  | cons p ps ih =>
    intro s
    have h1 := ih (fun q hq => hf q (List.mem_cons_of_mem _ hq)) (p.c.put (p.fld x) s)
    have h2 := (hf p List.mem_cons_self).len (p.fld x) s
    simp only [putP, List.foldl_cons, costP, List.map_cons, List.sum_cons] at h1 ⊢
    omega
theorem putP_take {k : Nat} {p : Prt α} (h : ps[k]? = some p) (x : α) (s : WS) : putP (ps.take (k + 1)) x s = p.c.put (p.fld x) (putP (ps.take k) x s) := by
  rw [List.take_add_one, h]
  simp [putP, List.foldl_append]
theorem getP_take {k : Nat} {p : Prt α} (h : ps[k]? = some p) (y : α × RS) : getP (ps.take (k + 1)) y = (p.set (p.c.get (getP (ps.take k) y).2).1 (getP (ps.take k) y).1, (p.c.get (getP (ps.take k) y).2).2) := by
  rw [List.take_add_one, h]
  simp [getP, List.foldl_append]
theorem costP_take {k : Nat} {p : Prt α} (h : ps[k]? = some p) (x : α) : costP (ps.take k) x + p.c.cost (p.fld x) ≤ costP ps x := by
  have hk : k < ps.length := (List.getElem?_eq_some_iff.1 h).1
  have e : ps = ps.take k ++ p :: ps.drop (k + 1) := by
    conv => lhs; rw [← List.take_append_drop k ps]
    rw [List.drop_eq_getElem_cons hk, (List.getElem?_eq_some_iff.1 h).2]
  conv => rhs; rw [e]
  simp only [costP, List.map_append, List.map_cons, List.sum_append, List.sum_cons]
  omega
theorem recC_fair (hf : ∀ p ∈ ps, Fair p.c) (x0 : α) : Fair (recC N ps x0) := by
  refine ⟨?_, ?_, fun x s => putP_len hf x s⟩
  · rintro G G' w x v hG ⟨cs, hv, hs, ha, hc⟩
    exact ⟨cs, hv, hs, ha, fun p hp => (hf p hp).mono hG (hc p hp)⟩
  · rintro G w w' x v ⟨cs, hv, hs, ha, hc⟩ hk
    exact ⟨cs, hv, hs, ha, fun p hp => (hf p hp).keep (hc p hp) hk⟩
end

/-- What a call that finds a part does. -/
def GetterOk (T : TypeId) (N : Nat) (g : Value) (o : Nat) : Prop :=
  ∃ f, g = .func (.func f) #[] #[] ∧ Proofs.Enters Try.prog f ∧ ∀ (b : Nat) (cs : Array Value) (w : World), w.heap[b]? = some (.cells cs T (0, 0)) → cs.size = N → Calls Try.prog f #[.pointer (some ⟨b, 0, none⟩)] w fun r w' => r = .returned (.pointer (some ⟨b, o, none⟩)) ∧ w' = w
def PPut {α : Type} (W : World) (T : TypeId) (N : Nat) (fv : Value) (p : Prt α) : Prop :=
  ∃ f caps, fv = .func (.func f) #[] caps ∧ Proofs.Enters Try.prog f ∧ ∀ (B q : Nat) (F : Nat → Prop) (s : WS) (w : World) (b : Nat) (cs : Array Value) (x : α), W.heap.size ≤ B → Same W w → w.heap[b]? = some (.cells cs T (0, 0)) → cs.size = N → p.c.rep (fun k => k < B) w (p.fld x) (p.rd cs) → WriterAt B w q F s → WRoom s (p.c.cost (p.fld x)) →
    Calls Try.prog f (#[.pointer (some ⟨q, 0, none⟩), .pointer (some ⟨b, 0, none⟩)] ++ caps) w fun r w' => r = .returned (.tuple #[]) ∧ WMoved B w w' q F (p.c.put (p.fld x) s)
def PGet {α : Type} (W : World) (T : TypeId) (N : Nat) (fv : Value) (p : Prt α) : Prop :=
  ∃ f caps, fv = .func (.func f) #[] caps ∧ Proofs.Enters Try.prog f ∧ ∀ (q : Nat) (d : ByteArray) (s : RS) (w : World) (b : Nat) (cs : Array Value), W.heap.size ≤ q → W.heap.size ≤ b → b ≠ q → Same W w → w.heap[b]? = some (.cells cs T (0, 0)) → cs.size = N → ReaderAt w q d s → DSize d →
    Calls Try.prog f (#[.pointer (some ⟨q, 0, none⟩), .pointer (some ⟨b, 0, none⟩)] ++ caps) w fun r w' => r = .returned (.tuple #[]) ∧ ∃ v, ReaderAt w' q d (p.c.get s).2 ∧ Kept w w' (fun k => k = q ∨ k = b) ∧ w'.heap[b]? = some (.cells (p.wr cs v) T (0, 0)) ∧ p.c.rep (fun k => w.heap.size ≤ k ∧ k < w'.heap.size) w' (p.c.get s).1 v
def IsPart {α : Type} (W : World) (T : TypeId) (N : Nat) (v : Value) (p : Prt α) : Prop := ∃ a b, v = .agg #[a, b] ∧ PPut W T N a p ∧ PGet W T N b p
section
variable {α : Type} {W W' : World} {T : TypeId} {N : Nat} {v : Value} {p : Prt α}
theorem PPut.later (h : PPut W T N v p) (hs : Same W W') : PPut W' T N v p := by
  obtain ⟨f, caps, rfl, he, h⟩ := h
  exact ⟨f, caps, rfl, he, fun B q F s w b cs x hB hw => h B q F s w b cs x (Nat.le_trans hs.1 hB) (hs.trans hw)⟩
theorem PGet.later (h : PGet W T N v p) (hs : Same W W') : PGet W' T N v p := by
  obtain ⟨f, caps, rfl, he, h⟩ := h
  exact ⟨f, caps, rfl, he, fun q d s w b cs hq hb hne hw => h q d s w b cs (Nat.le_trans hs.1 hq) (Nat.le_trans hs.1 hb) hne (hs.trans hw)⟩
theorem IsPart.later (h : IsPart W T N v p) (hs : Same W W') : IsPart W' T N v p := by
  obtain ⟨a, b, rfl, h1, h2⟩ := h
  exact ⟨a, b, rfl, h1.later hs, h2.later hs⟩
end

theorem WMoved.pre_drew {B q : Nat} {w w' : World} {F : Nat → Prop} {s : WS} (h : WMoved B w.drew w' q F s) : WMoved B w w' q F s := by
  obtain ⟨F', h1, h2, h3⟩ := h
  exact ⟨F', h1, h2, ⟨h3.os, h3.tape, h3.output, h3.size, h3.block⟩⟩

/-- A value of one cell goes into a cell of a block. -/
theorem run_storeVar_cell {P : Program} (w : World) (b o : Nat) (t ty : TypeId) (cs : Array Value) (v : Value) (hb : w.heap[b]? = some (.cells cs t (0, 0))) (ho : o < cs.size) (hi : (P.info? ty).map (·.size) = some 1) (h1 : v.oneCell' = true) :
    (storeVar ty ⟨b, o, none⟩ v).run P w = .ok () (w.setCell ⟨b, o, none⟩ v) := by
  have hc := cells_one1 h1
  have hcell : w.cell? ⟨b, o, none⟩ = some cs[o] := by rw [cellOf hb]; simp [ho]
  have hfro := freeOf (j := o) hb
  have hadd : (⟨b, o, none⟩ : Addr).add 0 = ⟨b, o, none⟩ := rfl
  cases hq : P.info? ty with
  | none => simp [hq] at hi
  | some i =>
    have hs : i.size = 1 := by simpa [hq] using hi
    simp [storeVar, sizeOf, typeInfo, hq, hc, hs, storeCells, run_store P w _ v _ h1, hcell, hfro, hadd]
theorem wp_store_cell {P : Program} {o : Oper} {a : Act} {w : World} {K : Act → World → Prop} {Q : Exit → Act → World → Prop} (ty : TypeId) (x y : Operand) (ho : o.op = .store ty x y) (b j : Nat) (v : Value) (hx : a.eval x = .pointer (some ⟨b, j, none⟩)) (hy : a.eval y = v) (h1 : v.oneCell' = true)
    (t : TypeId) (cs : Array Value) (hb : w.heap[b]? = some (.cells cs t (0, 0))) (hj : j < cs.size) (hi : (P.info? ty).map (·.size) = some 1) (h : K (a.put o.dst undef) (w.setCell ⟨b, j, none⟩ v)) : o.wp P a w K Q := by
  unfold Oper.wp execOp
  simp only [ho, hx, hy, Instr.storeAt, Instr.sureAddr, Sem.run_bind, Sem.run_pure, Result.andThen_ok, run_storeVar_cell w b j t ty cs v hb hj hi h1]
  exact h

/-- A part of one cell. -/
def oneP {α β : Type} (c : Cod β) (o : Nat) (fld : α → β) (set : β → α → α) : Prt α := ⟨β, c, fld, set, fun cs => cs.getD o undef, fun cs v => cs.setIfInBounds o v⟩
theorem oneP_fair {α β : Type} {c : Cod β} {o N : Nat} {fld : α → β} {set : β → α → α} (hf : Fair c) (hone : One c) (ho : o < N) (h : ∀ y x, fld (set y x) = y) : PFair N (oneP c o fld set) := by
  refine ⟨hf, fun {G w y v cs} _ hs => ?_, fun {G w y v cs} _ hs => ?_, h, fun {G w y v cs} hr hs ha => ?_⟩
  · simp [oneP, hs, ho]
  · simp [oneP, hs]
  · refine Array.all_eq_true_iff_forall_mem.2 (fun u hu => ?_)
    rcases Array.mem_or_eq_of_mem_setIfInBounds hu with h1 | rfl
    · exact Array.all_eq_true_iff_forall_mem.1 ha u h1
    · exact hone _ _ _ _ hr
theorem oneP_off {α β γ : Type} {c : Cod β} {c' : Cod γ} {o o' N : Nat} {fld : α → β} {set : β → α → α} {fld' : α → γ} {set' : γ → α → α} (ho : o ≠ o') (h : ∀ y x, fld (set' y x) = fld x) : Off N (oneP c o fld set) (oneP c' o' fld' set') := by
  refine ⟨fun {G w y v cs} _ hs => ?_, h⟩
  simp [oneP, Array.getElem?_setIfInBounds, Ne.symm ho]

theorem getter_0 : GetterOk 103 4 (.func (.func 43) #[] #[]) 0 := by
  refine ⟨_, rfl, Proofs.enters_of Try.func43 (by kernel_rfl) rfl, ?_⟩
  intro b cs w hb hs
  clear hb hs
  go_enter Try.func43, Try.ntmps43
  go_wp2
  go_ret
  exact ⟨rfl, rfl⟩

theorem getter_1 : GetterOk 103 4 (.func (.func 45) #[] #[]) 1 := by
  refine ⟨_, rfl, Proofs.enters_of Try.func45 (by kernel_rfl) rfl, ?_⟩
  intro b cs w hb hs
  clear hb hs
  go_enter Try.func45, Try.ntmps45
  go_wp2
  go_ret
  exact ⟨rfl, rfl⟩

theorem getter_2 : GetterOk 103 4 (.func (.func 47) #[] #[]) 2 := by
  refine ⟨_, rfl, Proofs.enters_of Try.func47 (by kernel_rfl) rfl, ?_⟩
  intro b cs w hb hs
  clear hb hs
  go_enter Try.func47, Try.ntmps47
  go_wp2
  go_ret
  exact ⟨rfl, rfl⟩

theorem getter_3 : GetterOk 103 4 (.func (.func 49) #[] #[]) 3 := by
  refine ⟨_, rfl, Proofs.enters_of Try.func49 (by kernel_rfl) rfl, ?_⟩
  intro b cs w hb hs
  clear hb hs
  go_enter Try.func49, Try.ntmps49
  go_wp2
  go_ret
  exact ⟨rfl, rfl⟩

set_option maxHeartbeats 1600000 in
theorem field_put_int_thing {α β : Type} (c : Cod β) (hf : Fair c) (hone : One c) (o N : Nat) (ho : o < N) (fld : α → β) (set : β → α → α) (W : World) (cb gb : Nat) (pv gv g : Value) (T2 T3 : TypeId) (hp : PutOk W pv c) (hg : GetterOk 103 N g o) (hcb : W.heap[cb]? = some (.cells #[pv, gv] T2 (0, 0))) (hgb : W.heap[gb]? = some (.cells #[g] T3 (0, 0))) :
    PPut W 103 N (.func (.func 74) #[] #[.pointer (some ⟨cb, 0, none⟩), .pointer (some ⟨gb, 0, none⟩)]) (oneP c o fld set) := by
  refine ⟨_, _, rfl, Proofs.enters_of Try.func74 (by kernel_rfl) rfl, ?_⟩
  intro B q F s w b cs x hB hw hb hs hr hwr hroom
  obtain ⟨f, caps, rfl, he, hp⟩ := hp
  obtain ⟨fg, rfl, hge, hg⟩ := hg
  unfold Proofs.Enters at he hge
  obtain ⟨u, hu⟩ : ∃ u, cs.getD o undef = u := ⟨_, rfl⟩
  rw [show (oneP c o fld set).rd cs = u from hu] at hr
  have HP := Lib.hid (hp B q F s w.drew (fld x) _ hB hw (hf.keep hr (fun _ _ _ => rfl)) hwr hroom)
  have HG := Lib.hid (hg b cs w.drew hb hs)
  have c0 := cellOf (j := 0) (hw.blk hcb)
  have c1 := cellOf (j := 0) (hw.blk hgb)
  simp at c0 c1
  have c2 : w.cell? ⟨b, o, none⟩ = some u := by rw [cellOf hb, ← hu]; simp [hs, ho]
  have HS : Hid (w.cell? ⟨cb, 0, none⟩ = some (.func (.func f) #[] caps)) := Lib.hid c0
  clear hp hg hcb hgb hw hb hs hr hwr hroom hf hone hB hu
  show Calls Try.prog _ #[.pointer (some ⟨q, 0, none⟩), .pointer (some ⟨b, 0, none⟩), .pointer (some ⟨cb, 0, none⟩), .pointer (some ⟨gb, 0, none⟩)] w _
  go_enter Try.func74, Try.ntmps74
  go_wp2_with (fail)
  refine wp_region_lex (fun w' => w'.cell? ⟨cb, 0, none⟩ = some (.func (.func f) #[] caps)) [0, 3, 0, 1, 0, 2, 0, 1, 4] (by kernel_rfl) (by kernel_rfl) (by kernel_rfl) (HS.out) (fun Q' hQ' => ?_)
  simp only [List.zip_cons_cons, List.zip_nil_right]
  repeat (first
    | (refine wpX_silent ?_ (fun K hK => ?_)
       · rfl
       apply Exists.intro
       refine ⟨fun w' => ?_, ?_⟩
       · go_simp
         exact ⟨rfl, rfl⟩
       go_simp
       refine hK _ _ ?_
       clear hK K)
    | (refine wpX_read ?_ (fun K hK => ?_)
       · rfl
       apply Exists.intro
       refine ⟨?_, ?_⟩
       · go_simp
         exact ⟨rfl, rfl⟩
       go_simp
       refine hK _ _ ?_
       clear hK K)
    | (refine wpX_float ?_ (fun K hK => ?_)
       · rfl
       apply Exists.intro
       refine ⟨fun w' hw' => ?_, ?_⟩
       · try dsimp only at hw'
         go_simp
         exact ⟨rfl, rfl⟩
       go_simp
       refine hK _ _ ?_
       clear hK K)
    | (refine wpX_not ?_ (fun K hK => ?_)
       · rfl
       go_simp
       refine hK _ _ ?_
       clear hK K))
  refine wpX_keeps ?_ (fun K hK => ?_)
  · rfl
  go_wp2_with (fail)
  refine HG.out.mono ?_
  rintro e w1 ⟨rfl, hw⟩
  obtain rfl := hw.symm
  go_simp
  refine hK _ _ ⟨rfl, HS.out, ?_⟩
  clear hK K
  repeat (first
    | (refine wpX_silent ?_ (fun K hK => ?_)
       · rfl
       apply Exists.intro
       refine ⟨fun w' => ?_, ?_⟩
       · go_simp
         exact ⟨rfl, rfl⟩
       go_simp
       refine hK _ _ ?_
       clear hK K)
    | (refine wpX_read ?_ (fun K hK => ?_)
       · rfl
       apply Exists.intro
       refine ⟨?_, ?_⟩
       · go_simp
         exact ⟨rfl, rfl⟩
       go_simp
       refine hK _ _ ?_
       clear hK K)
    | (refine wpX_float ?_ (fun K hK => ?_)
       · rfl
       apply Exists.intro
       refine ⟨fun w' hw' => ?_, ?_⟩
       · try dsimp only at hw'
         go_simp
         exact ⟨rfl, rfl⟩
       go_simp
       refine hK _ _ ?_
       clear hK K)
    | (refine wpX_not ?_ (fun K hK => ?_)
       · rfl
       go_simp
       refine hK _ _ ?_
       clear hK K))
  refine wpX_heavy rfl (fun K hK => ?_)
  go_wp2_with (fail)
  refine HP.out.mono ?_
  rintro e w2 ⟨rfl, hm⟩
  have HM := Lib.hid hm
  clear hm
  go_simp
  refine hK _ _ ⟨rfl, ?_⟩
  clear hK K
  refine wpX_nil (hQ' _ _ ?_)
  go_wp2
  go_end0
  exact ⟨rfl, HM.out.pre_drew⟩

set_option maxHeartbeats 1600000 in
set_option maxRecDepth 100000 in
theorem field_get_int_thing {α β : Type} (c : Cod β) (hf : Fair c) (hone : One c) (o N : Nat) (ho : o < N) (fld : α → β) (set : β → α → α) (W : World) (cb gb : Nat) (pv gv g : Value) (T2 T3 : TypeId) (hp : GetOk W gv c) (hg : GetterOk 103 N g o) (hcb : W.heap[cb]? = some (.cells #[pv, gv] T2 (0, 0))) (hgb : W.heap[gb]? = some (.cells #[g] T3 (0, 0))) :
    PGet W 103 N (.func (.func 75) #[] #[.pointer (some ⟨cb, 0, none⟩), .pointer (some ⟨gb, 0, none⟩)]) (oneP c o fld set) := by
  refine ⟨_, _, rfl, Proofs.enters_of Try.func75 (by kernel_rfl) rfl, ?_⟩
  intro q d s w b cs hq hbW hne hw hb hs hr hd
  obtain ⟨f, caps, rfl, he, hp⟩ := hp
  obtain ⟨fg, rfl, hge, hg⟩ := hg
  unfold Proofs.Enters at he hge
  have HP := Lib.hid (hp q d s w.drew hq hw hr hd)
  have HG := Lib.hid (hg b cs w.drew hb hs)
  have c0 := cellOf (j := 1) (hw.blk hcb)
  have c1 := cellOf (j := 0) (hw.blk hgb)
  simp at c0 c1
  have HS : Hid (w.cell? ⟨cb, 1, none⟩ = some (.func (.func f) #[] caps)) := Lib.hid c0
  have HB := Lib.hid hb
  have HN := Lib.hid hs
  have HO := Lib.hid ho
  have HNE := Lib.hid hne
  have HF := Lib.hid hf
  have HONE := Lib.hid hone
  clear hp hg hcb hgb hw hb hs hr hf hone hq hbW hne hd ho
  show Calls Try.prog _ #[.pointer (some ⟨q, 0, none⟩), .pointer (some ⟨b, 0, none⟩), .pointer (some ⟨cb, 0, none⟩), .pointer (some ⟨gb, 0, none⟩)] w _
  go_enter Try.func75, Try.ntmps75
  go_wp2_with (fail)
  refine wp_region_lex (fun w' => w'.cell? ⟨cb, 1, none⟩ = some (.func (.func f) #[] caps)) [1, 0, 2, 0, 3, 0, 4, 0, 4] (by kernel_rfl) (by kernel_rfl) (by kernel_rfl) (HS.out) (fun Q' hQ' => ?_)
  simp only [List.zip_cons_cons, List.zip_nil_right]
  repeat (first
    | (refine wpX_silent ?_ (fun K hK => ?_)
       · rfl
       apply Exists.intro
       refine ⟨fun w' => ?_, ?_⟩
       · go_simp
         exact ⟨rfl, rfl⟩
       go_simp
       refine hK _ _ ?_
       clear hK K)
    | (refine wpX_read ?_ (fun K hK => ?_)
       · rfl
       apply Exists.intro
       refine ⟨?_, ?_⟩
       · go_simp
         exact ⟨rfl, rfl⟩
       go_simp
       refine hK _ _ ?_
       clear hK K)
    | (refine wpX_float ?_ (fun K hK => ?_)
       · rfl
       apply Exists.intro
       refine ⟨fun w' hw' => ?_, ?_⟩
       · try dsimp only at hw'
         go_simp
         exact ⟨rfl, rfl⟩
       go_simp
       refine hK _ _ ?_
       clear hK K)
    | (refine wpX_not ?_ (fun K hK => ?_)
       · rfl
       go_simp
       refine hK _ _ ?_
       clear hK K))
  refine wpX_keeps ?_ (fun K hK => ?_)
  · rfl
  go_wp2_with (fail)
  refine HG.out.mono ?_
  rintro e w1 ⟨rfl, hw⟩
  obtain rfl := hw.symm
  go_simp
  refine hK _ _ ⟨rfl, HS.out, ?_⟩
  clear hK K
  repeat (first
    | (refine wpX_silent ?_ (fun K hK => ?_)
       · rfl
       apply Exists.intro
       refine ⟨fun w' => ?_, ?_⟩
       · go_simp
         exact ⟨rfl, rfl⟩
       go_simp
       refine hK _ _ ?_
       clear hK K)
    | (refine wpX_read ?_ (fun K hK => ?_)
       · rfl
       apply Exists.intro
       refine ⟨?_, ?_⟩
       · go_simp
         exact ⟨rfl, rfl⟩
       go_simp
       refine hK _ _ ?_
       clear hK K)
    | (refine wpX_float ?_ (fun K hK => ?_)
       · rfl
       apply Exists.intro
       refine ⟨fun w' hw' => ?_, ?_⟩
       · try dsimp only at hw'
         go_simp
         exact ⟨rfl, rfl⟩
       go_simp
       refine hK _ _ ?_
       clear hK K)
    | (refine wpX_not ?_ (fun K hK => ?_)
       · rfl
       go_simp
       refine hK _ _ ?_
       clear hK K))
  refine wpX_heavy rfl (fun K hK => ?_)
  go_wp2_with (fail)
  refine HP.out.mono ?_
  rintro e w2 ⟨v, rfl, hm, hv⟩
  have HM := Lib.hid hm
  have HV := Lib.hid hv
  have HB2 := Lib.hid (hm.2.blk HB.out HNE.out)
  clear hm hv
  go_simp
  refine hK _ _ ⟨rfl, ?_⟩
  clear hK K
  repeat (first
    | (refine wpX_silent ?_ (fun K hK => ?_)
       · rfl
       apply Exists.intro
       refine ⟨fun w' => ?_, ?_⟩
       · go_simp
         exact ⟨rfl, rfl⟩
       go_simp
       refine hK _ _ ?_
       clear hK K)
    | (refine wpX_read ?_ (fun K hK => ?_)
       · rfl
       apply Exists.intro
       refine ⟨?_, ?_⟩
       · go_simp
         exact ⟨rfl, rfl⟩
       go_simp
       refine hK _ _ ?_
       clear hK K)
    | (refine wpX_float ?_ (fun K hK => ?_)
       · rfl
       apply Exists.intro
       refine ⟨fun w' hw' => ?_, ?_⟩
       · try dsimp only at hw'
         go_simp
         exact ⟨rfl, rfl⟩
       go_simp
       refine hK _ _ ?_
       clear hK K)
    | (refine wpX_not ?_ (fun K hK => ?_)
       · rfl
       go_simp
       refine hK _ _ ?_
       clear hK K))
  refine wpX_heavy rfl (fun K hK => ?_)
  refine wp_store_cell _ _ _ rfl b o v rfl rfl (HONE.out _ _ _ _ HV.out) _ cs HB2.out (by rw [HN.out]; exact HO.out) (by kernel_rfl) ?_
  go_simp
  refine hK _ _ ⟨rfl, ?_⟩
  clear hK K
  refine wpX_nil (hQ' _ _ ?_)
  go_wp2
  go_end0
  have hk : Kept w2 (w2.setCell ⟨b, o, none⟩ v) (fun k => k = b) := (Kept.refl w2 (fun k => k = b)).setCell (p := ⟨b, o, none⟩) (.inl rfl) v
  have hbl := blk_lt HB.out
  refine ⟨rfl, v, ?_, ?_, blk_set HB2.out o v, ?_⟩
  · obtain ⟨a, h1, h2, h3⟩ := HM.out.1
    exact ⟨a, hk.blk h1 (Ne.symm HNE.out), h2, h3⟩
  · refine Kept.trans (G := fun k => k = b) ?_ hk (fun k hk => .inl (.inr hk))
    have h := HM.out.2
    exact ⟨h.os, h.tape, h.output, h.size, fun k hk hn => h.block k hk (fun e => hn (.inl e))⟩
  · have hsz : (w2.setCell ⟨b, o, none⟩ v).heap.size = w2.heap.size := by simp [World.setCell]
    refine HF.out.mono (fun k hk => ⟨hk.1, by rw [hsz]; exact hk.2⟩) (HF.out.keep HV.out (fun k h1 h2 => hk.block k h1 (fun e => ?_)))
    have := h2.1
    have hbl2 : b < w.drew.heap.size := hbl
    omega

set_option maxHeartbeats 1600000 in
theorem field_put_str_thing {α β : Type} (c : Cod β) (hf : Fair c) (hone : One c) (o N : Nat) (ho : o < N) (fld : α → β) (set : β → α → α) (W : World) (cb gb : Nat) (pv gv g : Value) (T2 T3 : TypeId) (hp : PutOk W pv c) (hg : GetterOk 103 N g o) (hcb : W.heap[cb]? = some (.cells #[pv, gv] T2 (0, 0))) (hgb : W.heap[gb]? = some (.cells #[g] T3 (0, 0))) :
    PPut W 103 N (.func (.func 76) #[] #[.pointer (some ⟨cb, 0, none⟩), .pointer (some ⟨gb, 0, none⟩)]) (oneP c o fld set) := by
  refine ⟨_, _, rfl, Proofs.enters_of Try.func76 (by kernel_rfl) rfl, ?_⟩
  intro B q F s w b cs x hB hw hb hs hr hwr hroom
  obtain ⟨f, caps, rfl, he, hp⟩ := hp
  obtain ⟨fg, rfl, hge, hg⟩ := hg
  unfold Proofs.Enters at he hge
  obtain ⟨u, hu⟩ : ∃ u, cs.getD o undef = u := ⟨_, rfl⟩
  rw [show (oneP c o fld set).rd cs = u from hu] at hr
  have HP := Lib.hid (hp B q F s w.drew (fld x) _ hB hw (hf.keep hr (fun _ _ _ => rfl)) hwr hroom)
  have HG := Lib.hid (hg b cs w.drew hb hs)
  have c0 := cellOf (j := 0) (hw.blk hcb)
  have c1 := cellOf (j := 0) (hw.blk hgb)
  simp at c0 c1
  have c2 : w.cell? ⟨b, o, none⟩ = some u := by rw [cellOf hb, ← hu]; simp [hs, ho]
  have HS : Hid (w.cell? ⟨cb, 0, none⟩ = some (.func (.func f) #[] caps)) := Lib.hid c0
  clear hp hg hcb hgb hw hb hs hr hwr hroom hf hone hB hu
  show Calls Try.prog _ #[.pointer (some ⟨q, 0, none⟩), .pointer (some ⟨b, 0, none⟩), .pointer (some ⟨cb, 0, none⟩), .pointer (some ⟨gb, 0, none⟩)] w _
  go_enter Try.func76, Try.ntmps76
  go_wp2_with (fail)
  refine wp_region_lex (fun w' => w'.cell? ⟨cb, 0, none⟩ = some (.func (.func f) #[] caps)) [0, 3, 0, 1, 0, 2, 0, 1, 4] (by kernel_rfl) (by kernel_rfl) (by kernel_rfl) (HS.out) (fun Q' hQ' => ?_)
  simp only [List.zip_cons_cons, List.zip_nil_right]
  repeat (first
    | (refine wpX_silent ?_ (fun K hK => ?_)
       · rfl
       apply Exists.intro
       refine ⟨fun w' => ?_, ?_⟩
       · go_simp
         exact ⟨rfl, rfl⟩
       go_simp
       refine hK _ _ ?_
       clear hK K)
    | (refine wpX_read ?_ (fun K hK => ?_)
       · rfl
       apply Exists.intro
       refine ⟨?_, ?_⟩
       · go_simp
         exact ⟨rfl, rfl⟩
       go_simp
       refine hK _ _ ?_
       clear hK K)
    | (refine wpX_float ?_ (fun K hK => ?_)
       · rfl
       apply Exists.intro
       refine ⟨fun w' hw' => ?_, ?_⟩
       · try dsimp only at hw'
         go_simp
         exact ⟨rfl, rfl⟩
       go_simp
       refine hK _ _ ?_
       clear hK K)
    | (refine wpX_not ?_ (fun K hK => ?_)
       · rfl
       go_simp
       refine hK _ _ ?_
       clear hK K))
  refine wpX_keeps ?_ (fun K hK => ?_)
  · rfl
  go_wp2_with (fail)
  refine HG.out.mono ?_
  rintro e w1 ⟨rfl, hw⟩
  obtain rfl := hw.symm
  go_simp
  refine hK _ _ ⟨rfl, HS.out, ?_⟩
  clear hK K
  repeat (first
    | (refine wpX_silent ?_ (fun K hK => ?_)
       · rfl
       apply Exists.intro
       refine ⟨fun w' => ?_, ?_⟩
       · go_simp
         exact ⟨rfl, rfl⟩
       go_simp
       refine hK _ _ ?_
       clear hK K)
    | (refine wpX_read ?_ (fun K hK => ?_)
       · rfl
       apply Exists.intro
       refine ⟨?_, ?_⟩
       · go_simp
         exact ⟨rfl, rfl⟩
       go_simp
       refine hK _ _ ?_
       clear hK K)
    | (refine wpX_float ?_ (fun K hK => ?_)
       · rfl
       apply Exists.intro
       refine ⟨fun w' hw' => ?_, ?_⟩
       · try dsimp only at hw'
         go_simp
         exact ⟨rfl, rfl⟩
       go_simp
       refine hK _ _ ?_
       clear hK K)
    | (refine wpX_not ?_ (fun K hK => ?_)
       · rfl
       go_simp
       refine hK _ _ ?_
       clear hK K))
  refine wpX_heavy rfl (fun K hK => ?_)
  go_wp2_with (fail)
  refine HP.out.mono ?_
  rintro e w2 ⟨rfl, hm⟩
  have HM := Lib.hid hm
  clear hm
  go_simp
  refine hK _ _ ⟨rfl, ?_⟩
  clear hK K
  refine wpX_nil (hQ' _ _ ?_)
  go_wp2
  go_end0
  exact ⟨rfl, HM.out.pre_drew⟩

set_option maxHeartbeats 1600000 in
set_option maxRecDepth 100000 in
theorem field_get_str_thing {α β : Type} (c : Cod β) (hf : Fair c) (hone : One c) (o N : Nat) (ho : o < N) (fld : α → β) (set : β → α → α) (W : World) (cb gb : Nat) (pv gv g : Value) (T2 T3 : TypeId) (hp : GetOk W gv c) (hg : GetterOk 103 N g o) (hcb : W.heap[cb]? = some (.cells #[pv, gv] T2 (0, 0))) (hgb : W.heap[gb]? = some (.cells #[g] T3 (0, 0))) :
    PGet W 103 N (.func (.func 77) #[] #[.pointer (some ⟨cb, 0, none⟩), .pointer (some ⟨gb, 0, none⟩)]) (oneP c o fld set) := by
  refine ⟨_, _, rfl, Proofs.enters_of Try.func77 (by kernel_rfl) rfl, ?_⟩
  intro q d s w b cs hq hbW hne hw hb hs hr hd
  obtain ⟨f, caps, rfl, he, hp⟩ := hp
  obtain ⟨fg, rfl, hge, hg⟩ := hg
  unfold Proofs.Enters at he hge
  have HP := Lib.hid (hp q d s w.drew hq hw hr hd)
  have HG := Lib.hid (hg b cs w.drew hb hs)
  have c0 := cellOf (j := 1) (hw.blk hcb)
  have c1 := cellOf (j := 0) (hw.blk hgb)
  simp at c0 c1
  have HS : Hid (w.cell? ⟨cb, 1, none⟩ = some (.func (.func f) #[] caps)) := Lib.hid c0
  have HB := Lib.hid hb
  have HN := Lib.hid hs
  have HO := Lib.hid ho
  have HNE := Lib.hid hne
  have HF := Lib.hid hf
  have HONE := Lib.hid hone
  clear hp hg hcb hgb hw hb hs hr hf hone hq hbW hne hd ho
  show Calls Try.prog _ #[.pointer (some ⟨q, 0, none⟩), .pointer (some ⟨b, 0, none⟩), .pointer (some ⟨cb, 0, none⟩), .pointer (some ⟨gb, 0, none⟩)] w _
  go_enter Try.func77, Try.ntmps77
  go_wp2_with (fail)
  refine wp_region_lex (fun w' => w'.cell? ⟨cb, 1, none⟩ = some (.func (.func f) #[] caps)) [1, 0, 2, 0, 3, 0, 4, 0, 4] (by kernel_rfl) (by kernel_rfl) (by kernel_rfl) (HS.out) (fun Q' hQ' => ?_)
  simp only [List.zip_cons_cons, List.zip_nil_right]
  repeat (first
    | (refine wpX_silent ?_ (fun K hK => ?_)
       · rfl
       apply Exists.intro
       refine ⟨fun w' => ?_, ?_⟩
       · go_simp
         exact ⟨rfl, rfl⟩
       go_simp
       refine hK _ _ ?_
       clear hK K)
    | (refine wpX_read ?_ (fun K hK => ?_)
       · rfl
       apply Exists.intro
       refine ⟨?_, ?_⟩
       · go_simp
         exact ⟨rfl, rfl⟩
       go_simp
       refine hK _ _ ?_
       clear hK K)
    | (refine wpX_float ?_ (fun K hK => ?_)
       · rfl
       apply Exists.intro
       refine ⟨fun w' hw' => ?_, ?_⟩
       · try dsimp only at hw'
         go_simp
         exact ⟨rfl, rfl⟩
       go_simp
       refine hK _ _ ?_
       clear hK K)
    | (refine wpX_not ?_ (fun K hK => ?_)
       · rfl
       go_simp
       refine hK _ _ ?_
       clear hK K))
  refine wpX_keeps ?_ (fun K hK => ?_)
  · rfl
  go_wp2_with (fail)
  refine HG.out.mono ?_
  rintro e w1 ⟨rfl, hw⟩
  obtain rfl := hw.symm
  go_simp
  refine hK _ _ ⟨rfl, HS.out, ?_⟩
  clear hK K
  repeat (first
    | (refine wpX_silent ?_ (fun K hK => ?_)
       · rfl
       apply Exists.intro
       refine ⟨fun w' => ?_, ?_⟩
       · go_simp
         exact ⟨rfl, rfl⟩
       go_simp
       refine hK _ _ ?_
       clear hK K)
    | (refine wpX_read ?_ (fun K hK => ?_)
       · rfl
       apply Exists.intro
       refine ⟨?_, ?_⟩
       · go_simp
         exact ⟨rfl, rfl⟩
       go_simp
       refine hK _ _ ?_
       clear hK K)
    | (refine wpX_float ?_ (fun K hK => ?_)
       · rfl
       apply Exists.intro
       refine ⟨fun w' hw' => ?_, ?_⟩
       · try dsimp only at hw'
         go_simp
         exact ⟨rfl, rfl⟩
       go_simp
       refine hK _ _ ?_
       clear hK K)
    | (refine wpX_not ?_ (fun K hK => ?_)
       · rfl
       go_simp
       refine hK _ _ ?_
       clear hK K))
  refine wpX_heavy rfl (fun K hK => ?_)
  go_wp2_with (fail)
  refine HP.out.mono ?_
  rintro e w2 ⟨v, rfl, hm, hv⟩
  have HM := Lib.hid hm
  have HV := Lib.hid hv
  have HB2 := Lib.hid (hm.2.blk HB.out HNE.out)
  clear hm hv
  go_simp
  refine hK _ _ ⟨rfl, ?_⟩
  clear hK K
  repeat (first
    | (refine wpX_silent ?_ (fun K hK => ?_)
       · rfl
       apply Exists.intro
       refine ⟨fun w' => ?_, ?_⟩
       · go_simp
         exact ⟨rfl, rfl⟩
       go_simp
       refine hK _ _ ?_
       clear hK K)
    | (refine wpX_read ?_ (fun K hK => ?_)
       · rfl
       apply Exists.intro
       refine ⟨?_, ?_⟩
       · go_simp
         exact ⟨rfl, rfl⟩
       go_simp
       refine hK _ _ ?_
       clear hK K)
    | (refine wpX_float ?_ (fun K hK => ?_)
       · rfl
       apply Exists.intro
       refine ⟨fun w' hw' => ?_, ?_⟩
       · try dsimp only at hw'
         go_simp
         exact ⟨rfl, rfl⟩
       go_simp
       refine hK _ _ ?_
       clear hK K)
    | (refine wpX_not ?_ (fun K hK => ?_)
       · rfl
       go_simp
       refine hK _ _ ?_
       clear hK K))
  refine wpX_heavy rfl (fun K hK => ?_)
  refine wp_store_cell _ _ _ rfl b o v rfl rfl (HONE.out _ _ _ _ HV.out) _ cs HB2.out (by rw [HN.out]; exact HO.out) (by kernel_rfl) ?_
  go_simp
  refine hK _ _ ⟨rfl, ?_⟩
  clear hK K
  refine wpX_nil (hQ' _ _ ?_)
  go_wp2
  go_end0
  have hk : Kept w2 (w2.setCell ⟨b, o, none⟩ v) (fun k => k = b) := (Kept.refl w2 (fun k => k = b)).setCell (p := ⟨b, o, none⟩) (.inl rfl) v
  have hbl := blk_lt HB.out
  refine ⟨rfl, v, ?_, ?_, blk_set HB2.out o v, ?_⟩
  · obtain ⟨a, h1, h2, h3⟩ := HM.out.1
    exact ⟨a, hk.blk h1 (Ne.symm HNE.out), h2, h3⟩
  · refine Kept.trans (G := fun k => k = b) ?_ hk (fun k hk => .inl (.inr hk))
    have h := HM.out.2
    exact ⟨h.os, h.tape, h.output, h.size, fun k hk hn => h.block k hk (fun e => hn (.inl e))⟩
  · have hsz : (w2.setCell ⟨b, o, none⟩ v).heap.size = w2.heap.size := by simp [World.setCell]
    refine HF.out.mono (fun k hk => ⟨hk.1, by rw [hsz]; exact hk.2⟩) (HF.out.keep HV.out (fun k h1 h2 => hk.block k h1 (fun e => ?_)))
    have := h2.1
    have hbl2 : b < w.drew.heap.size := hbl
    omega

set_option maxHeartbeats 1600000 in
theorem field_put_ints_thing {α β : Type} (c : Cod β) (hf : Fair c) (hone : One c) (o N : Nat) (ho : o < N) (fld : α → β) (set : β → α → α) (W : World) (cb gb : Nat) (pv gv g : Value) (T2 T3 : TypeId) (hp : PutOk W pv c) (hg : GetterOk 103 N g o) (hcb : W.heap[cb]? = some (.cells #[pv, gv] T2 (0, 0))) (hgb : W.heap[gb]? = some (.cells #[g] T3 (0, 0))) :
    PPut W 103 N (.func (.func 78) #[] #[.pointer (some ⟨cb, 0, none⟩), .pointer (some ⟨gb, 0, none⟩)]) (oneP c o fld set) := by
  refine ⟨_, _, rfl, Proofs.enters_of Try.func78 (by kernel_rfl) rfl, ?_⟩
  intro B q F s w b cs x hB hw hb hs hr hwr hroom
  obtain ⟨f, caps, rfl, he, hp⟩ := hp
  obtain ⟨fg, rfl, hge, hg⟩ := hg
  unfold Proofs.Enters at he hge
  obtain ⟨u, hu⟩ : ∃ u, cs.getD o undef = u := ⟨_, rfl⟩
  rw [show (oneP c o fld set).rd cs = u from hu] at hr
  have HP := Lib.hid (hp B q F s w.drew (fld x) _ hB hw (hf.keep hr (fun _ _ _ => rfl)) hwr hroom)
  have HG := Lib.hid (hg b cs w.drew hb hs)
  have c0 := cellOf (j := 0) (hw.blk hcb)
  have c1 := cellOf (j := 0) (hw.blk hgb)
  simp at c0 c1
  have c2 : w.cell? ⟨b, o, none⟩ = some u := by rw [cellOf hb, ← hu]; simp [hs, ho]
  have HS : Hid (w.cell? ⟨cb, 0, none⟩ = some (.func (.func f) #[] caps)) := Lib.hid c0
  clear hp hg hcb hgb hw hb hs hr hwr hroom hf hone hB hu
  show Calls Try.prog _ #[.pointer (some ⟨q, 0, none⟩), .pointer (some ⟨b, 0, none⟩), .pointer (some ⟨cb, 0, none⟩), .pointer (some ⟨gb, 0, none⟩)] w _
  go_enter Try.func78, Try.ntmps78
  go_wp2_with (fail)
  refine wp_region_lex (fun w' => w'.cell? ⟨cb, 0, none⟩ = some (.func (.func f) #[] caps)) [0, 3, 0, 1, 0, 2, 0, 1, 4] (by kernel_rfl) (by kernel_rfl) (by kernel_rfl) (HS.out) (fun Q' hQ' => ?_)
  simp only [List.zip_cons_cons, List.zip_nil_right]
  repeat (first
    | (refine wpX_silent ?_ (fun K hK => ?_)
       · rfl
       apply Exists.intro
       refine ⟨fun w' => ?_, ?_⟩
       · go_simp
         exact ⟨rfl, rfl⟩
       go_simp
       refine hK _ _ ?_
       clear hK K)
    | (refine wpX_read ?_ (fun K hK => ?_)
       · rfl
       apply Exists.intro
       refine ⟨?_, ?_⟩
       · go_simp
         exact ⟨rfl, rfl⟩
       go_simp
       refine hK _ _ ?_
       clear hK K)
    | (refine wpX_float ?_ (fun K hK => ?_)
       · rfl
       apply Exists.intro
       refine ⟨fun w' hw' => ?_, ?_⟩
       · try dsimp only at hw'
         go_simp
         exact ⟨rfl, rfl⟩
       go_simp
       refine hK _ _ ?_
       clear hK K)
    | (refine wpX_not ?_ (fun K hK => ?_)
       · rfl
       go_simp
       refine hK _ _ ?_
       clear hK K))
  refine wpX_keeps ?_ (fun K hK => ?_)
  · rfl
  go_wp2_with (fail)
  refine HG.out.mono ?_
  rintro e w1 ⟨rfl, hw⟩
  obtain rfl := hw.symm
  go_simp
  refine hK _ _ ⟨rfl, HS.out, ?_⟩
  clear hK K
  repeat (first
    | (refine wpX_silent ?_ (fun K hK => ?_)
       · rfl
       apply Exists.intro
       refine ⟨fun w' => ?_, ?_⟩
       · go_simp
         exact ⟨rfl, rfl⟩
       go_simp
       refine hK _ _ ?_
       clear hK K)
    | (refine wpX_read ?_ (fun K hK => ?_)
       · rfl
       apply Exists.intro
       refine ⟨?_, ?_⟩
       · go_simp
         exact ⟨rfl, rfl⟩
       go_simp
       refine hK _ _ ?_
       clear hK K)
    | (refine wpX_float ?_ (fun K hK => ?_)
       · rfl
       apply Exists.intro
       refine ⟨fun w' hw' => ?_, ?_⟩
       · try dsimp only at hw'
         go_simp
         exact ⟨rfl, rfl⟩
       go_simp
       refine hK _ _ ?_
       clear hK K)
    | (refine wpX_not ?_ (fun K hK => ?_)
       · rfl
       go_simp
       refine hK _ _ ?_
       clear hK K))
  refine wpX_heavy rfl (fun K hK => ?_)
  go_wp2_with (fail)
  refine HP.out.mono ?_
  rintro e w2 ⟨rfl, hm⟩
  have HM := Lib.hid hm
  clear hm
  go_simp
  refine hK _ _ ⟨rfl, ?_⟩
  clear hK K
  refine wpX_nil (hQ' _ _ ?_)
  go_wp2
  go_end0
  exact ⟨rfl, HM.out.pre_drew⟩

set_option maxHeartbeats 1600000 in
set_option maxRecDepth 100000 in
theorem field_get_ints_thing {α β : Type} (c : Cod β) (hf : Fair c) (hone : One c) (o N : Nat) (ho : o < N) (fld : α → β) (set : β → α → α) (W : World) (cb gb : Nat) (pv gv g : Value) (T2 T3 : TypeId) (hp : GetOk W gv c) (hg : GetterOk 103 N g o) (hcb : W.heap[cb]? = some (.cells #[pv, gv] T2 (0, 0))) (hgb : W.heap[gb]? = some (.cells #[g] T3 (0, 0))) :
    PGet W 103 N (.func (.func 79) #[] #[.pointer (some ⟨cb, 0, none⟩), .pointer (some ⟨gb, 0, none⟩)]) (oneP c o fld set) := by
  refine ⟨_, _, rfl, Proofs.enters_of Try.func79 (by kernel_rfl) rfl, ?_⟩
  intro q d s w b cs hq hbW hne hw hb hs hr hd
  obtain ⟨f, caps, rfl, he, hp⟩ := hp
  obtain ⟨fg, rfl, hge, hg⟩ := hg
  unfold Proofs.Enters at he hge
  have HP := Lib.hid (hp q d s w.drew hq hw hr hd)
  have HG := Lib.hid (hg b cs w.drew hb hs)
  have c0 := cellOf (j := 1) (hw.blk hcb)
  have c1 := cellOf (j := 0) (hw.blk hgb)
  simp at c0 c1
  have HS : Hid (w.cell? ⟨cb, 1, none⟩ = some (.func (.func f) #[] caps)) := Lib.hid c0
  have HB := Lib.hid hb
  have HN := Lib.hid hs
  have HO := Lib.hid ho
  have HNE := Lib.hid hne
  have HF := Lib.hid hf
  have HONE := Lib.hid hone
  clear hp hg hcb hgb hw hb hs hr hf hone hq hbW hne hd ho
  show Calls Try.prog _ #[.pointer (some ⟨q, 0, none⟩), .pointer (some ⟨b, 0, none⟩), .pointer (some ⟨cb, 0, none⟩), .pointer (some ⟨gb, 0, none⟩)] w _
  go_enter Try.func79, Try.ntmps79
  go_wp2_with (fail)
  refine wp_region_lex (fun w' => w'.cell? ⟨cb, 1, none⟩ = some (.func (.func f) #[] caps)) [1, 0, 2, 0, 3, 0, 4, 0, 4] (by kernel_rfl) (by kernel_rfl) (by kernel_rfl) (HS.out) (fun Q' hQ' => ?_)
  simp only [List.zip_cons_cons, List.zip_nil_right]
  repeat (first
    | (refine wpX_silent ?_ (fun K hK => ?_)
       · rfl
       apply Exists.intro
       refine ⟨fun w' => ?_, ?_⟩
       · go_simp
         exact ⟨rfl, rfl⟩
       go_simp
       refine hK _ _ ?_
       clear hK K)
    | (refine wpX_read ?_ (fun K hK => ?_)
       · rfl
       apply Exists.intro
       refine ⟨?_, ?_⟩
       · go_simp
         exact ⟨rfl, rfl⟩
       go_simp
       refine hK _ _ ?_
       clear hK K)
    | (refine wpX_float ?_ (fun K hK => ?_)
       · rfl
       apply Exists.intro
       refine ⟨fun w' hw' => ?_, ?_⟩
       · try dsimp only at hw'
         go_simp
         exact ⟨rfl, rfl⟩
       go_simp
       refine hK _ _ ?_
       clear hK K)
    | (refine wpX_not ?_ (fun K hK => ?_)
       · rfl
       go_simp
       refine hK _ _ ?_
       clear hK K))
  refine wpX_keeps ?_ (fun K hK => ?_)
  · rfl
  go_wp2_with (fail)
  refine HG.out.mono ?_
  rintro e w1 ⟨rfl, hw⟩
  obtain rfl := hw.symm
  go_simp
  refine hK _ _ ⟨rfl, HS.out, ?_⟩
  clear hK K
  repeat (first
    | (refine wpX_silent ?_ (fun K hK => ?_)
       · rfl
       apply Exists.intro
       refine ⟨fun w' => ?_, ?_⟩
       · go_simp
         exact ⟨rfl, rfl⟩
       go_simp
       refine hK _ _ ?_
       clear hK K)
    | (refine wpX_read ?_ (fun K hK => ?_)
       · rfl
       apply Exists.intro
       refine ⟨?_, ?_⟩
       · go_simp
         exact ⟨rfl, rfl⟩
       go_simp
       refine hK _ _ ?_
       clear hK K)
    | (refine wpX_float ?_ (fun K hK => ?_)
       · rfl
       apply Exists.intro
       refine ⟨fun w' hw' => ?_, ?_⟩
       · try dsimp only at hw'
         go_simp
         exact ⟨rfl, rfl⟩
       go_simp
       refine hK _ _ ?_
       clear hK K)
    | (refine wpX_not ?_ (fun K hK => ?_)
       · rfl
       go_simp
       refine hK _ _ ?_
       clear hK K))
  refine wpX_heavy rfl (fun K hK => ?_)
  go_wp2_with (fail)
  refine HP.out.mono ?_
  rintro e w2 ⟨v, rfl, hm, hv⟩
  have HM := Lib.hid hm
  have HV := Lib.hid hv
  have HB2 := Lib.hid (hm.2.blk HB.out HNE.out)
  clear hm hv
  go_simp
  refine hK _ _ ⟨rfl, ?_⟩
  clear hK K
  repeat (first
    | (refine wpX_silent ?_ (fun K hK => ?_)
       · rfl
       apply Exists.intro
       refine ⟨fun w' => ?_, ?_⟩
       · go_simp
         exact ⟨rfl, rfl⟩
       go_simp
       refine hK _ _ ?_
       clear hK K)
    | (refine wpX_read ?_ (fun K hK => ?_)
       · rfl
       apply Exists.intro
       refine ⟨?_, ?_⟩
       · go_simp
         exact ⟨rfl, rfl⟩
       go_simp
       refine hK _ _ ?_
       clear hK K)
    | (refine wpX_float ?_ (fun K hK => ?_)
       · rfl
       apply Exists.intro
       refine ⟨fun w' hw' => ?_, ?_⟩
       · try dsimp only at hw'
         go_simp
         exact ⟨rfl, rfl⟩
       go_simp
       refine hK _ _ ?_
       clear hK K)
    | (refine wpX_not ?_ (fun K hK => ?_)
       · rfl
       go_simp
       refine hK _ _ ?_
       clear hK K))
  refine wpX_heavy rfl (fun K hK => ?_)
  refine wp_store_cell _ _ _ rfl b o v rfl rfl (HONE.out _ _ _ _ HV.out) _ cs HB2.out (by rw [HN.out]; exact HO.out) (by kernel_rfl) ?_
  go_simp
  refine hK _ _ ⟨rfl, ?_⟩
  clear hK K
  refine wpX_nil (hQ' _ _ ?_)
  go_wp2
  go_end0
  have hk : Kept w2 (w2.setCell ⟨b, o, none⟩ v) (fun k => k = b) := (Kept.refl w2 (fun k => k = b)).setCell (p := ⟨b, o, none⟩) (.inl rfl) v
  have hbl := blk_lt HB.out
  refine ⟨rfl, v, ?_, ?_, blk_set HB2.out o v, ?_⟩
  · obtain ⟨a, h1, h2, h3⟩ := HM.out.1
    exact ⟨a, hk.blk h1 (Ne.symm HNE.out), h2, h3⟩
  · refine Kept.trans (G := fun k => k = b) ?_ hk (fun k hk => .inl (.inr hk))
    have h := HM.out.2
    exact ⟨h.os, h.tape, h.output, h.size, fun k hk hn => h.block k hk (fun e => hn (.inl e))⟩
  · have hsz : (w2.setCell ⟨b, o, none⟩ v).heap.size = w2.heap.size := by simp [World.setCell]
    refine HF.out.mono (fun k hk => ⟨hk.1, by rw [hsz]; exact hk.2⟩) (HF.out.keep HV.out (fun k h1 h2 => hk.block k h1 (fun e => ?_)))
    have := h2.1
    have hbl2 : b < w.drew.heap.size := hbl
    omega

set_option maxHeartbeats 1600000 in
theorem field_put_bool_thing {α β : Type} (c : Cod β) (hf : Fair c) (hone : One c) (o N : Nat) (ho : o < N) (fld : α → β) (set : β → α → α) (W : World) (cb gb : Nat) (pv gv g : Value) (T2 T3 : TypeId) (hp : PutOk W pv c) (hg : GetterOk 103 N g o) (hcb : W.heap[cb]? = some (.cells #[pv, gv] T2 (0, 0))) (hgb : W.heap[gb]? = some (.cells #[g] T3 (0, 0))) :
    PPut W 103 N (.func (.func 80) #[] #[.pointer (some ⟨cb, 0, none⟩), .pointer (some ⟨gb, 0, none⟩)]) (oneP c o fld set) := by
  refine ⟨_, _, rfl, Proofs.enters_of Try.func80 (by kernel_rfl) rfl, ?_⟩
  intro B q F s w b cs x hB hw hb hs hr hwr hroom
  obtain ⟨f, caps, rfl, he, hp⟩ := hp
  obtain ⟨fg, rfl, hge, hg⟩ := hg
  unfold Proofs.Enters at he hge
  obtain ⟨u, hu⟩ : ∃ u, cs.getD o undef = u := ⟨_, rfl⟩
  rw [show (oneP c o fld set).rd cs = u from hu] at hr
  have HP := Lib.hid (hp B q F s w.drew (fld x) _ hB hw (hf.keep hr (fun _ _ _ => rfl)) hwr hroom)
  have HG := Lib.hid (hg b cs w.drew hb hs)
  have c0 := cellOf (j := 0) (hw.blk hcb)
  have c1 := cellOf (j := 0) (hw.blk hgb)
  simp at c0 c1
  have c2 : w.cell? ⟨b, o, none⟩ = some u := by rw [cellOf hb, ← hu]; simp [hs, ho]
  have HS : Hid (w.cell? ⟨cb, 0, none⟩ = some (.func (.func f) #[] caps)) := Lib.hid c0
  clear hp hg hcb hgb hw hb hs hr hwr hroom hf hone hB hu
  show Calls Try.prog _ #[.pointer (some ⟨q, 0, none⟩), .pointer (some ⟨b, 0, none⟩), .pointer (some ⟨cb, 0, none⟩), .pointer (some ⟨gb, 0, none⟩)] w _
  go_enter Try.func80, Try.ntmps80
  go_wp2_with (fail)
  refine wp_region_lex (fun w' => w'.cell? ⟨cb, 0, none⟩ = some (.func (.func f) #[] caps)) [0, 3, 0, 1, 0, 2, 0, 1, 4] (by kernel_rfl) (by kernel_rfl) (by kernel_rfl) (HS.out) (fun Q' hQ' => ?_)
  simp only [List.zip_cons_cons, List.zip_nil_right]
  repeat (first
    | (refine wpX_silent ?_ (fun K hK => ?_)
       · rfl
       apply Exists.intro
       refine ⟨fun w' => ?_, ?_⟩
       · go_simp
         exact ⟨rfl, rfl⟩
       go_simp
       refine hK _ _ ?_
       clear hK K)
    | (refine wpX_read ?_ (fun K hK => ?_)
       · rfl
       apply Exists.intro
       refine ⟨?_, ?_⟩
       · go_simp
         exact ⟨rfl, rfl⟩
       go_simp
       refine hK _ _ ?_
       clear hK K)
    | (refine wpX_float ?_ (fun K hK => ?_)
       · rfl
       apply Exists.intro
       refine ⟨fun w' hw' => ?_, ?_⟩
       · try dsimp only at hw'
         go_simp
         exact ⟨rfl, rfl⟩
       go_simp
       refine hK _ _ ?_
       clear hK K)
    | (refine wpX_not ?_ (fun K hK => ?_)
       · rfl
       go_simp
       refine hK _ _ ?_
       clear hK K))
  refine wpX_keeps ?_ (fun K hK => ?_)
  · rfl
  go_wp2_with (fail)
  refine HG.out.mono ?_
  rintro e w1 ⟨rfl, hw⟩
  obtain rfl := hw.symm
  go_simp
  refine hK _ _ ⟨rfl, HS.out, ?_⟩
  clear hK K
  repeat (first
    | (refine wpX_silent ?_ (fun K hK => ?_)
       · rfl
       apply Exists.intro
       refine ⟨fun w' => ?_, ?_⟩
       · go_simp
         exact ⟨rfl, rfl⟩
       go_simp
       refine hK _ _ ?_
       clear hK K)
    | (refine wpX_read ?_ (fun K hK => ?_)
       · rfl
       apply Exists.intro
       refine ⟨?_, ?_⟩
       · go_simp
         exact ⟨rfl, rfl⟩
       go_simp
       refine hK _ _ ?_
       clear hK K)
    | (refine wpX_float ?_ (fun K hK => ?_)
       · rfl
       apply Exists.intro
       refine ⟨fun w' hw' => ?_, ?_⟩
       · try dsimp only at hw'
         go_simp
         exact ⟨rfl, rfl⟩
       go_simp
       refine hK _ _ ?_
       clear hK K)
    | (refine wpX_not ?_ (fun K hK => ?_)
       · rfl
       go_simp
       refine hK _ _ ?_
       clear hK K))
  refine wpX_heavy rfl (fun K hK => ?_)
  go_wp2_with (fail)
  refine HP.out.mono ?_
  rintro e w2 ⟨rfl, hm⟩
  have HM := Lib.hid hm
  clear hm
  go_simp
  refine hK _ _ ⟨rfl, ?_⟩
  clear hK K
  refine wpX_nil (hQ' _ _ ?_)
  go_wp2
  go_end0
  exact ⟨rfl, HM.out.pre_drew⟩

set_option maxHeartbeats 1600000 in
set_option maxRecDepth 100000 in
theorem field_get_bool_thing {α β : Type} (c : Cod β) (hf : Fair c) (hone : One c) (o N : Nat) (ho : o < N) (fld : α → β) (set : β → α → α) (W : World) (cb gb : Nat) (pv gv g : Value) (T2 T3 : TypeId) (hp : GetOk W gv c) (hg : GetterOk 103 N g o) (hcb : W.heap[cb]? = some (.cells #[pv, gv] T2 (0, 0))) (hgb : W.heap[gb]? = some (.cells #[g] T3 (0, 0))) :
    PGet W 103 N (.func (.func 81) #[] #[.pointer (some ⟨cb, 0, none⟩), .pointer (some ⟨gb, 0, none⟩)]) (oneP c o fld set) := by
  refine ⟨_, _, rfl, Proofs.enters_of Try.func81 (by kernel_rfl) rfl, ?_⟩
  intro q d s w b cs hq hbW hne hw hb hs hr hd
  obtain ⟨f, caps, rfl, he, hp⟩ := hp
  obtain ⟨fg, rfl, hge, hg⟩ := hg
  unfold Proofs.Enters at he hge
  have HP := Lib.hid (hp q d s w.drew hq hw hr hd)
  have HG := Lib.hid (hg b cs w.drew hb hs)
  have c0 := cellOf (j := 1) (hw.blk hcb)
  have c1 := cellOf (j := 0) (hw.blk hgb)
  simp at c0 c1
  have HS : Hid (w.cell? ⟨cb, 1, none⟩ = some (.func (.func f) #[] caps)) := Lib.hid c0
  have HB := Lib.hid hb
  have HN := Lib.hid hs
  have HO := Lib.hid ho
  have HNE := Lib.hid hne
  have HF := Lib.hid hf
  have HONE := Lib.hid hone
  clear hp hg hcb hgb hw hb hs hr hf hone hq hbW hne hd ho
  show Calls Try.prog _ #[.pointer (some ⟨q, 0, none⟩), .pointer (some ⟨b, 0, none⟩), .pointer (some ⟨cb, 0, none⟩), .pointer (some ⟨gb, 0, none⟩)] w _
  go_enter Try.func81, Try.ntmps81
  go_wp2_with (fail)
  refine wp_region_lex (fun w' => w'.cell? ⟨cb, 1, none⟩ = some (.func (.func f) #[] caps)) [1, 0, 2, 0, 3, 0, 4, 0, 4] (by kernel_rfl) (by kernel_rfl) (by kernel_rfl) (HS.out) (fun Q' hQ' => ?_)
  simp only [List.zip_cons_cons, List.zip_nil_right]
  repeat (first
    | (refine wpX_silent ?_ (fun K hK => ?_)
       · rfl
       apply Exists.intro
       refine ⟨fun w' => ?_, ?_⟩
       · go_simp
         exact ⟨rfl, rfl⟩
       go_simp
       refine hK _ _ ?_
       clear hK K)
    | (refine wpX_read ?_ (fun K hK => ?_)
       · rfl
       apply Exists.intro
       refine ⟨?_, ?_⟩
       · go_simp
         exact ⟨rfl, rfl⟩
       go_simp
       refine hK _ _ ?_
       clear hK K)
    | (refine wpX_float ?_ (fun K hK => ?_)
       · rfl
       apply Exists.intro
       refine ⟨fun w' hw' => ?_, ?_⟩
       · try dsimp only at hw'
         go_simp
         exact ⟨rfl, rfl⟩
       go_simp
       refine hK _ _ ?_
       clear hK K)
    | (refine wpX_not ?_ (fun K hK => ?_)
       · rfl
       go_simp
       refine hK _ _ ?_
       clear hK K))
  refine wpX_keeps ?_ (fun K hK => ?_)
  · rfl
  go_wp2_with (fail)
  refine HG.out.mono ?_
  rintro e w1 ⟨rfl, hw⟩
  obtain rfl := hw.symm
  go_simp
  refine hK _ _ ⟨rfl, HS.out, ?_⟩
  clear hK K
  repeat (first
    | (refine wpX_silent ?_ (fun K hK => ?_)
       · rfl
       apply Exists.intro
       refine ⟨fun w' => ?_, ?_⟩
       · go_simp
         exact ⟨rfl, rfl⟩
       go_simp
       refine hK _ _ ?_
       clear hK K)
    | (refine wpX_read ?_ (fun K hK => ?_)
       · rfl
       apply Exists.intro
       refine ⟨?_, ?_⟩
       · go_simp
         exact ⟨rfl, rfl⟩
       go_simp
       refine hK _ _ ?_
       clear hK K)
    | (refine wpX_float ?_ (fun K hK => ?_)
       · rfl
       apply Exists.intro
       refine ⟨fun w' hw' => ?_, ?_⟩
       · try dsimp only at hw'
         go_simp
         exact ⟨rfl, rfl⟩
       go_simp
       refine hK _ _ ?_
       clear hK K)
    | (refine wpX_not ?_ (fun K hK => ?_)
       · rfl
       go_simp
       refine hK _ _ ?_
       clear hK K))
  refine wpX_heavy rfl (fun K hK => ?_)
  go_wp2_with (fail)
  refine HP.out.mono ?_
  rintro e w2 ⟨v, rfl, hm, hv⟩
  have HM := Lib.hid hm
  have HV := Lib.hid hv
  have HB2 := Lib.hid (hm.2.blk HB.out HNE.out)
  clear hm hv
  go_simp
  refine hK _ _ ⟨rfl, ?_⟩
  clear hK K
  repeat (first
    | (refine wpX_silent ?_ (fun K hK => ?_)
       · rfl
       apply Exists.intro
       refine ⟨fun w' => ?_, ?_⟩
       · go_simp
         exact ⟨rfl, rfl⟩
       go_simp
       refine hK _ _ ?_
       clear hK K)
    | (refine wpX_read ?_ (fun K hK => ?_)
       · rfl
       apply Exists.intro
       refine ⟨?_, ?_⟩
       · go_simp
         exact ⟨rfl, rfl⟩
       go_simp
       refine hK _ _ ?_
       clear hK K)
    | (refine wpX_float ?_ (fun K hK => ?_)
       · rfl
       apply Exists.intro
       refine ⟨fun w' hw' => ?_, ?_⟩
       · try dsimp only at hw'
         go_simp
         exact ⟨rfl, rfl⟩
       go_simp
       refine hK _ _ ?_
       clear hK K)
    | (refine wpX_not ?_ (fun K hK => ?_)
       · rfl
       go_simp
       refine hK _ _ ?_
       clear hK K))
  refine wpX_heavy rfl (fun K hK => ?_)
  refine wp_store_cell _ _ _ rfl b o v rfl rfl (HONE.out _ _ _ _ HV.out) _ cs HB2.out (by rw [HN.out]; exact HO.out) (by kernel_rfl) ?_
  go_simp
  refine hK _ _ ⟨rfl, ?_⟩
  clear hK K
  refine wpX_nil (hQ' _ _ ?_)
  go_wp2
  go_end0
  have hk : Kept w2 (w2.setCell ⟨b, o, none⟩ v) (fun k => k = b) := (Kept.refl w2 (fun k => k = b)).setCell (p := ⟨b, o, none⟩) (.inl rfl) v
  have hbl := blk_lt HB.out
  refine ⟨rfl, v, ?_, ?_, blk_set HB2.out o v, ?_⟩
  · obtain ⟨a, h1, h2, h3⟩ := HM.out.1
    exact ⟨a, hk.blk h1 (Ne.symm HNE.out), h2, h3⟩
  · refine Kept.trans (G := fun k => k = b) ?_ hk (fun k hk => .inl (.inr hk))
    have h := HM.out.2
    exact ⟨h.os, h.tape, h.output, h.size, fun k hk hn => h.block k hk (fun e => hn (.inl e))⟩
  · have hsz : (w2.setCell ⟨b, o, none⟩ v).heap.size = w2.heap.size := by simp [World.setCell]
    refine HF.out.mono (fun k hk => ⟨hk.1, by rw [hsz]; exact hk.2⟩) (HF.out.keep HV.out (fun k h1 h2 => hk.block k h1 (fun e => ?_)))
    have := h2.1
    have hbl2 : b < w.drew.heap.size := hbl
    omega


theorem field_int_thing {α β : Type} (c : Cod β) (hf : Fair c) (hone : One c) (o N : Nat) (ho : o < N) (fld : α → β) (set : β → α → α) (g cv : Value) (w : World) (hc : IsCodec w cv c) (hg : GetterOk 103 N g o) :
    Calls Try.prog 42 #[g, cv] w fun r w' => ∃ v, r = .returned v ∧ IsPart w' 103 N v (oneP c o fld set) ∧ Kept w w' (fun _ => False) := by
  obtain ⟨pv, gv, rfl, hp, hgt⟩ := hc
  have hg' := hg
  obtain ⟨fg, rfl, hge, _⟩ := hg'
  have HP := Lib.hid hp
  have HG := Lib.hid hgt
  have HGG := Lib.hid hg
  have HF := Lib.hid hf
  have HONE := Lib.hid hone
  have HO := Lib.hid ho
  clear hp hgt hg hf hone hge ho
  go_enter Try.func42, Try.ntmps42
  go_wp2
  refine bodyPost_ret (results_cell_row rfl _ _ _ _ _ _ _ rfl (heap_alloc3_new _ _ _ _) Try.underlying112 rfl (by kernel_rfl)) rfl ?_
  have hk : Kept w (((w.alloc (.cells #[.func (.func fg) #[] #[]] 114)).alloc (.cells #[pv, gv] 34)).alloc (.cells #[.func (.func 74) #[] #[.pointer (some ⟨w.heap.size + 1, 0, none⟩), .pointer (some ⟨w.heap.size, 0, none⟩)], .func (.func 75) #[] #[.pointer (some ⟨w.heap.size + 1, 0, none⟩), .pointer (some ⟨w.heap.size, 0, none⟩)]] 112)) (fun _ => False) := (((Kept.refl _ _).alloc _).alloc _).alloc _
  have hs := (Same.refl w).kept hk (fun _ h => h.elim)
  have b1 : (((w.alloc (.cells #[.func (.func fg) #[] #[]] 114)).alloc (.cells #[pv, gv] 34)).alloc (.cells #[.func (.func 74) #[] #[.pointer (some ⟨w.heap.size + 1, 0, none⟩), .pointer (some ⟨w.heap.size, 0, none⟩)], .func (.func 75) #[] #[.pointer (some ⟨w.heap.size + 1, 0, none⟩), .pointer (some ⟨w.heap.size, 0, none⟩)]] 112)).heap[w.heap.size + 1]? = some (.cells #[pv, gv] 34 (0, 0)) := (Below.heap_alloc _ _ _ (by simp)).trans (heap_alloc2_new w _ _)
  have b2 : (((w.alloc (.cells #[.func (.func fg) #[] #[]] 114)).alloc (.cells #[pv, gv] 34)).alloc (.cells #[.func (.func 74) #[] #[.pointer (some ⟨w.heap.size + 1, 0, none⟩), .pointer (some ⟨w.heap.size, 0, none⟩)], .func (.func 75) #[] #[.pointer (some ⟨w.heap.size + 1, 0, none⟩), .pointer (some ⟨w.heap.size, 0, none⟩)]] 112)).heap[w.heap.size]? = some (.cells #[.func (.func fg) #[] #[]] 114 (0, 0)) := (Below.heap_alloc _ _ _ (by simp; omega)).trans ((Below.heap_alloc _ _ _ (by simp)).trans (heap_alloc_new w _))
  exact ⟨_, rfl, ⟨_, _, rfl, field_put_int_thing c HF.out HONE.out o N HO.out fld set _ _ _ pv gv _ _ _ (HP.out.later hs) HGG.out b1 b2, field_get_int_thing c HF.out HONE.out o N HO.out fld set _ _ _ pv gv _ _ _ (HG.out.later hs) HGG.out b1 b2⟩, hk⟩

theorem field_str_thing {α β : Type} (c : Cod β) (hf : Fair c) (hone : One c) (o N : Nat) (ho : o < N) (fld : α → β) (set : β → α → α) (g cv : Value) (w : World) (hc : IsCodec w cv c) (hg : GetterOk 103 N g o) :
    Calls Try.prog 44 #[g, cv] w fun r w' => ∃ v, r = .returned v ∧ IsPart w' 103 N v (oneP c o fld set) ∧ Kept w w' (fun _ => False) := by
  obtain ⟨pv, gv, rfl, hp, hgt⟩ := hc
  have hg' := hg
  obtain ⟨fg, rfl, hge, _⟩ := hg'
  have HP := Lib.hid hp
  have HG := Lib.hid hgt
  have HGG := Lib.hid hg
  have HF := Lib.hid hf
  have HONE := Lib.hid hone
  have HO := Lib.hid ho
  clear hp hgt hg hf hone hge ho
  go_enter Try.func44, Try.ntmps44
  go_wp2
  refine bodyPost_ret (results_cell_row rfl _ _ _ _ _ _ _ rfl (heap_alloc3_new _ _ _ _) Try.underlying112 rfl (by kernel_rfl)) rfl ?_
  have hk : Kept w (((w.alloc (.cells #[.func (.func fg) #[] #[]] 116)).alloc (.cells #[pv, gv] 64)).alloc (.cells #[.func (.func 76) #[] #[.pointer (some ⟨w.heap.size + 1, 0, none⟩), .pointer (some ⟨w.heap.size, 0, none⟩)], .func (.func 77) #[] #[.pointer (some ⟨w.heap.size + 1, 0, none⟩), .pointer (some ⟨w.heap.size, 0, none⟩)]] 112)) (fun _ => False) := (((Kept.refl _ _).alloc _).alloc _).alloc _
  have hs := (Same.refl w).kept hk (fun _ h => h.elim)
  have b1 : (((w.alloc (.cells #[.func (.func fg) #[] #[]] 116)).alloc (.cells #[pv, gv] 64)).alloc (.cells #[.func (.func 76) #[] #[.pointer (some ⟨w.heap.size + 1, 0, none⟩), .pointer (some ⟨w.heap.size, 0, none⟩)], .func (.func 77) #[] #[.pointer (some ⟨w.heap.size + 1, 0, none⟩), .pointer (some ⟨w.heap.size, 0, none⟩)]] 112)).heap[w.heap.size + 1]? = some (.cells #[pv, gv] 64 (0, 0)) := (Below.heap_alloc _ _ _ (by simp)).trans (heap_alloc2_new w _ _)
  have b2 : (((w.alloc (.cells #[.func (.func fg) #[] #[]] 116)).alloc (.cells #[pv, gv] 64)).alloc (.cells #[.func (.func 76) #[] #[.pointer (some ⟨w.heap.size + 1, 0, none⟩), .pointer (some ⟨w.heap.size, 0, none⟩)], .func (.func 77) #[] #[.pointer (some ⟨w.heap.size + 1, 0, none⟩), .pointer (some ⟨w.heap.size, 0, none⟩)]] 112)).heap[w.heap.size]? = some (.cells #[.func (.func fg) #[] #[]] 116 (0, 0)) := (Below.heap_alloc _ _ _ (by simp; omega)).trans ((Below.heap_alloc _ _ _ (by simp)).trans (heap_alloc_new w _))
  exact ⟨_, rfl, ⟨_, _, rfl, field_put_str_thing c HF.out HONE.out o N HO.out fld set _ _ _ pv gv _ _ _ (HP.out.later hs) HGG.out b1 b2, field_get_str_thing c HF.out HONE.out o N HO.out fld set _ _ _ pv gv _ _ _ (HG.out.later hs) HGG.out b1 b2⟩, hk⟩

theorem field_ints_thing {α β : Type} (c : Cod β) (hf : Fair c) (hone : One c) (o N : Nat) (ho : o < N) (fld : α → β) (set : β → α → α) (g cv : Value) (w : World) (hc : IsCodec w cv c) (hg : GetterOk 103 N g o) :
    Calls Try.prog 46 #[g, cv] w fun r w' => ∃ v, r = .returned v ∧ IsPart w' 103 N v (oneP c o fld set) ∧ Kept w w' (fun _ => False) := by
  obtain ⟨pv, gv, rfl, hp, hgt⟩ := hc
  have hg' := hg
  obtain ⟨fg, rfl, hge, _⟩ := hg'
  have HP := Lib.hid hp
  have HG := Lib.hid hgt
  have HGG := Lib.hid hg
  have HF := Lib.hid hf
  have HONE := Lib.hid hone
  have HO := Lib.hid ho
  clear hp hgt hg hf hone hge ho
  go_enter Try.func46, Try.ntmps46
  go_wp2
  refine bodyPost_ret (results_cell_row rfl _ _ _ _ _ _ _ rfl (heap_alloc3_new _ _ _ _) Try.underlying112 rfl (by kernel_rfl)) rfl ?_
  have hk : Kept w (((w.alloc (.cells #[.func (.func fg) #[] #[]] 118)).alloc (.cells #[pv, gv] 40)).alloc (.cells #[.func (.func 78) #[] #[.pointer (some ⟨w.heap.size + 1, 0, none⟩), .pointer (some ⟨w.heap.size, 0, none⟩)], .func (.func 79) #[] #[.pointer (some ⟨w.heap.size + 1, 0, none⟩), .pointer (some ⟨w.heap.size, 0, none⟩)]] 112)) (fun _ => False) := (((Kept.refl _ _).alloc _).alloc _).alloc _
  have hs := (Same.refl w).kept hk (fun _ h => h.elim)
  have b1 : (((w.alloc (.cells #[.func (.func fg) #[] #[]] 118)).alloc (.cells #[pv, gv] 40)).alloc (.cells #[.func (.func 78) #[] #[.pointer (some ⟨w.heap.size + 1, 0, none⟩), .pointer (some ⟨w.heap.size, 0, none⟩)], .func (.func 79) #[] #[.pointer (some ⟨w.heap.size + 1, 0, none⟩), .pointer (some ⟨w.heap.size, 0, none⟩)]] 112)).heap[w.heap.size + 1]? = some (.cells #[pv, gv] 40 (0, 0)) := (Below.heap_alloc _ _ _ (by simp)).trans (heap_alloc2_new w _ _)
  have b2 : (((w.alloc (.cells #[.func (.func fg) #[] #[]] 118)).alloc (.cells #[pv, gv] 40)).alloc (.cells #[.func (.func 78) #[] #[.pointer (some ⟨w.heap.size + 1, 0, none⟩), .pointer (some ⟨w.heap.size, 0, none⟩)], .func (.func 79) #[] #[.pointer (some ⟨w.heap.size + 1, 0, none⟩), .pointer (some ⟨w.heap.size, 0, none⟩)]] 112)).heap[w.heap.size]? = some (.cells #[.func (.func fg) #[] #[]] 118 (0, 0)) := (Below.heap_alloc _ _ _ (by simp; omega)).trans ((Below.heap_alloc _ _ _ (by simp)).trans (heap_alloc_new w _))
  exact ⟨_, rfl, ⟨_, _, rfl, field_put_ints_thing c HF.out HONE.out o N HO.out fld set _ _ _ pv gv _ _ _ (HP.out.later hs) HGG.out b1 b2, field_get_ints_thing c HF.out HONE.out o N HO.out fld set _ _ _ pv gv _ _ _ (HG.out.later hs) HGG.out b1 b2⟩, hk⟩

theorem field_bool_thing {α β : Type} (c : Cod β) (hf : Fair c) (hone : One c) (o N : Nat) (ho : o < N) (fld : α → β) (set : β → α → α) (g cv : Value) (w : World) (hc : IsCodec w cv c) (hg : GetterOk 103 N g o) :
    Calls Try.prog 48 #[g, cv] w fun r w' => ∃ v, r = .returned v ∧ IsPart w' 103 N v (oneP c o fld set) ∧ Kept w w' (fun _ => False) := by
  obtain ⟨pv, gv, rfl, hp, hgt⟩ := hc
  have hg' := hg
  obtain ⟨fg, rfl, hge, _⟩ := hg'
  have HP := Lib.hid hp
  have HG := Lib.hid hgt
  have HGG := Lib.hid hg
  have HF := Lib.hid hf
  have HONE := Lib.hid hone
  have HO := Lib.hid ho
  clear hp hgt hg hf hone hge ho
  go_enter Try.func48, Try.ntmps48
  go_wp2
  refine bodyPost_ret (results_cell_row rfl _ _ _ _ _ _ _ rfl (heap_alloc3_new _ _ _ _) Try.underlying112 rfl (by kernel_rfl)) rfl ?_
  have hk : Kept w (((w.alloc (.cells #[.func (.func fg) #[] #[]] 120)).alloc (.cells #[pv, gv] 78)).alloc (.cells #[.func (.func 80) #[] #[.pointer (some ⟨w.heap.size + 1, 0, none⟩), .pointer (some ⟨w.heap.size, 0, none⟩)], .func (.func 81) #[] #[.pointer (some ⟨w.heap.size + 1, 0, none⟩), .pointer (some ⟨w.heap.size, 0, none⟩)]] 112)) (fun _ => False) := (((Kept.refl _ _).alloc _).alloc _).alloc _
  have hs := (Same.refl w).kept hk (fun _ h => h.elim)
  have b1 : (((w.alloc (.cells #[.func (.func fg) #[] #[]] 120)).alloc (.cells #[pv, gv] 78)).alloc (.cells #[.func (.func 80) #[] #[.pointer (some ⟨w.heap.size + 1, 0, none⟩), .pointer (some ⟨w.heap.size, 0, none⟩)], .func (.func 81) #[] #[.pointer (some ⟨w.heap.size + 1, 0, none⟩), .pointer (some ⟨w.heap.size, 0, none⟩)]] 112)).heap[w.heap.size + 1]? = some (.cells #[pv, gv] 78 (0, 0)) := (Below.heap_alloc _ _ _ (by simp)).trans (heap_alloc2_new w _ _)
  have b2 : (((w.alloc (.cells #[.func (.func fg) #[] #[]] 120)).alloc (.cells #[pv, gv] 78)).alloc (.cells #[.func (.func 80) #[] #[.pointer (some ⟨w.heap.size + 1, 0, none⟩), .pointer (some ⟨w.heap.size, 0, none⟩)], .func (.func 81) #[] #[.pointer (some ⟨w.heap.size + 1, 0, none⟩), .pointer (some ⟨w.heap.size, 0, none⟩)]] 112)).heap[w.heap.size]? = some (.cells #[.func (.func fg) #[] #[]] 120 (0, 0)) := (Below.heap_alloc _ _ _ (by simp; omega)).trans ((Below.heap_alloc _ _ _ (by simp)).trans (heap_alloc_new w _))
  exact ⟨_, rfl, ⟨_, _, rfl, field_put_bool_thing c HF.out HONE.out o N HO.out fld set _ _ _ pv gv _ _ _ (HP.out.later hs) HGG.out b1 b2, field_get_bool_thing c HF.out HONE.out o N HO.out fld set _ _ _ pv gv _ _ _ (HG.out.later hs) HGG.out b1 b2⟩, hk⟩

end Go.Proofs.Ytcnikobmepjgcaa.Codec
