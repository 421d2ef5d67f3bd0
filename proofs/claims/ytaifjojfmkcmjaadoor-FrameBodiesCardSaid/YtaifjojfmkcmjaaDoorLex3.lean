/-
  A region that draws its order and holds two operations that turn the world in either order: walked twice, once for each order of the two. No program's text is in it.
-/
import Derived.Test.YtaifjojfmkcmjaaDoorLex2
namespace Go.Proofs.YtaifjojfmkcmjaaDoorLex2
set_option linter.unusedVariables false
set_option linter.unusedSimpArgs false

/-- The operations of a list of places, with their classes. -/
def pick (zl : List (Nat × Oper)) (idx : List Nat) : List (Nat × Oper) := idx.filterMap (zl[·]?)

section
variable {P : Program} {md : Region.Mode} {S : World → Prop} {Q' : Act → World → Prop}

/-- k may come first: what it needs is done, and it commutes with all that is to come and doesn't need it. -/
def headB (md : Region.Mode) (A : List (List Nat)) (ops : Array Oper) (cls : List Nat) (done : List Nat) (k : Nat) (rest : List Nat) : Bool :=
  match ops[k]? with
  | none => false
  | some o => noSelect o.op && !(done.contains k) && (o.after.all fun e => !Region.binds md e || (done.contains e.on && decide (e.on < ops.size))) &&
      rest.all fun j => j != k && ((A.getD j []).contains k || (match ops[j]? with | none => false | some oj => noSelect oj.op && o.apart ops oj && compat (cls.getD k 2) (cls.getD j 2)))
def schedB (md : Region.Mode) (A : List (List Nat)) (ops : Array Oper) (cls : List Nat) : List Nat → List Nat → List Nat → Bool
  | _, [], _ => true
  | done, k :: r, rest => headB md A ops cls done k (r ++ rest) && schedB md A ops cls (k :: done) r rest

/-- Just what is in 'done' is listed. -/
def Done (ops : Array Oper) (done : List Nat) (listed : Array Bool) : Prop := listed.size = ops.size ∧ ∀ j, j < ops.size → listed.getD j false = decide (j ∈ done)
def Covers (ops : Array Oper) (done idx : List Nat) : Prop := (∀ j, j < ops.size → j ∈ done ∨ j ∈ idx) ∧ ∀ j ∈ idx, j < ops.size
theorem Done.add {ops : Array Oper} {done : List Nat} {listed : Array Bool} (h : Done ops done listed) {k : Nat} (hk : k < ops.size) : Done ops (k :: done) (listed.setIfInBounds k true) := by
  refine ⟨by simpa using h.1, fun j hj => ?_⟩
  by_cases e : k = j
  · subst e
    simp [h.1, hk]
  · rw [getD_set_ne false e, h.2 j hj]
    simp [Ne.symm e]

variable {ops : Array Oper} {A : List (List Nat)} {cls : List Nat}
theorem run_head (hA : AccOk md ops A) (hL : Late md (fun i => cls.getD i 2) ops) (hns : ∀ (j : Nat) (o : Oper) cs b, ops[j]? = some o → o.op ≠ .select cs b) {done rest : List Nat} {k : Nat} {listed : Array Bool} {o : Oper} {n : Nat} {a : Act} {w : World} (hk : ops[k]? = some o) (hB : headB md A ops cls done k rest = true) (hd : Done ops done listed) (hc : Covers ops done (k :: rest)) (hsh : Shut md ops listed)
    (hw : Floats S (fun i => cls.getD i 2) ops listed w) (H : stepX P ops S (cls.getD k 2) o (wpAnyX P md ops S (fun i => cls.getD i 2) Q' n (listed.setIfInBounds k true)) a w) :
    wpAnyX P md ops S (fun i => cls.getD i 2) Q' (n + 1) listed a w := by
  have hklt := (Array.getElem?_eq_some_iff.1 hk).1
  unfold headB at hB
  rw [hk] at hB
  simp only [Bool.and_eq_true] at hB
  obtain ⟨⟨⟨_, hnd⟩, hedge⟩, hpair⟩ := hB
  have hlk : listed.getD k false = false := by
    rw [hd.2 k hklt]
    simpa using hnd
  have hun : listed.getD k true = false := by
    have := hd.1
    simp [this, hklt] at hlk ⊢
    exact hlk
  have hready : k ∈ Region.ready md ops listed := mem_ready.2 ⟨hun, o, hk, fun e he hb => by
    have h1 := Array.all_eq_true'.1 hedge e he
    simp only [hb, Bool.not_true, Bool.false_or, Bool.and_eq_true, decide_eq_true_eq] at h1
    rw [hd.2 e.on h1.2]
    simpa using h1.1⟩
  refine firstX (cls := fun i => cls.getD i 2) hL hk hns n listed a w hsh hw ?_ hready H
  intro j oj hj hne hjun hno
  have hjlt := (Array.getElem?_eq_some_iff.1 hj).1
  have h1 := getD_both' hjun
  rw [hd.2 j hjlt] at h1
  have hj2 : j ∈ rest := by
    rcases hc.1 j hjlt with h | h
    · simp [h] at h1
    · exact (List.mem_cons.1 h).resolve_left hne
  have h2 := List.all_eq_true.1 hpair j hj2
  simp only [Bool.and_eq_true, Bool.or_eq_true] at h2
  rcases h2.2 with h3 | h3
  · exfalso
    cases hAj : A[j]? with
    | none => simp [List.getD, hAj] at h3
    | some lj =>
      rw [List.getD, hAj] at h3
      exact hno (hA j lj hAj k (by simpa using h3))
  · rw [hj] at h3
    simp only [Bool.and_eq_true] at h3
    exact ⟨h3.1.2, h3.2⟩
theorem shut_add {done rest : List Nat} {k : Nat} {listed : Array Bool} {o : Oper} (hk : ops[k]? = some o) (hB : headB md A ops cls done k rest = true) (hd : Done ops done listed) (hsh : Shut md ops listed) : Shut md ops (listed.setIfInBounds k true) := by
  have hklt := (Array.getElem?_eq_some_iff.1 hk).1
  refine hsh.set ?_
  unfold headB at hB
  rw [hk] at hB
  simp only [Bool.and_eq_true] at hB
  obtain ⟨⟨⟨_, hnd⟩, hedge⟩, _⟩ := hB
  have hlk : listed.getD k false = false := by
    rw [hd.2 k hklt]
    simpa using hnd
  have hun : listed.getD k true = false := by
    have := hd.1
    simp [this, hklt] at hlk ⊢
    exact hlk
  exact mem_ready.2 ⟨hun, o, hk, fun e he hb => by
    have h1 := Array.all_eq_true'.1 hedge e he
    simp only [hb, Bool.not_true, Bool.false_or, Bool.and_eq_true, decide_eq_true_eq] at h1
    rw [hd.2 e.on h1.2]
    simpa using h1.1⟩
theorem ready_of_head {done rest : List Nat} {k : Nat} {listed : Array Bool} {o : Oper} (hk : ops[k]? = some o) (hB : headB md A ops cls done k rest = true) (hd : Done ops done listed) : k ∈ Region.ready md ops listed := by
  have hklt := (Array.getElem?_eq_some_iff.1 hk).1
  unfold headB at hB
  rw [hk] at hB
  simp only [Bool.and_eq_true] at hB
  obtain ⟨⟨⟨_, hnd⟩, hedge⟩, _⟩ := hB
  have hlk : listed.getD k false = false := by
    rw [hd.2 k hklt]
    simpa using hnd
  have hun : listed.getD k true = false := by
    have := hd.1
    simp [this, hklt] at hlk ⊢
    exact hlk
  exact mem_ready.2 ⟨hun, o, hk, fun e he hb => by
    have h1 := Array.all_eq_true'.1 hedge e he
    simp only [hb, Bool.not_true, Bool.false_or, Bool.and_eq_true, decide_eq_true_eq] at h1
    rw [hd.2 e.on h1.2]
    simpa using h1.1⟩
theorem Covers.next {done idx : List Nat} {k : Nat} (h : Covers ops done (k :: idx)) : Covers ops (k :: done) idx := by
  refine ⟨fun j hj => ?_, fun j hj => h.2 j (List.mem_cons_of_mem _ hj)⟩
  rcases h.1 j hj with h1 | h1
  · exact .inl (List.mem_cons_of_mem _ h1)
  · rcases List.mem_cons.1 h1 with rfl | h1
    · exact .inl List.mem_cons_self
    · exact .inr h1
theorem pick_cons {l : List Oper} (hl : cls.length = l.length) {k : Nat} {o : Oper} (hk : l[k]? = some o) (idx : List Nat) : pick (cls.zip l) (k :: idx) = (cls.getD k 2, o) :: pick (cls.zip l) idx := by
  have hlt := (List.getElem?_eq_some_iff.1 hk).1
  have e : (cls.zip l)[k]? = some (cls.getD k 2, o) := by
    rw [List.getElem?_zip_eq_some]
    refine ⟨?_, hk⟩
    rw [List.getD_eq_getElem?_getD, List.getElem?_eq_getElem (by omega)]
    rfl
  simp [pick, e]

/-- A list of places in an order that any order comes down to. -/
theorem anyX_of_list {l : List Oper} (hl : cls.length = l.length) (hA : AccOk md l.toArray A) (hL : Late md (fun i => cls.getD i 2) l.toArray) (hns : ∀ (j : Nat) (o : Oper) cs b, l.toArray[j]? = some o → o.op ≠ .select cs b) (R : Act → World → Prop) (rest : List Nat) :
    ∀ (idx done : List Nat) (listed : Array Bool) (a : Act) (w : World), schedB md A l.toArray cls done idx rest = true → Done l.toArray done listed → Covers l.toArray done (idx ++ rest) → Shut md l.toArray listed → Floats S (fun i => cls.getD i 2) l.toArray listed w →
      (∀ listed a w, Done l.toArray (idx.reverse ++ done) listed → Shut md l.toArray listed → Floats S (fun i => cls.getD i 2) l.toArray listed w → R a w → wpAnyX P md l.toArray S (fun i => cls.getD i 2) Q' rest.length listed a w) →
      wpX P l.toArray S R (pick (cls.zip l) idx) a w → wpAnyX P md l.toArray S (fun i => cls.getD i 2) Q' (idx.length + rest.length) listed a w
  | [], done, listed, a, w, hB, hd, hc, hsh, hw, hR, h => by
    simp only [List.length_nil, Nat.zero_add]
    exact hR listed a w (by simpa using hd) hsh hw h
  | k :: idx, done, listed, a, w, hB, hd, hc, hsh, hw, hR, h => by
    simp only [schedB, Bool.and_eq_true] at hB
    have hklt : k < l.toArray.size := hc.2 k (by simp)
    have hk : l.toArray[k]? = some l.toArray[k] := Array.getElem?_eq_getElem hklt
    have hk' : l[k]? = some l.toArray[k] := by rw [← hk]; simp
    rw [pick_cons hl hk'] at h
    have e : (k :: idx).length + rest.length = (idx.length + rest.length) + 1 := by simp; omega
    rw [e]
    refine run_head hA hL hns hk hB.1 hd (by simpa using hc) hsh hw ?_
    simp only [wpX] at h
    refine stepX_mono (fun a' w' hb' h' => ?_) h
    exact anyX_of_list hl hA hL hns R rest idx (k :: done) _ a' w' hB.2 (hd.add hklt) (by simpa using hc.next) (shut_add hk hB.1 hd hsh) (hw.behind hL hsh (ready_of_head hk hB.1 hd) hb')
      (fun listed a w h1 h2 h3 h4 => hR listed a w (by simpa [List.append_assoc] using h1) h2 h3 h4) h'

/-- Two operations that are ready, and all that is to come needs one of them. -/
def forkB (md : Region.Mode) (A : List (List Nat)) (ops : Array Oper) (cls : List Nat) (pre mid post : List Nat) (c m : Nat) : Bool :=
  schedB md A ops cls [] pre (c :: mid ++ m :: post) &&
  headB md A ops cls pre.reverse c [] && headB md A ops cls pre.reverse m [] &&
  schedB md A ops cls (c :: pre.reverse) (mid ++ m :: post) [] && schedB md A ops cls (m :: pre.reverse) (c :: mid ++ post) [] &&
  ((mid ++ post).all fun i => (A.getD i []).contains c || (A.getD i []).contains m) &&
  ((List.range ops.size).all fun j => (pre ++ (c :: mid ++ m :: post)).contains j) && (ops.all fun o => noSelect o.op) && ((pre ++ (c :: mid ++ m :: post)).all fun j => decide (j < ops.size)) && decide ((pre ++ (c :: mid ++ m :: post)).length = ops.size)

theorem listed_not_ready {i k : Nat} {listed : Array Bool} (hA : AccOk md ops A) (hsh : Shut md ops listed) (hi : i ∈ Region.ready md ops listed) (hk : (A.getD i []).contains k = true) : listed.getD k false = true := by
  obtain ⟨_, oi, hoi, hall⟩ := mem_ready.1 hi
  cases hAi : A[i]? with
  | none => simp [List.getD, hAi] at hk
  | some li =>
    rw [List.getD, hAi] at hk
    exact hsh.anc (hA i li hAi k (by simpa using hk)) (fun oj hj e he hb => by
      have : oj = oi := Option.some.inj (hj.symm.trans hoi)
      subst this
      exact hall e he hb)
end

section
variable {P : Program}
/-- A REGION THAT DRAWS ITS ORDER, with two operations in either order. -/
theorem wp_region_fork {id : Nat} {l : List Oper} {Q : Exit → Act → World → Prop} {a : Act} {w : World} (S : World → Prop) (cls pre mid post : List Nat) (c m : Nat) (hm : P.follows .mixedOrders = true) (hlen : cls.length = l.length)
    (hB : (lateB (ancs .any l []) cls && forkB .any (ancs .any l []) l.toArray cls pre mid post c m) = true) (hS : S w.drew)
    (h : ∀ Q' : Act → World → Prop, (∀ a w, Q .normal a w → Q' a w) → wpX P l.toArray S (fun a w => wpX P l.toArray S Q' (pick (cls.zip l) (c :: mid ++ m :: post)) a w ∧ wpX P l.toArray S Q' (pick (cls.zip l) (m :: c :: mid ++ post)) a w) (pick (cls.zip l) pre) a w.drew) : (Code.region id l.toArray true).wp P Q a w := by
  simp only [Bool.and_eq_true] at hB
  refine wp_region_any hm ?_
  have hA : AccOk .any l.toArray (ancs .any l []) := ancs_ok l [] (by simp) (fun j l h => by cases h)
  have hL : Late .any (fun i => cls.getD i 2) l.toArray := lateB_spec hA (by simpa using hlen) hB.1
  have hf := hB.2
  unfold forkB at hf
  simp only [Bool.and_eq_true] at hf
  obtain ⟨⟨⟨⟨⟨⟨⟨⟨⟨h1, h2⟩, h3⟩, h4⟩, h5⟩, h6⟩, h7⟩, h8⟩, h9⟩, h10⟩ := hf
  have h10 := of_decide_eq_true h10
  have hns : ∀ (j : Nat) (o : Oper) cs b, l.toArray[j]? = some o → o.op ≠ .select cs b := fun j o cs b hj hs => by
    have := Array.all_eq_true'.1 h8 o (Array.mem_of_getElem? hj)
    rw [hs] at this
    cases this
  have hsh : Shut .any l.toArray (Array.replicate l.toArray.size false) := fun j oj hj hl => by
    have h0 : (Array.replicate l.toArray.size false).getD j false = false := by
      rw [Array.getD_eq_getD_getElem?, Array.getElem?_replicate]
      split <;> rfl
    rw [h0] at hl
    cases hl
  have hcov : Covers l.toArray [] (pre ++ (c :: mid ++ m :: post)) := ⟨fun j hj => .inr (by simpa using List.all_eq_true.1 h7 j (List.mem_range.2 hj)), fun j hj => by simpa using List.all_eq_true.1 h9 j hj⟩
  refine wpAny_of_X (S := S) (Q' := fun a w => Q .normal a w) (cls := fun i => cls.getD i 2) (fun _ _ h => h) hL _ _ a _ hsh (fun _ => hS) ?_
  have hcl : c < l.toArray.size := hcov.2 c (by simp)
  have hml : m < l.toArray.size := hcov.2 m (by simp)
  have hoc : l.toArray[c]? = some l.toArray[c] := Array.getElem?_eq_getElem hcl
  have hom : l.toArray[m]? = some l.toArray[m] := Array.getElem?_eq_getElem hml
  have hoc' : l[c]? = some l.toArray[c] := by rw [← hoc]; simp
  have hom' : l[m]? = some l.toArray[m] := by rw [← hom]; simp
  have hX := anyX_of_list (P := P) (S := S) (Q' := fun a w => Q .normal a w) (md := .any) hlen hA hL hns _ (c :: mid ++ m :: post) pre [] (Array.replicate l.toArray.size false) a w.drew h1 ⟨by simp, fun j hj => by simp at hj; simp [hj]⟩ hcov hsh (fun _ => hS) ?_ (h _ (fun _ _ h => h))
  · have e : pre.length + (c :: mid ++ m :: post).length = l.toArray.size := by rw [← h10]; simp
    rw [e] at hX
    exact hX
  · intro listed a w hd hsh hw hR
    have hd' : Done l.toArray pre.reverse listed := by simpa using hd
    have hlen2 : (c :: mid ++ m :: post).length = ((mid ++ m :: post).length) + 1 := by simp
    have hlen3 : (c :: mid ++ m :: post).length = ((c :: mid ++ post).length) + 1 := by simp; omega
    have hcr := ready_of_head hoc h2 hd'
    have hmr := ready_of_head hom h3 hd'
    have hcov' : Covers l.toArray pre.reverse (c :: mid ++ m :: post) := by
      refine ⟨fun j hj => ?_, fun j hj => hcov.2 j (List.mem_append_right _ hj)⟩
      rcases hcov.1 j hj with h | h
      · cases h
      · rcases List.mem_append.1 h with h | h
        · exact .inl (by simpa using h)
        · exact .inr h
    have hun : ∀ k, k ∈ Region.ready .any l.toArray listed → listed.getD k false = false := fun k hk => getD_both' (mem_ready.1 hk).1
    rw [hlen2]
    refine ⟨fun h => (by rw [h] at hcr; cases hcr), fun i hi o ho => ?_⟩
    by_cases hic : i = c
    · subst hic
      have : o = l.toArray[i] := Option.some.inj (ho.symm.trans hoc)
      subst this
      have hr := hR.1
      rw [List.cons_append, pick_cons hlen hoc'] at hr
      simp only [wpX] at hr
      refine stepX_mono (fun a' w' hb' h' => ?_) hr
      have := anyX_of_list (P := P) (S := S) (Q' := fun a w => Q .normal a w) (md := .any) hlen hA hL hns (fun a w => Q .normal a w) [] (mid ++ m :: post) (i :: pre.reverse) _ a' w' h4 (hd'.add hcl) (by simpa using hcov'.next) (shut_add hoc h2 hd' hsh) (hw.behind hL hsh hcr hb') (fun listed a w h1 h2 h3 h4 => ?_) h'
      · simpa using this
      · refine ⟨?_, h4⟩
        cases hr : Region.ready .any l.toArray listed with
        | nil => rfl
        | cons j r =>
          have hj : j ∈ Region.ready .any l.toArray listed := by rw [hr]; exact List.mem_cons_self
          obtain ⟨hju, oj, hoj, _⟩ := mem_ready.1 hj
          have hjlt := (Array.getElem?_eq_some_iff.1 hoj).1
          have := getD_both' hju
          rw [h1.2 j hjlt] at this
          exfalso
          rcases hcov'.1 j hjlt with h | h
          · simp at this; simp [this] at h
          · simp at this h
            rcases h with h | h | h | h <;> simp_all
    · by_cases him : i = m
      · subst him
        have : o = l.toArray[i] := Option.some.inj (ho.symm.trans hom)
        subst this
        have hr := hR.2
        rw [List.cons_append, pick_cons hlen hom'] at hr
        simp only [wpX] at hr
        refine stepX_mono (fun a' w' hb' h' => ?_) hr
        have hcv : Covers l.toArray (i :: pre.reverse) (c :: mid ++ post) := by
          refine ⟨fun j hj => ?_, fun j hj => hcov'.2 j ?_⟩
          · rcases hcov'.1 j hj with h | h
            · exact .inl (List.mem_cons_of_mem _ h)
            · simp at h ⊢
              rcases h with h | h | h | h <;> simp [h]
          · simp at hj ⊢
            rcases hj with h | h | h <;> simp [h]
        have := anyX_of_list (P := P) (S := S) (Q' := fun a w => Q .normal a w) (md := .any) hlen hA hL hns (fun a w => Q .normal a w) [] (c :: mid ++ post) (i :: pre.reverse) _ a' w' h5 (hd'.add hml) (by simpa using hcv) (shut_add hom h3 hd' hsh) (hw.behind hL hsh hmr hb') (fun listed a w h1 h2 h3 h4 => ?_) h'
        · have e : (c :: mid ++ post).length + ([] : List Nat).length = (mid ++ i :: post).length := by simp; omega
          rw [e] at this
          exact this
        · refine ⟨?_, h4⟩
          cases hr : Region.ready .any l.toArray listed with
          | nil => rfl
          | cons j r =>
            have hj : j ∈ Region.ready .any l.toArray listed := by rw [hr]; exact List.mem_cons_self
            obtain ⟨hju, oj, hoj, _⟩ := mem_ready.1 hj
            have hjlt := (Array.getElem?_eq_some_iff.1 hoj).1
            have := getD_both' hju
            rw [h1.2 j hjlt] at this
            exfalso
            rcases hcov'.1 j hjlt with h | h
            · simp at this; simp [this] at h
            · simp at this h
              rcases h with h | h | h | h <;> simp_all
      · exfalso
        have hi0 := hun i hi
        have hilt := (Array.getElem?_eq_some_iff.1 ho).1
        have him2 : i ∈ mid ++ post := by
          rcases hcov'.1 i hilt with h | h
          · rw [hd'.2 i hilt] at hi0
            simp at hi0 h
            exact absurd h hi0
          · simp at h ⊢
            rcases h with h | h | h | h
            · exact absurd h hic
            · exact .inl h
            · exact absurd h him
            · exact .inr h
        have h6' := List.all_eq_true.1 h6 i him2
        simp only [Bool.or_eq_true] at h6'
        rcases h6' with h | h
        · have := listed_not_ready hA hsh hi h
          rw [hun c hcr] at this
          cases this
        · have := listed_not_ready hA hsh hi h
          rw [hun m hmr] at this
          cases this
end
end Go.Proofs.YtaifjojfmkcmjaaDoorLex2
