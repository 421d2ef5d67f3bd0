/-
  A region that draws its order is walked once, in the order of its text: whatever order the tape picks, what unordered operations do commutes. No program's text is in it.
-/
import Derived.Still
import Derived.Tactics
import Derived.WalkKit
namespace Go.Proofs.YtaifjojfmkcmjaaDoorLex2
set_option linter.unusedVariables false
set_option linter.unusedSimpArgs false

section
variable {P : Program} {ops : Array Oper} {md : Region.Mode} {S : World → Prop} {Q' : Act → World → Prop}

def lightUpon (w : World) (v : Value) : Result Next → Prop
  | .ok (.value u) w' => w' = w ∧ u = v
  | .ok .skip w' => w' = w ∧ v = undef
  | _ => False

/-- The operation yields v in each world of S and leaves it; or it isn't wanted. -/
def Lit (P : Program) (ops : Array Oper) (S : World → Prop) (o : Oper) (v : Value) (a : Act) : Prop :=
  (Region.wanted o (yielded ops a.tmps) = true ∧ ∀ w, S w → lightUpon w v ((execOp a.eval o).run P w)) ∨
  (Region.wanted o (yielded ops a.tmps) = false ∧ v = undef)

theorem lightUpon_unique {w : World} {v u : Value} {r : Result Next} (h : lightUpon w v r) (h2 : lightUpon w u r) : v = u := by
  cases r with
  | ok n w' =>
    cases n <;> simp only [lightUpon] at h h2
    case value x => exact h.2.symm.trans h2.2
    case skip => exact h.2.trans h2.2.symm
  | halt x w' => simp only [lightUpon] at h

theorem Lit.unique {o : Oper} {v u : Value} {a : Act} {w : World} (hw : S w) (h : Lit P ops S o v a) (h2 : Lit P ops S o u a) : v = u := by
  rcases h with ⟨h, h1⟩ | ⟨h, rfl⟩ <;> rcases h2 with ⟨k, k1⟩ | ⟨k, rfl⟩
  · exact lightUpon_unique (h1 w hw) (k1 w hw)
  · rw [h] at k; cases k
  · rw [h] at k; cases k
  · rfl

theorem Lit.put {o : Oper} {v x : Value} {a : Act} {d : Option Tmp} (hs : ∀ cs b, o.op ≠ .select cs b) (hd : ∀ t, d = some t → t ∉ o.looksAt ops) : Lit P ops S o v (a.put d x) ↔ Lit P ops S o v a := by
  unfold Lit
  rw [execOp_put o hs a d x hd, wanted_put o a d x hd]

def NoWay : Exit → Act → World → Prop := fun _ _ _ => False

/-- An operation that may turn the world: it comes back, by no panic, defers nothing, and leaves a world of T. -/
def heavyOp (P : Program) (ops : Array Oper) (T : World → Prop) (o : Oper) (K : Act → World → Prop) (a : Act) (w : World) : Prop :=
  if Region.wanted o (yielded ops a.tmps) then o.wp P a w (fun a' w' => a'.defers = a.defers ∧ T w' ∧ K a' w') NoWay
  else K (a.put o.dst undef) w
def Any : World → Prop := fun _ => True

/-- The classes: 0 yields the same in every world; 1 in this one; 3 in the worlds of S; 2 turns the world within S; 4 turns it. -/
def stepX (P : Program) (ops : Array Oper) (S : World → Prop) (c : Nat) (o : Oper) (K : Act → World → Prop) (a : Act) (w : World) : Prop :=
  match c with
  | 0 => ∃ v, Lit P ops Any o v a ∧ K (a.put o.dst v) w
  | 1 => ∃ v, Lit P ops (· = w) o v a ∧ K (a.put o.dst v) w
  | 2 => heavyOp P ops S o K a w
  | 3 => ∃ v, Lit P ops S o v a ∧ K (a.put o.dst v) w
  | _ + 4 => heavyOp P ops Any o K a w
/-- What is known of the world behind an operation: S of it where S was known ahead, or it leaves S. -/
def behind (S : World → Prop) (c : Nat) (w w' : World) : Prop :=
  match c with
  | 2 => S w' ∨ w' = w
  | _ + 4 => True
  | _ => w' = w

theorem put_defers (a : Act) (d : Option Tmp) (v : Value) : (a.put d v).defers = a.defers := by cases d <;> rfl

theorem heavy_mono {o : Oper} {K K' : Act → World → Prop} {a : Act} {w : World} (h : ∀ a w', S w' ∨ w' = w → K a w' → K' a w') (hh : heavyOp P ops S o K a w) : heavyOp P ops S o K' a w := by
  unfold heavyOp at *
  split
  · rename_i hg
    rw [if_pos hg] at hh
    exact Oper.wp_mono (fun a' w' ⟨h1, h2, h3⟩ => ⟨h1, h2, h _ _ (.inl h2) h3⟩) hh
  · rename_i hg
    rw [if_neg hg] at hh
    exact h _ _ (.inr rfl) hh

theorem stepX_mono {c : Nat} {o : Oper} {K K' : Act → World → Prop} {a : Act} {w : World} (h : ∀ a w', behind S c w w' → K a w' → K' a w') (hh : stepX P ops S c o K a w) : stepX P ops S c o K' a w := by
  match c, h, hh with
  | 0, h, ⟨v, h1, h2⟩ => exact ⟨v, h1, h _ _ rfl h2⟩
  | 1, h, ⟨v, h1, h2⟩ => exact ⟨v, h1, h _ _ rfl h2⟩
  | 3, h, ⟨v, h1, h2⟩ => exact ⟨v, h1, h _ _ rfl h2⟩
  | 2, h, hh => exact heavy_mono h hh
  | _ + 4, h, hh => exact heavy_mono (S := Any) (fun a w' _ hk => h a w' trivial hk) hh

/-- It comes back. -/
theorem heavy_ex {o : Oper} {K : Act → World → Prop} {a : Act} {w : World} (hh : heavyOp P ops S o K a w) : ∃ x w', K (a.put o.dst x) w' := by
  unfold heavyOp at hh
  split at hh
  · unfold Oper.wp at hh
    generalize (execOp a.eval o).run P w = r at hh
    cases r with
    | ok n w' =>
      cases n <;> simp only [Oper.upon] at hh
      case value u => exact ⟨u, _, hh.2.2⟩
      case skip => exact ⟨_, _, hh.2.2⟩
      case defer d =>
        have h := hh.1
        rw [put_defers] at h
        have := congrArg List.length h
        simp at this
      case enter f args =>
        obtain ⟨e, w'', fr, hR, _⟩ := hh []
        cases e with
        | returned v => exact ⟨v, _, hR.2.2⟩
        | panicked ch => exact hR.elim
        | outgrown => obtain ⟨_, _, h⟩ := hR; exact h.elim
      case row row args =>
        obtain ⟨v, w'', hR, _⟩ := hh default []
        exact ⟨v, _, hR.2.2⟩
    | halt x w' => cases x <;> simp only [Oper.upon] at hh <;> exact hh.elim
  · exact ⟨_, _, hh⟩

theorem stepX_ex {c : Nat} {o : Oper} {K : Act → World → Prop} {a : Act} {w : World} (hh : stepX P ops S c o K a w) : ∃ x w', K (a.put o.dst x) w' := by
  match c, hh with
  | 0, ⟨v, h1, h2⟩ => exact ⟨v, _, h2⟩
  | 1, ⟨v, h1, h2⟩ => exact ⟨v, _, h2⟩
  | 3, ⟨v, h1, h2⟩ => exact ⟨v, _, h2⟩
  | 2, hh => exact heavy_ex hh
  | _ + 4, hh => exact heavy_ex hh

/-- May the operations of these classes stand in either order? -/
def compat (c d : Nat) : Bool := c == 0 || d == 0 || ((c == 1 || c == 3) && (d == 1 || d == 3)) || (c == 3 && d == 2) || (c == 2 && d == 3)

theorem light_light {Sk Sj : World → Prop} {ok oj : Oper} {K : Act → World → Prop} {a : Act} {w : World} (hap : ok.apart ops oj = true) (hsk : ∀ cs b, ok.op ≠ .select cs b) (hsj : ∀ cs b, oj.op ≠ .select cs b)
    (h : ∃ v, Lit P ops Sk ok v a ∧ ∃ u, Lit P ops Sj oj u (a.put ok.dst v) ∧ K ((a.put ok.dst v).put oj.dst u) w) :
    ∃ u, Lit P ops Sj oj u a ∧ ∃ v, Lit P ops Sk ok v (a.put oj.dst u) ∧ K ((a.put oj.dst u).put ok.dst v) w := by
  obtain ⟨h1, h2, h3⟩ := Oper.apart_spec hap
  obtain ⟨v, hv, u, hu, hk⟩ := h
  exact ⟨u, (Lit.put hsj h1).1 hu, v, (Lit.put hsk h3).2 hv, by rw [← Act.put_comm a v u h2]; exact hk⟩

theorem light_heavy {Sk T : World → Prop} {ok oj : Oper} {K : Act → World → Prop} {a : Act} {w : World} (hap : ok.apart ops oj = true) (hsk : ∀ cs b, ok.op ≠ .select cs b) (hsj : ∀ cs b, oj.op ≠ .select cs b)
    (h : ∃ v, Lit P ops Sk ok v a ∧ heavyOp P ops T oj K (a.put ok.dst v) w) :
    heavyOp P ops T oj (fun a' w' => ∃ v, Lit P ops Sk ok v a' ∧ K (a'.put ok.dst v) w') a w := by
  obtain ⟨h1, h2, h3⟩ := Oper.apart_spec hap
  obtain ⟨v, hv, h⟩ := h
  have keep : ∀ u, Lit P ops Sk ok v (a.put oj.dst u) := fun u => (Lit.put hsk h3).2 hv
  unfold heavyOp at *
  rw [wanted_put oj a ok.dst v h1] at h
  split
  · rename_i hg
    rw [if_pos hg] at h
    unfold Oper.wp at *
    rw [execOp_put oj hsj a ok.dst v h1] at h
    generalize (execOp a.eval oj).run P w = r at *
    cases r with
    | ok n w' =>
      cases n <;> simp only [Oper.upon] at h ⊢
      case value u => exact ⟨put_defers _ _ _, h.2.1, v, keep u, by rw [← Act.put_comm a v u h2]; exact h.2.2⟩
      case skip => exact ⟨put_defers _ _ _, h.2.1, v, keep _, by rw [← Act.put_comm a v undef h2]; exact h.2.2⟩
      case defer d =>
        have h' := h.1
        rw [put_defers, put_defers] at h'
        have := congrArg List.length h'
        simp [put_defers] at this
      case enter f args =>
        refine Calls.mono h fun e w'' he => ?_
        cases e with
        | returned u => exact ⟨put_defers _ _ _, he.2.1, v, keep u, by rw [← Act.put_comm a v u h2]; exact he.2.2⟩
        | panicked ch => exact he.elim
        | outgrown => exact he
      case row row args =>
        refine Rows.mono h fun u w'' he => ?_
        exact ⟨put_defers _ _ _, he.2.1, v, keep u, by rw [← Act.put_comm a v u h2]; exact he.2.2⟩
    | halt x w' => cases x <;> simp only [Oper.upon] at h ⊢ <;> exact h
  · rename_i hg
    rw [if_neg hg] at h
    exact ⟨v, keep _, by rw [← Act.put_comm a v undef h2]; exact h⟩

theorem heavy_light {Sj T : World → Prop} {ok oj : Oper} {K : Act → World → Prop} {a : Act} {w : World} (hw : Sj w) (hap : ok.apart ops oj = true) (hsk : ∀ cs b, ok.op ≠ .select cs b) (hsj : ∀ cs b, oj.op ≠ .select cs b)
    (h : heavyOp P ops T ok (fun a' w' => ∃ u, Lit P ops Sj oj u a' ∧ K (a'.put oj.dst u) w') a w) :
    ∃ u, Lit P ops Sj oj u a ∧ heavyOp P ops T ok K (a.put oj.dst u) w := by
  obtain ⟨h1, h2, h3⟩ := Oper.apart_spec hap
  obtain ⟨x, w1, u, hu, _⟩ := heavy_ex h
  have hu' : Lit P ops Sj oj u a := (Lit.put hsj h1).1 hu
  refine ⟨u, hu', ?_⟩
  have same : ∀ y u', Lit P ops Sj oj u' (a.put ok.dst y) → u' = u := fun y u' h' => Lit.unique hw ((Lit.put hsj h1).1 h') hu'
  have go : ∀ y w', (∃ u', Lit P ops Sj oj u' (a.put ok.dst y) ∧ K ((a.put ok.dst y).put oj.dst u') w') → K ((a.put oj.dst u).put ok.dst y) w' := by
    rintro y w' ⟨u', hl, hk⟩
    obtain rfl := same y u' hl
    rw [← Act.put_comm a y u' h2]; exact hk
  unfold heavyOp at *
  rw [wanted_put ok a oj.dst u h3]
  split
  · rename_i hg
    rw [if_pos hg] at h
    unfold Oper.wp at *
    rw [execOp_put ok hsk a oj.dst u h3]
    generalize (execOp a.eval ok).run P w = r at *
    cases r with
    | ok n w' =>
      cases n <;> simp only [Oper.upon] at h ⊢
      case value y => exact ⟨put_defers _ _ _, h.2.1, go y _ h.2.2⟩
      case skip => exact ⟨put_defers _ _ _, h.2.1, go _ _ h.2.2⟩
      case defer d =>
        have h' := h.1
        rw [put_defers] at h'
        have := congrArg List.length h'
        simp at this
      case enter f args =>
        refine Calls.mono h fun e w'' he => ?_
        cases e with
        | returned y => exact ⟨put_defers _ _ _, he.2.1, go y _ he.2.2⟩
        | panicked ch => exact he.elim
        | outgrown => exact he
      case row row args =>
        refine Rows.mono h fun y w'' he => ?_
        exact ⟨put_defers _ _ _, he.2.1, go y _ he.2.2⟩
    | halt x w' => cases x <;> simp only [Oper.upon] at h ⊢ <;> exact h
  · rename_i hg
    rw [if_neg hg] at h
    exact go _ _ h

theorem stepX_swap {c d : Nat} {ok oj : Oper} {K : Act → World → Prop} {a : Act} {w : World} (hw : d = 3 → S w) (hc : compat c d = true) (hap : ok.apart ops oj = true) (hsk : ∀ cs b, ok.op ≠ .select cs b) (hsj : ∀ cs b, oj.op ≠ .select cs b)
    (h : stepX P ops S c ok (fun a' w' => stepX P ops S d oj K a' w') a w) : stepX P ops S d oj (fun a' w' => stepX P ops S c ok K a' w') a w := by
  match c, d, hw, hc, h with
  | 0, 0, _, _, h => exact light_light hap hsk hsj h
  | 0, 1, _, _, h => exact light_light hap hsk hsj h
  | 0, 3, _, _, h => exact light_light hap hsk hsj h
  | 1, 0, _, _, h => exact light_light hap hsk hsj h
  | 1, 1, _, _, h => exact light_light hap hsk hsj h
  | 1, 3, _, _, h => exact light_light hap hsk hsj h
  | 3, 0, _, _, h => exact light_light hap hsk hsj h
  | 3, 1, _, _, h => exact light_light hap hsk hsj h
  | 3, 3, _, _, h => exact light_light hap hsk hsj h
  | 0, 2, _, _, h => exact light_heavy hap hsk hsj h
  | 0, _ + 4, _, _, h => exact light_heavy hap hsk hsj h
  | 3, 2, _, _, h => exact light_heavy hap hsk hsj h
  | 2, 0, _, _, h => exact heavy_light (Sj := Any) trivial hap hsk hsj h
  | _ + 4, 0, _, _, h => exact heavy_light (Sj := Any) trivial hap hsk hsj h
  | 2, 3, hw, _, h => exact heavy_light (hw rfl) hap hsk hsj h
  | 1, 2, _, hc, h => simp [compat] at hc
  | 1, _ + 4, _, hc, h => simp [compat] at hc
  | 2, 1, _, hc, h => simp [compat] at hc
  | _ + 4, 1, _, hc, h => simp [compat] at hc
  | 2, 2, _, hc, h => simp [compat] at hc
  | 2, _ + 4, _, hc, h => simp [compat] at hc
  | _ + 4, 2, _, hc, h => simp [compat] at hc
  | _ + 4, _ + 4, _, hc, h => simp [compat] at hc
  | 3, _ + 4, _, hc, h => simp [compat] at hc
  | _ + 4, 3, _, hc, h => simp [compat] at hc

/-- Whatever order is picked from here on. -/
def wpAnyX (P : Program) (md : Region.Mode) (ops : Array Oper) (S : World → Prop) (cls : Nat → Nat) (Q' : Act → World → Prop) : Nat → Array Bool → Act → World → Prop
  | 0, listed, a, w => Region.ready md ops listed = [] ∧ Q' a w
  | fuel + 1, listed, a, w =>
    (Region.ready md ops listed = [] → Q' a w) ∧
    ∀ i ∈ Region.ready md ops listed, ∀ o, ops[i]? = some o → stepX P ops S (cls i) o (wpAnyX P md ops S cls Q' fuel (listed.setIfInBounds i true)) a w

theorem wpOp_of_stepX {c i : Nat} {o : Oper} {K K' : Act → World → Prop} {Q : Exit → Act → World → Prop} {a : Act} {w : World} (hi : ops[i]? = some o) (hw : c = 3 → S w) (h : ∀ a w', behind S c w w' → K a w' → K' a w')
    (hh : stepX P ops S c o K a w) : wpOp P ops Q i K' a w := by
  have light : ∀ {T : World → Prop}, T w → (∀ a, K a w → K' a w) → (∃ v, Lit P ops T o v a ∧ K (a.put o.dst v) w) → wpOp P ops Q i K' a w := by
    rintro T hT h ⟨v, hv, hk⟩
    unfold wpOp
    simp only [hi]
    rcases hv with ⟨hg, hl⟩ | ⟨hg, rfl⟩
    · rw [if_pos hg]
      left
      unfold Oper.wp
      have := hl w hT
      generalize (execOp a.eval o).run P w = r at *
      cases r with
      | ok n w' =>
        cases n <;> simp only [lightUpon] at this <;> simp only [Oper.upon]
        case value u => obtain ⟨rfl, rfl⟩ := this; exact h _ hk
        case skip => obtain ⟨rfl, rfl⟩ := this; exact h _ hk
      | halt x w' => simp only [lightUpon] at this
    · rw [if_neg (by simp [hg])]
      exact h _ hk
  have heavy : ∀ {T : World → Prop}, (∀ a w', T w' ∨ w' = w → K a w' → K' a w') → heavyOp P ops T o K a w → wpOp P ops Q i K' a w := by
    intro T h hh
    simp only [heavyOp] at hh
    unfold wpOp
    simp only [hi]
    split
    · rename_i hg
      rw [if_pos hg] at hh
      left
      unfold Oper.wp at *
      generalize (execOp a.eval o).run P w = r at *
      cases r with
      | ok n w' =>
        cases n <;> simp only [Oper.upon] at hh ⊢
        case enter f args =>
          refine Calls.mono hh fun e w'' he => ?_
          cases e with
          | returned y => exact h _ _ (.inl he.2.1) he.2.2
          | panicked ch => exact he.elim
          | outgrown => obtain ⟨_, _, h⟩ := he; exact h.elim
        case row row args => exact Rows.mono hh fun y w'' he => h _ _ (.inl he.2.1) he.2.2
        all_goals exact h _ _ (.inl hh.2.1) hh.2.2
      | halt x w' => cases x <;> simp only [Oper.upon] at hh ⊢ <;> exact hh.elim
    · rename_i hg
      rw [if_neg hg] at hh
      exact h _ _ (.inr rfl) hh
  match c, hw, h, hh with
  | 0, _, h, hh => exact light (T := Any) trivial (fun a hk => h a w rfl hk) hh
  | 1, _, h, hh => exact light (T := (· = w)) rfl (fun a hk => h a w rfl hk) hh
  | 3, hw, h, hh => exact light (hw rfl) (fun a hk => h a w rfl hk) hh
  | 2, _, h, hh => exact heavy h hh
  | _ + 4, _, h, hh => exact heavy (T := Any) (fun a w' _ hk => h a w' trivial hk) hh

/-- j comes behind k in every order. -/
inductive Anc (md : Region.Mode) (ops : Array Oper) : Nat → Nat → Prop
  | direct {j : Nat} {o : Oper} {e : Edge} : ops[j]? = some o → e ∈ o.after → Region.binds md e = true → Anc md ops j e.on
  | step {j k : Nat} {o : Oper} {e : Edge} : ops[j]? = some o → e ∈ o.after → Region.binds md e = true → Anc md ops e.on k → Anc md ops j k

def Shut (md : Region.Mode) (ops : Array Oper) (listed : Array Bool) : Prop :=
  ∀ j oj, ops[j]? = some oj → listed.getD j false = true → ∀ e ∈ oj.after, Region.binds md e = true → listed.getD e.on false = true

theorem Shut.anc {listed : Array Bool} (hs : Shut md ops listed) {j k : Nat} (h : Anc md ops j k) : (∀ oj, ops[j]? = some oj → ∀ e ∈ oj.after, Region.binds md e = true → listed.getD e.on false = true) → listed.getD k false = true := by
  induction h with
  | direct ho he hb => exact fun hp => hp _ ho _ he hb
  | step ho he hb _ ih => exact fun hp => ih fun oj hj e' he' hb' => hs _ oj hj (hp _ ho _ he hb) e' he' hb'

theorem Shut.set {listed : Array Bool} (hs : Shut md ops listed) {i : Nat} (hi : i ∈ Region.ready md ops listed) : Shut md ops (listed.setIfInBounds i true) := by
  obtain ⟨_, oi, hoi, hall⟩ := mem_ready.1 hi
  intro j oj hj hl e he hb
  by_cases hij : i = j
  · subst hij
    have : oj = oi := Option.some.inj (hj.symm.trans hoi)
    subst this
    exact getD_set_true (hall e he hb)
  · rw [getD_set_ne false hij] at hl
    exact getD_set_true (hs j oj hj hl e he hb)

theorem getD_both' {listed : Array Bool} {i : Nat} (h : listed.getD i true = false) : listed.getD i false = false := by
  rcases Nat.lt_or_ge i listed.size with h' | h'
  · simp [h'] at h ⊢; exact h
  · simp [Array.getElem?_eq_none h'] at h

/-- While one that floats is to come, S holds. -/
def Floats (S : World → Prop) (cls : Nat → Nat) (ops : Array Oper) (listed : Array Bool) (w : World) : Prop := (∃ f, f < ops.size ∧ cls f = 3 ∧ listed.getD f false = false) → S w
/-- What no operation of S leaves comes behind all that float. -/
def Late (md : Region.Mode) (cls : Nat → Nat) (ops : Array Oper) : Prop := ∀ j, j < ops.size → 4 ≤ cls j → ∀ f, f < ops.size → cls f = 3 → Anc md ops j f

theorem Floats.behind {cls : Nat → Nat} {listed : Array Bool} {w w' : World} {j : Nat} (hl : Late md cls ops) (hs : Shut md ops listed) (hj : j ∈ Region.ready md ops listed) (hf : Floats S cls ops listed w) (hb : behind S (cls j) w w') : Floats S cls ops (listed.setIfInBounds j true) w' := by
  rintro ⟨f, hlt, hc, hu⟩
  obtain ⟨hun, oj, hoj, hall⟩ := mem_ready.1 hj
  have hjlt := (Array.getElem?_eq_some_iff.1 hoj).1
  have hu' : listed.getD f false = false := by
    by_cases e : j = f
    · subst e
      cases h : listed.getD j false with
      | false => rfl
      | true => rw [getD_set_true h] at hu; cases hu
    · rwa [getD_set_ne false e] at hu
  have hS : S w := hf ⟨f, hlt, hc, hu'⟩
  by_cases h4 : 4 ≤ cls j
  · have := hs.anc (hl j hjlt h4 f hlt hc) (fun o ho e he hbb => by
      have : o = oj := Option.some.inj (ho.symm.trans hoj)
      subst this
      exact hall e he hbb)
    rw [this] at hu'
    cases hu'
  · generalize cls j = c at *
    match c, hb with
    | 0, hb => exact hb ▸ hS
    | 1, hb => exact hb ▸ hS
    | 3, hb => exact hb ▸ hS
    | 2, hb => exact hb.elim id (fun e => e ▸ hS)
    | c + 4, _ => omega

theorem wpAny_of_X {cls : Nat → Nat} {Q : Exit → Act → World → Prop} (hQ : ∀ a w, Q' a w → Q .normal a w) (hl : Late md cls ops) : ∀ (fuel : Nat) (listed : Array Bool) (a : Act) (w : World), Shut md ops listed → Floats S cls ops listed w →
    wpAnyX P md ops S cls Q' fuel listed a w → wpAny P md ops Q fuel listed a w
  | 0, _, _, _, _, _, h => ⟨h.1, hQ _ _ h.2⟩
  | fuel + 1, listed, a, w, hs, hf, h => ⟨fun h0 => hQ _ _ (h.1 h0), fun i hi => by
      obtain ⟨hun, o, ho, _⟩ := mem_ready.1 hi
      exact wpOp_of_stepX ho (fun hc => hf ⟨i, (Array.getElem?_eq_some_iff.1 ho).1, hc, getD_both' hun⟩)
        (fun a w' hb h => wpAny_of_X hQ hl fuel _ a w' (hs.set hi) (hf.behind hl hs hi hb) h) (h.2 i hi o ho)⟩

theorem firstX {cls : Nat → Nat} {k : Nat} {ok : Oper} (hl : Late md cls ops) (hk : ops[k]? = some ok) (hsel : ∀ (j : Nat) (o : Oper) cs b, ops[j]? = some o → o.op ≠ .select cs b) :
    ∀ (fuel : Nat) (listed : Array Bool) (a : Act) (w : World), Shut md ops listed → Floats S cls ops listed w →
      (∀ j oj, ops[j]? = some oj → j ≠ k → listed.getD j true = false → ¬ Anc md ops j k → ok.apart ops oj = true ∧ compat (cls k) (cls j) = true) →
      k ∈ Region.ready md ops listed →
      stepX P ops S (cls k) ok (wpAnyX P md ops S cls Q' fuel (listed.setIfInBounds k true)) a w → wpAnyX P md ops S cls Q' (fuel + 1) listed a w := by
  intro fuel
  induction fuel with
  | zero =>
    intro listed a w hsh hw hfree hr H
    refine ⟨fun h => (by rw [h] at hr; cases hr), fun j hj oj hoj => ?_⟩
    by_cases hjk : j = k
    · subst hjk
      have : oj = ok := Option.some.inj (hoj.symm.trans hk)
      subst this
      exact H
    · obtain ⟨x, w', h, _⟩ := stepX_ex H
      have := ready_mono hj hjk
      rw [h] at this
      cases this
  | succ fuel ih =>
    intro listed a w hsh hw hfree hr H
    refine ⟨fun h => (by rw [h] at hr; cases hr), fun j hj oj hoj => ?_⟩
    by_cases hjk : j = k
    · subst hjk
      have : oj = ok := Option.some.inj (hoj.symm.trans hk)
      subst this
      exact H
    · obtain ⟨hjun, oj', hoj', hall⟩ := mem_ready.1 hj
      have : oj' = oj := Option.some.inj (hoj'.symm.trans hoj)
      subst this
      have hkun := (mem_ready.1 hr).1
      have hnot : ¬ Anc md ops j k := fun han => by
        have h1 := hsh.anc han (fun o ho e he hb => by
          have : o = oj' := Option.some.inj (ho.symm.trans hoj)
          subst this
          exact hall e he hb)
        rw [getD_both' hkun] at h1
        cases h1
      obtain ⟨hap, hc⟩ := hfree j oj' hoj hjk hjun hnot
      have H1 : stepX P ops S (cls k) ok (fun a' w' => stepX P ops S (cls j) oj' (wpAnyX P md ops S cls Q' fuel ((listed.setIfInBounds k true).setIfInBounds j true)) a' w') a w :=
        stepX_mono (fun a' w' _ h => h.2 j (ready_mono hj hjk) oj' hoj) H
      have H2 := stepX_swap (fun h3 => hw ⟨j, (Array.getElem?_eq_some_iff.1 hoj).1, h3, getD_both' hjun⟩) hc hap (fun cs b => hsel k ok cs b hk) (fun cs b => hsel j oj' cs b hoj) H1
      refine stepX_mono (fun a' w' hb h => ih (listed.setIfInBounds j true) a' w' (hsh.set hj) (hw.behind hl hsh hj hb) ?_ (ready_mono hr (Ne.symm hjk)) ?_) H2
      · intro i oi hoi hik hun hno
        refine hfree i oi hoi hik ?_ hno
        by_cases hji : j = i
        · subst hji; exact hjun
        · rw [getD_set_ne true hji] at hun; exact hun
      · rw [Array.setIfInBounds_comm _ _ hjk]
        exact h

/-- THE WALK IN THE TEXT's ORDER. -/
def wpX (P : Program) (ops : Array Oper) (S : World → Prop) (Q' : Act → World → Prop) : List (Nat × Oper) → Act → World → Prop
  | [], a, w => Q' a w
  | (c, o) :: rest, a, w => stepX P ops S c o (wpX P ops S Q' rest) a w

/-- The ancestors of each operation. -/
def ancs (md : Region.Mode) : List Oper → List (List Nat) → List (List Nat)
  | [], acc => acc
  | o :: r, acc => ancs md r (acc ++ [((o.after.toList.filter (Region.binds md)).flatMap fun e => e.on :: acc.getD e.on []).eraseDups])

def AccOk (md : Region.Mode) (ops : Array Oper) (acc : List (List Nat)) : Prop := ∀ (j : Nat) (l : List Nat), acc[j]? = some l → ∀ k ∈ l, Anc md ops j k

theorem mem_eraseDups' {l : List Nat} {k : Nat} (h : k ∈ l.eraseDups) : k ∈ l := by simpa using h

theorem ancs_ok : ∀ (l : List Oper) (acc : List (List Nat)), (∀ j, l[j]? = ops[acc.length + j]?) → AccOk md ops acc → AccOk md ops (ancs md l acc)
  | [], acc, _, h => h
  | o :: r, acc, hl, h => by
    refine ancs_ok r _ (fun j => ?_) ?_
    · have := hl (j + 1)
      simpa [Nat.add_assoc, Nat.add_comm 1 j] using this
    · intro j l hj k hk
      rcases Nat.lt_or_ge j acc.length with hlt | hge
      · rw [List.getElem?_append_left hlt] at hj
        exact h j l hj k hk
      · rw [List.getElem?_append_right hge] at hj
        have hj0 : j - acc.length = 0 := by
          rcases Nat.eq_zero_or_pos (j - acc.length) with h0 | h0
          · exact h0
          · rw [List.getElem?_eq_none (by simp only [List.length_cons, List.length_nil]; omega)] at hj; cases hj
        have hje : j = acc.length := by omega
        subst hje
        simp only [Nat.sub_self, List.getElem?_cons_zero, Option.some.injEq] at hj
        subst hj
        have ho : ops[acc.length]? = some o := by have := hl 0; simpa using this.symm
        have hk' := mem_eraseDups' hk
        obtain ⟨e, he, hke⟩ := List.mem_flatMap.1 hk'
        obtain ⟨he1, he2⟩ := List.mem_filter.1 he
        have he1' : e ∈ o.after := by simpa using he1
        rcases List.mem_cons.1 hke with rfl | hke
        · exact .direct ho he1' he2
        · cases ha : acc[e.on]? with
          | none => rw [List.getD, ha] at hke; cases hke
          | some l' =>
            rw [List.getD, ha] at hke
            exact .step ho he1' he2 (h _ _ ha _ hke)

def noSelect : Op → Bool
  | .select .. => false
  | _ => true

def pairsB (A : List (List Nat)) (ops : Array Oper) (cls : List Nat) (k : Nat) (ok : Oper) : Nat → List Oper → Bool
  | _, [] => true
  | j, o :: r => ((A.getD j []).contains k || (ok.apart ops o && compat (cls.getD k 2) (cls.getD j 2))) && pairsB A ops cls k ok (j + 1) r

def lexB (md : Region.Mode) (A : List (List Nat)) (ops : Array Oper) (cls : List Nat) : Nat → List Oper → Bool
  | _, [] => true
  | k, o :: r => noSelect o.op && (o.after.all fun e => !Region.binds md e || decide (e.on < k)) && pairsB A ops cls k o (k + 1) r && lexB md A ops cls (k + 1) r

/-- What leaves S comes behind all that float. -/
def lateB (A : List (List Nat)) (cls : List Nat) : Bool :=
  (List.range cls.length).all fun j => decide (cls.getD j 2 < 4) || (List.range cls.length).all fun f => cls.getD f 2 != 3 || (A.getD j []).contains f
theorem lateB_spec {A : List (List Nat)} {cls : List Nat} (hA : AccOk md ops A) (hl : cls.length = ops.size) (h : lateB A cls = true) : Late md (fun i => cls.getD i 2) ops := by
  intro j hj h4 f hf h3
  have h1 := List.all_eq_true.1 h j (List.mem_range.2 (by omega))
  simp only [Bool.or_eq_true, decide_eq_true_eq] at h1
  rcases h1 with h1 | h1
  · simp only at h4; omega
  · have h2 := List.all_eq_true.1 h1 f (List.mem_range.2 (by omega))
    simp only [Bool.or_eq_true, bne_iff_ne, ne_eq] at h2
    rcases h2 with h2 | h2
    · exact absurd h3 h2
    · cases hAj : A[j]? with
      | none => simp [List.getD, hAj] at h2
      | some lj =>
        rw [List.getD, hAj] at h2
        exact hA j lj hAj f (by simpa using h2)

theorem pairsB_spec {A : List (List Nat)} {cls : List Nat} {k : Nat} {ok : Oper} : ∀ (l : List Oper) (j0 : Nat), (∀ j, l[j]? = ops[j0 + j]?) → pairsB A ops cls k ok j0 l = true →
    ∀ j oj, j0 ≤ j → ops[j]? = some oj → (A.getD j []).contains k = true ∨ (ok.apart ops oj = true ∧ compat (cls.getD k 2) (cls.getD j 2) = true)
  | [], j0, hl, _, j, oj, hj, ho => by
    have := hl (j - j0)
    rw [show j0 + (j - j0) = j by omega, ho] at this
    cases this
  | o :: r, j0, hl, h, j, oj, hj, ho => by
    simp only [pairsB, Bool.and_eq_true, Bool.or_eq_true] at h
    by_cases e : j = j0
    · subst e
      have h0 := hl 0
      simp only [List.getElem?_cons_zero, Nat.add_zero, ho, Option.some.injEq] at h0
      subst h0
      exact h.1
    · exact pairsB_spec r (j0 + 1) (fun i => by have := hl (i + 1); simpa [Nat.add_assoc, Nat.add_comm 1 i] using this) h.2 j oj (by omega) ho

theorem lexB_spec {A : List (List Nat)} {cls : List Nat} : ∀ (l : List Oper) (k0 : Nat), (∀ j, l[j]? = ops[k0 + j]?) → lexB md A ops cls k0 l = true →
    ∀ k ok, k0 ≤ k → ops[k]? = some ok → (∀ cs b, ok.op ≠ .select cs b) ∧ (∀ e ∈ ok.after, Region.binds md e = true → e.on < k) ∧
      ∀ j oj, k < j → ops[j]? = some oj → (A.getD j []).contains k = true ∨ (ok.apart ops oj = true ∧ compat (cls.getD k 2) (cls.getD j 2) = true)
  | [], k0, hl, _, k, ok, hk, ho => by
    have := hl (k - k0)
    rw [show k0 + (k - k0) = k by omega, ho] at this
    cases this
  | o :: r, k0, hl, h, k, ok, hk, ho => by
    simp only [lexB, Bool.and_eq_true] at h
    have hl' : ∀ i, r[i]? = ops[k0 + 1 + i]? := fun i => by have := hl (i + 1); simpa [Nat.add_assoc, Nat.add_comm 1 i] using this
    by_cases e : k = k0
    · subst e
      have h0 := hl 0
      simp only [List.getElem?_cons_zero, Nat.add_zero, ho, Option.some.injEq] at h0
      subst h0
      refine ⟨fun cs b hs => ?_, fun e he hb => ?_, fun j oj hj hoj => pairsB_spec r (k + 1) hl' h.1.2 j oj (by omega) hoj⟩
      · have := h.1.1.1
        rw [hs] at this
        cases this
      · have := Array.all_eq_true'.1 h.1.1.2 e he
        simpa [hb] using this
    · exact lexB_spec r (k0 + 1) hl' h.2 k ok (by omega) ho

theorem anyX_of_lex {A : List (List Nat)} {cls : List Nat} (hA : AccOk md ops A) (hL : Late md (fun i => cls.getD i 2) ops) (hB : lexB md A ops cls 0 ops.toList = true) :
    ∀ (n k : Nat) (listed : Array Bool) (l : List Oper) (cl : List Nat) (a : Act) (w : World), l.length = n → k + n = ops.size → (∀ j, l[j]? = ops[k + j]?) → (∀ j, cl[j]? = cls[k + j]?) → cl.length = n →
      listed.size = ops.size → (∀ j, j < ops.size → listed.getD j false = decide (j < k)) → Floats S (fun i => cls.getD i 2) ops listed w →
      wpX P ops S Q' (cl.zip l) a w → wpAnyX P md ops S (fun i => cls.getD i 2) Q' n listed a w := by
  have spec := lexB_spec (ops := ops) ops.toList 0 (by simp) hB
  intro n
  induction n with
  | zero =>
    intro k listed l cl a w hn hk hl hcl hcn hsz hlist hw h
    have hl0 : l = [] := List.eq_nil_of_length_eq_zero hn
    have hc0 : cl = [] := List.eq_nil_of_length_eq_zero hcn
    subst hl0; subst hc0
    refine ⟨?_, h⟩
    cases hr : Region.ready md ops listed with
    | nil => rfl
    | cons i r =>
      have hi : i ∈ Region.ready md ops listed := by rw [hr]; exact List.mem_cons_self
      obtain ⟨hun, o, ho, _⟩ := mem_ready.1 hi
      have hlt := (Array.getElem?_eq_some_iff.1 ho).1
      have := getD_both' hun
      rw [hlist i hlt] at this
      simp at this
      omega
  | succ n ih =>
    intro k listed l cl a w hn hk hl hcl hcn hsz hlist hw h
    obtain ⟨o, r, rfl⟩ := List.exists_cons_of_length_eq_add_one hn
    obtain ⟨c, cr, rfl⟩ := List.exists_cons_of_length_eq_add_one hcn
    have ho : ops[k]? = some o := by have := hl 0; simpa using this.symm
    have hc : cls.getD k 2 = c := by have := hcl 0; simp at this; simp [List.getD, ← this]
    have hklt : k < ops.size := by omega
    obtain ⟨hsel, hedge, hpair⟩ := spec k o (Nat.zero_le _) ho
    have hshut : Shut md ops listed := fun j oj hj hlj e he hb => by
      have hjlt := (Array.getElem?_eq_some_iff.1 hj).1
      rw [hlist j hjlt] at hlj
      have := (spec j oj (Nat.zero_le _) hj).2.1 e he hb
      simp at hlj
      rw [hlist e.on (by omega)]
      simp
      omega
    have hun : listed.getD k true = false := by
      have h1 := hlist k hklt
      simp [hsz, hklt] at h1 ⊢
      exact h1
    have hready : k ∈ Region.ready md ops listed := mem_ready.2 ⟨hun, o, ho, fun e he hb => by
      have := hedge e he hb
      rw [hlist e.on (by omega)]
      simp
      exact this⟩
    refine firstX (cls := fun i => cls.getD i 2) hL ho (fun j oj cs b hj => (spec j oj (Nat.zero_le _) hj).1 cs b) n listed a w hshut hw ?_ hready ?_
    · intro j oj hj hne hjun hno
      have hjlt := (Array.getElem?_eq_some_iff.1 hj).1
      have h1 := getD_both' hjun
      rw [hlist j hjlt] at h1
      simp at h1
      rcases hpair j oj (by omega) hj with h2 | h2
      · exfalso
        cases hAj : A[j]? with
        | none => simp [List.getD, hAj] at h2
        | some lj =>
          rw [List.getD, hAj] at h2
          exact hno (hA j lj hAj k (by simpa using h2))
      · exact h2
    · rw [hc]
      simp only [List.zip_cons_cons, wpX] at h
      refine stepX_mono (fun a' w' hb' h' => ih (k + 1) _ r cr a' w' (by simpa using hn) (by omega) (fun j => by have := hl (j + 1); simpa [Nat.add_assoc, Nat.add_comm 1 j] using this)
        (fun j => by have := hcl (j + 1); simpa [Nat.add_assoc, Nat.add_comm 1 j] using this) (by simpa using hcn) (by simpa using hsz) ?_ (hw.behind hL hshut hready (by rw [hc]; exact hb')) h') h
      intro j hj
      by_cases e : k = j
      · subst e
        simp [hsz, hklt]
      · rw [getD_set_ne false e, hlist j hj]
        simp
        omega

/-- A REGION THAT DRAWS ITS ORDER, walked in the text's order. -/
theorem wp_region_lex {id : Nat} {l : List Oper} {Q : Exit → Act → World → Prop} {a : Act} {w : World} (S : World → Prop) (cls : List Nat) (hm : P.follows .mixedOrders = true) (hlen : cls.length = l.length)
    (hB : (lateB (ancs .any l []) cls && lexB .any (ancs .any l []) l.toArray cls 0 l) = true) (hS : S w.drew)
    (h : ∀ Q' : Act → World → Prop, (∀ a w, Q .normal a w → Q' a w) → wpX P l.toArray S Q' (cls.zip l) a w.drew) : (Code.region id l.toArray true).wp P Q a w := by
  simp only [Bool.and_eq_true] at hB
  refine wp_region_any hm ?_
  have hA : AccOk .any l.toArray (ancs .any l []) := ancs_ok l [] (by simp) (fun j l h => by cases h)
  have hL : Late .any (fun i => cls.getD i 2) l.toArray := lateB_spec hA (by simpa using hlen) hB.1
  have hsh : Shut .any l.toArray (Array.replicate l.toArray.size false) := fun j oj hj hl => by
    have h0 : (Array.replicate l.toArray.size false).getD j false = false := by
      rw [Array.getD_eq_getD_getElem?, Array.getElem?_replicate]
      split <;> rfl
    rw [h0] at hl
    cases hl
  refine wpAny_of_X (S := S) (Q' := fun a w => Q .normal a w) (cls := fun i => cls.getD i 2) (fun _ _ h => h) hL _ _ a _ hsh (fun _ => hS) ?_
  have := anyX_of_lex (P := P) (S := S) (Q' := fun a w => Q .normal a w) hA hL hB.2 l.toArray.size 0 (Array.replicate l.toArray.size false) l cls a w.drew (by simp) (by simp) (by simp) (by simp) (by simpa using hlen) (by simp)
    (fun j hj => by simp at hj; simp [hj]) (fun _ => hS) (h _ (fun _ _ h => h))
  exact this
end
end Go.Proofs.YtaifjojfmkcmjaaDoorLex2

namespace Go.Proofs.YtaifjojfmkcmjaaDoorLex2
section
variable {P : Program} {ops : Array Oper} {S : World → Prop} {Q' : Act → World → Prop} {a : Act} {w : World} {o : Oper} {rest : List (Nat × Oper)}
theorem wpX_nil (h : Q' a w) : wpX P ops S Q' [] a w := h
section
variable {c : Nat}
theorem wpX_silent (hg : Region.wanted o (yielded ops a.tmps) = true)
    (h : ∀ K : Act → World → Prop, (∀ a w, wpX P ops S Q' rest a w → K a w) → ∃ v, (∀ w', lightUpon w' v ((execOp a.eval o).run P w')) ∧ K (a.put o.dst v) w) : wpX P ops S Q' ((0, o) :: rest) a w := by
  obtain ⟨v, h1, h2⟩ := h _ (fun _ _ h => h)
  exact ⟨v, .inl ⟨hg, fun w' _ => h1 w'⟩, h2⟩
theorem wpX_read (hg : Region.wanted o (yielded ops a.tmps) = true)
    (h : ∀ K : Act → World → Prop, (∀ a w, wpX P ops S Q' rest a w → K a w) → ∃ v, lightUpon w v ((execOp a.eval o).run P w) ∧ K (a.put o.dst v) w) : wpX P ops S Q' ((1, o) :: rest) a w := by
  obtain ⟨v, h1, h2⟩ := h _ (fun _ _ h => h)
  exact ⟨v, .inl ⟨hg, fun w' hw' => by cases hw'; exact h1⟩, h2⟩
theorem wpX_float (hg : Region.wanted o (yielded ops a.tmps) = true)
    (h : ∀ K : Act → World → Prop, (∀ a w, wpX P ops S Q' rest a w → K a w) → ∃ v, (∀ w', S w' → lightUpon w' v ((execOp a.eval o).run P w')) ∧ K (a.put o.dst v) w) : wpX P ops S Q' ((3, o) :: rest) a w := by
  obtain ⟨v, h1, h2⟩ := h _ (fun _ _ h => h)
  exact ⟨v, .inl ⟨hg, h1⟩, h2⟩
theorem wpX_keeps (hg : Region.wanted o (yielded ops a.tmps) = true)
    (h : ∀ K : Act → World → Prop, (∀ a' w', (a'.defers = a.defers ∧ S w' ∧ wpX P ops S Q' rest a' w') → K a' w') → o.wp P a w K NoWay) : wpX P ops S Q' ((2, o) :: rest) a w := by
  show heavyOp P ops S o _ a w
  unfold heavyOp
  rw [if_pos hg]
  exact h _ (fun _ _ h => h)
theorem wpX_heavy (hg : Region.wanted o (yielded ops a.tmps) = true)
    (h : ∀ K : Act → World → Prop, (∀ a' w', (a'.defers = a.defers ∧ wpX P ops S Q' rest a' w') → K a' w') → o.wp P a w K NoWay) : wpX P ops S Q' ((4, o) :: rest) a w := by
  show heavyOp P ops Any o _ a w
  unfold heavyOp
  rw [if_pos hg]
  exact Oper.wp_mono (fun a' w' ⟨h1, h2⟩ => ⟨h1, trivial, h2⟩) (h _ (fun _ _ h => h))
/-- A guarded operation that isn't wanted. -/
theorem wpX_not (hg : Region.wanted o (yielded ops a.tmps) = false)
    (h : ∀ K : Act → World → Prop, (∀ a w, wpX P ops S Q' rest a w → K a w) → K (a.put o.dst undef) w) : wpX P ops S Q' ((c, o) :: rest) a w := by
  have h := h _ (fun _ _ h => h)
  have heavy : ∀ T : World → Prop, heavyOp P ops T o (wpX P ops S Q' rest) a w := fun T => by
    unfold heavyOp
    rw [if_neg (by simp [hg])]
    exact h
  match c with
  | 0 => exact ⟨undef, .inr ⟨hg, rfl⟩, h⟩
  | 1 => exact ⟨undef, .inr ⟨hg, rfl⟩, h⟩
  | 3 => exact ⟨undef, .inr ⟨hg, rfl⟩, h⟩
  | 2 => exact heavy S
  | _ + 4 => exact heavy Any
end
end
end Go.Proofs.YtaifjojfmkcmjaaDoorLex2
