/-
  What records' codecs do to bytes, plainly.
-/
import Derived.Test.YtcnikobmepjgcaaCodec14
import Derived.Test.YtcnikobmepjgcaaCodLaw
namespace Go.Proofs.Ytcnikobmepjgcaa.Codec
open Go.Proofs.YtcnikobmepjgcaaBase Go.Proofs.YtcnikobmepjgcaaNum
set_option linter.unusedVariables false
set_option linter.unusedSimpArgs false

/-- A part whose bytes are known. -/
structure GPrt (α : Type) where
  p : Prt α
  ok : p.β → Prop
  bs : p.β → List UInt8
  good : Good p.c ok bs
def okR {α : Type} (gs : List (GPrt α)) (x : α) : Prop := ∀ g ∈ gs, g.ok (g.p.fld x)
def bsR {α : Type} (gs : List (GPrt α)) (x : α) : List UInt8 := gs.flatMap fun g => g.bs (g.p.fld x)
def prts {α : Type} (gs : List (GPrt α)) : List (Prt α) := gs.map (·.p)
def setAll {α : Type} (gs : List (GPrt α)) (x y : α) : α := gs.foldl (fun y g => g.p.set (g.p.fld x) y) y
/-- Parts that leave each other alone, and hold what is laid into them. -/
structure Apart {α : Type} (gs : List (GPrt α)) : Prop where
  self : ∀ g ∈ gs, ∀ y x, g.p.fld (g.p.set y x) = y
  off : gs.Pairwise fun g g' => ∀ y x, g.p.fld (g'.p.set y x) = g.p.fld x
section
variable {α : Type} {gs : List (GPrt α)}
theorem Apart.tail {g : GPrt α} (h : Apart (g :: gs)) : Apart gs := ⟨fun g' hg => h.self g' (List.mem_cons_of_mem _ hg), (List.pairwise_cons.1 h.off).2⟩
theorem getP_cons (p : Prt α) (ps : List (Prt α)) (y : α × RS) : getP (p :: ps) y = getP ps (p.set (p.c.get y.2).1 y.1, (p.c.get y.2).2) := rfl
theorem putP_cons (p : Prt α) (ps : List (Prt α)) (x : α) (s : WS) : putP (p :: ps) x s = putP ps x (p.c.put (p.fld x) s) := rfl
theorem fld_getP {g : GPrt α} : ∀ {gs : List (GPrt α)} (y : α × RS), (∀ g' ∈ gs, ∀ z x, g.p.fld (g'.p.set z x) = g.p.fld x) → g.p.fld (getP (prts gs) y).1 = g.p.fld y.1
  | [], y, h => rfl
  | g' :: gs, y, h => by
    show g.p.fld (getP (g'.p :: prts gs) y).1 = _
    rw [getP_cons, fld_getP _ (fun k hk => h k (List.mem_cons_of_mem _ hk))]
    exact h g' List.mem_cons_self _ _
theorem fld_setAll {g : GPrt α} (x : α) : ∀ {gs : List (GPrt α)} (y : α), (∀ g' ∈ gs, ∀ z x, g.p.fld (g'.p.set z x) = g.p.fld x) → g.p.fld (setAll gs x y) = g.p.fld y
  | [], y, h => rfl
  | g' :: gs, y, h => by
    show g.p.fld (setAll gs x (g'.p.set (g'.p.fld x) y)) = _
    rw [fld_setAll x _ (fun k hk => h k (List.mem_cons_of_mem _ hk))]
    exact h g' List.mem_cons_self _ _
theorem setAll_fld (x : α) : ∀ {gs : List (GPrt α)} (y : α), Apart gs → ∀ g ∈ gs, g.p.fld (setAll gs x y) = g.p.fld x
  | [], y, h, g, hg => by cases hg
  | g' :: gs, y, h, g, hg => by
    show g.p.fld (setAll gs x (g'.p.set (g'.p.fld x) y)) = _
    rcases List.mem_cons.1 hg with rfl | hg
    · rw [fld_setAll x _ (fun k hk => (List.pairwise_cons.1 h.off).1 k hk)]
      exact h.self g List.mem_cons_self _ _
    · exact setAll_fld x _ h.tail g hg
theorem putP_err : ∀ {gs : List (GPrt α)} (x : α) (s : WS), s.err ≠ 0 → (putP (prts gs) x s).err = s.err
  | [], x, s, h => rfl
  | g :: gs, x, s, h => by
    show (putP (g.p :: prts gs) x s).err = _
    have h1 := g.good.put_err (g.p.fld x) s h
    rw [putP_cons, putP_err x _ (by rw [h1]; exact h), h1]
theorem putP_ok : ∀ {gs : List (GPrt α)} (x : α) (o : List UInt8), okR gs x → putP (prts gs) x ⟨o, 0⟩ = ⟨o ++ bsR gs x, 0⟩
  | [], x, o, h => by simp [prts, putP, bsR]
  | g :: gs, x, o, h => by
    show putP (g.p :: prts gs) x _ = _
    rw [putP_cons, g.good.put_ok _ o (h g List.mem_cons_self), putP_ok x _ (fun k hk => h k (List.mem_cons_of_mem _ hk))]
    simp [bsR]
theorem putP_no : ∀ {gs : List (GPrt α)} (x : α) (o : List UInt8), ¬ okR gs x → (putP (prts gs) x ⟨o, 0⟩).err = 22
  | [], x, o, h => (h (fun g hg => by cases hg)).elim
  | g :: gs, x, o, h => by
    show (putP (g.p :: prts gs) x _).err = _
    rw [putP_cons]
    by_cases hx : g.ok (g.p.fld x)
    · rw [g.good.put_ok _ o hx]
      refine putP_no x _ (fun hl => h (fun k hk => ?_))
      rcases List.mem_cons.1 hk with rfl | hk
      · exact hx
      · exact hl k hk
    · have h1 := g.good.put_no _ o hx
      rw [putP_err x _ (by rw [h1]; decide), h1]
theorem getP_err : ∀ {gs : List (GPrt α)} (y : α × RS), y.2.err ≠ 0 → (getP (prts gs) y).2 = y.2
  | [], y, h => rfl
  | g :: gs, y, h => by
    show (getP (g.p :: prts gs) y).2 = _
    have h1 := g.good.get_err y.2 h
    rw [getP_cons, getP_err _ (by rw [h1]; exact h), h1]
theorem getP_ok (x : α) : ∀ {gs : List (GPrt α)} (y : α) (l : List UInt8), okR gs x → getP (prts gs) (y, ⟨bsR gs x ++ l, 0⟩) = (setAll gs x y, ⟨l, 0⟩)
  | [], y, l, h => by simp [prts, getP, bsR, setAll]
  | g :: gs, y, l, h => by
    show getP (g.p :: prts gs) _ = _
    rw [getP_cons]
    have e : bsR (g :: gs) x ++ l = g.bs (g.p.fld x) ++ (bsR gs x ++ l) := by simp [bsR]
    simp only [e]
    rw [g.good.get_ok _ _ (h g List.mem_cons_self)]
    exact getP_ok x _ l (fun k hk => h k (List.mem_cons_of_mem _ hk))
theorem getP_is : ∀ {gs : List (GPrt α)} (y : α) (l : List UInt8) (x : α) (s : RS), Apart gs → getP (prts gs) (y, ⟨l, 0⟩) = (x, s) → s.err = 0 → okR gs x ∧ l = bsR gs x ++ s.rest
  | [], y, l, x, s, ha, h, he => by
    simp only [prts, List.map_nil, getP, List.foldl_nil, Prod.mk.injEq] at h
    obtain ⟨rfl, rfl⟩ := h
    exact ⟨(fun g hg => by cases hg), by simp [bsR]⟩
  | g :: gs, y, l, x, s, ha, h, he => by
    have h' : getP (g.p :: prts gs) (y, ⟨l, 0⟩) = (x, s) := h
    rw [getP_cons] at h'
    obtain ⟨z, s1, hz⟩ : ∃ z s', g.p.c.get ⟨l, 0⟩ = (z, s') := ⟨_, _, rfl⟩
    simp only [hz] at h'
    by_cases he1 : s1.err = 0
    · obtain ⟨h3, h4⟩ := g.good.get_is l z s1 hz he1
      have e : s1 = ⟨s1.rest, 0⟩ := by cases s1; simp only at he1; rw [he1]
      have hfx : g.p.fld x = z := by
        have := fld_getP (g := g) (gs := gs) (g.p.set z y, s1) (fun k hk => (List.pairwise_cons.1 ha.off).1 k hk)
        rw [h'] at this
        rw [this]
        exact ha.self g List.mem_cons_self _ _
      rw [e] at h'
      obtain ⟨h5, h6⟩ := getP_is _ _ x s ha.tail h' he
      refine ⟨fun k hk => ?_, ?_⟩
      · rcases List.mem_cons.1 hk with rfl | hk
        · rw [hfx]; exact h3
        · exact h5 k hk
      · have : bsR (g :: gs) x = g.bs (g.p.fld x) ++ bsR gs x := by simp [bsR]
        rw [this, hfx, List.append_assoc, ← h6]
        exact h4
    · have := getP_err (gs := gs) (g.p.set z y, s1) he1
      rw [h'] at this
      simp only at this
      subst this
      exact (he1 he).elim
theorem getP_cut (x : α) : ∀ {gs : List (GPrt α)} (y : α) (l : List UInt8), okR gs x → l <+: bsR gs x → l.length < (bsR gs x).length → (getP (prts gs) (y, ⟨l, 0⟩)).2.err = 20
  | [], y, l, h, hp, hl => by simp [bsR] at hl
  | g :: gs, y, l, h, hp, hl => by
    show (getP (g.p :: prts gs) (y, ⟨l, 0⟩)).2.err = 20
    rw [getP_cons]
    have e : bsR (g :: gs) x = g.bs (g.p.fld x) ++ bsR gs x := by simp [bsR]
    rw [e] at hp hl
    rcases prefix_split hp hl with ⟨h1, h2⟩ | ⟨r, rfl, h1, h2⟩
    · have h3 := g.good.get_cut _ l (h g List.mem_cons_self) h1 h2
      rw [getP_err _ (by rw [h3]; decide)]
      exact h3
    · have h3 := g.good.get_ok (g.p.fld x) r (h g List.mem_cons_self)
      simp only [h3]
      exact getP_cut x _ r (fun k hk => h k (List.mem_cons_of_mem _ hk)) h1 h2
theorem recC_good {N : Nat} {x0 : α} (ha : Apart gs) (hne : gs ≠ []) (hext : ∀ x y : α, (∀ g ∈ gs, g.p.fld x = g.p.fld y) → x = y) : Good (recC N (prts gs) x0) (okR gs) (bsR gs) where
  put_ok := fun x o h => putP_ok x o h
  put_no := fun x o h => putP_no x o h
  put_err := fun x s h => putP_err x s h
  get_err := fun s h => getP_err (x0, s) h
  get_ok := fun x l h => by
    have e : setAll gs x x0 = x := hext _ _ (setAll_fld x x0 ha)
    show getP (prts gs) (x0, _) = _
    rw [getP_ok x x0 l h, e]
  get_is := fun l x s h he => getP_is x0 l x s ha h he
  get_cut := fun x l h hp hl => getP_cut x x0 l h hp hl
  pos := fun x h => by
    cases gs with
    | nil => exact (hne rfl).elim
    | cons g gs =>
      have := g.good.pos _ (h g List.mem_cons_self)
      simp [bsR, this]
end
end Go.Proofs.Ytcnikobmepjgcaa.Codec
