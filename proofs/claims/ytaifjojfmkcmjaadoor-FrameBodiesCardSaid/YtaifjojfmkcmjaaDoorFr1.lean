/-
  Frames: what is made, walked.
-/
import Derived.Test.YtaifjojfmkcmjaaDoorTerm7
import Derived.Test.YtaifjojfmkcmjaaDoorDec
import Derived.Test.YtaifjojfmkcmjaaDoorShelf
namespace Go.Proofs.YtaifjojfmkcmjaaDoor.Term
open Go.RowKit Go.Sort Go.Proofs.YtaifjojfmkcmjaaDoorBase Go.Proofs.YtaifjojfmkcmjaaDoorLex2 Go.Proofs.YtaifjojfmkcmjaaDoor.Dec
set_option linter.unusedVariables false
set_option linter.unusedSimpArgs false

def numG (s : TS) (n : Int) : Nat × TS := put s (textN (numS n))
theorem kept_grow (w : World) (k : Nat) (os : Array Obj) : Kept w (grow (w.drewN k) os) (fun _ => False) := by
  refine ⟨rfl, rfl, rfl, by simp [grow, World.drewN], fun i hi _ => ?_⟩
  have e : (grow (w.drewN k) os).heap = w.heap ++ os := rfl
  rw [e, Array.getElem?_append_left hi]
theorem small (n : Int) (h : -9223372036854775808 ≤ n ∧ n ≤ 9223372036854775807) : (numS n).size ≤ 21 := by
  rw [numS_size]
  exact Lib.itoa_length_le n h.1 h.2
def I64 (n : Int) : Prop := -9223372036854775808 ≤ n ∧ n ≤ 9223372036854775807

theorem num_any (w0 w : World) (p : Nat) (F : Nat → Prop) (s : TS) (n : Int) (h : SAt w0 w p F s) (hn : I64 n) :
    Calls Tryd.prog 37 #[.pointer (some ⟨p, 0, none⟩), .int .i64 n] w fun e w' => e = .returned (.int .i64 (numG s n).1) ∧ TNext w0 w w' p F (numG s n).2 := by
  have hg := h.glob.1
  have H := Lib.hid h
  have HN := Lib.hid hn
  have HG := Lib.hid hg
  clear h hn hg
  go_enter Tryd.func37, Tryd.ntmps37
  go_wp2_with (fail)
  refine (Tryd.strconv_Itoa n HN.out.1 HN.out.2 _ HG.out).mono ?_
  rintro e w1 ⟨rfl, k, os, hw1⟩
  have K := Lib.hid (show Kept w w1 (fun _ => False) by rw [hw1]; exact kept_grow _ _ _)
  clear hw1
  have e : (⟨(Lib.itoa n).toArray⟩ : ByteArray) = numS n := rfl
  rw [e]
  clear e
  go_wp2_with (fail)
  refine (text_any w0 _ p F s (numS n) (H.out.kept K.out) (Nat.le_trans (small n HN.out) (by decide))).mono ?_
  rintro e w2 ⟨rfl, hn⟩
  have N := Lib.hid (TNext.after K.out hn)
  clear hn
  go_wp2
  go_ret
  exact ⟨rfl, N.out⟩

/-- A new row, as a list's argument. -/
theorem row_new {w : World} {b : Nat} {l : List Int} {T : TypeId} {f : Nat × Nat} (h : w.heap[b]? = some (.cells (l.map (Value.int .i64)).toArray T f)) (hl : l.length ≤ maxLen) : RowIn w (some ⟨b, 0, none⟩) l.length (l.map (Value.int .i64)) := by
  refine ⟨by simp, hl, fun _ => ⟨b, 0, rfl, blk_lt h, fun k u hu => ?_⟩⟩
  rw [Nat.zero_add]
  have := cell_of_row w b k _ _ _ h
  rw [this]
  simpa using hu
theorem clear_new {w0 w : World} {p : Nat} {F : Nat → Prop} {s : TS} {b : Nat} (h : SAt w0 w p F s) (hb : w.heap.size ≤ b) : Clear (some ⟨b, 0, none⟩) F := by
  intro k hk hF
  have := h.at_.lt k hF
  have e : b = k := by simpa [Value.ownBlock] using hk
  omega

/-- One more call behind what was done. -/
theorem TNext.call {w0 w w1 : World} {p : Nat} {F : Nat → Prop} {s s2 : TS} {f : Nat} {args : Array Value} {r : Value} (hT : TNext w0 w w1 p F s)
    (hC : ∀ F1, SAt w0 w1 p F1 s → Calls Tryd.prog f args w1 fun e w' => e = .returned r ∧ TNext w0 w1 w' p F1 s2) : Calls Tryd.prog f args w1 fun e w' => e = .returned r ∧ TNext w0 w w' p F s2 := by
  obtain ⟨F1, s1, b1, k1⟩ := hT
  refine (hC F1 s1).mono ?_
  rintro e w' ⟨rfl, hn⟩
  exact ⟨rfl, TNext.trans b1 k1 hn⟩
theorem TNext.ask {w0 w w1 : World} {p : Nat} {F : Nat → Prop} {s : TS} {f : Nat} {args : Array Value} {R : Ending → World → Prop} (hT : TNext w0 w w1 p F s)
    (hC : ∀ F1, SAt w0 w1 p F1 s → Calls Tryd.prog f args w1 fun e w' => R e w' ∧ Kept w1 w' (fun _ => False)) : Calls Tryd.prog f args w1 fun e w' => R e w' ∧ TNext w0 w w' p F s := by
  obtain ⟨F1, s1, b1, k1⟩ := hT
  refine (hC F1 s1).mono ?_
  rintro e w' ⟨hr, hk⟩
  exact ⟨hr, F1, s1.kept hk, b1, k1.trans hk fun _ h => h.elim⟩
theorem list_new (w0 w : World) (p : Nat) (F : Nat → Prop) (s : TS) (l : List Int) (h : SAt w0 w p F s) (hl : l.length ≤ maxLen) :
    Calls Tryd.prog 36 #[.pointer (some ⟨p, 0, none⟩), .slice (some ⟨w.heap.size, 0, none⟩) l.length l.length] (w.alloc (.cells (l.map (Value.int .i64)).toArray 3)) fun e w' => e = .returned (.int .i64 (listT s l).1) ∧ TNext w0 w w' p F (listT s l).2 := by
  have k := (Kept.refl w (fun _ => False)).alloc (.cells (l.map (Value.int .i64)).toArray 3)
  refine (list_any w0 _ p F s l _ l.length (h.kept k) (row_new (heap_alloc_new _ _) hl) (fun _ => clear_new h (Nat.le_refl _))).mono ?_
  rintro e w' ⟨rfl, hn⟩
  exact ⟨rfl, TNext.after k hn⟩
/-- ".. []int{a, b} .." behind what was done. -/
theorem TNext.list {w0 w w1 : World} {p : Nat} {F : Nat → Prop} {s : TS} (l : List Int) (hT : TNext w0 w w1 p F s) (hl : l.length ≤ maxLen) :
    Calls Tryd.prog 36 #[.pointer (some ⟨p, 0, none⟩), .slice (some ⟨w1.heap.size, 0, none⟩) l.length l.length] (w1.alloc (.cells (l.map (Value.int .i64)).toArray 3)) fun e w' => e = .returned (.int .i64 (listT s l).1) ∧ TNext w0 w w' p F (listT s l).2 := by
  obtain ⟨F1, s1, b1, k1⟩ := hT
  refine (list_new w0 w1 p F1 s l s1 hl).mono ?_
  rintro e w' ⟨rfl, hn⟩
  exact ⟨rfl, TNext.trans b1 k1 hn⟩

def contentT (s : TS) (g e f k b : Int) : Nat × TS :=
  listT (numG (numG (numG (numG s g).2 e).2 f).2 k).2 [((numG s g).1 : Int), ((numG (numG s g).2 e).1 : Int), ((numG (numG (numG s g).2 e).2 f).1 : Int), ((numG (numG (numG (numG s g).2 e).2 f).2 k).1 : Int), b]
theorem content_any (w0 w : World) (p : Nat) (F : Nat → Prop) (s : TS) (g e f k b : Int) (h : SAt w0 w p F s) (hg : I64 g) (he : I64 e) (hf : I64 f) (hk : I64 k) :
    Calls Tryd.prog 20 #[.pointer (some ⟨p, 0, none⟩), .int .i64 g, .int .i64 e, .int .i64 f, .int .i64 k, .int .i64 b] w fun e' w' => e' = .returned (.int .i64 (contentT s g e f k b).1) ∧ TNext w0 w w' p F (contentT s g e f k b).2 := by
  have N0 := Lib.hid (TNext.refl h)
  have HG := Lib.hid hg
  have HE := Lib.hid he
  have HF := Lib.hid hf
  have HK := Lib.hid hk
  clear h hg he hf hk
  unfold contentT
  go_enter Tryd.func20, Tryd.ntmps20
  go_wp2_with (fail)
  refine (N0.out.call fun F1 h1 => num_any w0 _ p F1 _ g h1 HG.out).mono ?_
  rintro e1 w1 ⟨rfl, hn⟩
  have N1 := Lib.hid hn
  clear hn
  go_wp2_with (fail)
  refine (N1.out.call fun F1 h1 => num_any w0 _ p F1 _ e h1 HE.out).mono ?_
  rintro e2 w2 ⟨rfl, hn⟩
  have N2 := Lib.hid hn
  clear hn
  go_wp2_with (fail)
  refine (N2.out.call fun F1 h1 => num_any w0 _ p F1 _ f h1 HF.out).mono ?_
  rintro e3 w3 ⟨rfl, hn⟩
  have N3 := Lib.hid hn
  clear hn
  go_wp2_with (fail)
  refine (N3.out.call fun F1 h1 => num_any w0 _ p F1 _ k h1 HK.out).mono ?_
  rintro e4 w4 ⟨rfl, hn⟩
  have N4 := Lib.hid hn
  clear hn
  go_wp2_with (fail)
  refine (N4.out.list [((numG s g).1 : Int), ((numG (numG s g).2 e).1 : Int), ((numG (numG (numG s g).2 e).2 f).1 : Int), ((numG (numG (numG (numG s g).2 e).2 f).2 k).1 : Int), b] (by simp only [List.length_cons, List.length_nil]; decide)).mono ?_
  rintro e5 w5 ⟨rfl, hn⟩
  have N5 := Lib.hid hn
  clear hn
  go_wp2
  go_ret
  exact ⟨rfl, N5.out⟩

def strB (l : List UInt8) : ByteArray := ⟨l.toArray⟩
def signedT (s : TS) (c x : Int) : Nat × TS := put (listT s [c, x]).2 (hashN ⟨#[99, 111, 110, 116, 101, 110, 116]⟩ (listT s [c, x]).1)
theorem signed_any (w0 w : World) (p : Nat) (F : Nat → Prop) (s : TS) (c x : Int) (h : SAt w0 w p F s) :
    Calls Tryd.prog 48 #[.pointer (some ⟨p, 0, none⟩), .int .i64 c, .int .i64 x] w fun e w' => e = .returned (.int .i64 (signedT s c x).1) ∧ TNext w0 w w' p F (signedT s c x).2 := by
  have N0 := Lib.hid (TNext.refl h)
  clear h
  unfold signedT
  go_enter Tryd.func48, Tryd.ntmps48
  go_wp2_with (fail)
  refine (N0.out.list [c, x] (by simp only [List.length_cons, List.length_nil]; decide)).mono ?_
  rintro e1 w1 ⟨rfl, hn⟩
  have N1 := Lib.hid hn
  clear hn
  go_wp2_with (fail)
  refine (N1.out.call fun F1 h1 => hash_any w0 _ p F1 _ ⟨#[99, 111, 110, 116, 101, 110, 116]⟩ _ h1 (by decide)).mono ?_
  rintro e2 w2 ⟨rfl, hn⟩
  have N2 := Lib.hid hn
  clear hn
  go_wp2
  go_ret
  exact ⟨rfl, N2.out⟩
def signT (s : TS) (k c x : Int) : Nat × TS := put (signedT s c x).2 (signN k (signedT s c x).1)
theorem frame_sign (w0 w : World) (p : Nat) (F : Nat → Prop) (s : TS) (k c x : Int) (h : SAt w0 w p F s) :
    Calls Tryd.prog 23 #[.pointer (some ⟨p, 0, none⟩), .int .i64 k, .int .i64 c, .int .i64 x] w fun e w' => e = .returned (.int .i64 (signT s k c x).1) ∧ TNext w0 w w' p F (signT s k c x).2 := by
  have N0 := Lib.hid (TNext.refl h)
  clear h
  unfold signT
  go_enter Tryd.func23, Tryd.ntmps23
  go_wp2_with (fail)
  refine (N0.out.call fun F1 h1 => signed_any w0 _ p F1 _ c x h1).mono ?_
  rintro e1 w1 ⟨rfl, hn⟩
  have N1 := Lib.hid hn
  clear hn
  go_wp2_with (fail)
  refine (N1.out.call fun F1 h1 => sign_any w0 _ p F1 _ k _ h1).mono ?_
  rintro e2 w2 ⟨rfl, hn⟩
  have N2 := Lib.hid hn
  clear hn
  go_wp2
  go_ret
  exact ⟨rfl, N2.out⟩
/-- Does a signature hold for a content? -/
def frameV (s : TS) (pub c x sig : Int) : Bool := decide ((signedT s c x).1 ≠ 0) && verifyT (signedT s c x).2.nodes pub (signedT s c x).1 sig
theorem frame_verify (w0 w : World) (p : Nat) (F : Nat → Prop) (s : TS) (pub c x sig : Int) (h : SAt w0 w p F s) :
    Calls Tryd.prog 24 #[.pointer (some ⟨p, 0, none⟩), .int .i64 pub, .int .i64 c, .int .i64 x, .int .i64 sig] w fun e w' => e = .returned (.bool (frameV s pub c x sig)) ∧ TNext w0 w w' p F (signedT s c x).2 := by
  have N0 := Lib.hid (TNext.refl h)
  clear h
  have C := fun F1 w1 h1 => signed_any w0 w1 p F1 s c x h1
  unfold frameV
  obtain ⟨t, st, hts⟩ : ∃ t st, signedT s c x = (t, st) := ⟨_, _, rfl⟩
  rw [hts] at C ⊢
  have HC := Lib.hid C
  clear hts C
  go_enter Tryd.func24, Tryd.ntmps24
  go_wp2_with (fail)
  refine (N0.out.call fun F1 h1 => HC.out F1 _ h1).mono ?_
  rintro e1 w1 ⟨rfl, hn⟩
  have N1 := Lib.hid hn
  clear hn
  by_cases h0 : t = 0
  · subst h0
    go_wp2
    go_ret
    exact ⟨by simp, N1.out⟩
  · have q : ((t : Int) == 0) = false := by simpa using h0
    have q2 : decide (t ≠ 0) = true := by simpa using h0
    have q3 : ¬ ((t : Int) = 0) := by omega
    have Q2 := Lib.hid q2
    clear q2
    go_wp2_with (fail)
    refine (TNext.ask N1.out fun F1 h1 => verify_any w0 _ p F1 _ pub t sig h1).mono ?_
    rintro e2 w2 ⟨rfl, hn⟩
    have N2 := Lib.hid hn
    clear hn
    go_wp2
    go_ret
    exact ⟨by simp [h0], N2.out⟩
end Go.Proofs.YtaifjojfmkcmjaaDoor.Term
