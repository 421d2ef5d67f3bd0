/-
  Frames: texts hidden, heads and trunks opened, walked.
-/
import Derived.Test.YtaifjojfmkcmjaaDoorFr2
namespace Go.Proofs.YtaifjojfmkcmjaaDoor.Term
open Go.RowKit Go.Sort Go.Proofs.YtaifjojfmkcmjaaDoorBase Go.Proofs.YtaifjojfmkcmjaaDoorLex2 Go.Proofs.YtaifjojfmkcmjaaDoor.Dec
set_option linter.unusedVariables false
set_option linter.unusedSimpArgs false

/-- The two terms of a sealed list of two. -/
def pairT (l : List Node) (key t : Int) : Option (Int × Int) :=
  if (openT l key t).2 = true then (match items l (openT l key t).1 with | some [a, b] => some (a, b) | _ => none) else none
def TwoV (w w' : World) (r : Option (Int × Int)) (e : Ending) : Prop :=
  match r with
  | none => ∃ v, e = .returned (.tuple #[v, .bool false])
  | some (a, b) => ∃ v, e = .returned (.tuple #[v, .bool true]) ∧ w'.ownsRow w.heap.size 3 1 v 2 [.int .i64 a, .int .i64 b]
theorem own_mono {w : World} {b b' : Nat} {e : TypeId} {size : Nat} {v : Value} {n : Nat} {xs : List Value} (h : w.ownsRow b e size v n xs) (hb : b' ≤ b) : w.ownsRow b' e size v n xs := by
  refine ⟨h.1, ?_⟩
  rcases h.2 with h | ⟨g, cap, cur, h1, h2, h3⟩
  · exact .inl h
  · exact .inr ⟨g, cap, cur, h1, Nat.le_trans hb h2, h3⟩
theorem two_any (w0 w : World) (p : Nat) (F : Nat → Prop) (s : TS) (key t : Int) (h : SAt w0 w p F s) :
    Calls Tryd.prog 38 #[.pointer (some ⟨p, 0, none⟩), .int .i64 key, .int .i64 t] w fun e w' => TwoV w w' (pairT s.nodes key t) e ∧ Kept w w' (fun _ => False) := by
  have H := Lib.hid h
  have C := fun w1 h1 => open_any w0 w1 p F s key t h1
  unfold pairT
  obtain ⟨⟨u, ok⟩, ho⟩ : ∃ x, openT s.nodes key t = x := ⟨_, rfl⟩
  rw [ho] at C ⊢
  simp only at C ⊢
  have HC := Lib.hid C
  clear h ho C
  cases ok with
  | false =>
    rw [if_neg (by simp)]
    go_enter Tryd.func38, Tryd.ntmps38
    go_wp2_with (fail)
    refine (HC.out w H.out).mono ?_
    rintro e w1 ⟨rfl, hk⟩
    have K1 := Lib.hid hk
    clear hk
    go_wp2
    go_ret2
    exact ⟨⟨_, rfl⟩, K1.out⟩
  | true =>
    rw [if_pos rfl]
    have CI := fun w1 h1 => items_any w0 w1 p F s u h1
    obtain ⟨r, hr⟩ : ∃ r, items s.nodes u = r := ⟨_, rfl⟩
    rw [hr] at CI ⊢
    have HI := Lib.hid CI
    clear CI hr
    cases r with
    | none =>
      go_enter Tryd.func38, Tryd.ntmps38
      go_wp2_with (fail)
      refine (HC.out w H.out).mono ?_
      rintro e w1 ⟨rfl, hk⟩
      have K1 := Lib.hid hk
      clear hk
      go_wp2_with (fail)
      refine (HI.out _ (H.out.kept K1.out)).mono ?_
      rintro e w2 ⟨hv, hk⟩
      have K2 := Lib.hid (K1.out.trans hk (fun _ h => h.elim))
      simp only [ItemsV] at hv
      subst hv
      clear hk
      go_wp2
      go_ret2
      exact ⟨⟨_, rfl⟩, K2.out⟩
    | some l =>
      obtain ⟨res, hres⟩ : ∃ r, (match some l with | some [a, b] => some (a, b) | _ => none : Option (Int × Int)) = r := ⟨_, rfl⟩
      rw [hres]
      have HRS := Lib.hid hres
      clear hres
      go_enter Tryd.func38, Tryd.ntmps38
      go_wp2_with (fail)
      refine (HC.out w H.out).mono ?_
      rintro e w1 ⟨rfl, hk⟩
      have K1 := Lib.hid hk
      clear hk
      go_wp2_with (fail)
      refine (HI.out _ (H.out.kept K1.out)).mono ?_
      rintro e w2 ⟨hv, hk⟩
      have K2 := Lib.hid (K1.out.trans hk (fun _ h => h.elim))
      simp only [ItemsV] at hv
      obtain ⟨v, rfl, hown, hll⟩ := hv
      obtain ⟨A, c, rfl, hc, hcm⟩ := own_slice hown
      have HO := Lib.hid (own_mono hown K1.out.size)
      clear hk hown
      go_wp2
      go_ret2
      refine ⟨?_, K2.out⟩
      rw [← HRS.out]
      have ho := HO.out
      match l, ho with
      | [], _ => exact ⟨_, rfl⟩
      | [a], _ => exact ⟨_, rfl⟩
      | [a, b], ho => exact ⟨_, rfl, ho⟩
      | a :: b :: d :: l, _ => exact ⟨.slice A (a :: b :: d :: l).length c, by simp; omega⟩

def headT (l : List Node) (key t : Int) : (Int × Int) × Bool :=
  match pairT l key t with
  | some (a, b) => if (plainT l a).2 = true ∧ (plainT l b).2 = true then (((plainT l a).1, (plainT l b).1), true) else ((0, 0), false)
  | none => ((0, 0), false)
/-- The cells of a new row of two. -/
theorem own_two {w : World} {base : Nat} {e : TypeId} {v a b : Value} (h : w.ownsRow base e 1 v 2 [a, b]) : ∃ g c, v = .slice (some ⟨g, 0, none⟩) 2 c ∧ base ≤ g ∧ g < w.heap.size ∧ 2 ≤ c ∧ c ≤ maxLen ∧ w.cell? ⟨g, 0, none⟩ = some a ∧ w.cell? ⟨g, 1, none⟩ = some b := by
  rcases h.2 with ⟨_, h0⟩ | ⟨g, cap, cur, h1, h2, h3, h4, h5, h6, h7⟩
  · omega
  · subst h1
    have e0 := h.cells (g := g) rfl 0 a rfl
    have e1 := h.cells (g := g) rfl 1 b rfl
    rw [Addr.add_lit, Nat.zero_add] at e0 e1
    exact ⟨g, cap, rfl, h2, blk_lt h3, h4, h5, e0, e1⟩
theorem head_any (w0 w : World) (p : Nat) (F : Nat → Prop) (s : TS) (key t : Int) (h : SAt w0 w p F s) :
    Calls Tryd.prog 11 #[.pointer (some ⟨p, 0, none⟩), .int .i64 key, .int .i64 t] w fun e w' => e = .returned (.tuple #[.int .i64 (headT s.nodes key t).1.1, .int .i64 (headT s.nodes key t).1.2, .bool (headT s.nodes key t).2]) ∧ Kept w w' (fun _ => False) := by
  have H := Lib.hid h
  have C := fun w1 h1 => two_any w0 w1 p F s key t h1
  unfold headT
  obtain ⟨r, hr⟩ : ∃ x, pairT s.nodes key t = x := ⟨_, rfl⟩
  rw [hr] at C ⊢
  have HC := Lib.hid C
  clear h hr C
  cases r with
  | none =>
    go_enter Tryd.func11, Tryd.ntmps11
    go_wp2_with (fail)
    refine (HC.out w H.out).mono ?_
    rintro e w1 ⟨⟨v, rfl⟩, hk⟩
    have K1 := Lib.hid hk
    clear hk
    go_wp2
    go_ret3
    exact ⟨rfl, K1.out⟩
  | some ab =>
    obtain ⟨a, b⟩ := ab
    simp only
    have P1 := fun w1 h1 => plain_any w0 w1 p F s a h1
    have P2 := fun w1 h1 => plain_any w0 w1 p F s b h1
    obtain ⟨⟨x, xo⟩, hx⟩ : ∃ x, plainT s.nodes a = x := ⟨_, rfl⟩
    obtain ⟨⟨y, yo⟩, hy⟩ : ∃ x, plainT s.nodes b = x := ⟨_, rfl⟩
    rw [hx] at P1 ⊢
    rw [hy] at P2 ⊢
    simp only at P1 P2 ⊢
    have HP1 := Lib.hid P1
    have HP2 := Lib.hid P2
    clear P1 P2 hx hy
    go_enter Tryd.func11, Tryd.ntmps11
    go_wp2_with (fail)
    refine (HC.out w H.out).mono ?_
    rintro e w1 ⟨⟨v, rfl, hown⟩, hk⟩
    have K1 := Lib.hid hk
    obtain ⟨g, c, rfl, hg, hgl, hc, hcm, c0, c1⟩ := own_two hown
    have C1 := Lib.hid c1
    have HG := Lib.hid hgl
    clear hk hown hg hgl c1
    have c0' := c0
    clear c0
    have c0 := c0'
    clear c0'
    go_wp2_with (fail)
    refine (HP1.out _ (H.out.kept K1.out)).mono ?_
    rintro e w2 ⟨rfl, hk⟩
    have K2 := Lib.hid (K1.out.trans hk (fun _ h => h.elim))
    have c1 : w2.cell? ⟨g, 1, none⟩ = some (.int .i64 b) := by
      rw [← C1.out]
      simp only [World.cell?, hk.block g HG.out (fun h => h)]
    have hgl := Nat.lt_of_lt_of_le HG.out hk.size
    clear hk c0
    go_wp2_with (fail)
    refine (HP2.out _ (H.out.kept K2.out)).mono ?_
    rintro e w3 ⟨rfl, hk⟩
    have K3 := Lib.hid (K2.out.trans hk (fun _ h => h.elim))
    clear hk c1
    cases xo <;> cases yo
    all_goals go_wp2
    all_goals go_ret3
    all_goals exact ⟨rfl, K3.out⟩
def trunkT (l : List Node) (key t : Int) : (ByteArray × Int) × Bool :=
  match pairT l key t with
  | some (a, b) => if (getN l a).kind = 2 then (((getN l a).label, b), true) else ((⟨#[]⟩, 0), false)
  | none => ((⟨#[]⟩, 0), false)
theorem trunk_any (w0 w : World) (p : Nat) (F : Nat → Prop) (s : TS) (key t : Int) (h : SAt w0 w p F s) :
    Calls Tryd.prog 12 #[.pointer (some ⟨p, 0, none⟩), .int .i64 key, .int .i64 t] w fun e w' => e = .returned (.tuple #[.string (trunkT s.nodes key t).1.1, .int .i64 (trunkT s.nodes key t).1.2, .bool (trunkT s.nodes key t).2]) ∧ Kept w w' (fun _ => False) := by
  have H := Lib.hid h
  have C := fun w1 h1 => two_any w0 w1 p F s key t h1
  unfold trunkT
  obtain ⟨r, hr⟩ : ∃ x, pairT s.nodes key t = x := ⟨_, rfl⟩
  rw [hr] at C ⊢
  have HC := Lib.hid C
  clear h hr C
  cases r with
  | none =>
    go_enter Tryd.func12, Tryd.ntmps12
    go_wp2_with (fail)
    refine (HC.out w H.out).mono ?_
    rintro e w1 ⟨⟨v, rfl⟩, hk⟩
    have K1 := Lib.hid hk
    clear hk
    go_wp2
    go_ret3
    exact ⟨rfl, K1.out⟩
  | some ab =>
    obtain ⟨a, b⟩ := ab
    simp only
    have P1 := fun w1 h1 => get_any w0 w1 p F s a h1
    obtain ⟨x, hx⟩ : ∃ x, getN s.nodes a = x := ⟨_, rfl⟩
    obtain ⟨kn, hkn⟩ : ∃ x, knownB s.nodes a = x := ⟨_, rfl⟩
    rw [hx, hkn] at P1
    rw [hx]
    obtain ⟨xk, xl, xa, xb⟩ := x
    simp only at P1 ⊢
    have HP1 := Lib.hid P1
    clear P1 hx hkn
    by_cases h2 : xk = 2
    · subst h2
      rw [if_pos rfl]
      go_enter Tryd.func12, Tryd.ntmps12
      go_wp2_with (fail)
      refine (HC.out w H.out).mono ?_
      rintro e w1 ⟨⟨v, rfl, hown⟩, hk⟩
      have K1 := Lib.hid hk
      obtain ⟨g, c, rfl, hg, hgl, hc, hcm, c0, c1⟩ := own_two hown
      have C1 := Lib.hid c1
      have HG := Lib.hid hgl
      clear hk hown hg hgl c1
      go_wp2_with (fail)
      refine (HP1.out _ (H.out.kept K1.out)).mono ?_
      rintro e w2 ⟨rfl, hk⟩
      have K2 := Lib.hid (K1.out.trans (hk.alloc (.cells #[.int .i64 2, .string xl, .int .i64 xa, .int .i64 xb] 37)) (fun _ h => h.elim))
      have c1 : (w2.alloc (.cells #[.int .i64 2, .string xl, .int .i64 xa, .int .i64 xb] 37)).cell? ⟨g, 1, none⟩ = some (.int .i64 b) := by
        rw [← C1.out]
        simp only [World.cell?, (hk.alloc (.cells #[.int .i64 2, .string xl, .int .i64 xa, .int .i64 xb] 37)).block g HG.out (fun h => h)]
      clear hk c0
      unfold nodeV
      go_wp2
      refine wp_region_lex (fun _ => True) [0, 1, 0, 0, 1, 0, 0, 0] (by kernel_rfl) (by kernel_rfl) (by kernel_rfl) (trivial) (fun Q' hQ' => ?_)
      simp only [List.zip_cons_cons, List.zip_nil_right]
      repeat (first
        | (refine wpX_silent ?_ (fun K hK => ?_)
           · rfl
           apply Exists.intro
           refine ⟨fun w' => ?_, ?_⟩
           · go_simp
             exact ⟨rfl, rfl⟩
           go_simp
           refine hK _ _ ?_
           clear hK K)
        | (refine wpX_read ?_ (fun K hK => ?_)
           · rfl
           apply Exists.intro
           refine ⟨?_, ?_⟩
           · go_simp
             exact ⟨rfl, rfl⟩
           go_simp
           refine hK _ _ ?_
           clear hK K)
        | (refine wpX_float ?_ (fun K hK => ?_)
           · rfl
           apply Exists.intro
           refine ⟨fun w' hw' => ?_, ?_⟩
           · try dsimp only at hw'
             go_simp
             exact ⟨rfl, rfl⟩
           go_simp
           refine hK _ _ ?_
           clear hK K)
        | (refine wpX_not ?_ (fun K hK => ?_)
           · rfl
           go_simp
           refine hK _ _ ?_
           clear hK K))
      refine wpX_nil (hQ' _ _ ?_)
      go_wp2
      go_ret3
      exact ⟨rfl, K2.out.drew⟩
    · have q : (xk == 2) = false := by simpa using h2
      rw [if_neg h2]
      go_enter Tryd.func12, Tryd.ntmps12
      go_wp2_with (fail)
      refine (HC.out w H.out).mono ?_
      rintro e w1 ⟨⟨v, rfl, hown⟩, hk⟩
      have K1 := Lib.hid hk
      obtain ⟨g, c, rfl, hg, hgl, hc, hcm, c0, c1⟩ := own_two hown
      clear hk hown hg hgl c1
      go_wp2_with (fail)
      refine (HP1.out _ (H.out.kept K1.out)).mono ?_
      rintro e w2 ⟨rfl, hk⟩
      have K2 := Lib.hid (K1.out.trans (hk.alloc (.cells #[.int .i64 xk, .string xl, .int .i64 xa, .int .i64 xb] 37)) (fun _ h => h.elim))
      clear hk c0
      unfold nodeV
      go_wp2
      go_ret3
      exact ⟨rfl, K2.out⟩

def hideH (s : TS) (data from_ gen : Int) : Nat × TS :=
  put (listT (numG (numG s from_).2 gen).2 [((numG s from_).1 : Int), ((numG (numG s from_).2 gen).1 : Int)]).2 (sealN data (listT (numG (numG s from_).2 gen).2 [((numG s from_).1 : Int), ((numG (numG s from_).2 gen).1 : Int)]).1)
def hideB (s : TS) (key : Int) (text : ByteArray) (sig : Int) : Nat × TS :=
  put (listT (put s (textN text)).2 [((put s (textN text)).1 : Int), sig]).2 (sealN key (listT (put s (textN text)).2 [((put s (textN text)).1 : Int), sig]).1)
theorem hide_any (w0 w : World) (p : Nat) (F : Nat → Prop) (s : TS) (data key from_ gen : Int) (text : ByteArray) (sig : Int) (h : SAt w0 w p F s) (hf : I64 from_) (hg : I64 gen) (hx : text.size ≤ 9223372036854775807) :
    Calls Tryd.prog 10 #[.pointer (some ⟨p, 0, none⟩), .int .i64 data, .int .i64 key, .int .i64 from_, .int .i64 gen, .string text, .int .i64 sig] w fun e w' => e = .returned (.tuple #[.int .i64 (hideH s data from_ gen).1, .int .i64 (hideB (hideH s data from_ gen).2 key text sig).1]) ∧ TNext w0 w w' p F (hideB (hideH s data from_ gen).2 key text sig).2 := by
  have N0 := Lib.hid (TNext.refl h)
  have HF := Lib.hid hf
  have HG := Lib.hid hg
  have HX := Lib.hid hx
  clear h hf hg hx
  obtain ⟨sh, hsh⟩ : ∃ sh, hideH s data from_ gen = sh := ⟨_, rfl⟩
  have HS := Lib.hid hsh
  rw [hsh]
  clear hsh
  unfold hideB
  go_enter Tryd.func10, Tryd.ntmps10
  go_wp2_with (fail)
  refine (N0.out.call fun F1 h1 => num_any w0 _ p F1 _ from_ h1 HF.out).mono ?_
  rintro e1 w1 ⟨rfl, hn⟩
  have N1 := Lib.hid hn
  clear hn
  go_wp2_with (fail)
  refine (N1.out.call fun F1 h1 => num_any w0 _ p F1 _ gen h1 HG.out).mono ?_
  rintro e2 w2 ⟨rfl, hn⟩
  have N2 := Lib.hid hn
  clear hn
  go_wp2_with (fail)
  refine (N2.out.list [((numG s from_).1 : Int), ((numG (numG s from_).2 gen).1 : Int)] (by simp only [List.length_cons, List.length_nil]; decide)).mono ?_
  rintro e3 w3 ⟨rfl, hn⟩
  have N3 := Lib.hid hn
  clear hn
  go_wp2_with (fail)
  refine (N3.out.call fun F1 h1 => seal_any w0 _ p F1 _ data _ h1).mono ?_
  have hs : put (listT (numG (numG s from_).2 gen).2 [((numG s from_).1 : Int), ((numG (numG s from_).2 gen).1 : Int)]).2 (sealN data (listT (numG (numG s from_).2 gen).2 [((numG s from_).1 : Int), ((numG (numG s from_).2 gen).1 : Int)]).1) = sh := HS.out
  rw [hs]
  rintro e4 w4 ⟨rfl, hn⟩
  have N4 := Lib.hid hn
  clear hn hs
  go_wp2_with (fail)
  refine (N4.out.call fun F1 h1 => text_any w0 _ p F1 _ text h1 HX.out).mono ?_
  rintro e5 w5 ⟨rfl, hn⟩
  have N5 := Lib.hid hn
  clear hn
  go_wp2_with (fail)
  refine (N5.out.list [((put sh.2 (textN text)).1 : Int), sig] (by simp only [List.length_cons, List.length_nil]; decide)).mono ?_
  rintro e6 w6 ⟨rfl, hn⟩
  have N6 := Lib.hid hn
  clear hn
  go_wp2_with (fail)
  refine (N6.out.call fun F1 h1 => seal_any w0 _ p F1 _ key _ h1).mono ?_
  rintro e7 w7 ⟨rfl, hn⟩
  have N7 := Lib.hid hn
  clear hn
  go_wp2
  go_ret2
  exact ⟨rfl, N7.out⟩
end Go.Proofs.YtaifjojfmkcmjaaDoor.Term
