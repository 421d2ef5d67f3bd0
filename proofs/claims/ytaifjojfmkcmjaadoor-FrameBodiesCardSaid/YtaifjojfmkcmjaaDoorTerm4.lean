/-
  Terms made of terms, asked, drawn, walked.
-/
import Derived.Test.YtaifjojfmkcmjaaDoorTerm3
namespace Go.Proofs.YtaifjojfmkcmjaaDoor.Term
open Go.RowKit Go.Proofs.YtaifjojfmkcmjaaDoorBase Go.Proofs.YtaifjojfmkcmjaaDoorLex2
set_option linter.unusedVariables false
set_option linter.unusedSimpArgs false

theorem put_any (w0 w : World) (p : Nat) (F : Nat → Prop) (s : TS) (n : Node) (h : SAt w0 w p F s) (hl : n.label.size ≤ 9223372036854775807) :
    Calls Tryd.prog 46 #[.pointer (some ⟨p, 0, none⟩), nodeV n] w fun e w' => e = .returned (.int .i64 (put s n).1) ∧ TNext w0 w w' p F (put s n).2 := by
  have ka := (Kept.refl w (fun _ => False)).alloc (.cells #[.int .i64 n.kind, .string n.label, .int .i64 n.a, .int .i64 n.b] 37)
  have H := Lib.hid (h.kept ka)
  have HL := Lib.hid hl
  clear h hl
  unfold nodeV
  go_enter Tryd.func46, Tryd.ntmps46
  go_wp2_with (fail)
  refine (make_any w0 _ p F s n H.out HL.out).mono ?_
  rintro e w1 ⟨rfl, hn⟩
  have N := Lib.hid (TNext.after ka hn)
  clear hn ka
  go_wp2
  go_ret
  exact ⟨rfl, N.out⟩

def textN (l : ByteArray) : Node := ⟨2, l, 0, 0⟩
def pairN (a b : Int) : Node := ⟨3, ⟨#[]⟩, a, b⟩
def hashN (l : ByteArray) (a : Int) : Node := ⟨4, l, a, 0⟩
def kdfN (l : ByteArray) (a b : Int) : Node := ⟨5, l, a, b⟩
def pubN (a : Int) : Node := ⟨6, ⟨#[]⟩, a, 0⟩
def sealN (a b : Int) : Node := ⟨7, ⟨#[]⟩, a, b⟩
def boxN (a b : Int) : Node := ⟨8, ⟨#[]⟩, a, b⟩
def signN (a b : Int) : Node := ⟨9, ⟨#[]⟩, a, b⟩
def atomN (a : Int) : Node := ⟨1, ⟨#[]⟩, a, 0⟩
theorem pair_any (w0 w : World) (p : Nat) (F : Nat → Prop) (s : TS) (a b : Int) (h : SAt w0 w p F s) :
    Calls Tryd.prog 58 #[.pointer (some ⟨p, 0, none⟩), .int .i64 a, .int .i64 b] w fun e w' => e = .returned (.int .i64 (put s (pairN a b)).1) ∧ TNext w0 w w' p F (put s (pairN a b)).2 := by
  have H := Lib.hid h
  clear h
  go_enter Tryd.func58, Tryd.ntmps58
  go_wp2_with (fail)
  refine (put_any w0 _ p F s (pairN a b) H.out (Nat.zero_le _)).mono ?_
  rintro e w1 ⟨rfl, hn⟩
  have N := Lib.hid hn
  clear hn
  go_wp2
  go_ret
  exact ⟨rfl, N.out⟩
theorem seal_any (w0 w : World) (p : Nat) (F : Nat → Prop) (s : TS) (a b : Int) (h : SAt w0 w p F s) :
    Calls Tryd.prog 35 #[.pointer (some ⟨p, 0, none⟩), .int .i64 a, .int .i64 b] w fun e w' => e = .returned (.int .i64 (put s (sealN a b)).1) ∧ TNext w0 w w' p F (put s (sealN a b)).2 := by
  have H := Lib.hid h
  clear h
  go_enter Tryd.func35, Tryd.ntmps35
  go_wp2_with (fail)
  refine (put_any w0 _ p F s (sealN a b) H.out (Nat.zero_le _)).mono ?_
  rintro e w1 ⟨rfl, hn⟩
  have N := Lib.hid hn
  clear hn
  go_wp2
  go_ret
  exact ⟨rfl, N.out⟩
theorem sign_any (w0 w : World) (p : Nat) (F : Nat → Prop) (s : TS) (a b : Int) (h : SAt w0 w p F s) :
    Calls Tryd.prog 47 #[.pointer (some ⟨p, 0, none⟩), .int .i64 a, .int .i64 b] w fun e w' => e = .returned (.int .i64 (put s (signN a b)).1) ∧ TNext w0 w w' p F (put s (signN a b)).2 := by
  have H := Lib.hid h
  clear h
  go_enter Tryd.func47, Tryd.ntmps47
  go_wp2_with (fail)
  refine (put_any w0 _ p F s (signN a b) H.out (Nat.zero_le _)).mono ?_
  rintro e w1 ⟨rfl, hn⟩
  have N := Lib.hid hn
  clear hn
  go_wp2
  go_ret
  exact ⟨rfl, N.out⟩
theorem text_any (w0 w : World) (p : Nat) (F : Nat → Prop) (s : TS) (l : ByteArray) (h : SAt w0 w p F s) (hl : l.size ≤ 9223372036854775807) :
    Calls Tryd.prog 21 #[.pointer (some ⟨p, 0, none⟩), .string l] w fun e w' => e = .returned (.int .i64 (put s (textN l)).1) ∧ TNext w0 w w' p F (put s (textN l)).2 := by
  have H := Lib.hid h
  have HL := Lib.hid hl
  clear h hl
  go_enter Tryd.func21, Tryd.ntmps21
  go_wp2_with (fail)
  refine (put_any w0 _ p F s (textN l) H.out HL.out).mono ?_
  rintro e w1 ⟨rfl, hn⟩
  have N := Lib.hid hn
  clear hn
  go_wp2
  go_ret
  exact ⟨rfl, N.out⟩
theorem hash_any (w0 w : World) (p : Nat) (F : Nat → Prop) (s : TS) (l : ByteArray) (a : Int) (h : SAt w0 w p F s) (hl : l.size ≤ 9223372036854775807) :
    Calls Tryd.prog 64 #[.pointer (some ⟨p, 0, none⟩), .string l, .int .i64 a] w fun e w' => e = .returned (.int .i64 (put s (hashN l a)).1) ∧ TNext w0 w w' p F (put s (hashN l a)).2 := by
  have H := Lib.hid h
  have HL := Lib.hid hl
  clear h hl
  go_enter Tryd.func64, Tryd.ntmps64
  go_wp2_with (fail)
  refine (put_any w0 _ p F s (hashN l a) H.out HL.out).mono ?_
  rintro e w1 ⟨rfl, hn⟩
  have N := Lib.hid hn
  clear hn
  go_wp2
  go_ret
  exact ⟨rfl, N.out⟩
theorem pub_any (w0 w : World) (p : Nat) (F : Nat → Prop) (s : TS) (a : Int) (h : SAt w0 w p F s) :
    Calls Tryd.prog 25 #[.pointer (some ⟨p, 0, none⟩), .int .i64 a] w fun e w' => e = .returned (.int .i64 (put s (pubN a)).1) ∧ TNext w0 w w' p F (put s (pubN a)).2 := by
  have H := Lib.hid h
  clear h
  go_enter Tryd.func25, Tryd.ntmps25
  go_wp2_with (fail)
  refine (put_any w0 _ p F s (pubN a) H.out (Nat.zero_le _)).mono ?_
  rintro e w1 ⟨rfl, hn⟩
  have N := Lib.hid hn
  clear hn
  go_wp2
  go_ret
  exact ⟨rfl, N.out⟩

theorem get_any (w0 w : World) (p : Nat) (F : Nat → Prop) (s : TS) (t : Int) (h : SAt w0 w p F s) :
    Calls Tryd.prog 39 #[.pointer (some ⟨p, 0, none⟩), .int .i64 t] w fun e w' => e = .returned (.tuple #[nodeV (getN s.nodes t), .bool (knownB s.nodes t)]) ∧ Kept w w' (fun _ => False) := by
  have ka := (Kept.refl w (fun _ => False)).alloc (.cells #[.int .i64 0, .string ⟨#[]⟩, .int .i64 0, .int .i64 0] 37)
  have H := Lib.hid (h.kept ka)
  cases kn : knownB s.nodes t
  · have e := getN_no kn
    rw [e]
    have KN := Lib.hid kn
    clear h kn e
    go_enter Tryd.func39, Tryd.ntmps39
    go_wp2_with (fail)
    refine (known_any w0 _ p F s t H.out).mono ?_
    rw [KN.out]
    rintro e w' ⟨rfl, hw⟩
    obtain rfl := hw.symm
    go_wp2
    go_returns
    exact ⟨rfl, ka⟩
  · have hat := getN_at kn
    obtain ⟨x, hx⟩ : ∃ x, getN s.nodes t = x := ⟨_, rfl⟩
    rw [hx] at hat ⊢
    have hka := knownB_iff.1 kn
    obtain ⟨j, hj⟩ : ∃ j : Nat, t.toNat - 1 = j := ⟨_, rfl⟩
    have haj : t = (j : Int) + 1 := by omega
    rw [hj] at hat
    have hlen := h.ok.len
    obtain ⟨A, c, hc, hle, hcm, hcells⟩ := h.at_.node
    obtain ⟨g, hA, e0, e1, e2, e3⟩ := hcells j x hat
    have gl := World.block_lt_of_cell? _ _ e0
    have pl := World.block_lt_of_cell? _ _ hc
    have KN := Lib.hid kn
    subst haj hA
    have z1 : (0 : Int) ≤ j := by omega
    have z2 : (j : Int) < s.nodes.length := by omega
    have z4 : (j : Int) + 1 - 1 = j := by omega
    clear hat hj hx kn hka hcells h
    go_enter Tryd.func39, Tryd.ntmps39
    go_wp2_with (fail)
    refine (known_any w0 _ p F s _ H.out).mono ?_
    rw [KN.out]
    rintro e w' ⟨rfl, hw⟩
    obtain rfl := hw.symm
    go_wp2
    go_returns
    exact ⟨rfl, (Kept.refl _ _).alloc _⟩

/-- A new atom. -/
def fresh (s : TS) : Nat × TS := ((put s (atomN (s.drawn + 1))).1, if (put s (atomN (s.drawn + 1))).1 ≠ 0 then { (put s (atomN (s.drawn + 1))).2 with drawn := s.drawn + 1 } else (put s (atomN (s.drawn + 1))).2)
theorem built_right {s : TS} (h : TOk s) {n : Node} (hm : n ∈ s.nodes) : ∃ l, l <+: s.nodes ∧ Right l n := by
  obtain ⟨i, hi, e⟩ := List.mem_iff_getElem.1 hm
  exact ⟨s.nodes.take i, List.take_prefix _ _, h.built i n (by rw [List.getElem?_eq_getElem hi, e])⟩
theorem put_mem {s : TS} (h : TOk s) {n : Node} (h0 : (put s n).1 ≠ 0) : n ∈ (put s n).2.nodes := List.mem_of_getElem? (mk_there h n h0).1
theorem fresh_ok {s : TS} (h : TOk s) : TOk (fresh s).2 := by
  have h1 := mk_ok h (atomN (s.drawn + 1))
  unfold fresh
  simp only
  split
  · rename_i h0
    obtain ⟨l, _, hr⟩ := built_right h1 (put_mem h h0)
    refine ⟨h1.nd, h1.len, h1.built, ?_⟩
    unfold Right at hr
    rw [if_pos (show (atomN (s.drawn + 1)).kind = 1 from rfl)] at hr
    have := hr.2.1
    simp only [atomN] at this
    simp only
    omega
  · exact h1
theorem fresh_any (w0 w : World) (p : Nat) (F : Nat → Prop) (s : TS) (h : SAt w0 w p F s) :
    Calls Tryd.prog 32 #[.pointer (some ⟨p, 0, none⟩)] w fun e w' => e = .returned (.int .i64 (fresh s).1) ∧ TNext w0 w w' p F (fresh s).2 := by
  have hd := h.ok.drawn
  obtain ⟨nv, m, hp, _⟩ := h.at_
  have c2 := cellOf (j := 2) hp
  simp at c2
  have H := Lib.hid h
  have HOK := Lib.hid (fresh_ok h.ok)
  obtain ⟨t, s1, hs⟩ : ∃ t s1, put s (atomN (s.drawn + 1)) = (t, s1) := ⟨_, _, rfl⟩
  have HS := Lib.hid hs
  have hdr : s1.drawn = s.drawn := by
    have := mk_drawn s (atomN (s.drawn + 1))
    have e : s1 = (mk s (atomN (s.drawn + 1))).2 := by have := congrArg Prod.snd hs; exact this.symm
    rw [e]; exact this
  have HDR := Lib.hid hdr
  have hf : fresh s = (t, if t ≠ 0 then { s1 with drawn := s.drawn + 1 } else s1) := by unfold fresh; rw [hs]
  rw [hf] at HOK ⊢
  clear h hp hs hdr hf
  by_cases h0 : t = 0
  · subst h0
    go_enter Tryd.func32, Tryd.ntmps32
    go_wp2_with (fail)
    refine (put_any w0 _ p F s (atomN (s.drawn + 1)) H.out (Nat.zero_le _)).mono ?_
    rw [HS.out]
    rintro e w1 ⟨rfl, hn⟩
    have N := Lib.hid hn
    clear hn
    go_wp2
    go_ret
    exact ⟨rfl, N.out⟩
  · have q : ((t : Int) == 0) = false := by simpa using h0
    have q2 : (t == 0) = false := by simpa using h0
    have T0 := Lib.hid h0
    rw [if_pos h0] at HOK ⊢
    clear h0
    go_enter Tryd.func32, Tryd.ntmps32
    go_wp2_with (fail)
    refine (put_any w0 _ p F s (atomN (s.drawn + 1)) H.out (Nat.zero_le _)).mono ?_
    rw [HS.out]
    rintro e w1 ⟨rfl, F1, hn, b1, k1⟩
    obtain ⟨nv1, m1, hp1, hm1, hb1, hb2, hb3, ho1, hF1⟩ := hn.at_
    have d2 := cellOf (j := 2) hp1
    simp at d2
    rw [HDR.out] at d2
    have e2 := freeOf (j := 2) hp1
    have N := Lib.hid hn
    have B1 := Lib.hid b1
    have K1 := Lib.hid k1
    have P1 := Lib.hid hp1
    have M1 := Lib.hid hm1
    have O1 := Lib.hid ho1
    have HF1 := Lib.hid hF1
    have hne : m1 ≠ p := fun e => by subst e; rw [hp1] at hm1; cases hm1
    have NE := Lib.hid hne
    have nb := Lib.hid (own_ne ho1 hp1 (by decide))
    clear hn b1 k1 hp1 hm1 ho1 hF1 c2 hne
    go_wp2
    go_ret
    have kc : Kept w1 (w1.setCell ⟨p, 2, none⟩ (.int .i64 ((s.drawn : Int) + 1))) (fun k => k = p) := (Kept.refl w1 (fun k => k = p)).setCell (p := ⟨p, 2, none⟩) (.inl rfl) _
    refine ⟨rfl, F1, ⟨⟨nv1, m1, ?_, blk_far M1.out (p := ⟨p, 2, none⟩) NE.out _, hb1, hb2, Nat.le_trans hb3 kc.size, own_far O1.out (p := ⟨p, 2, none⟩) nb.out _, HF1.out⟩, N.out.bel.trans (kc.below (fun k hk => by rw [hk]; exact hb1) hb3), HOK.out, N.out.gl⟩, B1.out, K1.out.trans kc (fun k hk => B1.out k (by rw [hk]; exact (HF1.out p).2 (.inl rfl)))⟩
    have := blk_set P1.out 2 (.int .i64 ((s.drawn : Int) + 1))
    simpa using this
end Go.Proofs.YtaifjojfmkcmjaaDoor.Term
