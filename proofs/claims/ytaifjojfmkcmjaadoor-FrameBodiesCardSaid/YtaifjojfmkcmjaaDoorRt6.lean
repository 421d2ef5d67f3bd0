/-
  The reference's store: what is put in, drawn; what is asked.
-/
import Derived.Test.YtaifjojfmkcmjaaDoorRt5
import Derived.Test.YtaifjojfmkcmjaaDoorTerm5
namespace Go.Proofs.YtaifjojfmkcmjaaDoor.Term
open Go.RowKit Go.Sort Go.Proofs.YtaifjojfmkcmjaaDoorBase Go.Proofs.YtaifjojfmkcmjaaDoorLex2
set_option linter.unusedVariables false
set_option linter.unusedSimpArgs false

theorem rput_any (base : Nat) (w : World) (q : Nat) (G : Nat → Prop) (s : TS) (n : Node) (h : RAt base w q G s) :
    Calls Tryd.prog 56 #[.pointer (some ⟨q, 0, none⟩), .int .i64 n.kind, .string n.label, .int .i64 n.a, .int .i64 n.b] w fun e w' => e = .returned (.int .i64 (put s n).1) ∧ RNext base w w' q G (put s n).2 := by
  have H := Lib.hid h
  clear h
  go_enter Tryd.func56, Tryd.ntmps56
  go_wp2_with (fail)
  refine (rmake_any base _ q G s n H.out).mono ?_
  rintro e w1 ⟨rfl, hn⟩
  have N := Lib.hid hn
  clear hn
  go_wp2
  go_ret
  exact ⟨rfl, N.out⟩
theorem rpub_any (base : Nat) (w : World) (q : Nat) (G : Nat → Prop) (s : TS) (a : Int) (h : RAt base w q G s) :
    Calls Tryd.prog 34 #[.pointer (some ⟨q, 0, none⟩), .int .i64 a] w fun e w' => e = .returned (.int .i64 (put s (pubN a)).1) ∧ RNext base w w' q G (put s (pubN a)).2 := by
  have H := Lib.hid h
  clear h
  go_enter Tryd.func34, Tryd.ntmps34
  go_wp2_with (fail)
  refine (rput_any base _ q G s (pubN a) H.out).mono ?_
  rintro e w1 ⟨rfl, hn⟩
  have N := Lib.hid hn
  clear hn
  go_wp2
  go_ret
  exact ⟨rfl, N.out⟩
theorem rfresh_any (base : Nat) (w : World) (q : Nat) (G : Nat → Prop) (s : TS) (h : RAt base w q G s) :
    Calls Tryd.prog 33 #[.pointer (some ⟨q, 0, none⟩)] w fun e w' => e = .returned (.int .i64 (fresh s).1) ∧ RNext base w w' q G (fresh s).2 := by
  have hd := h.ok.drawn
  obtain ⟨nv, hp, _⟩ := id h
  have c2 := cellOf (j := 1) hp
  simp at c2
  have H := Lib.hid h
  have HOK := Lib.hid (fresh_ok h.ok)
  obtain ⟨t, s1, hs⟩ : ∃ t s1, put s (atomN (s.drawn + 1)) = (t, s1) := ⟨_, _, rfl⟩
  have HS := Lib.hid hs
  have hdr : s1.drawn = s.drawn := by
    have := mk_drawn s (atomN (s.drawn + 1))
    have e : s1 = (mk s (atomN (s.drawn + 1))).2 := by have := congrArg Prod.snd hs; exact this.symm
    rw [e]; exact this
  have HDR := Lib.hid hdr
  have hf : fresh s = (t, if t ≠ 0 then { s1 with drawn := s.drawn + 1 } else s1) := by unfold fresh; rw [hs]
  rw [hf] at HOK ⊢
  clear h hp hs hdr hf
  by_cases h0 : t = 0
  · subst h0
    go_enter Tryd.func33, Tryd.ntmps33
    go_wp2_with (fail)
    refine (rput_any base _ q G s (atomN (s.drawn + 1)) H.out).mono ?_
    rw [HS.out]
    rintro e w1 ⟨rfl, hn⟩
    have N := Lib.hid hn
    clear hn
    go_wp2
    go_ret
    exact ⟨rfl, N.out⟩
  · have q0 : (0 : Int) < t := by omega
    have T0 := Lib.hid h0
    rw [if_pos h0] at HOK ⊢
    clear h0
    go_enter Tryd.func33, Tryd.ntmps33
    go_wp2_with (fail)
    refine (rput_any base _ q G s (atomN (s.drawn + 1)) H.out).mono ?_
    rw [HS.out]
    rintro e w1 ⟨rfl, F1, hn, b1, k1⟩
    obtain ⟨nv1, hp1, hb1, hb3, ho1, hF1, _⟩ := hn
    have d2 := cellOf (j := 1) hp1
    simp at d2
    rw [HDR.out] at d2
    have e2 := freeOf (j := 1) hp1
    have B1 := Lib.hid b1
    have K1 := Lib.hid k1
    have P1 := Lib.hid hp1
    have O1 := Lib.hid ho1
    have HF1 := Lib.hid hF1
    have nb := Lib.hid (own_ne ho1 hp1 (by decide))
    clear b1 k1 hp1 ho1 hF1 c2
    go_wp2
    go_ret
    have kc : Kept w1 (w1.setCell ⟨q, 1, none⟩ (.int .i64 ((s.drawn : Int) + 1))) (fun k => k = q) := (Kept.refl w1 (fun k => k = q)).setCell (p := ⟨q, 1, none⟩) (.inl rfl) _
    refine ⟨rfl, F1, ⟨nv1, ?_, hb1, Nat.le_trans hb3 kc.size, own_far O1.out (p := ⟨q, 1, none⟩) nb.out _, HF1.out, HOK.out⟩, B1.out, K1.out.trans kc (fun k hk => B1.out k (by rw [hk]; exact (HF1.out q).2 (.inl rfl)))⟩
    have := blk_set P1.out 1 (.int .i64 ((s.drawn : Int) + 1))
    simpa using this
theorem rget_any (base : Nat) (w : World) (q : Nat) (G : Nat → Prop) (s : TS) (t : Int) (h : RAt base w q G s) :
    Calls Tryd.prog 19 #[.pointer (some ⟨q, 0, none⟩), .int .i64 t] w fun e w' => e = .returned (nodeV (getN s.nodes t)) ∧ Kept w w' (fun _ => False) := by
  have ka := (Kept.refl w (fun _ => False)).alloc (.cells #[.int .i64 0, .string ⟨#[]⟩, .int .i64 0, .int .i64 0] 37)
  have H := Lib.hid (h.kept ka)
  cases kn : knownB s.nodes t
  · have e := getN_no kn
    rw [e]
    have KN := Lib.hid kn
    clear h kn e
    go_enter Tryd.func19, Tryd.ntmps19
    go_wp2_with (fail)
    refine (rknown_any base _ q G s t H.out).mono ?_
    rw [KN.out]
    rintro e w' ⟨rfl, hw⟩
    obtain rfl := hw.symm
    go_wp2
    go_returns
    exact ⟨rfl, (Kept.refl _ _).alloc _⟩
  · have hat := getN_at kn
    obtain ⟨x, hx⟩ : ∃ x, getN s.nodes t = x := ⟨_, rfl⟩
    rw [hx] at hat ⊢
    have hka := knownB_iff.1 kn
    obtain ⟨j, hj⟩ : ∃ j : Nat, t.toNat - 1 = j := ⟨_, rfl⟩
    have haj : t = (j : Int) + 1 := by omega
    rw [hj] at hat
    have hlen := h.ok.len
    obtain ⟨A, c, hc, hle, hcm, hcells⟩ := h.node
    obtain ⟨g, hA, e0, e1, e2, e3⟩ := hcells j x hat
    have gl := World.block_lt_of_cell? _ _ e0
    have pl := World.block_lt_of_cell? _ _ hc
    have KN := Lib.hid kn
    subst haj hA
    have z1 : (0 : Int) ≤ j := by omega
    have z2 : (j : Int) < s.nodes.length := by omega
    have z4 : (j : Int) + 1 - 1 = j := by omega
    clear hat hj hx kn hka hcells h
    go_enter Tryd.func19, Tryd.ntmps19
    go_wp2_with (fail)
    refine (rknown_any base _ q G s _ H.out).mono ?_
    rw [KN.out]
    rintro e w' ⟨rfl, hw⟩
    obtain rfl := hw.symm
    go_wp2
    go_returns
    exact ⟨rfl, (Kept.refl _ _).alloc _⟩
end Go.Proofs.YtaifjojfmkcmjaaDoor.Term
