/-
  Lists of terms made and taken apart, walked.
-/
import Derived.Test.YtaifjojfmkcmjaaDoorTerm5
import Derived.Test.YtaifjojfmkcmjaaDoorOpen
namespace Go.Proofs.YtaifjojfmkcmjaaDoor.Term
open Go.RowKit Go.Proofs.YtaifjojfmkcmjaaDoorBase Go.Proofs.YtaifjojfmkcmjaaDoorLex2
set_option linter.unusedVariables false
set_option linter.unusedSimpArgs false

def empty : Node := textN ⟨#[]⟩
/-- The list of some terms, in a store. -/
def listG (s : TS) : List Int → Nat × TS
  | [] => put s empty
  | x :: l => put (listG s l).2 (pairN x (listG s l).1)
def listT (s : TS) (l : List Int) : Nat × TS := if l.all (knownB s.nodes) then listG s l else (0, s)
def Clear (A : Option Addr) (F : Nat → Prop) : Prop := ∀ b, (Value.slice A 0 0).ownBlock = some b → ¬ F b
theorem rowIn_keep {A : Option Addr} {n : Nat} {xs : List Value} {w w' : World} {F : Nat → Prop} (h : RowIn w A n xs) (hk : Kept w w' F) (hA : Clear A F) : RowIn w' A n xs := by
  refine ⟨h.len, h.max, fun h0 => ?_⟩
  obtain ⟨b, off, rfl, hb, hx⟩ := h.cell h0
  have e := hk.block b hb (hA b rfl)
  exact ⟨b, off, rfl, Nat.lt_of_lt_of_le hb hk.size, fun k u hu => by rw [← hx k u hu]; simp only [World.cell?, e]⟩
theorem put_ok {s : TS} (h : TOk s) (n : Node) : TOk (put s n).2 := mk_ok h n

set_option maxHeartbeats 1600000 in
set_option maxRecDepth 100000 in
theorem list_any (w0 w : World) (p : Nat) (F : Nat → Prop) (s : TS) (l : List Int) (A : Option Addr) (c : Nat) (h : SAt w0 w p F s) (hr : RowIn w A l.length (l.map (Value.int .i64))) (hA : 0 < l.length → Clear A F) :
    Calls Tryd.prog 36 #[.pointer (some ⟨p, 0, none⟩), .slice A l.length c] w fun e w' => e = .returned (.int .i64 (listT s l).1) ∧ TNext w0 w w' p F (listT s l).2 := by
  have hm := hr.max
  unfold maxLen at hm
  have H := Lib.hid h
  have HR := Lib.hid hr
  have HA := Lib.hid hA
  clear h hr hA
  go_enter Tryd.func36, Tryd.ntmps36
  go_wp2
  go_loopw [11] (fun iv wr => wr = w ∧ ∃ k : Nat, k ≤ l.length ∧ iv = .int .i64 k ∧ (l.take k).all (knownB s.nodes) = true) (fun iv _ => (l.length - intOf iv).toNat)
  case atStart => exact ⟨rfl, 0, Nat.zero_le _, rfl, rfl⟩
  case round =>
    obtain ⟨hw0, k, hk, rfl, hall⟩ := hrel
    obtain rfl := hw0.symm
    clear hw0
    by_cases hlt : k < l.length
    · obtain ⟨b, off, rfl, hbl, hx⟩ := HR.out.cell (by omega)
      have c2 := hx k _ (by rw [List.getElem?_map, List.getElem?_eq_getElem hlt]; rfl)
      have q1 : (0 : Int) ≤ k := by omega
      have q2 : (k : Int) < l.length := by omega
      obtain ⟨x, hxx⟩ : ∃ x, l[k] = x := ⟨_, rfl⟩
      rw [hxx] at c2
      have hlx : l[k]? = some x := by rw [List.getElem?_eq_getElem hlt, hxx]
      have HLX := Lib.hid hlx
      have ALL := Lib.hid hall
      clear hx hxx hlx hall
      cases kn : knownB s.nodes x
      · have KN := Lib.hid kn
        clear kn
        go_wp2_with (fail)
        refine (known_any w0 _ p F s x H.out).mono ?_
        rw [KN.out]
        rintro e w' ⟨rfl, hw⟩
        obtain rfl := hw.symm
        clear hw
        go_wp2
        go_ret
        have e : listT s l = (0, s) := by
          unfold listT
          rw [if_neg]
          intro h
          have := List.all_eq_true.1 h x (List.mem_of_getElem? HLX.out)
          rw [KN.out] at this
          cases this
        rw [e]
        exact ⟨rfl, TNext.refl H.out⟩
      · have KN := Lib.hid kn
        clear kn
        go_wp2_with (fail)
        refine (known_any w0 _ p F s x H.out).mono ?_
        rw [KN.out]
        rintro e w' ⟨rfl, hw⟩
        obtain rfl := hw.symm
        clear hw
        go_wp2
        go_roundw
        case rel =>
          refine ⟨trivial, k + 1, by omega, by go_num, ?_⟩
          rw [List.take_add_one, HLX.out]
          simp only [Option.toList_some, List.all_append, ALL.out, List.all_cons, KN.out, List.all_nil, Bool.and_self]
        case measure => simp [intOf]; omega
    · have hkl : k = l.length := by omega
      subst hkl
      rw [List.take_length] at hall
      have e : Hid (listT s l = listG s l) := Lib.hid (by unfold listT; rw [if_pos hall])
      clear hall hlt hk
      go_wp2_with (fail)
      refine (text_any w0 _ p F s ⟨#[]⟩ H.out (Nat.zero_le _)).mono ?_
      rintro e w2 ⟨rfl, hn⟩
      have N := Lib.hid hn
      clear hn
      go_wp2
      go_loopw [7, 8] (fun tv iv wr => ∃ j : Nat, j ≤ l.length ∧ iv = .int .i64 ((j : Int) - 1) ∧ tv = .int .i64 (listG s (l.drop j)).1 ∧ TNext w0 w wr p F (listG s (l.drop j)).2) (fun _ iv _ => (intOf iv + 1).toNat)
      case atStart => exact ⟨l.length, Nat.le_refl _, rfl, by rw [List.drop_length]; rfl, by rw [List.drop_length]; exact N.out⟩
      case round =>
        obtain ⟨j, hj, rfl, rfl, hn⟩ := hrel
        obtain ⟨F1, s1, b1, k1⟩ := hn
        have S1 := Lib.hid s1
        have B1 := Lib.hid b1
        have K1 := Lib.hid k1
        clear s1 b1 k1
        cases j with
        | zero =>
          have q : ¬ (0 : Int) ≤ ((0 : Nat) : Int) - 1 := by omega
          rw [List.drop_zero] at S1
          go_wp2
          go_ret
          rw [e.out]
          exact ⟨by simp, F1, S1.out, B1.out, K1.out⟩
        | succ j =>
          have hlt : j < l.length := by omega
          obtain ⟨b, off, rfl, hbl, hx⟩ := (rowIn_keep HR.out K1.out (HA.out (by omega))).cell (by omega)
          have c2 := hx j _ (by rw [List.getElem?_map, List.getElem?_eq_getElem hlt]; rfl)
          obtain ⟨x, hxx⟩ : ∃ x, l[j] = x := ⟨_, rfl⟩
          rw [hxx] at c2
          have hd : l.drop j = x :: l.drop (j + 1) := by rw [List.drop_eq_getElem_cons hlt, hxx]
          have q0 : ((j + 1 : Nat) : Int) - 1 = j := by omega
          have q1 : (0 : Int) ≤ j := by omega
          have q2 : (j : Int) < l.length := by omega
          obtain ⟨t, st, hts⟩ : ∃ t st, listG s (l.drop (j + 1)) = (t, st) := ⟨_, _, rfl⟩
          have HG : Hid (listG s (l.drop j) = put st (pairN x t)) := by rw [hd]; exact Lib.hid (by show put (listG s (l.drop (j + 1))).2 _ = _; rw [hts])
          rw [hts] at S1 ⊢
          rw [q0]
          clear hx hxx hd hts q0
          go_wp2_with (fail)
          refine (pair_any w0 _ p F1 st x t S1.out).mono ?_
          rintro e w3 ⟨rfl, hn⟩
          have N3 := Lib.hid (TNext.trans B1.out K1.out hn)
          clear hn
          go_wp2
          go_roundw
          case rel =>
            exact ⟨j, by omega, by go_num, by rw [HG.out], by rw [HG.out]; exact N3.out⟩
          case measure => simp [intOf]
end Go.Proofs.YtaifjojfmkcmjaaDoor.Term
