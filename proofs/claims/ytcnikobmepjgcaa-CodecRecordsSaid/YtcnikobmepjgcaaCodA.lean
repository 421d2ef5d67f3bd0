/-
  The laws of the codec: comparing lists, the anchor, numbers' sizes and order.
-/
import Derived.Test.YtcnikobmepjgcaaCodLaw
import Derived.Test.YtcnikobmepjgcaaCodA0
import Derived.Test.YtcnikobmepjgcaaOpen
namespace Go.Proofs.Ytcnikobmepjgcaa.Codec
open Go.RowKit Go.Proofs.YtcnikobmepjgcaaBase Go.Proofs.YtcnikobmepjgcaaLex2 Go.Proofs.YtcnikobmepjgcaaNum
set_option linter.unusedVariables false
set_option linter.unusedSimpArgs false

theorem row_of_rep {α : Type} {c : Cod α} {f : α → Value} (hf : ∀ G w x u, c.rep G w x u → u = f x) {G : Nat → Prop} {w : World} {l : List α} {v : Value} (h : RowRep c G w l v) : ∃ A cp, v = .slice A l.length cp ∧ RowIn w A l.length (l.map f) := by
  obtain ⟨A, n, cp, rfl, rfl, hm, hc⟩ := h
  refine ⟨A, cp, rfl, by simp, hm, fun h0 => ?_⟩
  obtain ⟨b, off, hA, _, hl, hx⟩ := hc h0
  refine ⟨b, off, hA, hl, fun k u hk => ?_⟩
  rw [List.getElem?_map] at hk
  cases hlk : l[k]? with
  | none => rw [hlk] at hk; cases hk
  | some x =>
    rw [hlk] at hk
    simp only [Option.map_some, Option.some.injEq] at hk
    obtain ⟨u', hu, hr⟩ := hx k x hlk
    rw [hu, hf _ _ _ _ hr, hk]
theorem rep_of_row {α : Type} {c : Cod α} {f : α → Value} (hf : ∀ G w x, c.rep G w x (f x)) {w : World} {l : List α} {A : Option Addr} {n cp : Nat} (h : RowIn w A n (l.map f)) : RowRep c (fun k => k < w.heap.size) w l (.slice A n cp) := by
  refine ⟨A, n, cp, rfl, by have := h.len; simpa using this, h.max, fun h0 => ?_⟩
  obtain ⟨b, off, hA, hl, hx⟩ := h.cell h0
  refine ⟨b, off, hA, hl, hl, fun k x hk => ⟨f x, hx k (f x) (by rw [List.getElem?_map, hk]; rfl), hf _ _ _⟩⟩
theorem ints_eq (l : List Int) (A B : Option Addr) (c d : Nat) (w : World) (ha : RowIn w A l.length (l.map (Value.int .i64))) (hb : RowIn w B l.length (l.map (Value.int .i64))) :
    Calls Try.prog 21 #[.slice A l.length c, .slice B l.length d] w fun e w' => e = .returned (.bool true) ∧ Kept w w' (fun _ => False) := by
  have hm := ha.max
  unfold maxLen at hm
  have HA := Lib.hid ha.cell
  have HB := Lib.hid hb.cell
  obtain ⟨w0, hw0⟩ : ∃ w0 : World, w0 = w := ⟨_, rfl⟩
  have K0 : Hid (Kept w0 w (fun _ => False)) := by rw [← hw0]; exact Lib.hid (Kept.refl _ _)
  suffices h : Calls Try.prog 21 #[.slice A l.length c, .slice B l.length d] w fun e w' => e = .returned (.bool true) ∧ Kept w0 w' (fun _ => False) by
    rw [hw0] at h; exact h
  clear ha hb hw0
  go_enter Try.func21, Try.ntmps21
  go_wp2
  go_loopw [5] (fun i wr => ∃ k : Nat, k ≤ l.length ∧ i = .int .i64 k ∧ Kept w0 wr (fun _ => False) ∧ Kept w wr (fun _ => False)) (fun i _ => l.length - (intOf i).toNat)
  case atStart => exact ⟨0, Nat.zero_le _, rfl, K0.out, Kept.refl _ _⟩
  case round =>
    obtain ⟨k, hk, rfl, hk1, hk2⟩ := hrel
    have HK1 := Lib.hid hk1
    have HK2 := Lib.hid hk2
    clear hk1 hk2
    by_cases hlt : k < l.length
    · obtain ⟨b, off, rfl, hbl, hx⟩ := HA.out (by omega)
      obtain ⟨b2, off2, rfl, hbl2, hx2⟩ := HB.out (by omega)
      have c1 := (HK2.out.nil_below.cell (p := ⟨b, off + k, none⟩) hbl).trans (hx k _ (by rw [List.getElem?_map, List.getElem?_eq_getElem hlt]; rfl))
      have c2 := (HK2.out.nil_below.cell (p := ⟨b2, off2 + k, none⟩) hbl2).trans (hx2 k _ (by rw [List.getElem?_map, List.getElem?_eq_getElem hlt]; rfl))
      have q1 : (0 : Int) ≤ k := by omega
      have q2 : (k : Int) < l.length := by omega
      clear hx hx2
      go_wp2
      go_quiet (fail)
      go_wp2
      go_roundw
      case rel => exact ⟨k + 1, by omega, by go_num, HK1.out.drewN _, HK2.out.drewN _⟩
      case measure => simp [intOf]; omega
    · go_wp2
      go_ret
      exact ⟨rfl, HK1.out⟩

set_option maxHeartbeats 1600000 in
set_option maxRecDepth 100000 in
theorem anchor_any (w : World) : Calls Try.prog 12 #[] w fun e w' => e = .returned (.bool true) ∧ Kept w w' (fun _ => False) := by
  have E1 : Hid (encR numC 16384 = (⟨#[128, 0, 64, 0]⟩, 0)) := Lib.hid (by kernel_rfl)
  have E2 : Hid (decE (listC numC (bnd 9)) ⟨#[2, 5, 6]⟩ = 0) := Lib.hid (by kernel_rfl)
  have E3 : Hid (((listC numC (bnd 9)).get ⟨(ByteArray.mk #[2, 5, 6]).data.toList, 0⟩).1 = [5, 6]) := Lib.hid (by kernel_rfl)
  have E4 : Hid (decE numC ⟨#[64, 63]⟩ = 21) := Lib.hid (by kernel_rfl)
  go_enter Try.func12, Try.ntmps12
  go_wp2_with (fail)
  refine (number_any _).mono ?_
  rintro e w1 ⟨cv, rfl, hc, hk1⟩
  have HC := Lib.hid hc
  have K1 := Lib.hid hk1
  clear hc hk1
  go_wp2_with (fail)
  refine (encode_int w1 cv numC 16384 _ w1 HC.out numC_fair (Same.refl _) rfl (by unfold WRoom; simp [numC])).mono ?_
  rw [E1.out]
  rintro e w2 ⟨rfl, hk⟩
  have K2 := Lib.hid (K1.out.nil_trans hk)
  clear hk HC
  go_wp2_with (fail)
  refine (number_any _).mono ?_
  rintro e w3 ⟨cv3, rfl, hc, hk⟩
  have K3 := Lib.hid (K2.out.nil_trans hk)
  have HC := Lib.hid hc
  clear hc hk
  go_wp2_with (fail)
  refine (listof_int numC numC_fair numC_one cv3 9 w3 HC.out).mono ?_
  rintro e w4 ⟨cv4, rfl, hc, hk⟩
  have K4 := Lib.hid (K3.out.nil_trans hk)
  have HC4 := Lib.hid hc
  clear hc hk
  go_wp2_with (fail)
  refine (decode_ints w4 cv4 _ _ w4 HC4.out (listC_fair numC_fair _) (Same.refl _) (by unfold DSize; decide)).mono ?_
  rw [E2.out, E3.out]
  rintro e w5 ⟨hk, h⟩
  have K5 := Lib.hid (K4.out.nil_trans hk)
  rcases h with ⟨h, _⟩ | ⟨_, v, rfl, hv⟩
  · exact absurd rfl h
  obtain ⟨A, cp, rfl, hr⟩ := row_of_rep (fun G w x u => num_rep) hv
  have R5 := Lib.hid hr
  clear hv hr hk
  go_wp2_with (fail)
  refine (number_any _).mono ?_
  rintro e w6 ⟨cv6, rfl, hc, hk⟩
  have K6 := Lib.hid (K5.out.nil_trans hk)
  have R6 := Lib.hid (R5.out.kept hk)
  have HC6 := Lib.hid hc
  clear hc hk
  go_wp2_with (fail)
  refine (decode_int w6 cv6 _ _ w6 HC6.out numC_fair (Same.refl _) (by unfold DSize; decide)).mono ?_
  rw [E4.out]
  rintro e w7 ⟨hk, h⟩
  have K7 := Lib.hid (K6.out.nil_trans hk)
  have R7 := Lib.hid (R6.out.kept hk)
  obtain rfl := (h.resolve_right fun h => absurd h.1 (by decide)).2
  clear hk
  go_wp2_with (fail)
  refine (ints_eq [5, 6] A (some ⟨w7.heap.size, 0, none⟩) cp 2 _ (R7.out.kept ((Kept.refl _ _).alloc _)) ?_).mono ?_
  · refine ⟨rfl, by simp [maxLen], fun _ => ⟨_, _, rfl, by simp, fun k u hk => ?_⟩⟩
    have hb := heap_alloc_new w7 (.cells #[.int .i64 5, .int .i64 6] 3)
    match k, hk with
    | 0, hk => simp at hk; subst hk; exact cellOf hb
    | 1, hk => simp at hk; subst hk; exact cellOf hb
  rintro e w8 ⟨rfl, hk⟩
  have K8 := Lib.hid ((K7.out.alloc _).nil_trans hk)
  clear hk
  go_wp2
  go_ret
  exact ⟨rfl, K8.out⟩
end Go.Proofs.Ytcnikobmepjgcaa.Codec
