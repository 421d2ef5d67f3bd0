/-
  Lists of texts compared, walked.
-/
import Derived.Test.YtegonafacbokeaaCodA0
namespace Go.Proofs.Ytegonafacbokeaa.Codec
open Go.RowKit Go.Proofs.YtegonafacbokeaaBase Go.Proofs.YtegonafacbokeaaLex2 Go.Proofs.YtegonafacbokeaaNum
set_option linter.unusedVariables false
set_option linter.unusedSimpArgs false

theorem texts_eq (l : List ByteArray) (A B : Option Addr) (c d : Nat) (w : World) (ha : RowIn w A l.length (l.map Value.string)) (hb : RowIn w B l.length (l.map Value.string)) :
    Calls Try.prog 11 #[.slice A l.length c, .slice B l.length d] w fun e w' => e = .returned (.bool true) ∧ w' = w := by
  have hm := ha.max
  unfold maxLen at hm
  have HA := Lib.hid ha.cell
  have HB := Lib.hid hb.cell
  clear ha hb
  go_enter Try.func11, Try.ntmps11
  go_wp2
  go_loop [14] (fun i => ∃ k : Nat, k ≤ l.length ∧ i = .int .i64 k) (fun i => l.length - (intOf i).toNat)
  case atStart => exact ⟨0, Nat.zero_le _, rfl⟩
  case round =>
    obtain ⟨k, hk, rfl⟩ := hrel
    by_cases hlt : k < l.length
    · obtain ⟨b, off, rfl, hbl, hx⟩ := HA.out (by omega)
      obtain ⟨b2, off2, rfl, hbl2, hx2⟩ := HB.out (by omega)
      have c1 := hx k _ (by rw [List.getElem?_map, List.getElem?_eq_getElem hlt]; rfl)
      have c2 := hx2 k _ (by rw [List.getElem?_map, List.getElem?_eq_getElem hlt]; rfl)
      have q1 : (0 : Int) ≤ k := by omega
      have q2 : (k : Int) < l.length := by omega
      clear hx hx2
      go_wp2
      go_round
      case rel => exact ⟨k + 1, by omega, by go_num⟩
      case measure => simp [intOf]; omega
    · go_wp2
      go_ret
      exact ⟨rfl, rfl⟩

end Go.Proofs.Ytegonafacbokeaa.Codec
