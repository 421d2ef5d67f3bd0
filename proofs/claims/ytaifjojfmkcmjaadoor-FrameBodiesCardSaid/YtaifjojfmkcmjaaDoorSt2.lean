/-
  The laws' two stores, walked; the document's example.
-/
import Derived.Test.YtaifjojfmkcmjaaDoorSt1
namespace Go.Proofs.YtaifjojfmkcmjaaDoor.Term
open Go.RowKit Go.Sort Go.Proofs.YtaifjojfmkcmjaaDoorBase Go.Proofs.YtaifjojfmkcmjaaDoorLex2
set_option linter.unusedVariables false
set_option linter.unusedSimpArgs false

theorem ratoms0 : (⟨atoms 0, 0⟩ : TS) = ⟨[], 0⟩ := rfl
set_option maxHeartbeats 1600000 in
set_option maxRecDepth 100000 in
theorem stores_any (w0 w : World) (n : Nat) (hn : n ≤ 100) (hb : Below w0.heap.size w0 w) (hg : Gl w0) :
    Calls Tryd.prog 9 #[.int .i64 n] w fun e w' => ∃ p q, e = .returned (.tuple #[.pointer (some ⟨p, 0, none⟩), .pointer (some ⟨q, 0, none⟩)]) ∧ TwoAt w0 w w' p q (storeN n) (storeN n) := by
  have HB := Lib.hid hb
  have HG := Lib.hid hg
  have HN := Lib.hid hn
  clear hb hg hn
  go_enter Tryd.func9, Tryd.ntmps9
  go_wp2_with (fail)
  refine (new_any w0 w HB.out HG.out).mono ?_
  rintro e w1 ⟨p, F, rfl, hs, hF, hk⟩
  have S1 := Lib.hid hs
  have HF := Lib.hid hF
  have K1 := Lib.hid hk
  clear hs hF hk
  go_wp2
  have hT : TwoAt w0 w (w1.alloc (.cells #[.slice none 0 0, .int .i64 0] 71)) p w1.heap.size ⟨atoms 0, 0⟩ ⟨atoms 0, 0⟩ := by
    have ka := (Kept.refl w1 (fun _ => False)).alloc (.cells #[.slice none 0 0, .int .i64 0] 71)
    have hsz := HB.out.size
    have h1 := K1.out.size
    refine ⟨F, fun k => k = w1.heap.size, S1.out.kept ka, ⟨.slice none 0 0, heap_alloc_new _ _, by omega, Nat.le_trans (by omega) ka.size, World.ownsRow_nil _ _ _ _, fun k => by simp [Value.ownBlock], ok_nil⟩, fun k hk hG => ?_, fun k hk => ?_, K1.out.trans ka (fun _ h => h.elim)⟩
    · have := S1.out.at_.lt k hk
      omega
    · rcases hk with hk | hk
      · exact HF.out k hk
      · omega
  obtain ⟨w2, hw2⟩ : ∃ w2, w1.alloc (.cells #[.slice none 0 0, .int .i64 0] 71) = w2 := ⟨_, rfl⟩
  obtain ⟨q, hq⟩ : ∃ q, w1.heap.size = q := ⟨_, rfl⟩
  rw [hw2, hq] at hT ⊢
  have T1 := Lib.hid hT
  clear hT hw2 hq
  go_loopw [6] (fun iv wr => ∃ i : Nat, i ≤ n ∧ iv = .int .i64 i ∧ TwoAt w0 w wr p q ⟨atoms i, i⟩ ⟨atoms i, i⟩) (fun iv _ => (n - intOf iv).toNat)
  case atStart => exact ⟨0, Nat.zero_le _, rfl, T1.out⟩
  case round =>
    obtain ⟨i, hi, rfl, hT⟩ := hrel
    have T2 := Lib.hid hT
    clear hT
    by_cases hlt : i < n
    · have q1 : (i : Int) < n := by omega
      have q9 : (i : Int) ≤ 100 := by have := HN.out; omega
      have hfr := fresh_atoms i (by have := HN.out; omega)
      have HFR := Lib.hid hfr
      clear hfr
      go_wp2_with (fail)
      refine (T2.out.call fun F1 h1 => fresh_any w0 _ p F1 _ h1).mono ?_
      rw [HFR.out]
      rintro e w3 ⟨rfl, hT⟩
      have T3 := Lib.hid hT
      clear hT
      go_wp2_with (fail)
      refine (T3.out.rcall fun G1 h1 => rfresh_any _ _ q G1 _ h1).mono ?_
      rw [HFR.out]
      rintro e w4 ⟨rfl, hT⟩
      have T4 := Lib.hid hT
      clear hT
      go_wp2
      go_roundw
      case rel => exact ⟨i + 1, by omega, by go_num, T4.out⟩
      case measure => simp [intOf]; omega
    · have hin : i = n := by omega
      subst hin
      have q1 : ¬ (i : Int) < i := by omega
      have T3 : Hid (TwoAt w0 w wr p q ⟨pubs i 0, i⟩ ⟨pubs i 0, i⟩) := Lib.hid (by have := T2.out; simpa [pubs] using this)
      clear T2 hlt
      go_wp2
      go_loopw [7] (fun iv wr => ∃ j : Nat, j ≤ i ∧ iv = .int .i64 ((j : Int) + 1) ∧ TwoAt w0 w wr p q ⟨pubs i j, i⟩ ⟨pubs i j, i⟩) (fun iv _ => (i + 1 - intOf iv).toNat)
      case atStart => exact ⟨0, Nat.zero_le _, rfl, T3.out⟩
      case round =>
        obtain ⟨j, hj, rfl, hT⟩ := hrel
        have T4 := Lib.hid hT
        clear hT
        by_cases hlt : j < i
        · have q2 : (j : Int) + 1 ≤ i := by omega
          have q9 : (j : Int) ≤ 100 := by have := HN.out; omega
          have HFR := Lib.hid (put_pubs i j (by have := HN.out; omega) hlt)
          go_wp2_with (fail)
          refine (T4.out.call fun F1 h1 => pub_any w0 _ p F1 _ _ h1).mono ?_
          rw [HFR.out]
          rintro e w3 ⟨rfl, hT⟩
          have T5 := Lib.hid hT
          clear hT
          go_wp2_with (fail)
          refine (T5.out.rcall fun G1 h1 => rpub_any _ _ q G1 _ _ h1).mono ?_
          rw [HFR.out]
          rintro e w4 ⟨rfl, hT⟩
          have T6 := Lib.hid hT
          clear hT
          go_wp2
          go_roundw
          case rel => exact ⟨j + 1, by omega, by go_num, T6.out⟩
          case measure => simp [intOf]; omega
        · have hij : j = i := by omega
          subst hij
          have q2 : ¬ (j : Int) + 1 ≤ j := by omega
          go_wp2
          go_ret2
          exact ⟨p, q, rfl, T4.out⟩
end Go.Proofs.YtaifjojfmkcmjaaDoor.Term
