/-
  Stores made; terms opened; signatures looked at, walked.
-/
import Derived.Test.YtaifjojfmkcmjaaDoorTerm4
namespace Go.Proofs.YtaifjojfmkcmjaaDoor.Term
open Go.RowKit Go.Proofs.YtaifjojfmkcmjaaDoorBase Go.Proofs.YtaifjojfmkcmjaaDoorLex2
set_option linter.unusedVariables false
set_option linter.unusedSimpArgs false

theorem ok_nil : TOk ⟨[], 0⟩ := ⟨List.nodup_nil, Nat.zero_le _, fun i n h => by simp at h, Nat.zero_le _⟩
theorem new_any (w0 w : World) (hb : Below w0.heap.size w0 w) (hg : Gl w0) :
    Calls Tryd.prog 31 #[] w fun e w' => ∃ p F, e = .returned (.pointer (some ⟨p, 0, none⟩)) ∧ SAt w0 w' p F ⟨[], 0⟩ ∧ (∀ k, F k → w.heap.size ≤ k) ∧ Kept w w' (fun _ => False) := by
  have hsz := hb.size
  have HB := Lib.hid hb
  have HG := Lib.hid hg
  clear hb hg
  have hmm := @run_makeMap Tryd.prog
  go_enter Tryd.func31, Tryd.ntmps31
  go_wp2
  go_ret
  have hk : Kept w ((w.alloc (.map #[] 0)).alloc (.cells #[.slice none 0 0, .map (some w.heap.size), .int .i64 0] 81)) (fun _ => False) := ((Kept.refl _ _).alloc _).alloc _
  refine ⟨w.heap.size + 1, fun k => k = w.heap.size + 1 ∨ k = w.heap.size, rfl, ⟨⟨.slice none 0 0, w.heap.size, heap_alloc2_new _ _ _, heap_alloc2_old _ _ _, by omega, hsz, Nat.le_trans hsz hk.size, World.ownsRow_nil _ _ _ _, fun k => by simp [Value.ownBlock]⟩, HB.out.trans (hk.below (fun _ h => h.elim) hsz), ok_nil, HG.out⟩, fun k hk => by omega, hk⟩

/-- What opens a seal. -/
def openT (l : List Node) (key t : Int) : Int × Bool := if knownB l t = true ∧ (getN l t).kind = 7 ∧ (getN l t).a = key then ((getN l t).b, true) else (0, false)
theorem open_any (w0 w : World) (p : Nat) (F : Nat → Prop) (s : TS) (key t : Int) (h : SAt w0 w p F s) :
    Calls Tryd.prog 59 #[.pointer (some ⟨p, 0, none⟩), .int .i64 key, .int .i64 t] w fun e w' => e = .returned (.tuple #[.int .i64 (openT s.nodes key t).1, .bool (openT s.nodes key t).2]) ∧ Kept w w' (fun _ => False) := by
  have H := Lib.hid h
  clear h
  obtain ⟨kn, hkn⟩ : ∃ b, knownB s.nodes t = b := ⟨_, rfl⟩
  obtain ⟨x, hx⟩ : ∃ x, getN s.nodes t = x := ⟨_, rfl⟩
  have e : openT s.nodes key t = if kn = true ∧ x.kind = 7 ∧ x.a = key then (x.b, true) else (0, false) := by unfold openT; rw [hkn, hx]
  rw [e]
  have KN := Lib.hid hkn
  have HX := Lib.hid hx
  clear e hkn hx
  cases kn with
  | false =>
    rw [if_neg (by simp)]
    go_enter Tryd.func59, Tryd.ntmps59
    go_wp2_with (fail)
    refine (get_any w0 w p F s t H.out).mono ?_
    rw [KN.out, HX.out]
    rintro e w1 ⟨rfl, hk⟩
    have K := Lib.hid hk
    clear hk
    unfold nodeV
    go_wp2
    go_ret2
    exact ⟨rfl, K.out.alloc _⟩
  | true =>
    by_cases h7 : x.kind = 7
    · by_cases ha : x.a = key
      · rw [if_pos ⟨rfl, h7, ha⟩]
        have q7 : (x.kind == 7) = true := by simpa using h7
        have qa : (x.a == key) = true := by simpa using ha
        obtain ⟨xk, xl, xa, xb⟩ := x
        simp only at h7 ha
        subst h7 ha
        clear q7 qa
        go_enter Tryd.func59, Tryd.ntmps59
        go_wp2_with (fail)
        refine (get_any w0 w p F s t H.out).mono ?_
        rw [KN.out, HX.out]
        rintro e w1 ⟨rfl, hk⟩
        have K := Lib.hid hk
        clear hk
        unfold nodeV
        go_wp2
        go_ret2
        exact ⟨rfl, K.out.alloc _⟩
      · rw [if_neg (by simp [ha])]
        have qa : (x.a == key) = false := by simpa using ha
        obtain ⟨xk, xl, xa, xb⟩ := x
        simp only at h7 ha qa
        subst h7
        go_enter Tryd.func59, Tryd.ntmps59
        go_wp2_with (fail)
        refine (get_any w0 w p F s t H.out).mono ?_
        rw [KN.out, HX.out]
        rintro e w1 ⟨rfl, hk⟩
        have K := Lib.hid hk
        clear hk
        unfold nodeV
        go_wp2
        go_ret2
        exact ⟨rfl, K.out.alloc _⟩
    · rw [if_neg (by simp [h7])]
      have q7 : (x.kind == 7) = false := by simpa using h7
      obtain ⟨xk, xl, xa, xb⟩ := x
      simp only at h7 q7
      go_enter Tryd.func59, Tryd.ntmps59
      go_wp2_with (fail)
      refine (get_any w0 w p F s t H.out).mono ?_
      rw [KN.out, HX.out]
      rintro e w1 ⟨rfl, hk⟩
      have K := Lib.hid hk
      clear hk
      unfold nodeV
      go_wp2
      go_ret2
      exact ⟨rfl, K.out.alloc _⟩
/-- Does a signature hold? -/
def verifyT (l : List Node) (pub text sig : Int) : Bool := knownB l sig && (knownB l pub && (decide ((getN l sig).kind = 9) && (decide ((getN l pub).kind = 6) && (decide ((getN l sig).b = text) && decide ((getN l sig).a = (getN l pub).a)))))
theorem verify_any (w0 w : World) (p : Nat) (F : Nat → Prop) (s : TS) (pub text sig : Int) (h : SAt w0 w p F s) :
    Calls Tryd.prog 49 #[.pointer (some ⟨p, 0, none⟩), .int .i64 pub, .int .i64 text, .int .i64 sig] w fun e w' => e = .returned (.bool (verifyT s.nodes pub text sig)) ∧ Kept w w' (fun _ => False) := by
  have H := Lib.hid h
  clear h
  obtain ⟨k1, hk1⟩ : ∃ b, knownB s.nodes sig = b := ⟨_, rfl⟩
  obtain ⟨x, hx⟩ : ∃ x, getN s.nodes sig = x := ⟨_, rfl⟩
  obtain ⟨k2, hk2⟩ : ∃ b, knownB s.nodes pub = b := ⟨_, rfl⟩
  obtain ⟨y, hy⟩ : ∃ x, getN s.nodes pub = x := ⟨_, rfl⟩
  have e : verifyT s.nodes pub text sig = (k1 && (k2 && (decide (x.kind = 9) && (decide (y.kind = 6) && (decide (x.b = text) && decide (x.a = y.a)))))) := by unfold verifyT; rw [hk1, hx, hk2, hy]
  obtain ⟨r, hr⟩ : ∃ r, verifyT s.nodes pub text sig = r := ⟨_, rfl⟩
  rw [hr] at e ⊢
  have HK1 := Lib.hid hk1
  have HX := Lib.hid hx
  have HK2 := Lib.hid hk2
  have HY := Lib.hid hy
  have E := Lib.hid e
  clear e hk1 hx hk2 hy hr
  obtain ⟨xk, xl, xa, xb⟩ := x
  obtain ⟨yk, yl, ya, yb⟩ := y
  go_enter Tryd.func49, Tryd.ntmps49
  go_wp2_with (fail)
  refine (get_any w0 w p F s sig H.out).mono ?_
  rw [HK1.out, HX.out]
  rintro e w1 ⟨rfl, hk⟩
  have K1 := Lib.hid (hk.alloc (.cells #[.int .i64 xk, .string xl, .int .i64 xa, .int .i64 xb] 37))
  have S1 := Lib.hid (H.out.kept K1.out)
  have hb1 := heap_alloc_new w1 (.cells #[.int .i64 xk, .string xl, .int .i64 xa, .int .i64 xb] 37)
  clear hk
  unfold nodeV
  go_wp2_with (fail)
  obtain ⟨w2, hw2⟩ : ∃ w2, w1.alloc (.cells #[.int .i64 xk, .string xl, .int .i64 xa, .int .i64 xb] 37) = w2 := ⟨_, rfl⟩
  obtain ⟨q, hq⟩ : ∃ q, w1.heap.size = q := ⟨_, rfl⟩
  rw [hw2, hq] at hb1
  rw [hw2] at S1 K1
  rw [hw2, hq]
  have HB1 := Lib.hid hb1
  clear hb1 hw2 hq
  refine (get_any w0 w2 p F s pub S1.out).mono ?_
  rw [HK2.out, HY.out]
  rintro e w3 ⟨rfl, hk⟩
  have b3 := hk.blk HB1.out (fun h => h)
  have ql := blk_lt b3
  have c0 := cellOf (j := 0) b3
  have c2 := cellOf (j := 2) b3
  have c3 := cellOf (j := 3) b3
  simp at c0 c2 c3
  have K3 := Lib.hid (K1.out.trans hk (fun _ h => h.elim))
  clear hk b3
  unfold nodeV
  go_wp2
  all_goals go_ret
  all_goals refine ⟨?_, K3.out.alloc _⟩
  all_goals rw [E.out]
  all_goals (try simp_all)
  all_goals (try rfl)
end Go.Proofs.YtaifjojfmkcmjaaDoor.Term
