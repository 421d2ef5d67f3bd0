/-
  The reference's numbers written, walked.
-/
import Derived.Test.YtegonafacbokeaaRef2
import Derived.Test.YtegonafacbokeaaCodA0
import Derived.OwnWalk
namespace Go.Proofs.Ytegonafacbokeaa.Codec
open Go.RowKit Go.Proofs.YtegonafacbokeaaBase Go.Proofs.YtegonafacbokeaaLex2 Go.Proofs.YtegonafacbokeaaNum
set_option linter.unusedVariables false
set_option linter.unusedSimpArgs false

theorem be_add (v t : Nat) : ∀ (j L : Nat), j ≤ L → be (v + t * 256 ^ L) j = be v j
  | 0, L, h => rfl
  | j + 1, L, h => by
    simp only [be]
    rw [be_add v t j L (by omega)]
    congr 1
    apply UInt8.toNat_inj.1
    simp only [UInt8.toNat_ofNat']
    obtain ⟨q, rfl⟩ : ∃ q, L = j + 1 + q := ⟨L - (j + 1), by omega⟩
    have e : t * 256 ^ (j + 1 + q) = 256 ^ j * (256 * (t * 256 ^ q)) := by
      rw [Nat.pow_add, Nat.pow_succ]
      generalize 256 ^ j = x
      generalize 256 ^ q = y
      ac_rfl
    rw [e, Nat.add_mul_div_left _ _ (Nat.pow_pos (by omega))]
    omega
theorem bc_zeros (n : Nat) : List.replicate n (Value.int .u8 0) = bc (List.replicate n (0 : UInt8)) := by simp [bc]
theorem own_full {w : World} {base g n : Nat} {e : TypeId} {xs : List Value} (h : w.ownsRow base e 1 (.slice (some ⟨g, 0, none⟩) n n) n xs) : w.heap[g]? = some (.cells xs.toArray e (0, 0)) := by
  rcases h.2 with ⟨h1, _⟩ | ⟨g', cap, cur, hv, _, hh, hnc, hcm, hcs, ht⟩
  · cases h1
  · simp only [Value.slice.injEq, Option.some.injEq, Addr.mk.injEq] at hv
    obtain ⟨⟨rfl, _⟩, _, rfl⟩ := hv
    rw [hh, ← ht, List.take_of_length_le (by simp; omega)]
theorem set_zero (j : Nat) (b : UInt8) (l : List UInt8) : (bc (List.replicate (j + 1) 0 ++ l)).toArray.setIfInBounds j (.int .u8 b.toNat) = (bc (List.replicate j 0 ++ b :: l)).toArray := by
  apply Array.ext'
  simp only [Array.toList_setIfInBounds]
  have e : bc (List.replicate (j + 1) 0 ++ l) = bc (List.replicate j 0) ++ .int .u8 0 :: bc l := by
    rw [List.replicate_succ', List.append_assoc, bc_append]
    rfl
  have e2 : bc (List.replicate j 0 ++ b :: l) = bc (List.replicate j 0) ++ .int .u8 b.toNat :: bc l := by rw [bc_append]; rfl
  rw [e, e2, List.set_append_right _ _ (by simp [bc])]
  simp [bc]
theorem set_head (a b : UInt8) (l : List UInt8) : (bc (a :: l)).toArray.setIfInBounds 0 (.int .u8 b.toNat) = (bc (b :: l)).toArray := by
  have := set_zero 0 b l
  apply Array.ext'
  simp [bc]
theorem row_of_blk {w : World} {g : Nat} {e : TypeId} {xs : List Value} (h : w.heap[g]? = some (.cells xs.toArray e (0, 0))) (hm : xs.length ≤ maxLen) : RowIn w (some ⟨g, 0, none⟩) xs.length xs :=
  ⟨rfl, hm, fun _ => ⟨g, 0, rfl, blk_lt h, fun k u hk => by rw [cellOf h, Nat.zero_add, List.getElem?_toArray]; exact hk⟩⟩
theorem rput_no (n : Int) (w : World) (h : n < 0 ∨ 4611686018427387904 ≤ n) : Calls Try.prog 22 #[.slice none 0 0, .int .i64 n] w fun e w' => e = .returned (.tuple #[.slice none 0 0, .bool false]) ∧ Kept w w' (fun _ => False) := by
  have HH := Lib.hid h
  clear h
  by_cases h1 : n < 0
  · go_enter Try.func22, Try.ntmps22
    go_wp2
    go_ret2
    exact ⟨rfl, Kept.refl _ _⟩
  · have h2 : (4611686018427387903 : Int) < n := by have := HH.out.resolve_left h1; omega
    go_enter Try.func22, Try.ntmps22
    go_wp2
    go_ret2
    exact ⟨rfl, Kept.refl _ _⟩

set_option maxHeartbeats 3200000 in
set_option maxRecDepth 100000 in
theorem rput_0 (n : Nat) (w : World) (h0 : 0 ≤ n) (h : n < 64) : Calls Try.prog 22 #[.slice none 0 0, .int .i64 n] w fun e w' => (∃ A c, e = .returned (.tuple #[.slice A (encN n).length c, .bool true]) ∧ w'.ownsRow w.heap.size 5 1 (.slice A (encN n).length c) (encN n).length (bc (encN n))) ∧ Kept w w' (fun _ => False) := by
  have hcls : cls n = 0 := by unfold cls; (first | rw [if_pos (by omega)] | (rw [if_neg (by omega)]; first | rw [if_pos (by omega)] | (rw [if_neg (by omega)]; first | rw [if_pos (by omega)] | (rw [if_neg (by omega)]))))
  have hen : encN n = UInt8.ofNat (n / 256 ^ (1 - 1) + 0) :: be n (1 - 1) := by
    unfold encN
    rw [hcls]
    show be (n + 0) 1 = _
    have e : n + 0 = n + 0 * 256 ^ (1 - 1) := by simp
    rw [e]
    show UInt8.ofNat ((n + 0 * 256 ^ (1 - 1)) / 256 ^ (1 - 1)) :: be (n + 0 * 256 ^ (1 - 1)) (1 - 1) = _
    rw [be_add _ _ _ _ (Nat.le_refl _), Nat.add_mul_div_right _ _ (by decide)]
  have hlt : n / 256 ^ (1 - 1) < 64 := by rw [Nat.div_lt_iff_lt_mul (by decide)]; simpa using h
  obtain ⟨x, hx⟩ : ∃ x : Int, (n : Int) = x := ⟨_, rfl⟩
  have b0 : ¬ x < 0 := by omega
  have b1 : ¬ (4611686018427387903 : Int) < x := by omega
  have b2 : x < 64 := by omega
  have b3 : (0 : Int) ≤ x := by omega
  have HX := Lib.hid hx
  have HEN := Lib.hid hen
  have HLT := Lib.hid hlt
  rw [hx]
  obtain ⟨i8, h81, h82, h83, h84⟩ := elemByte.info
  have J8 := Lib.hid (And.intro h81 (And.intro h82 (And.intro h83 h84)))
  clear h81 h82 h83 h84 hcls hen hlt hx h0 h
  go_enter Try.func22, Try.ntmps22
  go_wp2_with (at_make; apply hold)
  unfold Hold
  refine wpList_make_full w rfl (.tmp 22) (.tmp 22) 52 rfl w.heap.size 5 i8 _ 1 elemByte.under J8.out.1 J8.out.2.1 J8.out.2.2.1 .i64 .i64 1 1 1 rfl rfl rfl rfl (by rw [J8.out.2.2.2]; decide) (by decide) (Nat.le_refl _) (fun w2 o2 g2 => ?_)
  rw [show (Value.int IntKind.u8 0).cells = #[Value.int IntKind.u8 0] from rfl, Nat.mul_one, toList_madeCells_one, bc_zeros] at o2
  have hb2 := own_full o2
  have K2 := Kept.grown (Kept.refl w (fun _ => False)) g2 (fun k hk => by cases hk)
  obtain ⟨g, hg⟩ : ∃ g, w.heap.size = g := ⟨_, rfl⟩
  rw [hg] at hb2 ⊢
  have HG := Lib.hid hg
  have HB2 := Lib.hid hb2
  have HK2 := Lib.hid K2
  clear o2 g2 hb2 K2 hg
  go_wp2
  go_loopw [1, 9] (fun nv iv wr => ∃ j : Nat, j ≤ 1 ∧ iv = .int .i64 ((j : Int) - 1) ∧ nv = .int .i64 ((n / 256 ^ (1 - j) : Nat) : Int) ∧ wr.heap[g]? = some (.cells (bc (List.replicate j 0 ++ be n (1 - j))).toArray 5 (0, 0)) ∧ Kept w wr (fun _ => False)) (fun _ iv _ => (intOf iv + 1).toNat)
  case atStart => exact ⟨1, Nat.le_refl _, rfl, by rw [← HX.out]; simp, by simpa [be] using HB2.out, HK2.out⟩
  case round =>
    obtain ⟨j, hj, rfl, rfl, hb, hk⟩ := hrel
    have HK := Lib.hid hk
    have HB := Lib.hid hb
    clear hk
    cases j with
    | zero =>
      rw [List.replicate_zero, List.nil_append, Nat.sub_zero] at HB
      have hbe : be n 1 = UInt8.ofNat (n / 256 ^ (1 - 1)) :: be n (1 - 1) := rfl
      rw [hbe] at HB
      obtain ⟨y, hy⟩ : ∃ y, n / 256 ^ (1 - 1) = y := ⟨_, rfl⟩
      rw [hy] at HB HEN HLT
      have c0 := cellOf (j := 0) HB.out
      simp only [bc, List.map_cons, List.getElem?_toArray, List.getElem?_cons_zero] at c0
      have f0 := freeOf (j := 0) HB.out
      have hy2 : (((UInt8.ofNat y).toNat : Nat) : Int) = (y : Int) := by have := HLT.out; simp; omega
      rw [hy2] at c0
      have q1 : (y : Int) < 64 := by have := HLT.out; omega
      have q2 : (0 : Int) ≤ y := by omega
      clear hbe hy hy2 hb hj
      go_wp2_with (at_builtin; apply hold)
      unfold Hold
      have hl : (encN n).length = 1 := by rw [HEN.out]; simp [be_length]
      have hrow : RowIn (wr.setCell ⟨g, 0, none⟩ (.int .u8 ((y : Int)))) (some ⟨g, 0, none⟩) 1 (bc (encN n)) := by
        have h1 := blk_set HB.out 0 (.int .u8 ((y : Int)))
        have h2 : (y : Int) = (((UInt8.ofNat (y + 0)).toNat : Nat) : Int) := by have := HLT.out; simp; omega
        rw [h2, set_head, ← HEN.out] at h1
        have h3 := row_of_blk h1 (by rw [bc_len, hl]; decide)
        rw [bc_len, hl] at h3
        rw [h2]
        exact h3
      have hk2 := HK.out.setCell (p := ⟨g, 0, none⟩) (.inr (by rw [HG.out]; exact Nat.le_refl _)) (.int .u8 ((y : Int)))
      have hs := src_row (c := 1) (t := 52) hrow elemByte.under (bc_one _)
      have HL := Lib.hid hl
      clear hl
      refine wpList_append_ownS _ rfl (.tmp 46) (.tmp 47) 52 52 rfl w.heap.size 5 (.int .u8 0) 1 1 elemByte (.slice none 0 0) 0 [] rfl (World.ownsRow_nil _ _ _ _) (.slice (some ⟨g, 0, none⟩) 1 1) 1 (bc (encN n)) rfl hs (by decide) hk2.size (fun v' w3 o1 g1 b1 => ?_)
      have K3 := Lib.hid (Kept.grown hk2 g1 (fun k hk => by cases hk))
      simp only [Nat.zero_add, List.nil_append] at o1
      obtain ⟨A, c, hA, _⟩ := own_slice o1
      subst hA
      have RO := Lib.hid o1
      clear hs hk2 hrow o1 g1 b1 c0 f0
      go_wp2
      go_ret2
      rw [HL.out]
      exact ⟨⟨A, c, rfl, RO.out⟩, K3.out⟩
    | succ j =>
      obtain ⟨q, hq⟩ : ∃ q, n / 256 ^ (1 - (j + 1)) = q := ⟨_, rfl⟩
      have hqq : n / 256 ^ (1 - j) = q / 256 := by rw [← hq, Nat.div_div_eq_div_mul, ← Nat.pow_succ]; congr 2; omega
      have hbe : be n (1 - j) = UInt8.ofNat q :: be n (1 - (j + 1)) := by
        rw [show 1 - j = (1 - (j + 1)) + 1 by omega]
        simp only [be]
        rw [hq]
      have em : (((j + 1 : Nat) : Int) - 1) = (j : Int) := by omega
      rw [em, hq]
      have c0 := cellOf (j := j) hb
      have hcl : (bc (List.replicate (j + 1) 0 ++ be n (1 - (j + 1)))).toArray[j]? = some (.int .u8 0) := by
        have e : bc (List.replicate (j + 1) 0 ++ be n (1 - (j + 1))) = bc (List.replicate j 0) ++ .int .u8 0 :: bc (be n (1 - (j + 1))) := by
          rw [List.replicate_succ', List.append_assoc, bc_append]
          rfl
        simp only [List.getElem?_toArray]
        rw [e, List.getElem?_append_right (by simp [bc])]
        simp [bc]
      rw [hcl] at c0
      have f0 := freeOf (j := j) hb
      have q1 : (0 : Int) ≤ j := by omega
      have q2 : (j : Int) < 1 := by omega
      have q3 : IntKind.u8.wrap ((q : Int) % 256) = (((UInt8.ofNat q).toNat : Nat) : Int) := by rw [IntKind.wrap_u8]; simp
      have q4 : (0 : Int) ≤ q := by omega
      have HQQ := Lib.hid hqq
      have HBE := Lib.hid hbe
      have HJ := Lib.hid hj
      have HQ2 := Lib.hid (show ((q / 256 : Nat) : Int) = (q : Int) / 256 by omega)
      have q5 : (q : Int) ≤ 4611686018427387904 := by
        have h1 : q ≤ n := by rw [← hq]; exact Nat.div_le_self _ _
        have h2 := HX.out
        omega
      have HV := Lib.hid (show (q : Int) % 256 = (((UInt8.ofNat q).toNat : Nat) : Int) by simp)
      clear hqq hbe hq em hcl hj hb q3
      go_wp2
      go_roundw
      case rel =>
        refine ⟨j, by have := HJ.out; omega, rfl, by rw [HQQ.out, HQ2.out], ?_, HK.out.setCell (p := ⟨g, j, none⟩) (.inr (by rw [HG.out]; exact Nat.le_refl _)) _⟩
        rw [HV.out, blk_set HB.out j, set_zero, HBE.out]
      case measure => simp only [intOf]; omega

set_option maxHeartbeats 3200000 in
set_option maxRecDepth 100000 in
theorem rput_1 (n : Nat) (w : World) (h0 : 64 ≤ n) (h : n < 16384) : Calls Try.prog 22 #[.slice none 0 0, .int .i64 n] w fun e w' => (∃ A c, e = .returned (.tuple #[.slice A (encN n).length c, .bool true]) ∧ w'.ownsRow w.heap.size 5 1 (.slice A (encN n).length c) (encN n).length (bc (encN n))) ∧ Kept w w' (fun _ => False) := by
  have hcls : cls n = 1 := by unfold cls; (first | rw [if_pos (by omega)] | (rw [if_neg (by omega)]; first | rw [if_pos (by omega)] | (rw [if_neg (by omega)]; first | rw [if_pos (by omega)] | (rw [if_neg (by omega)]))))
  have hen : encN n = UInt8.ofNat (n / 256 ^ (2 - 1) + 64) :: be n (2 - 1) := by
    unfold encN
    rw [hcls]
    show be (n + 16384) 2 = _
    have e : n + 16384 = n + 64 * 256 ^ (2 - 1) := by simp
    rw [e]
    show UInt8.ofNat ((n + 64 * 256 ^ (2 - 1)) / 256 ^ (2 - 1)) :: be (n + 64 * 256 ^ (2 - 1)) (2 - 1) = _
    rw [be_add _ _ _ _ (Nat.le_refl _), Nat.add_mul_div_right _ _ (by decide)]
  have hlt : n / 256 ^ (2 - 1) < 64 := by rw [Nat.div_lt_iff_lt_mul (by decide)]; simpa using h
  obtain ⟨x, hx⟩ : ∃ x : Int, (n : Int) = x := ⟨_, rfl⟩
  have b0 : ¬ x < 0 := by omega
  have b1 : ¬ (4611686018427387903 : Int) < x := by omega
  have b2 : x < 16384 := by omega
  have b3 : (64 : Int) ≤ x := by omega
  have HX := Lib.hid hx
  have HEN := Lib.hid hen
  have HLT := Lib.hid hlt
  rw [hx]
  obtain ⟨i8, h81, h82, h83, h84⟩ := elemByte.info
  have J8 := Lib.hid (And.intro h81 (And.intro h82 (And.intro h83 h84)))
  clear h81 h82 h83 h84 hcls hen hlt hx h0 h
  go_enter Try.func22, Try.ntmps22
  go_wp2_with (at_make; apply hold)
  unfold Hold
  refine wpList_make_full w rfl (.tmp 22) (.tmp 22) 52 rfl w.heap.size 5 i8 _ 1 elemByte.under J8.out.1 J8.out.2.1 J8.out.2.2.1 .i64 .i64 2 2 2 rfl rfl rfl rfl (by rw [J8.out.2.2.2]; decide) (by decide) (Nat.le_refl _) (fun w2 o2 g2 => ?_)
  rw [show (Value.int IntKind.u8 0).cells = #[Value.int IntKind.u8 0] from rfl, Nat.mul_one, toList_madeCells_one, bc_zeros] at o2
  have hb2 := own_full o2
  have K2 := Kept.grown (Kept.refl w (fun _ => False)) g2 (fun k hk => by cases hk)
  obtain ⟨g, hg⟩ : ∃ g, w.heap.size = g := ⟨_, rfl⟩
  rw [hg] at hb2 ⊢
  have HG := Lib.hid hg
  have HB2 := Lib.hid hb2
  have HK2 := Lib.hid K2
  clear o2 g2 hb2 K2 hg
  go_wp2
  go_loopw [1, 9] (fun nv iv wr => ∃ j : Nat, j ≤ 2 ∧ iv = .int .i64 ((j : Int) - 1) ∧ nv = .int .i64 ((n / 256 ^ (2 - j) : Nat) : Int) ∧ wr.heap[g]? = some (.cells (bc (List.replicate j 0 ++ be n (2 - j))).toArray 5 (0, 0)) ∧ Kept w wr (fun _ => False)) (fun _ iv _ => (intOf iv + 1).toNat)
  case atStart => exact ⟨2, Nat.le_refl _, rfl, by rw [← HX.out]; simp, by simpa [be] using HB2.out, HK2.out⟩
  case round =>
    obtain ⟨j, hj, rfl, rfl, hb, hk⟩ := hrel
    have HK := Lib.hid hk
    have HB := Lib.hid hb
    clear hk
    cases j with
    | zero =>
      rw [List.replicate_zero, List.nil_append, Nat.sub_zero] at HB
      have hbe : be n 2 = UInt8.ofNat (n / 256 ^ (2 - 1)) :: be n (2 - 1) := rfl
      rw [hbe] at HB
      obtain ⟨y, hy⟩ : ∃ y, n / 256 ^ (2 - 1) = y := ⟨_, rfl⟩
      rw [hy] at HB HEN HLT
      have c0 := cellOf (j := 0) HB.out
      simp only [bc, List.map_cons, List.getElem?_toArray, List.getElem?_cons_zero] at c0
      have f0 := freeOf (j := 0) HB.out
      have hy2 : (((UInt8.ofNat y).toNat : Nat) : Int) = (y : Int) := by have := HLT.out; simp; omega
      rw [hy2] at c0
      have q1 : (y : Int) < 64 := by have := HLT.out; omega
      have q2 : (0 : Int) ≤ y := by omega
      clear hbe hy hy2 hb hj
      go_wp2_with (at_builtin; apply hold)
      unfold Hold
      have hl : (encN n).length = 2 := by rw [HEN.out]; simp [be_length]
      have hrow : RowIn (wr.setCell ⟨g, 0, none⟩ (.int .u8 ((y : Int) + 64))) (some ⟨g, 0, none⟩) 2 (bc (encN n)) := by
        have h1 := blk_set HB.out 0 (.int .u8 ((y : Int) + 64))
        have h2 : (y : Int) + 64 = (((UInt8.ofNat (y + 64)).toNat : Nat) : Int) := by have := HLT.out; simp; omega
        rw [h2, set_head, ← HEN.out] at h1
        have h3 := row_of_blk h1 (by rw [bc_len, hl]; decide)
        rw [bc_len, hl] at h3
        rw [h2]
        exact h3
      have hk2 := HK.out.setCell (p := ⟨g, 0, none⟩) (.inr (by rw [HG.out]; exact Nat.le_refl _)) (.int .u8 ((y : Int) + 64))
      have hs := src_row (c := 2) (t := 52) hrow elemByte.under (bc_one _)
      have HL := Lib.hid hl
      clear hl
      refine wpList_append_ownS _ rfl (.tmp 46) (.tmp 47) 52 52 rfl w.heap.size 5 (.int .u8 0) 1 1 elemByte (.slice none 0 0) 0 [] rfl (World.ownsRow_nil _ _ _ _) (.slice (some ⟨g, 0, none⟩) 2 2) 2 (bc (encN n)) rfl hs (by decide) hk2.size (fun v' w3 o1 g1 b1 => ?_)
      have K3 := Lib.hid (Kept.grown hk2 g1 (fun k hk => by cases hk))
      simp only [Nat.zero_add, List.nil_append] at o1
      obtain ⟨A, c, hA, _⟩ := own_slice o1
      subst hA
      have RO := Lib.hid o1
      clear hs hk2 hrow o1 g1 b1 c0 f0
      go_wp2
      go_ret2
      rw [HL.out]
      exact ⟨⟨A, c, rfl, RO.out⟩, K3.out⟩
    | succ j =>
      obtain ⟨q, hq⟩ : ∃ q, n / 256 ^ (2 - (j + 1)) = q := ⟨_, rfl⟩
      have hqq : n / 256 ^ (2 - j) = q / 256 := by rw [← hq, Nat.div_div_eq_div_mul, ← Nat.pow_succ]; congr 2; omega
      have hbe : be n (2 - j) = UInt8.ofNat q :: be n (2 - (j + 1)) := by
        rw [show 2 - j = (2 - (j + 1)) + 1 by omega]
        simp only [be]
        rw [hq]
      have em : (((j + 1 : Nat) : Int) - 1) = (j : Int) := by omega
      rw [em, hq]
      have c0 := cellOf (j := j) hb
      have hcl : (bc (List.replicate (j + 1) 0 ++ be n (2 - (j + 1)))).toArray[j]? = some (.int .u8 0) := by
        have e : bc (List.replicate (j + 1) 0 ++ be n (2 - (j + 1))) = bc (List.replicate j 0) ++ .int .u8 0 :: bc (be n (2 - (j + 1))) := by
          rw [List.replicate_succ', List.append_assoc, bc_append]
          rfl
        simp only [List.getElem?_toArray]
        rw [e, List.getElem?_append_right (by simp [bc])]
        simp [bc]
      rw [hcl] at c0
      have f0 := freeOf (j := j) hb
      have q1 : (0 : Int) ≤ j := by omega
      have q2 : (j : Int) < 2 := by omega
      have q3 : IntKind.u8.wrap ((q : Int) % 256) = (((UInt8.ofNat q).toNat : Nat) : Int) := by rw [IntKind.wrap_u8]; simp
      have q4 : (0 : Int) ≤ q := by omega
      have HQQ := Lib.hid hqq
      have HBE := Lib.hid hbe
      have HJ := Lib.hid hj
      have HQ2 := Lib.hid (show ((q / 256 : Nat) : Int) = (q : Int) / 256 by omega)
      have q5 : (q : Int) ≤ 4611686018427387904 := by
        have h1 : q ≤ n := by rw [← hq]; exact Nat.div_le_self _ _
        have h2 := HX.out
        omega
      have HV := Lib.hid (show (q : Int) % 256 = (((UInt8.ofNat q).toNat : Nat) : Int) by simp)
      clear hqq hbe hq em hcl hj hb q3
      go_wp2
      go_roundw
      case rel =>
        refine ⟨j, by have := HJ.out; omega, rfl, by rw [HQQ.out, HQ2.out], ?_, HK.out.setCell (p := ⟨g, j, none⟩) (.inr (by rw [HG.out]; exact Nat.le_refl _)) _⟩
        rw [HV.out, blk_set HB.out j, set_zero, HBE.out]
      case measure => simp only [intOf]; omega

set_option maxHeartbeats 3200000 in
set_option maxRecDepth 100000 in
theorem rput_2 (n : Nat) (w : World) (h0 : 16384 ≤ n) (h : n < 1073741824) : Calls Try.prog 22 #[.slice none 0 0, .int .i64 n] w fun e w' => (∃ A c, e = .returned (.tuple #[.slice A (encN n).length c, .bool true]) ∧ w'.ownsRow w.heap.size 5 1 (.slice A (encN n).length c) (encN n).length (bc (encN n))) ∧ Kept w w' (fun _ => False) := by
  have hcls : cls n = 2 := by unfold cls; (first | rw [if_pos (by omega)] | (rw [if_neg (by omega)]; first | rw [if_pos (by omega)] | (rw [if_neg (by omega)]; first | rw [if_pos (by omega)] | (rw [if_neg (by omega)]))))
  have hen : encN n = UInt8.ofNat (n / 256 ^ (4 - 1) + 128) :: be n (4 - 1) := by
    unfold encN
    rw [hcls]
    show be (n + 2147483648) 4 = _
    have e : n + 2147483648 = n + 128 * 256 ^ (4 - 1) := by simp
    rw [e]
    show UInt8.ofNat ((n + 128 * 256 ^ (4 - 1)) / 256 ^ (4 - 1)) :: be (n + 128 * 256 ^ (4 - 1)) (4 - 1) = _
    rw [be_add _ _ _ _ (Nat.le_refl _), Nat.add_mul_div_right _ _ (by decide)]
  have hlt : n / 256 ^ (4 - 1) < 64 := by rw [Nat.div_lt_iff_lt_mul (by decide)]; simpa using h
  obtain ⟨x, hx⟩ : ∃ x : Int, (n : Int) = x := ⟨_, rfl⟩
  have b0 : ¬ x < 0 := by omega
  have b1 : ¬ (4611686018427387903 : Int) < x := by omega
  have b2 : x < 1073741824 := by omega
  have b3 : (16384 : Int) ≤ x := by omega
  have HX := Lib.hid hx
  have HEN := Lib.hid hen
  have HLT := Lib.hid hlt
  rw [hx]
  obtain ⟨i8, h81, h82, h83, h84⟩ := elemByte.info
  have J8 := Lib.hid (And.intro h81 (And.intro h82 (And.intro h83 h84)))
  clear h81 h82 h83 h84 hcls hen hlt hx h0 h
  go_enter Try.func22, Try.ntmps22
  go_wp2_with (at_make; apply hold)
  unfold Hold
  refine wpList_make_full w rfl (.tmp 22) (.tmp 22) 52 rfl w.heap.size 5 i8 _ 1 elemByte.under J8.out.1 J8.out.2.1 J8.out.2.2.1 .i64 .i64 4 4 4 rfl rfl rfl rfl (by rw [J8.out.2.2.2]; decide) (by decide) (Nat.le_refl _) (fun w2 o2 g2 => ?_)
  rw [show (Value.int IntKind.u8 0).cells = #[Value.int IntKind.u8 0] from rfl, Nat.mul_one, toList_madeCells_one, bc_zeros] at o2
  have hb2 := own_full o2
  have K2 := Kept.grown (Kept.refl w (fun _ => False)) g2 (fun k hk => by cases hk)
  obtain ⟨g, hg⟩ : ∃ g, w.heap.size = g := ⟨_, rfl⟩
  rw [hg] at hb2 ⊢
  have HG := Lib.hid hg
  have HB2 := Lib.hid hb2
  have HK2 := Lib.hid K2
  clear o2 g2 hb2 K2 hg
  go_wp2
  go_loopw [1, 9] (fun nv iv wr => ∃ j : Nat, j ≤ 4 ∧ iv = .int .i64 ((j : Int) - 1) ∧ nv = .int .i64 ((n / 256 ^ (4 - j) : Nat) : Int) ∧ wr.heap[g]? = some (.cells (bc (List.replicate j 0 ++ be n (4 - j))).toArray 5 (0, 0)) ∧ Kept w wr (fun _ => False)) (fun _ iv _ => (intOf iv + 1).toNat)
  case atStart => exact ⟨4, Nat.le_refl _, rfl, by rw [← HX.out]; simp, by simpa [be] using HB2.out, HK2.out⟩
  case round =>
    obtain ⟨j, hj, rfl, rfl, hb, hk⟩ := hrel
    have HK := Lib.hid hk
    have HB := Lib.hid hb
    clear hk
    cases j with
    | zero =>
      rw [List.replicate_zero, List.nil_append, Nat.sub_zero] at HB
      have hbe : be n 4 = UInt8.ofNat (n / 256 ^ (4 - 1)) :: be n (4 - 1) := rfl
      rw [hbe] at HB
      obtain ⟨y, hy⟩ : ∃ y, n / 256 ^ (4 - 1) = y := ⟨_, rfl⟩
      rw [hy] at HB HEN HLT
      have c0 := cellOf (j := 0) HB.out
      simp only [bc, List.map_cons, List.getElem?_toArray, List.getElem?_cons_zero] at c0
      have f0 := freeOf (j := 0) HB.out
      have hy2 : (((UInt8.ofNat y).toNat : Nat) : Int) = (y : Int) := by have := HLT.out; simp; omega
      rw [hy2] at c0
      have q1 : (y : Int) < 64 := by have := HLT.out; omega
      have q2 : (0 : Int) ≤ y := by omega
      clear hbe hy hy2 hb hj
      go_wp2_with (at_builtin; apply hold)
      unfold Hold
      have hl : (encN n).length = 4 := by rw [HEN.out]; simp [be_length]
      have hrow : RowIn (wr.setCell ⟨g, 0, none⟩ (.int .u8 ((y : Int) + 128))) (some ⟨g, 0, none⟩) 4 (bc (encN n)) := by
        have h1 := blk_set HB.out 0 (.int .u8 ((y : Int) + 128))
        have h2 : (y : Int) + 128 = (((UInt8.ofNat (y + 128)).toNat : Nat) : Int) := by have := HLT.out; simp; omega
        rw [h2, set_head, ← HEN.out] at h1
        have h3 := row_of_blk h1 (by rw [bc_len, hl]; decide)
        rw [bc_len, hl] at h3
        rw [h2]
        exact h3
      have hk2 := HK.out.setCell (p := ⟨g, 0, none⟩) (.inr (by rw [HG.out]; exact Nat.le_refl _)) (.int .u8 ((y : Int) + 128))
      have hs := src_row (c := 4) (t := 52) hrow elemByte.under (bc_one _)
      have HL := Lib.hid hl
      clear hl
      refine wpList_append_ownS _ rfl (.tmp 46) (.tmp 47) 52 52 rfl w.heap.size 5 (.int .u8 0) 1 1 elemByte (.slice none 0 0) 0 [] rfl (World.ownsRow_nil _ _ _ _) (.slice (some ⟨g, 0, none⟩) 4 4) 4 (bc (encN n)) rfl hs (by decide) hk2.size (fun v' w3 o1 g1 b1 => ?_)
      have K3 := Lib.hid (Kept.grown hk2 g1 (fun k hk => by cases hk))
      simp only [Nat.zero_add, List.nil_append] at o1
      obtain ⟨A, c, hA, _⟩ := own_slice o1
      subst hA
      have RO := Lib.hid o1
      clear hs hk2 hrow o1 g1 b1 c0 f0
      go_wp2
      go_ret2
      rw [HL.out]
      exact ⟨⟨A, c, rfl, RO.out⟩, K3.out⟩
    | succ j =>
      obtain ⟨q, hq⟩ : ∃ q, n / 256 ^ (4 - (j + 1)) = q := ⟨_, rfl⟩
      have hqq : n / 256 ^ (4 - j) = q / 256 := by rw [← hq, Nat.div_div_eq_div_mul, ← Nat.pow_succ]; congr 2; omega
      have hbe : be n (4 - j) = UInt8.ofNat q :: be n (4 - (j + 1)) := by
        rw [show 4 - j = (4 - (j + 1)) + 1 by omega]
        simp only [be]
        rw [hq]
      have em : (((j + 1 : Nat) : Int) - 1) = (j : Int) := by omega
      rw [em, hq]
      have c0 := cellOf (j := j) hb
      have hcl : (bc (List.replicate (j + 1) 0 ++ be n (4 - (j + 1)))).toArray[j]? = some (.int .u8 0) := by
        have e : bc (List.replicate (j + 1) 0 ++ be n (4 - (j + 1))) = bc (List.replicate j 0) ++ .int .u8 0 :: bc (be n (4 - (j + 1))) := by
          rw [List.replicate_succ', List.append_assoc, bc_append]
          rfl
        simp only [List.getElem?_toArray]
        rw [e, List.getElem?_append_right (by simp [bc])]
        simp [bc]
      rw [hcl] at c0
      have f0 := freeOf (j := j) hb
      have q1 : (0 : Int) ≤ j := by omega
      have q2 : (j : Int) < 4 := by omega
      have q3 : IntKind.u8.wrap ((q : Int) % 256) = (((UInt8.ofNat q).toNat : Nat) : Int) := by rw [IntKind.wrap_u8]; simp
      have q4 : (0 : Int) ≤ q := by omega
      have HQQ := Lib.hid hqq
      have HBE := Lib.hid hbe
      have HJ := Lib.hid hj
      have HQ2 := Lib.hid (show ((q / 256 : Nat) : Int) = (q : Int) / 256 by omega)
      have q5 : (q : Int) ≤ 4611686018427387904 := by
        have h1 : q ≤ n := by rw [← hq]; exact Nat.div_le_self _ _
        have h2 := HX.out
        omega
      have HV := Lib.hid (show (q : Int) % 256 = (((UInt8.ofNat q).toNat : Nat) : Int) by simp)
      clear hqq hbe hq em hcl hj hb q3
      go_wp2
      go_roundw
      case rel =>
        refine ⟨j, by have := HJ.out; omega, rfl, by rw [HQQ.out, HQ2.out], ?_, HK.out.setCell (p := ⟨g, j, none⟩) (.inr (by rw [HG.out]; exact Nat.le_refl _)) _⟩
        rw [HV.out, blk_set HB.out j, set_zero, HBE.out]
      case measure => simp only [intOf]; omega

set_option maxHeartbeats 3200000 in
set_option maxRecDepth 100000 in
theorem rput_3 (n : Nat) (w : World) (h0 : 1073741824 ≤ n) (h : n < 4611686018427387904) : Calls Try.prog 22 #[.slice none 0 0, .int .i64 n] w fun e w' => (∃ A c, e = .returned (.tuple #[.slice A (encN n).length c, .bool true]) ∧ w'.ownsRow w.heap.size 5 1 (.slice A (encN n).length c) (encN n).length (bc (encN n))) ∧ Kept w w' (fun _ => False) := by
  have hcls : cls n = 3 := by unfold cls; (first | rw [if_pos (by omega)] | (rw [if_neg (by omega)]; first | rw [if_pos (by omega)] | (rw [if_neg (by omega)]; first | rw [if_pos (by omega)] | (rw [if_neg (by omega)]))))
  have hen : encN n = UInt8.ofNat (n / 256 ^ (8 - 1) + 192) :: be n (8 - 1) := by
    unfold encN
    rw [hcls]
    show be (n + 13835058055282163712) 8 = _
    have e : n + 13835058055282163712 = n + 192 * 256 ^ (8 - 1) := by simp
    rw [e]
    show UInt8.ofNat ((n + 192 * 256 ^ (8 - 1)) / 256 ^ (8 - 1)) :: be (n + 192 * 256 ^ (8 - 1)) (8 - 1) = _
    rw [be_add _ _ _ _ (Nat.le_refl _), Nat.add_mul_div_right _ _ (by decide)]
  have hlt : n / 256 ^ (8 - 1) < 64 := by rw [Nat.div_lt_iff_lt_mul (by decide)]; simpa using h
  obtain ⟨x, hx⟩ : ∃ x : Int, (n : Int) = x := ⟨_, rfl⟩
  have b0 : ¬ x < 0 := by omega
  have b1 : ¬ (4611686018427387903 : Int) < x := by omega
  have b2 : x < 4611686018427387904 := by omega
  have b3 : (1073741824 : Int) ≤ x := by omega
  have HX := Lib.hid hx
  have HEN := Lib.hid hen
  have HLT := Lib.hid hlt
  rw [hx]
  obtain ⟨i8, h81, h82, h83, h84⟩ := elemByte.info
  have J8 := Lib.hid (And.intro h81 (And.intro h82 (And.intro h83 h84)))
  clear h81 h82 h83 h84 hcls hen hlt hx h0 h
  go_enter Try.func22, Try.ntmps22
  go_wp2_with (at_make; apply hold)
  unfold Hold
  refine wpList_make_full w rfl (.tmp 22) (.tmp 22) 52 rfl w.heap.size 5 i8 _ 1 elemByte.under J8.out.1 J8.out.2.1 J8.out.2.2.1 .i64 .i64 8 8 8 rfl rfl rfl rfl (by rw [J8.out.2.2.2]; decide) (by decide) (Nat.le_refl _) (fun w2 o2 g2 => ?_)
  rw [show (Value.int IntKind.u8 0).cells = #[Value.int IntKind.u8 0] from rfl, Nat.mul_one, toList_madeCells_one, bc_zeros] at o2
  have hb2 := own_full o2
  have K2 := Kept.grown (Kept.refl w (fun _ => False)) g2 (fun k hk => by cases hk)
  obtain ⟨g, hg⟩ : ∃ g, w.heap.size = g := ⟨_, rfl⟩
  rw [hg] at hb2 ⊢
  have HG := Lib.hid hg
  have HB2 := Lib.hid hb2
  have HK2 := Lib.hid K2
  clear o2 g2 hb2 K2 hg
  go_wp2
  go_loopw [1, 9] (fun nv iv wr => ∃ j : Nat, j ≤ 8 ∧ iv = .int .i64 ((j : Int) - 1) ∧ nv = .int .i64 ((n / 256 ^ (8 - j) : Nat) : Int) ∧ wr.heap[g]? = some (.cells (bc (List.replicate j 0 ++ be n (8 - j))).toArray 5 (0, 0)) ∧ Kept w wr (fun _ => False)) (fun _ iv _ => (intOf iv + 1).toNat)
  case atStart => exact ⟨8, Nat.le_refl _, rfl, by rw [← HX.out]; simp, by simpa [be] using HB2.out, HK2.out⟩
  case round =>
    obtain ⟨j, hj, rfl, rfl, hb, hk⟩ := hrel
    have HK := Lib.hid hk
    have HB := Lib.hid hb
    clear hk
    cases j with
    | zero =>
      rw [List.replicate_zero, List.nil_append, Nat.sub_zero] at HB
      have hbe : be n 8 = UInt8.ofNat (n / 256 ^ (8 - 1)) :: be n (8 - 1) := rfl
      rw [hbe] at HB
      obtain ⟨y, hy⟩ : ∃ y, n / 256 ^ (8 - 1) = y := ⟨_, rfl⟩
      rw [hy] at HB HEN HLT
      have c0 := cellOf (j := 0) HB.out
      simp only [bc, List.map_cons, List.getElem?_toArray, List.getElem?_cons_zero] at c0
      have f0 := freeOf (j := 0) HB.out
      have hy2 : (((UInt8.ofNat y).toNat : Nat) : Int) = (y : Int) := by have := HLT.out; simp; omega
      rw [hy2] at c0
      have q1 : (y : Int) < 64 := by have := HLT.out; omega
      have q2 : (0 : Int) ≤ y := by omega
      clear hbe hy hy2 hb hj
      go_wp2_with (at_builtin; apply hold)
      unfold Hold
      have hl : (encN n).length = 8 := by rw [HEN.out]; simp [be_length]
      have hrow : RowIn (wr.setCell ⟨g, 0, none⟩ (.int .u8 ((y : Int) + 192))) (some ⟨g, 0, none⟩) 8 (bc (encN n)) := by
        have h1 := blk_set HB.out 0 (.int .u8 ((y : Int) + 192))
        have h2 : (y : Int) + 192 = (((UInt8.ofNat (y + 192)).toNat : Nat) : Int) := by have := HLT.out; simp; omega
        rw [h2, set_head, ← HEN.out] at h1
        have h3 := row_of_blk h1 (by rw [bc_len, hl]; decide)
        rw [bc_len, hl] at h3
        rw [h2]
        exact h3
      have hk2 := HK.out.setCell (p := ⟨g, 0, none⟩) (.inr (by rw [HG.out]; exact Nat.le_refl _)) (.int .u8 ((y : Int) + 192))
      have hs := src_row (c := 8) (t := 52) hrow elemByte.under (bc_one _)
      have HL := Lib.hid hl
      clear hl
      refine wpList_append_ownS _ rfl (.tmp 46) (.tmp 47) 52 52 rfl w.heap.size 5 (.int .u8 0) 1 1 elemByte (.slice none 0 0) 0 [] rfl (World.ownsRow_nil _ _ _ _) (.slice (some ⟨g, 0, none⟩) 8 8) 8 (bc (encN n)) rfl hs (by decide) hk2.size (fun v' w3 o1 g1 b1 => ?_)
      have K3 := Lib.hid (Kept.grown hk2 g1 (fun k hk => by cases hk))
      simp only [Nat.zero_add, List.nil_append] at o1
      obtain ⟨A, c, hA, _⟩ := own_slice o1
      subst hA
      have RO := Lib.hid o1
      clear hs hk2 hrow o1 g1 b1 c0 f0
      go_wp2
      go_ret2
      rw [HL.out]
      exact ⟨⟨A, c, rfl, RO.out⟩, K3.out⟩
    | succ j =>
      obtain ⟨q, hq⟩ : ∃ q, n / 256 ^ (8 - (j + 1)) = q := ⟨_, rfl⟩
      have hqq : n / 256 ^ (8 - j) = q / 256 := by rw [← hq, Nat.div_div_eq_div_mul, ← Nat.pow_succ]; congr 2; omega
      have hbe : be n (8 - j) = UInt8.ofNat q :: be n (8 - (j + 1)) := by
        rw [show 8 - j = (8 - (j + 1)) + 1 by omega]
        simp only [be]
        rw [hq]
      have em : (((j + 1 : Nat) : Int) - 1) = (j : Int) := by omega
      rw [em, hq]
      have c0 := cellOf (j := j) hb
      have hcl : (bc (List.replicate (j + 1) 0 ++ be n (8 - (j + 1)))).toArray[j]? = some (.int .u8 0) := by
        have e : bc (List.replicate (j + 1) 0 ++ be n (8 - (j + 1))) = bc (List.replicate j 0) ++ .int .u8 0 :: bc (be n (8 - (j + 1))) := by
          rw [List.replicate_succ', List.append_assoc, bc_append]
          rfl
        simp only [List.getElem?_toArray]
        rw [e, List.getElem?_append_right (by simp [bc])]
        simp [bc]
      rw [hcl] at c0
      have f0 := freeOf (j := j) hb
      have q1 : (0 : Int) ≤ j := by omega
      have q2 : (j : Int) < 8 := by omega
      have q3 : IntKind.u8.wrap ((q : Int) % 256) = (((UInt8.ofNat q).toNat : Nat) : Int) := by rw [IntKind.wrap_u8]; simp
      have q4 : (0 : Int) ≤ q := by omega
      have HQQ := Lib.hid hqq
      have HBE := Lib.hid hbe
      have HJ := Lib.hid hj
      have HQ2 := Lib.hid (show ((q / 256 : Nat) : Int) = (q : Int) / 256 by omega)
      have q5 : (q : Int) ≤ 4611686018427387904 := by
        have h1 : q ≤ n := by rw [← hq]; exact Nat.div_le_self _ _
        have h2 := HX.out
        omega
      have HV := Lib.hid (show (q : Int) % 256 = (((UInt8.ofNat q).toNat : Nat) : Int) by simp)
      clear hqq hbe hq em hcl hj hb q3
      go_wp2
      go_roundw
      case rel =>
        refine ⟨j, by have := HJ.out; omega, rfl, by rw [HQQ.out, HQ2.out], ?_, HK.out.setCell (p := ⟨g, j, none⟩) (.inr (by rw [HG.out]; exact Nat.le_refl _)) _⟩
        rw [HV.out, blk_set HB.out j, set_zero, HBE.out]
      case measure => simp only [intOf]; omega

theorem rput_ok (n : Nat) (w : World) (h : n < 4611686018427387904) : Calls Try.prog 22 #[.slice none 0 0, .int .i64 n] w fun e w' => (∃ A c, e = .returned (.tuple #[.slice A (encN n).length c, .bool true]) ∧ w'.ownsRow w.heap.size 5 1 (.slice A (encN n).length c) (encN n).length (bc (encN n))) ∧ Kept w w' (fun _ => False) := by
  by_cases h0 : n < 64
  · exact rput_0 n w (by omega) h0
  by_cases h1 : n < 16384
  · exact rput_1 n w (by omega) h1
  by_cases h2 : n < 1073741824
  · exact rput_2 n w (by omega) h2
  · exact rput_3 n w (by omega) h
end Go.Proofs.Ytegonafacbokeaa.Codec
