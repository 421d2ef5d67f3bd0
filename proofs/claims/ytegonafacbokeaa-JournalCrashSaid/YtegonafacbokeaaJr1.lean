/-
  The package journal's reading of one record, walked.
-/
import Derived.Test.YtegonafacbokeaaJr
import Derived.Test.YtegonafacbokeaaCodLaw1
import Derived.Test.YtegonafacbokeaaCodA0
namespace Go.Proofs.Ytegonafacbokeaa.Codec
open Go.RowKit Go.Proofs.YtegonafacbokeaaBase Go.Proofs.YtegonafacbokeaaLex2 Go.Proofs.YtegonafacbokeaaNum
set_option linter.unusedVariables false
set_option linter.unusedSimpArgs false

/-- The record that a text begins with. -/
def nextV (d : ByteArray) : ByteArray × Nat := match nextS d.data.toList with
  | none => (⟨#[]⟩, 0)
  | some (t, k) => (⟨t.toArray⟩, k)
def NextRes (d : ByteArray) (w : World) (e : Ending) (w' : World) : Prop := e = .returned (.tuple #[.string (nextV d).1, .int .i64 (nextV d).2]) ∧ Kept w w' (fun _ => False)
theorem nextRes_none {d : ByteArray} {w w' : World} (h : nextS d.data.toList = none) (hk : Kept w w' (fun _ => False)) : NextRes d w (.returned (.tuple #[.string ⟨#[]⟩, .int .i64 0])) w' := by
  refine ⟨?_, hk⟩
  unfold nextV
  rw [h]
  rfl
theorem dec_pre_err {d : ByteArray} {p : Nat} {n : Nat} {s : RS} (hn : getN ⟨d.data.toList, 0⟩ = (n, s)) (he : s.err ≠ 0) (hp : p ≤ d.size) : decE numC (d.extract 0 p) ≠ 0 := fun h => by
  obtain ⟨⟨h1, h2⟩, h3⟩ := dec_is numC_good h
  have h4 : d.data.toList = (d.extract 0 p).data.toList ++ d.data.toList.drop p := by
    rw [ByteArray.data_extract]
    simp only [Array.toList_extract, List.extract_eq_take_drop, List.drop_zero, Nat.sub_zero]
    rw [List.take_append_drop]
  rw [h3] at h4
  obtain ⟨x, hx⟩ : ∃ x, (numC.get ⟨(d.extract 0 p).data.toList, 0⟩).1 = x := ⟨_, rfl⟩
  rw [hx] at h1 h2 h4
  have h5 := getN_enc x.toNat (d.data.toList.drop p) (by omega)
  have h6 : bsN x = encN x.toNat := rfl
  rw [← h6, ← h4, hn] at h5
  simp only [Prod.mk.injEq] at h5
  rw [h5.2] at he
  exact he rfl

set_option maxHeartbeats 3200000 in
set_option maxRecDepth 100000 in
theorem jnext_err (d : ByteArray) (w : World) (hd : DSize d) (n : Nat) (s : RS) (hn : getN ⟨d.data.toList, 0⟩ = (n, s)) (he : s.err ≠ 0) : Calls Try.prog 18 #[.string d] w (NextRes d w) := by
  have hz : nextS d.data.toList = none := by unfold nextS; rw [hn]; simp only; rw [if_pos he]
  have HZ := Lib.hid hz
  have HP := Lib.hid (fun (p : Nat) (hp : p ≤ d.size) => dec_pre_err (p := p) hn he hp)
  have HD := Lib.hid hd
  unfold DSize at hd
  clear hz hn he
  go_enter Try.func18, Try.ntmps18
  go_wp2
  go_loopw [4] (fun nv wr => ∃ p : Nat, 1 ≤ p ∧ p ≤ 16 ∧ nv = .int .i64 (p : Int) ∧ Kept w wr (fun _ => False)) (fun nv _ => (16 - intOf nv).toNat)
  case atStart => exact ⟨1, Nat.le_refl _, by decide, rfl, Kept.refl _ _⟩
  case round =>
    obtain ⟨p, hp1, hp16, rfl, hk⟩ := hrel
    have HK := Lib.hid hk
    clear hk
    by_cases h8 : p ≤ 8
    · have q1 : (p : Int) ≤ 8 := by omega
      by_cases hps : p ≤ d.size
      · have q2 : (p : Int) ≤ d.size := by omega
        have q3 : (0 : Int) ≤ p := by omega
        have HE := HP.out p hps
        obtain ⟨er, hee⟩ : ∃ er, decE numC (d.extract 0 p) = er := ⟨_, rfl⟩
        rw [hee] at HE
        have z2 : (er == 0) = false := by simpa using HE
        have z3 : decide (er = 0) = false := by simpa using HE
        have HER := Lib.hid hee
        have HNE := Lib.hid HE
        have D2 := Lib.hid (show DSize (d.extract 0 p) by unfold DSize; rw [ByteArray.size_extract]; omega)
        have HP1 := Lib.hid hp1
        clear hee HE hp1 hp16
        go_wp2
        refine wp_region_lex (fun _ => True) [4, 0, 0, 0, 4, 0, 0, 0, 0, 0] (by kernel_rfl) (by kernel_rfl) (by kernel_rfl) (trivial) (fun Q' hQ' => ?_)
        simp only [List.zip_cons_cons, List.zip_nil_right]
        refine wpX_heavy rfl (fun K hK => ?_)
        go_wp2_with (fail)
        refine (number_any _).mono ?_
        rintro e w1 ⟨cv, rfl, hc, hk⟩
        have HC := Lib.hid hc
        have K1 := Lib.hid (HK.out.drew.nil_trans hk)
        clear hc hk
        go_simp
        refine hK _ _ ⟨rfl, ?_⟩
        clear hK K
        repeat (first
          | (refine wpX_silent ?_ (fun K hK => ?_)
             · rfl
             apply Exists.intro
             refine ⟨fun w' => ?_, ?_⟩
             · go_simp
               exact ⟨rfl, rfl⟩
             go_simp
             refine hK _ _ ?_
             clear hK K)
          | (refine wpX_read ?_ (fun K hK => ?_)
             · rfl
             apply Exists.intro
             refine ⟨?_, ?_⟩
             · go_simp
               exact ⟨rfl, rfl⟩
             go_simp
             refine hK _ _ ?_
             clear hK K)
          | (refine wpX_float ?_ (fun K hK => ?_)
             · rfl
             apply Exists.intro
             refine ⟨fun w' hw' => ?_, ?_⟩
             · try dsimp only at hw'
               go_simp
               exact ⟨rfl, rfl⟩
             go_simp
             refine hK _ _ ?_
             clear hK K)
          | (refine wpX_not ?_ (fun K hK => ?_)
             · rfl
             go_simp
             refine hK _ _ ?_
             clear hK K))
        refine wpX_heavy rfl (fun K hK => ?_)
        go_wp2_with (fail)
        refine (decode_int w1 cv numC _ w1 HC.out numC_fair (Same.refl _) D2.out).mono ?_
        rw [HER.out]
        rintro e w2 ⟨hk, h⟩
        have K2 := Lib.hid (K1.out.nil_trans hk)
        obtain rfl := (h.resolve_right fun h => HNE.out h.1).2
        clear hk h HC
        go_simp
        refine hK _ _ ⟨rfl, ?_⟩
        clear hK K
        repeat (first
          | (refine wpX_silent ?_ (fun K hK => ?_)
             · rfl
             apply Exists.intro
             refine ⟨fun w' => ?_, ?_⟩
             · go_simp
               exact ⟨rfl, rfl⟩
             go_simp
             refine hK _ _ ?_
             clear hK K)
          | (refine wpX_read ?_ (fun K hK => ?_)
             · rfl
             apply Exists.intro
             refine ⟨?_, ?_⟩
             · go_simp
               exact ⟨rfl, rfl⟩
             go_simp
             refine hK _ _ ?_
             clear hK K)
          | (refine wpX_float ?_ (fun K hK => ?_)
             · rfl
             apply Exists.intro
             refine ⟨fun w' hw' => ?_, ?_⟩
             · try dsimp only at hw'
               go_simp
               exact ⟨rfl, rfl⟩
             go_simp
             refine hK _ _ ?_
             clear hK K)
          | (refine wpX_not ?_ (fun K hK => ?_)
             · rfl
             go_simp
             refine hK _ _ ?_
             clear hK K))
        refine wpX_nil (hQ' _ _ ?_)
        go_wp2
        go_roundw
        case rel => exact ⟨p * 2, by have := HP1.out; omega, by omega, by go_num, K2.out⟩
        case measure => simp only [intOf]; have := HP1.out; omega
      · have q2 : ¬ (p : Int) ≤ d.size := by omega
        go_wp2
        go_ret2
        exact nextRes_none HZ.out HK.out
    · have q1 : ¬ (p : Int) ≤ 8 := by omega
      go_wp2
      go_ret2
      exact nextRes_none HZ.out HK.out

theorem extract_take (d : ByteArray) (p : Nat) : (d.extract 0 p).data.toList = d.data.toList.take p := by
  rw [ByteArray.data_extract]
  simp only [Array.toList_extract, List.extract_eq_take_drop, List.drop_zero, Nat.sub_zero]
/-- What is known of a text that begins with a number. -/
structure NumAhead (d : ByteArray) (n L : Nat) (r : List UInt8) : Prop where
  bytes : d.data.toList = encN n ++ r
  len : (encN n).length = L
  lt : n < 4611686018427387904
theorem NumAhead.cut {d : ByteArray} {n L p : Nat} {r : List UInt8} (h : NumAhead d n L r) (hp : p < L) : decE numC (d.extract 0 p) = 20 := by
  have h1 : (d.extract 0 p).data.toList = (encN n).take p := by rw [extract_take, h.bytes, List.take_append_of_le_length (by rw [h.len]; omega)]
  refine dec_cut numC_good (x := (n : Int)) ⟨by omega, by have := h.lt; omega⟩ ?_ ?_
  · rw [h1]; exact List.take_prefix _ _
  · rw [h1, List.length_take]
    show _ < (encN n).length
    rw [h.len]; omega
theorem NumAhead.dec {d : ByteArray} {n L : Nat} {r : List UInt8} (h : NumAhead d n L r) : decE numC (d.extract 0 L) = 0 ∧ (numC.get ⟨(d.extract 0 L).data.toList, 0⟩).1 = n := by
  have h1 : (d.extract 0 L).data.toList = encN n := by rw [extract_take, h.bytes, ← h.len, List.take_left]
  exact dec_ok numC_good (x := (n : Int)) ⟨by omega, by have := h.lt; omega⟩ h1
theorem NumAhead.size {d : ByteArray} {n L : Nat} {r : List UInt8} (h : NumAhead d n L r) : d.size = L + r.length := by
  rw [← len_data, h.bytes, List.length_append, h.len]
theorem NumAhead.text {d : ByteArray} {n L : Nat} {r : List UInt8} (h : NumAhead d n L r) (a b : Nat) : d.extract (L + a) (L + a + b) = ⟨((r.drop a).take b).toArray⟩ := by
  rw [drop_take_mk, h.bytes]
  congr 3
  rw [List.drop_append, h.len, List.drop_eq_nil_of_le (by rw [h.len]; omega)]
  simp
theorem NumAhead.next {d : ByteArray} {n L : Nat} {r : List UInt8} (h : NumAhead d n L r) : nextS d.data.toList = if 1048576 < n then none else if r.length < n + 1 then none else if r[n]? = some 46 then some (r.take n, L + n + 1) else none := by
  unfold nextS
  rw [h.bytes, getN_enc _ _ h.lt]
  simp only
  rw [if_neg (by simp), List.length_append, h.len]
  split
  · rfl
  split
  · rfl
  split
  · congr 3; omega
  · rfl

set_option maxHeartbeats 3200000 in
set_option maxRecDepth 100000 in
theorem jnext_far (d : ByteArray) (w : World) (hd : DSize d) (n L : Nat) (r : List UInt8) (ha : NumAhead d n L r) (h1 : 1048576 < n) : Calls Try.prog 18 #[.string d] w (NextRes d w) := by
  have HZ : Hid (nextS d.data.toList = none) := by rw [ha.next, if_pos h1]; exact Lib.hid rfl
  have HA := Lib.hid ha
  have HL1 := Lib.hid (show 1 ≤ L by rw [← ha.len]; exact encN_pos n)
  have HL8 := Lib.hid (show L ≤ 8 by rw [← ha.len]; exact encN_le n)
  have HLS := Lib.hid (show L ≤ d.size by rw [ha.size]; omega)
  have HSZ := Lib.hid ha.size
  have HJ : Hid (∃ j, L = 2 ^ j) := Lib.hid ⟨cls n, by rw [← ha.len, encN_length]⟩
  have hlt := ha.lt
  unfold DSize at hd
  have HDS := Lib.hid hd
  clear ha hd
  have z1 : (1048576 : Int) < (n : Int) := by omega
  clear h1 hlt
  go_enter Try.func18, Try.ntmps18
  go_wp2
  go_loopw [4] (fun nv wr => ∃ p j : Nat, p * 2 ^ j = L ∧ nv = .int .i64 (p : Int) ∧ Kept w wr (fun _ => False)) (fun nv _ => (16 - intOf nv).toNat)
  case atStart =>
    obtain ⟨j, hj⟩ := HJ.out
    exact ⟨1, j, by rw [hj, Nat.one_mul], rfl, Kept.refl _ _⟩
  case round =>
    obtain ⟨p, j, hpj, rfl, hk⟩ := hrel
    have HK := Lib.hid hk
    clear hk
    have hp1 : 1 ≤ p := by
      rcases Nat.eq_zero_or_pos p with h0 | h0
      · rw [h0] at hpj; have := HL1.out; simp at hpj; omega
      · exact h0
    have hj1 := Nat.two_pow_pos j
    have hpl : p ≤ L := by have := Nat.le_mul_of_pos_right p hj1; omega
    have hl8 := HL8.out
    have hls := HLS.out
    have hds := HDS.out
    have q1 : (p : Int) ≤ 8 := by omega
    have q2 : (p : Int) ≤ d.size := by omega
    have q3 : (0 : Int) ≤ p := by omega
    have D2 := Lib.hid (show DSize (d.extract 0 p) by unfold DSize; rw [ByteArray.size_extract]; omega)
    cases j with
    | succ j =>
      have hpl2 : p < L := by
        have := Nat.two_pow_pos j
        rw [Nat.pow_succ] at hpj
        have h2 : p * 2 ≤ L := by
          rw [← hpj, Nat.mul_comm (2 ^ j), ← Nat.mul_assoc]
          exact Nat.le_mul_of_pos_right _ this
        omega
      have HER := Lib.hid (HA.out.cut hpl2)
      have HPJ := Lib.hid (show p * 2 * 2 ^ j = L by rw [← hpj, Nat.pow_succ, Nat.mul_comm (2 ^ j), Nat.mul_assoc])
      have HP1 := Lib.hid hp1
      clear hp1 hj1 hpl hpl2 hpj hl8 hls hds
      go_wp2
      refine wp_region_lex (fun _ => True) [4, 0, 0, 0, 4, 0, 0, 0, 0, 0] (by kernel_rfl) (by kernel_rfl) (by kernel_rfl) (trivial) (fun Q' hQ' => ?_)
      simp only [List.zip_cons_cons, List.zip_nil_right]
      refine wpX_heavy rfl (fun K hK => ?_)
      go_wp2_with (fail)
      refine (number_any _).mono ?_
      rintro e w1 ⟨cv, rfl, hc, hk⟩
      have HC := Lib.hid hc
      have K1 := Lib.hid (HK.out.drew.nil_trans hk)
      clear hc hk
      go_simp
      refine hK _ _ ⟨rfl, ?_⟩
      clear hK K
      repeat (first
        | (refine wpX_silent ?_ (fun K hK => ?_)
           · rfl
           apply Exists.intro
           refine ⟨fun w' => ?_, ?_⟩
           · go_simp
             exact ⟨rfl, rfl⟩
           go_simp
           refine hK _ _ ?_
           clear hK K)
        | (refine wpX_read ?_ (fun K hK => ?_)
           · rfl
           apply Exists.intro
           refine ⟨?_, ?_⟩
           · go_simp
             exact ⟨rfl, rfl⟩
           go_simp
           refine hK _ _ ?_
           clear hK K)
        | (refine wpX_float ?_ (fun K hK => ?_)
           · rfl
           apply Exists.intro
           refine ⟨fun w' hw' => ?_, ?_⟩
           · try dsimp only at hw'
             go_simp
             exact ⟨rfl, rfl⟩
           go_simp
           refine hK _ _ ?_
           clear hK K)
        | (refine wpX_not ?_ (fun K hK => ?_)
           · rfl
           go_simp
           refine hK _ _ ?_
           clear hK K))
      refine wpX_heavy rfl (fun K hK => ?_)
      go_wp2_with (fail)
      refine (decode_int w1 cv numC _ w1 HC.out numC_fair (Same.refl _) D2.out).mono ?_
      rw [HER.out]
      rintro e w2 ⟨hk, h⟩
      have K2 := Lib.hid (K1.out.nil_trans hk)
      obtain rfl := (h.resolve_right fun h => absurd h.1 (by decide)).2
      clear hk h HC
      go_simp
      refine hK _ _ ⟨rfl, ?_⟩
      clear hK K
      repeat (first
        | (refine wpX_silent ?_ (fun K hK => ?_)
           · rfl
           apply Exists.intro
           refine ⟨fun w' => ?_, ?_⟩
           · go_simp
             exact ⟨rfl, rfl⟩
           go_simp
           refine hK _ _ ?_
           clear hK K)
        | (refine wpX_read ?_ (fun K hK => ?_)
           · rfl
           apply Exists.intro
           refine ⟨?_, ?_⟩
           · go_simp
             exact ⟨rfl, rfl⟩
           go_simp
           refine hK _ _ ?_
           clear hK K)
        | (refine wpX_float ?_ (fun K hK => ?_)
           · rfl
           apply Exists.intro
           refine ⟨fun w' hw' => ?_, ?_⟩
           · try dsimp only at hw'
             go_simp
             exact ⟨rfl, rfl⟩
           go_simp
           refine hK _ _ ?_
           clear hK K)
        | (refine wpX_not ?_ (fun K hK => ?_)
           · rfl
           go_simp
           refine hK _ _ ?_
           clear hK K))
      refine wpX_nil (hQ' _ _ ?_)
      go_wp2
      go_roundw
      case rel => exact ⟨p * 2, j, HPJ.out, by go_num, K2.out⟩
      case measure => simp only [intOf]; have := HP1.out; omega
    | zero =>
      have hpL : p = L := by simpa using hpj
      subst hpL
      have HER := Lib.hid HA.out.dec
      clear hj1 hpl hpj
      go_wp2
      refine wp_region_lex (fun _ => True) [4, 0, 0, 0, 4, 0, 0, 0, 0, 0] (by kernel_rfl) (by kernel_rfl) (by kernel_rfl) (trivial) (fun Q' hQ' => ?_)
      simp only [List.zip_cons_cons, List.zip_nil_right]
      refine wpX_heavy rfl (fun K hK => ?_)
      go_wp2_with (fail)
      refine (number_any _).mono ?_
      rintro e w1 ⟨cv, rfl, hc, hk⟩
      have HC := Lib.hid hc
      have K1 := Lib.hid (HK.out.drew.nil_trans hk)
      clear hc hk
      go_simp
      refine hK _ _ ⟨rfl, ?_⟩
      clear hK K
      repeat (first
        | (refine wpX_silent ?_ (fun K hK => ?_)
           · rfl
           apply Exists.intro
           refine ⟨fun w' => ?_, ?_⟩
           · go_simp
             exact ⟨rfl, rfl⟩
           go_simp
           refine hK _ _ ?_
           clear hK K)
        | (refine wpX_read ?_ (fun K hK => ?_)
           · rfl
           apply Exists.intro
           refine ⟨?_, ?_⟩
           · go_simp
             exact ⟨rfl, rfl⟩
           go_simp
           refine hK _ _ ?_
           clear hK K)
        | (refine wpX_float ?_ (fun K hK => ?_)
           · rfl
           apply Exists.intro
           refine ⟨fun w' hw' => ?_, ?_⟩
           · try dsimp only at hw'
             go_simp
             exact ⟨rfl, rfl⟩
           go_simp
           refine hK _ _ ?_
           clear hK K)
        | (refine wpX_not ?_ (fun K hK => ?_)
           · rfl
           go_simp
           refine hK _ _ ?_
           clear hK K))
      refine wpX_heavy rfl (fun K hK => ?_)
      go_wp2_with (fail)
      refine (decode_int w1 cv numC _ w1 HC.out numC_fair (Same.refl _) D2.out).mono ?_
      rw [HER.out.1, HER.out.2]
      rintro e w2 ⟨hk, h⟩
      have K2 := Lib.hid (K1.out.nil_trans hk)
      obtain ⟨v, rfl, hv⟩ := (h.resolve_left fun h => h.1 rfl).2
      obtain rfl := num_rep hv
      clear hk h hv HC
      go_simp
      refine hK _ _ ⟨rfl, ?_⟩
      clear hK K
      repeat (first
        | (refine wpX_silent ?_ (fun K hK => ?_)
           · rfl
           apply Exists.intro
           refine ⟨fun w' => ?_, ?_⟩
           · go_simp
             exact ⟨rfl, rfl⟩
           go_simp
           refine hK _ _ ?_
           clear hK K)
        | (refine wpX_read ?_ (fun K hK => ?_)
           · rfl
           apply Exists.intro
           refine ⟨?_, ?_⟩
           · go_simp
             exact ⟨rfl, rfl⟩
           go_simp
           refine hK _ _ ?_
           clear hK K)
        | (refine wpX_float ?_ (fun K hK => ?_)
           · rfl
           apply Exists.intro
           refine ⟨fun w' hw' => ?_, ?_⟩
           · try dsimp only at hw'
             go_simp
             exact ⟨rfl, rfl⟩
           go_simp
           refine hK _ _ ?_
           clear hK K)
        | (refine wpX_not ?_ (fun K hK => ?_)
           · rfl
           go_simp
           refine hK _ _ ?_
           clear hK K))
      refine wpX_nil (hQ' _ _ ?_)
      clear hp1 hl8 hls hds
      go_wp2
      go_ret2
      exact nextRes_none HZ.out K2.out

set_option maxHeartbeats 3200000 in
set_option maxRecDepth 100000 in
theorem jnext_short (d : ByteArray) (w : World) (hd : DSize d) (n L : Nat) (r : List UInt8) (ha : NumAhead d n L r) (h1 : ¬ 1048576 < n) (h2 : r.length < n + 1) : Calls Try.prog 18 #[.string d] w (NextRes d w) := by
  have HZ : Hid (nextS d.data.toList = none) := by rw [ha.next, if_neg h1, if_pos h2]; exact Lib.hid rfl
  have HA := Lib.hid ha
  have HL1 := Lib.hid (show 1 ≤ L by rw [← ha.len]; exact encN_pos n)
  have HL8 := Lib.hid (show L ≤ 8 by rw [← ha.len]; exact encN_le n)
  have HLS := Lib.hid (show L ≤ d.size by rw [ha.size]; omega)
  have HSZ := Lib.hid ha.size
  have HJ : Hid (∃ j, L = 2 ^ j) := Lib.hid ⟨cls n, by rw [← ha.len, encN_length]⟩
  have hlt := ha.lt
  unfold DSize at hd
  have HDS := Lib.hid hd
  clear ha hd
  have z1 : ¬ (1048576 : Int) < (n : Int) := by omega
  have H1 := Lib.hid h1
  have H2 := Lib.hid h2
  clear h1 h2 hlt
  go_enter Try.func18, Try.ntmps18
  go_wp2
  go_loopw [4] (fun nv wr => ∃ p j : Nat, p * 2 ^ j = L ∧ nv = .int .i64 (p : Int) ∧ Kept w wr (fun _ => False)) (fun nv _ => (16 - intOf nv).toNat)
  case atStart =>
    obtain ⟨j, hj⟩ := HJ.out
    exact ⟨1, j, by rw [hj, Nat.one_mul], rfl, Kept.refl _ _⟩
  case round =>
    obtain ⟨p, j, hpj, rfl, hk⟩ := hrel
    have HK := Lib.hid hk
    clear hk
    have hp1 : 1 ≤ p := by
      rcases Nat.eq_zero_or_pos p with h0 | h0
      · rw [h0] at hpj; have := HL1.out; simp at hpj; omega
      · exact h0
    have hj1 := Nat.two_pow_pos j
    have hpl : p ≤ L := by have := Nat.le_mul_of_pos_right p hj1; omega
    have hl8 := HL8.out
    have hls := HLS.out
    have hds := HDS.out
    have q1 : (p : Int) ≤ 8 := by omega
    have q2 : (p : Int) ≤ d.size := by omega
    have q3 : (0 : Int) ≤ p := by omega
    have D2 := Lib.hid (show DSize (d.extract 0 p) by unfold DSize; rw [ByteArray.size_extract]; omega)
    cases j with
    | succ j =>
      have hpl2 : p < L := by
        have := Nat.two_pow_pos j
        rw [Nat.pow_succ] at hpj
        have h2 : p * 2 ≤ L := by
          rw [← hpj, Nat.mul_comm (2 ^ j), ← Nat.mul_assoc]
          exact Nat.le_mul_of_pos_right _ this
        omega
      have HER := Lib.hid (HA.out.cut hpl2)
      have HPJ := Lib.hid (show p * 2 * 2 ^ j = L by rw [← hpj, Nat.pow_succ, Nat.mul_comm (2 ^ j), Nat.mul_assoc])
      have HP1 := Lib.hid hp1
      clear hp1 hj1 hpl hpl2 hpj hl8 hls hds
      go_wp2
      refine wp_region_lex (fun _ => True) [4, 0, 0, 0, 4, 0, 0, 0, 0, 0] (by kernel_rfl) (by kernel_rfl) (by kernel_rfl) (trivial) (fun Q' hQ' => ?_)
      simp only [List.zip_cons_cons, List.zip_nil_right]
      refine wpX_heavy rfl (fun K hK => ?_)
      go_wp2_with (fail)
      refine (number_any _).mono ?_
      rintro e w1 ⟨cv, rfl, hc, hk⟩
      have HC := Lib.hid hc
      have K1 := Lib.hid (HK.out.drew.nil_trans hk)
      clear hc hk
      go_simp
      refine hK _ _ ⟨rfl, ?_⟩
      clear hK K
      repeat (first
        | (refine wpX_silent ?_ (fun K hK => ?_)
           · rfl
           apply Exists.intro
           refine ⟨fun w' => ?_, ?_⟩
           · go_simp
             exact ⟨rfl, rfl⟩
           go_simp
           refine hK _ _ ?_
           clear hK K)
        | (refine wpX_read ?_ (fun K hK => ?_)
           · rfl
           apply Exists.intro
           refine ⟨?_, ?_⟩
           · go_simp
             exact ⟨rfl, rfl⟩
           go_simp
           refine hK _ _ ?_
           clear hK K)
        | (refine wpX_float ?_ (fun K hK => ?_)
           · rfl
           apply Exists.intro
           refine ⟨fun w' hw' => ?_, ?_⟩
           · try dsimp only at hw'
             go_simp
             exact ⟨rfl, rfl⟩
           go_simp
           refine hK _ _ ?_
           clear hK K)
        | (refine wpX_not ?_ (fun K hK => ?_)
           · rfl
           go_simp
           refine hK _ _ ?_
           clear hK K))
      refine wpX_heavy rfl (fun K hK => ?_)
      go_wp2_with (fail)
      refine (decode_int w1 cv numC _ w1 HC.out numC_fair (Same.refl _) D2.out).mono ?_
      rw [HER.out]
      rintro e w2 ⟨hk, h⟩
      have K2 := Lib.hid (K1.out.nil_trans hk)
      obtain rfl := (h.resolve_right fun h => absurd h.1 (by decide)).2
      clear hk h HC
      go_simp
      refine hK _ _ ⟨rfl, ?_⟩
      clear hK K
      repeat (first
        | (refine wpX_silent ?_ (fun K hK => ?_)
           · rfl
           apply Exists.intro
           refine ⟨fun w' => ?_, ?_⟩
           · go_simp
             exact ⟨rfl, rfl⟩
           go_simp
           refine hK _ _ ?_
           clear hK K)
        | (refine wpX_read ?_ (fun K hK => ?_)
           · rfl
           apply Exists.intro
           refine ⟨?_, ?_⟩
           · go_simp
             exact ⟨rfl, rfl⟩
           go_simp
           refine hK _ _ ?_
           clear hK K)
        | (refine wpX_float ?_ (fun K hK => ?_)
           · rfl
           apply Exists.intro
           refine ⟨fun w' hw' => ?_, ?_⟩
           · try dsimp only at hw'
             go_simp
             exact ⟨rfl, rfl⟩
           go_simp
           refine hK _ _ ?_
           clear hK K)
        | (refine wpX_not ?_ (fun K hK => ?_)
           · rfl
           go_simp
           refine hK _ _ ?_
           clear hK K))
      refine wpX_nil (hQ' _ _ ?_)
      go_wp2
      go_roundw
      case rel => exact ⟨p * 2, j, HPJ.out, by go_num, K2.out⟩
      case measure => simp only [intOf]; have := HP1.out; omega
    | zero =>
      have hpL : p = L := by simpa using hpj
      subst hpL
      have HER := Lib.hid HA.out.dec
      clear hj1 hpl hpj
      go_wp2
      refine wp_region_lex (fun _ => True) [4, 0, 0, 0, 4, 0, 0, 0, 0, 0] (by kernel_rfl) (by kernel_rfl) (by kernel_rfl) (trivial) (fun Q' hQ' => ?_)
      simp only [List.zip_cons_cons, List.zip_nil_right]
      refine wpX_heavy rfl (fun K hK => ?_)
      go_wp2_with (fail)
      refine (number_any _).mono ?_
      rintro e w1 ⟨cv, rfl, hc, hk⟩
      have HC := Lib.hid hc
      have K1 := Lib.hid (HK.out.drew.nil_trans hk)
      clear hc hk
      go_simp
      refine hK _ _ ⟨rfl, ?_⟩
      clear hK K
      repeat (first
        | (refine wpX_silent ?_ (fun K hK => ?_)
           · rfl
           apply Exists.intro
           refine ⟨fun w' => ?_, ?_⟩
           · go_simp
             exact ⟨rfl, rfl⟩
           go_simp
           refine hK _ _ ?_
           clear hK K)
        | (refine wpX_read ?_ (fun K hK => ?_)
           · rfl
           apply Exists.intro
           refine ⟨?_, ?_⟩
           · go_simp
             exact ⟨rfl, rfl⟩
           go_simp
           refine hK _ _ ?_
           clear hK K)
        | (refine wpX_float ?_ (fun K hK => ?_)
           · rfl
           apply Exists.intro
           refine ⟨fun w' hw' => ?_, ?_⟩
           · try dsimp only at hw'
             go_simp
             exact ⟨rfl, rfl⟩
           go_simp
           refine hK _ _ ?_
           clear hK K)
        | (refine wpX_not ?_ (fun K hK => ?_)
           · rfl
           go_simp
           refine hK _ _ ?_
           clear hK K))
      refine wpX_heavy rfl (fun K hK => ?_)
      go_wp2_with (fail)
      refine (decode_int w1 cv numC _ w1 HC.out numC_fair (Same.refl _) D2.out).mono ?_
      rw [HER.out.1, HER.out.2]
      rintro e w2 ⟨hk, h⟩
      have K2 := Lib.hid (K1.out.nil_trans hk)
      obtain ⟨v, rfl, hv⟩ := (h.resolve_left fun h => h.1 rfl).2
      obtain rfl := num_rep hv
      clear hk h hv HC
      go_simp
      refine hK _ _ ⟨rfl, ?_⟩
      clear hK K
      repeat (first
        | (refine wpX_silent ?_ (fun K hK => ?_)
           · rfl
           apply Exists.intro
           refine ⟨fun w' => ?_, ?_⟩
           · go_simp
             exact ⟨rfl, rfl⟩
           go_simp
           refine hK _ _ ?_
           clear hK K)
        | (refine wpX_read ?_ (fun K hK => ?_)
           · rfl
           apply Exists.intro
           refine ⟨?_, ?_⟩
           · go_simp
             exact ⟨rfl, rfl⟩
           go_simp
           refine hK _ _ ?_
           clear hK K)
        | (refine wpX_float ?_ (fun K hK => ?_)
           · rfl
           apply Exists.intro
           refine ⟨fun w' hw' => ?_, ?_⟩
           · try dsimp only at hw'
             go_simp
             exact ⟨rfl, rfl⟩
           go_simp
           refine hK _ _ ?_
           clear hK K)
        | (refine wpX_not ?_ (fun K hK => ?_)
           · rfl
           go_simp
           refine hK _ _ ?_
           clear hK K))
      refine wpX_nil (hQ' _ _ ?_)
      have z2 : (d.size : Int) < (p : Int) + (n : Int) + 1 := by have h3 := HSZ.out; have h4 := H2.out; omega
      have z3 : (n : Int) ≤ 1048576 := by have := H1.out; omega
      clear hp1 hl8 hls hds
      go_wp2
      go_ret2
      exact nextRes_none HZ.out K2.out

set_option maxHeartbeats 3200000 in
set_option maxRecDepth 100000 in
theorem jnext_odd (d : ByteArray) (w : World) (hd : DSize d) (n L : Nat) (r : List UInt8) (ha : NumAhead d n L r) (h1 : ¬ 1048576 < n) (h2 : ¬ r.length < n + 1) (h3 : ¬ r[n]? = some 46) : Calls Try.prog 18 #[.string d] w (NextRes d w) := by
  have HZ : Hid (nextS d.data.toList = none) := by rw [ha.next, if_neg h1, if_neg h2, if_neg h3]; exact Lib.hid rfl
  have hx : (d.extract (L + n) (L + n + 1)).data.toList ≠ [46] := by
    rw [ha.text n 1, toList_mk]
    intro e
    have e2 := congrArg (fun l => l[0]?) e
    simp at e2
    exact h3 e2
  have HA := Lib.hid ha
  have HL1 := Lib.hid (show 1 ≤ L by rw [← ha.len]; exact encN_pos n)
  have HL8 := Lib.hid (show L ≤ 8 by rw [← ha.len]; exact encN_le n)
  have HLS := Lib.hid (show L ≤ d.size by rw [ha.size]; omega)
  have HSZ := Lib.hid ha.size
  have HJ : Hid (∃ j, L = 2 ^ j) := Lib.hid ⟨cls n, by rw [← ha.len, encN_length]⟩
  have hlt := ha.lt
  unfold DSize at hd
  have HDS := Lib.hid hd
  clear ha hd
  have z1 : ¬ (1048576 : Int) < (n : Int) := by omega
  have H1 := Lib.hid h1
  have H2 := Lib.hid h2
  have HX := Lib.hid hx
  clear h1 h2 h3 hlt hx
  go_enter Try.func18, Try.ntmps18
  go_wp2
  go_loopw [4] (fun nv wr => ∃ p j : Nat, p * 2 ^ j = L ∧ nv = .int .i64 (p : Int) ∧ Kept w wr (fun _ => False)) (fun nv _ => (16 - intOf nv).toNat)
  case atStart =>
    obtain ⟨j, hj⟩ := HJ.out
    exact ⟨1, j, by rw [hj, Nat.one_mul], rfl, Kept.refl _ _⟩
  case round =>
    obtain ⟨p, j, hpj, rfl, hk⟩ := hrel
    have HK := Lib.hid hk
    clear hk
    have hp1 : 1 ≤ p := by
      rcases Nat.eq_zero_or_pos p with h0 | h0
      · rw [h0] at hpj; have := HL1.out; simp at hpj; omega
      · exact h0
    have hj1 := Nat.two_pow_pos j
    have hpl : p ≤ L := by have := Nat.le_mul_of_pos_right p hj1; omega
    have hl8 := HL8.out
    have hls := HLS.out
    have hds := HDS.out
    have q1 : (p : Int) ≤ 8 := by omega
    have q2 : (p : Int) ≤ d.size := by omega
    have q3 : (0 : Int) ≤ p := by omega
    have D2 := Lib.hid (show DSize (d.extract 0 p) by unfold DSize; rw [ByteArray.size_extract]; omega)
    cases j with
    | succ j =>
      have hpl2 : p < L := by
        have := Nat.two_pow_pos j
        rw [Nat.pow_succ] at hpj
        have h2 : p * 2 ≤ L := by
          rw [← hpj, Nat.mul_comm (2 ^ j), ← Nat.mul_assoc]
          exact Nat.le_mul_of_pos_right _ this
        omega
      have HER := Lib.hid (HA.out.cut hpl2)
      have HPJ := Lib.hid (show p * 2 * 2 ^ j = L by rw [← hpj, Nat.pow_succ, Nat.mul_comm (2 ^ j), Nat.mul_assoc])
      have HP1 := Lib.hid hp1
      clear hp1 hj1 hpl hpl2 hpj hl8 hls hds
      go_wp2
      refine wp_region_lex (fun _ => True) [4, 0, 0, 0, 4, 0, 0, 0, 0, 0] (by kernel_rfl) (by kernel_rfl) (by kernel_rfl) (trivial) (fun Q' hQ' => ?_)
      simp only [List.zip_cons_cons, List.zip_nil_right]
      refine wpX_heavy rfl (fun K hK => ?_)
      go_wp2_with (fail)
      refine (number_any _).mono ?_
      rintro e w1 ⟨cv, rfl, hc, hk⟩
      have HC := Lib.hid hc
      have K1 := Lib.hid (HK.out.drew.nil_trans hk)
      clear hc hk
      go_simp
      refine hK _ _ ⟨rfl, ?_⟩
      clear hK K
      repeat (first
        | (refine wpX_silent ?_ (fun K hK => ?_)
           · rfl
           apply Exists.intro
           refine ⟨fun w' => ?_, ?_⟩
           · go_simp
             exact ⟨rfl, rfl⟩
           go_simp
           refine hK _ _ ?_
           clear hK K)
        | (refine wpX_read ?_ (fun K hK => ?_)
           · rfl
           apply Exists.intro
           refine ⟨?_, ?_⟩
           · go_simp
             exact ⟨rfl, rfl⟩
           go_simp
           refine hK _ _ ?_
           clear hK K)
        | (refine wpX_float ?_ (fun K hK => ?_)
           · rfl
           apply Exists.intro
           refine ⟨fun w' hw' => ?_, ?_⟩
           · try dsimp only at hw'
             go_simp
             exact ⟨rfl, rfl⟩
           go_simp
           refine hK _ _ ?_
           clear hK K)
        | (refine wpX_not ?_ (fun K hK => ?_)
           · rfl
           go_simp
           refine hK _ _ ?_
           clear hK K))
      refine wpX_heavy rfl (fun K hK => ?_)
      go_wp2_with (fail)
      refine (decode_int w1 cv numC _ w1 HC.out numC_fair (Same.refl _) D2.out).mono ?_
      rw [HER.out]
      rintro e w2 ⟨hk, h⟩
      have K2 := Lib.hid (K1.out.nil_trans hk)
      obtain rfl := (h.resolve_right fun h => absurd h.1 (by decide)).2
      clear hk h HC
      go_simp
      refine hK _ _ ⟨rfl, ?_⟩
      clear hK K
      repeat (first
        | (refine wpX_silent ?_ (fun K hK => ?_)
           · rfl
           apply Exists.intro
           refine ⟨fun w' => ?_, ?_⟩
           · go_simp
             exact ⟨rfl, rfl⟩
           go_simp
           refine hK _ _ ?_
           clear hK K)
        | (refine wpX_read ?_ (fun K hK => ?_)
           · rfl
           apply Exists.intro
           refine ⟨?_, ?_⟩
           · go_simp
             exact ⟨rfl, rfl⟩
           go_simp
           refine hK _ _ ?_
           clear hK K)
        | (refine wpX_float ?_ (fun K hK => ?_)
           · rfl
           apply Exists.intro
           refine ⟨fun w' hw' => ?_, ?_⟩
           · try dsimp only at hw'
             go_simp
             exact ⟨rfl, rfl⟩
           go_simp
           refine hK _ _ ?_
           clear hK K)
        | (refine wpX_not ?_ (fun K hK => ?_)
           · rfl
           go_simp
           refine hK _ _ ?_
           clear hK K))
      refine wpX_nil (hQ' _ _ ?_)
      go_wp2
      go_roundw
      case rel => exact ⟨p * 2, j, HPJ.out, by go_num, K2.out⟩
      case measure => simp only [intOf]; have := HP1.out; omega
    | zero =>
      have hpL : p = L := by simpa using hpj
      subst hpL
      have HER := Lib.hid HA.out.dec
      clear hj1 hpl hpj
      go_wp2
      refine wp_region_lex (fun _ => True) [4, 0, 0, 0, 4, 0, 0, 0, 0, 0] (by kernel_rfl) (by kernel_rfl) (by kernel_rfl) (trivial) (fun Q' hQ' => ?_)
      simp only [List.zip_cons_cons, List.zip_nil_right]
      refine wpX_heavy rfl (fun K hK => ?_)
      go_wp2_with (fail)
      refine (number_any _).mono ?_
      rintro e w1 ⟨cv, rfl, hc, hk⟩
      have HC := Lib.hid hc
      have K1 := Lib.hid (HK.out.drew.nil_trans hk)
      clear hc hk
      go_simp
      refine hK _ _ ⟨rfl, ?_⟩
      clear hK K
      repeat (first
        | (refine wpX_silent ?_ (fun K hK => ?_)
           · rfl
           apply Exists.intro
           refine ⟨fun w' => ?_, ?_⟩
           · go_simp
             exact ⟨rfl, rfl⟩
           go_simp
           refine hK _ _ ?_
           clear hK K)
        | (refine wpX_read ?_ (fun K hK => ?_)
           · rfl
           apply Exists.intro
           refine ⟨?_, ?_⟩
           · go_simp
             exact ⟨rfl, rfl⟩
           go_simp
           refine hK _ _ ?_
           clear hK K)
        | (refine wpX_float ?_ (fun K hK => ?_)
           · rfl
           apply Exists.intro
           refine ⟨fun w' hw' => ?_, ?_⟩
           · try dsimp only at hw'
             go_simp
             exact ⟨rfl, rfl⟩
           go_simp
           refine hK _ _ ?_
           clear hK K)
        | (refine wpX_not ?_ (fun K hK => ?_)
           · rfl
           go_simp
           refine hK _ _ ?_
           clear hK K))
      refine wpX_heavy rfl (fun K hK => ?_)
      go_wp2_with (fail)
      refine (decode_int w1 cv numC _ w1 HC.out numC_fair (Same.refl _) D2.out).mono ?_
      rw [HER.out.1, HER.out.2]
      rintro e w2 ⟨hk, h⟩
      have K2 := Lib.hid (K1.out.nil_trans hk)
      obtain ⟨v, rfl, hv⟩ := (h.resolve_left fun h => h.1 rfl).2
      obtain rfl := num_rep hv
      clear hk h hv HC
      go_simp
      refine hK _ _ ⟨rfl, ?_⟩
      clear hK K
      repeat (first
        | (refine wpX_silent ?_ (fun K hK => ?_)
           · rfl
           apply Exists.intro
           refine ⟨fun w' => ?_, ?_⟩
           · go_simp
             exact ⟨rfl, rfl⟩
           go_simp
           refine hK _ _ ?_
           clear hK K)
        | (refine wpX_read ?_ (fun K hK => ?_)
           · rfl
           apply Exists.intro
           refine ⟨?_, ?_⟩
           · go_simp
             exact ⟨rfl, rfl⟩
           go_simp
           refine hK _ _ ?_
           clear hK K)
        | (refine wpX_float ?_ (fun K hK => ?_)
           · rfl
           apply Exists.intro
           refine ⟨fun w' hw' => ?_, ?_⟩
           · try dsimp only at hw'
             go_simp
             exact ⟨rfl, rfl⟩
           go_simp
           refine hK _ _ ?_
           clear hK K)
        | (refine wpX_not ?_ (fun K hK => ?_)
           · rfl
           go_simp
           refine hK _ _ ?_
           clear hK K))
      refine wpX_nil (hQ' _ _ ?_)
      have z2 : ¬ (d.size : Int) < (p : Int) + (n : Int) + 1 := by have h3 := HSZ.out; have h4 := H2.out; omega
      have z3 : (n : Int) ≤ 1048576 := by have := H1.out; omega
      have z4 : ((p : Int) + (n : Int)).toNat = p + n := by omega
      have z5 : ((p : Int) + (n : Int) + 1).toNat = p + n + 1 := by omega
      have z6 : (p : Int) + (n : Int) + 1 ≤ d.size := by omega
      have z7 : (0 : Int) ≤ (p : Int) + (n : Int) := by omega
      have z8 : (p : Int) + (n : Int) ≤ (p : Int) + (n : Int) + 1 := by omega
      have z9 : ¬ (d.extract (p + n) (p + n + 1)).toList = [46] := by rw [ByteArray.toList_eq]; exact HX.out
      have z10 : ((d.extract (p + n) (p + n + 1)).toList == [46]) = false := beq_eq_false_iff_ne.2 z9
      clear hp1 hl8 hls hds
      go_wp2
      go_ret2
      exact nextRes_none HZ.out K2.out

set_option maxHeartbeats 3200000 in
set_option maxRecDepth 100000 in
theorem jnext_ok (d : ByteArray) (w : World) (hd : DSize d) (n L : Nat) (r : List UInt8) (ha : NumAhead d n L r) (h1 : ¬ 1048576 < n) (h2 : ¬ r.length < n + 1) (h3 : r[n]? = some 46) : Calls Try.prog 18 #[.string d] w (NextRes d w) := by
  have HZ : Hid (nextS d.data.toList = some (r.take n, L + n + 1)) := by rw [ha.next, if_neg h1, if_neg h2, if_pos h3]; exact Lib.hid rfl
  have HX : Hid (d.extract (L + n) (L + n + 1) = ⟨#[46]⟩) := by
    have hlt : n < r.length := by omega
    have e : (r.drop n).take 1 = [46] := by
      rw [List.drop_eq_getElem_cons hlt]
      rw [List.getElem?_eq_getElem hlt] at h3
      simp only [Option.some.injEq] at h3
      simp [h3]
    rw [ha.text n 1, e]
    exact Lib.hid rfl
  have HT : Hid (d.extract L (L + n) = ⟨(r.take n).toArray⟩) := by
    have := ha.text 0 n
    simp only [Nat.add_zero, List.drop_zero] at this
    exact Lib.hid this
  have HA := Lib.hid ha
  have HL1 := Lib.hid (show 1 ≤ L by rw [← ha.len]; exact encN_pos n)
  have HL8 := Lib.hid (show L ≤ 8 by rw [← ha.len]; exact encN_le n)
  have HLS := Lib.hid (show L ≤ d.size by rw [ha.size]; omega)
  have HSZ := Lib.hid ha.size
  have HJ : Hid (∃ j, L = 2 ^ j) := Lib.hid ⟨cls n, by rw [← ha.len, encN_length]⟩
  have hlt := ha.lt
  unfold DSize at hd
  have HDS := Lib.hid hd
  clear ha hd
  have z1 : ¬ (1048576 : Int) < (n : Int) := by omega
  have H1 := Lib.hid h1
  have H2 := Lib.hid h2
  clear h1 h2 h3 hlt
  go_enter Try.func18, Try.ntmps18
  go_wp2
  go_loopw [4] (fun nv wr => ∃ p j : Nat, p * 2 ^ j = L ∧ nv = .int .i64 (p : Int) ∧ Kept w wr (fun _ => False)) (fun nv _ => (16 - intOf nv).toNat)
  case atStart =>
    obtain ⟨j, hj⟩ := HJ.out
    exact ⟨1, j, by rw [hj, Nat.one_mul], rfl, Kept.refl _ _⟩
  case round =>
    obtain ⟨p, j, hpj, rfl, hk⟩ := hrel
    have HK := Lib.hid hk
    clear hk
    have hp1 : 1 ≤ p := by
      rcases Nat.eq_zero_or_pos p with h0 | h0
      · rw [h0] at hpj; have := HL1.out; simp at hpj; omega
      · exact h0
    have hj1 := Nat.two_pow_pos j
    have hpl : p ≤ L := by have := Nat.le_mul_of_pos_right p hj1; omega
    have hl8 := HL8.out
    have hls := HLS.out
    have hds := HDS.out
    have q1 : (p : Int) ≤ 8 := by omega
    have q2 : (p : Int) ≤ d.size := by omega
    have q3 : (0 : Int) ≤ p := by omega
    have D2 := Lib.hid (show DSize (d.extract 0 p) by unfold DSize; rw [ByteArray.size_extract]; omega)
    cases j with
    | succ j =>
      have hpl2 : p < L := by
        have := Nat.two_pow_pos j
        rw [Nat.pow_succ] at hpj
        have h2 : p * 2 ≤ L := by
          rw [← hpj, Nat.mul_comm (2 ^ j), ← Nat.mul_assoc]
          exact Nat.le_mul_of_pos_right _ this
        omega
      have HER := Lib.hid (HA.out.cut hpl2)
      have HPJ := Lib.hid (show p * 2 * 2 ^ j = L by rw [← hpj, Nat.pow_succ, Nat.mul_comm (2 ^ j), Nat.mul_assoc])
      have HP1 := Lib.hid hp1
      clear hp1 hj1 hpl hpl2 hpj hl8 hls hds
      go_wp2
      refine wp_region_lex (fun _ => True) [4, 0, 0, 0, 4, 0, 0, 0, 0, 0] (by kernel_rfl) (by kernel_rfl) (by kernel_rfl) (trivial) (fun Q' hQ' => ?_)
      simp only [List.zip_cons_cons, List.zip_nil_right]
      refine wpX_heavy rfl (fun K hK => ?_)
      go_wp2_with (fail)
      refine (number_any _).mono ?_
      rintro e w1 ⟨cv, rfl, hc, hk⟩
      have HC := Lib.hid hc
      have K1 := Lib.hid (HK.out.drew.nil_trans hk)
      clear hc hk
      go_simp
      refine hK _ _ ⟨rfl, ?_⟩
      clear hK K
      repeat (first
        | (refine wpX_silent ?_ (fun K hK => ?_)
           · rfl
           apply Exists.intro
           refine ⟨fun w' => ?_, ?_⟩
           · go_simp
             exact ⟨rfl, rfl⟩
           go_simp
           refine hK _ _ ?_
           clear hK K)
        | (refine wpX_read ?_ (fun K hK => ?_)
           · rfl
           apply Exists.intro
           refine ⟨?_, ?_⟩
           · go_simp
             exact ⟨rfl, rfl⟩
           go_simp
           refine hK _ _ ?_
           clear hK K)
        | (refine wpX_float ?_ (fun K hK => ?_)
           · rfl
           apply Exists.intro
           refine ⟨fun w' hw' => ?_, ?_⟩
           · try dsimp only at hw'
             go_simp
             exact ⟨rfl, rfl⟩
           go_simp
           refine hK _ _ ?_
           clear hK K)
        | (refine wpX_not ?_ (fun K hK => ?_)
           · rfl
           go_simp
           refine hK _ _ ?_
           clear hK K))
      refine wpX_heavy rfl (fun K hK => ?_)
      go_wp2_with (fail)
      refine (decode_int w1 cv numC _ w1 HC.out numC_fair (Same.refl _) D2.out).mono ?_
      rw [HER.out]
      rintro e w2 ⟨hk, h⟩
      have K2 := Lib.hid (K1.out.nil_trans hk)
      obtain rfl := (h.resolve_right fun h => absurd h.1 (by decide)).2
      clear hk h HC
      go_simp
      refine hK _ _ ⟨rfl, ?_⟩
      clear hK K
      repeat (first
        | (refine wpX_silent ?_ (fun K hK => ?_)
           · rfl
           apply Exists.intro
           refine ⟨fun w' => ?_, ?_⟩
           · go_simp
             exact ⟨rfl, rfl⟩
           go_simp
           refine hK _ _ ?_
           clear hK K)
        | (refine wpX_read ?_ (fun K hK => ?_)
           · rfl
           apply Exists.intro
           refine ⟨?_, ?_⟩
           · go_simp
             exact ⟨rfl, rfl⟩
           go_simp
           refine hK _ _ ?_
           clear hK K)
        | (refine wpX_float ?_ (fun K hK => ?_)
           · rfl
           apply Exists.intro
           refine ⟨fun w' hw' => ?_, ?_⟩
           · try dsimp only at hw'
             go_simp
             exact ⟨rfl, rfl⟩
           go_simp
           refine hK _ _ ?_
           clear hK K)
        | (refine wpX_not ?_ (fun K hK => ?_)
           · rfl
           go_simp
           refine hK _ _ ?_
           clear hK K))
      refine wpX_nil (hQ' _ _ ?_)
      go_wp2
      go_roundw
      case rel => exact ⟨p * 2, j, HPJ.out, by go_num, K2.out⟩
      case measure => simp only [intOf]; have := HP1.out; omega
    | zero =>
      have hpL : p = L := by simpa using hpj
      subst hpL
      have HER := Lib.hid HA.out.dec
      clear hj1 hpl hpj
      go_wp2
      refine wp_region_lex (fun _ => True) [4, 0, 0, 0, 4, 0, 0, 0, 0, 0] (by kernel_rfl) (by kernel_rfl) (by kernel_rfl) (trivial) (fun Q' hQ' => ?_)
      simp only [List.zip_cons_cons, List.zip_nil_right]
      refine wpX_heavy rfl (fun K hK => ?_)
      go_wp2_with (fail)
      refine (number_any _).mono ?_
      rintro e w1 ⟨cv, rfl, hc, hk⟩
      have HC := Lib.hid hc
      have K1 := Lib.hid (HK.out.drew.nil_trans hk)
      clear hc hk
      go_simp
      refine hK _ _ ⟨rfl, ?_⟩
      clear hK K
      repeat (first
        | (refine wpX_silent ?_ (fun K hK => ?_)
           · rfl
           apply Exists.intro
           refine ⟨fun w' => ?_, ?_⟩
           · go_simp
             exact ⟨rfl, rfl⟩
           go_simp
           refine hK _ _ ?_
           clear hK K)
        | (refine wpX_read ?_ (fun K hK => ?_)
           · rfl
           apply Exists.intro
           refine ⟨?_, ?_⟩
           · go_simp
             exact ⟨rfl, rfl⟩
           go_simp
           refine hK _ _ ?_
           clear hK K)
        | (refine wpX_float ?_ (fun K hK => ?_)
           · rfl
           apply Exists.intro
           refine ⟨fun w' hw' => ?_, ?_⟩
           · try dsimp only at hw'
             go_simp
             exact ⟨rfl, rfl⟩
           go_simp
           refine hK _ _ ?_
           clear hK K)
        | (refine wpX_not ?_ (fun K hK => ?_)
           · rfl
           go_simp
           refine hK _ _ ?_
           clear hK K))
      refine wpX_heavy rfl (fun K hK => ?_)
      go_wp2_with (fail)
      refine (decode_int w1 cv numC _ w1 HC.out numC_fair (Same.refl _) D2.out).mono ?_
      rw [HER.out.1, HER.out.2]
      rintro e w2 ⟨hk, h⟩
      have K2 := Lib.hid (K1.out.nil_trans hk)
      obtain ⟨v, rfl, hv⟩ := (h.resolve_left fun h => h.1 rfl).2
      obtain rfl := num_rep hv
      clear hk h hv HC
      go_simp
      refine hK _ _ ⟨rfl, ?_⟩
      clear hK K
      repeat (first
        | (refine wpX_silent ?_ (fun K hK => ?_)
           · rfl
           apply Exists.intro
           refine ⟨fun w' => ?_, ?_⟩
           · go_simp
             exact ⟨rfl, rfl⟩
           go_simp
           refine hK _ _ ?_
           clear hK K)
        | (refine wpX_read ?_ (fun K hK => ?_)
           · rfl
           apply Exists.intro
           refine ⟨?_, ?_⟩
           · go_simp
             exact ⟨rfl, rfl⟩
           go_simp
           refine hK _ _ ?_
           clear hK K)
        | (refine wpX_float ?_ (fun K hK => ?_)
           · rfl
           apply Exists.intro
           refine ⟨fun w' hw' => ?_, ?_⟩
           · try dsimp only at hw'
             go_simp
             exact ⟨rfl, rfl⟩
           go_simp
           refine hK _ _ ?_
           clear hK K)
        | (refine wpX_not ?_ (fun K hK => ?_)
           · rfl
           go_simp
           refine hK _ _ ?_
           clear hK K))
      refine wpX_nil (hQ' _ _ ?_)
      have z2 : ¬ (d.size : Int) < (p : Int) + (n : Int) + 1 := by have h3 := HSZ.out; have h4 := H2.out; omega
      have z3 : (n : Int) ≤ 1048576 := by have := H1.out; omega
      have z4 : ((p : Int) + (n : Int)).toNat = p + n := by omega
      have z5 : ((p : Int) + (n : Int) + 1).toNat = p + n + 1 := by omega
      have z6 : (p : Int) + (n : Int) + 1 ≤ d.size := by omega
      have z7 : (0 : Int) ≤ (p : Int) + (n : Int) := by omega
      have z8 : (p : Int) + (n : Int) ≤ (p : Int) + (n : Int) + 1 := by omega
      have z11 : (p : Int) ≤ (p : Int) + (n : Int) := by omega
      have z12 : (p : Int) + (n : Int) ≤ d.size := by omega
      have z9 := HX.out
      have HC := Lib.hid (show ((p + n + 1 : Nat) : Int) = (p : Int) + (n : Int) + 1 by omega)
      clear hp1 hl8 hls hds
      go_wp2
      go_ret2
      refine ⟨?_, K2.out⟩
      unfold nextV
      rw [HZ.out]
      show Ending.returned (.tuple #[.string (d.extract p (p + n)), .int .i64 ((p : Int) + (n : Int) + 1)]) = Ending.returned (.tuple #[.string ⟨(r.take n).toArray⟩, .int .i64 ((p + n + 1 : Nat) : Int)])
      rw [HT.out, HC.out]

theorem jnext_any (d : ByteArray) (w : World) (hd : DSize d) : Calls Try.prog 18 #[.string d] w (NextRes d w) := by
  obtain ⟨n, s, hn⟩ : ∃ n s, getN ⟨d.data.toList, 0⟩ = (n, s) := ⟨_, _, rfl⟩
  by_cases he : s.err = 0
  · obtain ⟨h1, h2⟩ := getN_is hn he
    have ha : NumAhead d n (encN n).length s.rest := ⟨h2, rfl, h1⟩
    by_cases k1 : 1048576 < n
    · exact jnext_far d w hd n _ _ ha k1
    by_cases k2 : s.rest.length < n + 1
    · exact jnext_short d w hd n _ _ ha k1 k2
    by_cases k3 : s.rest[n]? = some 46
    · exact jnext_ok d w hd n _ _ ha k1 k2 k3
    · exact jnext_odd d w hd n _ _ ha k1 k2 k3
  · exact jnext_err d w hd n s hn he
end Go.Proofs.Ytegonafacbokeaa.Codec
