/-
  JournalKeeps walked.
-/
import Derived.Test.YtegonafacbokeaaJrD
import Derived.Test.YtegonafacbokeaaJr4
namespace Go.Proofs.Ytegonafacbokeaa.Codec
open Go.RowKit Go.Proofs.YtegonafacbokeaaBase Go.Proofs.YtegonafacbokeaaLex2 Go.Proofs.YtegonafacbokeaaNum
set_option linter.unusedVariables false
set_option linter.unusedSimpArgs false

/-- The file behind so many records. -/
def fileOf (ts : List (List UInt8)) : Disk.FD := ⟨ts.flatMap frameS, [], 0, 0, false⟩
theorem addJ_file (ts : List (List UInt8)) (t : List UInt8) : addJ (fileOf ts) (frameS t) = (0, fileOf (ts ++ [t])) := by
  unfold addJ fileOf
  simp [Disk.FD.add, Disk.FD.sync, Disk.FD.burns, Disk.FD.burn]
theorem opened_file (ts : List (List UInt8)) (h : ∀ t ∈ ts, t.length ≤ 1048576) : Opened (fileOf ts) = (ts, fileOf ts) := by
  have h1 := scanL_frames ts [] h nextS_nil
  rw [List.append_nil] at h1
  unfold Opened fileOf
  simp only [List.append_nil, h1]
  rw [if_neg (Nat.lt_irrefl _)]
theorem restart_file (ts : List (List UInt8)) : (fileOf ts).restart = fileOf ts := by unfold fileOf; simp [Disk.FD.restart]
theorem frames_len {ts : List (List UInt8)} (h : ∀ t ∈ ts, t.length ≤ 2000) : (ts.flatMap frameS).length ≤ 2009 * ts.length := by
  induction ts with
  | nil => simp
  | cons t ts ih =>
    have h1 := ih (fun u hu => h u (List.mem_cons_of_mem _ hu))
    have h2 := h t List.mem_cons_self
    have h3 := encN_le t.length
    simp only [List.flatMap_cons, List.length_append, List.length_cons, frameS_length]
    omega
/-- What holds at the loop's head. -/
def KeepsRel (ss : List ByteArray) (w0 : World) (p : Nat) (jv iv : Value) (wr : World) : Prop :=
  ∃ (k q : Nat) (F : Nat → Prop), k ≤ ss.length ∧ iv = .int .i64 (k : Int) ∧ jv = .pointer (some ⟨q, 0, none⟩) ∧ Disk.St w0 wr p F (fileOf ((dat ss).take k)) ∧ JAt wr q p ∧ ¬ F q ∧ ∀ t ∈ (dat ss).take k, t.length ≤ 2000

theorem dat_take (ss : List ByteArray) (m : Nat) : ((dat ss).take m).map strV = (ss.take m).map Value.string := by
  unfold dat
  rw [← List.map_take, List.map_map]
  apply List.map_congr_left
  intro s hs
  show Value.string (mkB s.data.toList) = _
  unfold mkB
  rw [mk_data]
theorem rowIn_take {w : World} {A : Option Addr} {n m : Nat} {xs : List Value} (h : RowIn w A n xs) (hm : m ≤ n) : RowIn w A m (xs.take m) := by
  refine ⟨by rw [List.length_take, ← h.len]; omega, by have := h.max; omega, fun h0 => ?_⟩
  obtain ⟨b, off, hA, hbl, hx⟩ := h.cell (by omega)
  refine ⟨b, off, hA, hbl, fun k u hk => hx k u ?_⟩
  rw [List.getElem?_take] at hk
  split at hk
  · exact hk
  · cases hk

theorem jkeeps_out (A : Option Addr) (n c : Nat) (k : Int) (w : World) (hn : n ≤ maxLen) (h : 100 < n ∨ k < 1) : Calls Try.prog 5 #[.slice A n c, .int .i64 k] w fun e w' => e = .returned (.bool true) ∧ Below w.heap.size w w' := by
  unfold maxLen at hn
  have HH := Lib.hid h
  clear h
  go_enter Try.func5, Try.ntmps5
  go_wp2_with (fail)
  refine (janchor_any _).mono ?_
  rintro e w1 ⟨rfl, hk⟩
  have K1 := Lib.hid hk
  clear hk
  by_cases h1 : 100 < n
  · have q : (100 : Int) < n := by omega
    go_wp2
    go_ret
    exact ⟨rfl, K1.out.nil_below⟩
  · have q : ¬ (100 : Int) < n := by omega
    have h2 := HH.out.resolve_left h1
    go_wp2
    go_ret
    exact ⟨rfl, K1.out.nil_below⟩

set_option maxHeartbeats 3200000 in
set_option maxRecDepth 100000 in
theorem jkeeps_in (ss : List ByteArray) (A : Option Addr) (c : Nat) (ev : Int) (w : World) (hnc : ss.length ≤ c) (hcm : c ≤ maxLen) (hr : RowIn w A ss.length (ss.map Value.string)) (hn : ss.length ≤ 100) (he : 1 ≤ ev) : Calls Try.prog 5 #[.slice A ss.length c, .int .i64 ev] w fun e w' => e = .returned (.bool true) ∧ Below w.heap.size w w' := by
  have q1 : ¬ (100 : Int) < ss.length := by omega
  have q2 : ¬ ev < 1 := by omega
  have HR := Lib.hid hr
  have HN := Lib.hid hn
  have HNC := Lib.hid hnc
  unfold maxLen at hcm
  have HCM := Lib.hid hcm
  clear hr hn hnc hcm
  go_enter Try.func5, Try.ntmps5
  go_wp2_with (fail)
  refine (janchor_any _).mono ?_
  rintro e w1 ⟨rfl, hk⟩
  have K1 := Lib.hid hk
  clear hk
  go_wp2_with (fail)
  refine (Disk.st_new (w0 := w) K1.out.nil_below).mono ?_
  rintro e w2 ⟨rfl, hs, _⟩
  obtain ⟨p, hp⟩ : ∃ p, w1.heap.size = p := ⟨_, rfl⟩
  rw [hp] at hs ⊢
  have S2 : Hid (Disk.St w w2 p (fun k => k = p) (fileOf [])) := Lib.hid hs
  clear hs hp
  go_wp2_with (fail)
  refine (jopen_any w w2 p _ (fileOf []) S2.out rfl rfl (by simp [fileOf])).mono ?_
  intro e w3 h
  unfold OpenRes at h
  rw [opened_file [] (fun t ht => by cases ht)] at h
  obtain ⟨q, A3, c3, rfl, hj, hq, _, _, F3, hs3, _, _, hqF, _⟩ := h
  have S3 := Lib.hid hs3
  have J3 := Lib.hid hj
  have QF3 := Lib.hid hqF
  clear hj hq hs3 hqF
  go_wp2
  go_loopw [6, 41] (fun jv iv wr => KeepsRel ss w p jv iv wr) (fun _ iv _ => (ss.length - intOf iv).toNat)
  case atStart => exact ⟨0, q, F3, Nat.zero_le _, rfl, rfl, S3.out, J3.out, QF3.out, fun t ht => by simp at ht⟩
  case round =>
    obtain ⟨k, q', F, hk, rfl, rfl, hs, hj, hqF, hsm⟩ := hrel
    have S := Lib.hid hs
    have J := Lib.hid hj
    have QF := Lib.hid hqF
    have SM := Lib.hid hsm
    have HRW := Lib.hid (HR.out.below hs.2.1)
    have hdl : (dat ss).length = ss.length := by unfold dat; rw [List.length_map]
    have HDL := Lib.hid hdl
    clear hs hj hqF hsm hdl
    by_cases hlt : k < ss.length
    · obtain ⟨b, off, hA, hbl, hcell⟩ := HRW.out.cell (by omega)
      obtain ⟨s, hss⟩ : ∃ s, ss[k]? = some s := ⟨_, List.getElem?_eq_getElem hlt⟩
      have cx := hcell k (.string s) (by rw [List.getElem?_map, hss]; rfl)
      have z1 : (0 : Int) ≤ k := by omega
      have z2 : (k : Int) < ss.length := by omega
      have hdt : (dat ss)[k]? = some s.data.toList := by unfold dat; rw [List.getElem?_map, hss]; rfl
      have htk : (dat ss).take (k + 1) = (dat ss).take k ++ [s.data.toList] := by rw [List.take_add_one, hdt]; rfl
      have HTK := Lib.hid htk
      have HSS := Lib.hid hss
      clear hcell hss hdt htk
      by_cases h5 : 2000 < s.size
      · have z3 : (2000 : Int) < s.size := by omega
        subst hA
        go_wp2
        go_ret
        exact ⟨rfl, S.out.2.1⟩
      · have z3 : ¬ (2000 : Int) < s.size := by omega
        have hsm2 : ∀ t ∈ (dat ss).take (k + 1), t.length ≤ 2000 := fun t ht => by
          rw [HTK.out] at ht
          rcases List.mem_append.1 ht with ht | ht
          · exact SM.out t ht
          · rw [List.mem_singleton.1 ht, len_data]; omega
        have SM2 := Lib.hid hsm2
        have hlen := frames_len hsm2
        rw [List.length_take] at hlen
        have hnn := HN.out
        have hadd := addJ_file ((dat ss).take k) s.data.toList
        rw [← HTK.out] at hadd
        have HADD := Lib.hid hadd
        have hroom : Disk.Room { fileOf ((dat ss).take k) with loose := (fileOf ((dat ss).take k)).loose ++ frameS s.data.toList } := by
          unfold Disk.Room fileOf
          simp only [List.nil_append]
          rw [HTK.out, List.flatMap_append] at hlen
          simp only [List.flatMap_cons, List.flatMap_nil, List.append_nil, List.length_append] at hlen
          omega
        have HROOM := Lib.hid hroom
        have LEN := Lib.hid (show ((fileOf ((dat ss).take (k + 1))).safe ++ (fileOf ((dat ss).take (k + 1))).loose).length ≤ 10000000000000 by unfold fileOf; simp only [List.append_nil]; omega)
        have OP := Lib.hid (opened_file ((dat ss).take (k + 1)) (fun t ht => by have := hsm2 t ht; omega))
        have HS5 := Lib.hid (show s.size ≤ 1048576 by omega)
        have HQL := Lib.hid (blk_lt J.out)
        clear h5 hsm2 hlen hadd hroom
        obtain ⟨rm, hrm⟩ : ∃ rm, (k : Int) % ev = rm := ⟨_, rfl⟩
        have hrt : (k : Int).tmod ev = rm := by rw [Int.tmod_eq_emod_of_nonneg (by omega)]; exact hrm
        subst hA
        go_wp2_with (fail)
        refine (jadd_any w _ p q' F _ S.out J.out QF.out s HS5.out HROOM.out).mono ?_
        rw [HADD.out]
        rintro e w5 ⟨rfl, F5, s5, b5, k5⟩
        have S5 := Lib.hid s5
        have J5 := Lib.hid (jat_keep J.out k5 QF.out)
        have QF5 : Hid (¬ F5 q') := Lib.hid fun h => (b5 q' h).elim QF.out (fun h2 => by have := HQL.out; omega)
        clear s5 b5 k5
        by_cases hz : rm = 0
        · have y1 : (rm == 0) = true := by simpa using hz
          subst hz
          go_wp2_with (fail)
          refine (Disk.st_restart S5.out (restart_file _)).mono ?_
          rintro e w6 ⟨rfl, F6, s6, b6, k6⟩
          have S6 := Lib.hid s6
          clear s6 b6 k6
          go_wp2_with (fail)
          refine (jopen_any w w6 p _ _ S6.out rfl rfl LEN.out).mono ?_
          intro e w7 h
          unfold OpenRes at h
          rw [OP.out] at h
          obtain ⟨q7, A7, c7, rfl, hj7, _, hr7, _, F7, hs7, _, _, hqF7, _⟩ := h
          have S7 := Lib.hid hs7
          have J7 := Lib.hid hj7
          have QF7 := Lib.hid hqF7
          have hl7 : ((dat ss).take (k + 1)).length = (ss.take (k + 1)).length := by rw [List.length_take, List.length_take, HDL.out]
          have hm7 : (ss.take (k + 1)).length = k + 1 := by rw [List.length_take]; omega
          rw [dat_take] at hr7
          simp only [hl7] at hr7 ⊢
          have ha7 := rowIn_take (m := k + 1) (HR.out.below hs7.2.1) (by omega)
          rw [← List.map_take] at ha7
          have ha8 : RowIn w7 (some ⟨b, off, none⟩) (ss.take (k + 1)).length ((ss.take (k + 1)).map Value.string) := by rw [hm7]; exact ha7
          have T := Lib.hid (texts_eq (ss.take (k + 1)) A7 (some ⟨b, off, none⟩) c7 c w7 hr7 ha8)
          rw [hm7] at T
          simp only [hm7]
          have y2 : (0 : Int) ≤ (k : Int) + 1 := by omega
          have y3 : (k : Int) + 1 ≤ c := by have := HNC.out; omega
          have y4 : ((k : Int) + 1).toNat = k + 1 := by omega
          clear hj7 hr7 hs7 hqF7 hl7 hm7 ha7 ha8
          go_wp2_with (go_at_call 11; refine T.out.mono ?_; rintro e w' ⟨rfl, hw⟩; obtain rfl := hw.symm)
          go_roundw
          case rel => exact ⟨k + 1, q7, F7, by omega, by go_num, rfl, S7.out, J7.out, QF7.out, SM2.out⟩
          case measure => simp only [intOf]; omega
        · have y1 : (rm == 0) = false := by simpa using hz
          have y2 : decide (rm = 0) = false := by simpa using hz
          have y3 : (rm != 0) = true := by simpa using hz
          clear hz
          go_wp2
          go_roundw
          case rel => exact ⟨k + 1, q', F5, by omega, by go_num, rfl, S5.out, J5.out, QF5.out, SM2.out⟩
          case measure => simp only [intOf]; omega
    · have hkl : k = ss.length := by omega
      subst hkl
      have htk : (dat ss).take ss.length = dat ss := by rw [← HDL.out, List.take_length]
      rw [htk] at S SM
      have hlen := frames_len SM.out
      rw [HDL.out] at hlen
      have hnn := HN.out
      have LEN := Lib.hid (show ((fileOf (dat ss)).safe ++ (fileOf (dat ss)).loose).length ≤ 10000000000000 by unfold fileOf; simp only [List.append_nil]; omega)
      have OP := Lib.hid (opened_file (dat ss) (fun t ht => by have := SM.out t ht; omega))
      have z2 : ¬ (ss.length : Int) < ss.length := by omega
      clear htk hlen hk
      go_wp2_with (fail)
      refine (jopen_any w _ p _ _ S.out rfl rfl LEN.out).mono ?_
      intro e w7 h
      unfold OpenRes at h
      rw [OP.out] at h
      obtain ⟨q7, A7, c7, rfl, hj7, _, hr7, _, F7, hs7, _, _, hqF7, _⟩ := h
      have S7 := Lib.hid hs7
      have hr8 : RowIn w7 A7 ss.length (ss.map Value.string) := by
        have e := dat_take ss ss.length
        rw [← HDL.out, List.take_length, HDL.out, List.take_length] at e
        rw [e] at hr7
        simp only [HDL.out] at hr7
        exact hr7
      have ha8 := HR.out.below hs7.2.1
      simp only [HDL.out]
      have T := Lib.hid (texts_eq ss A7 A c7 c w7 hr8 ha8)
      clear hj7 hr7 hs7 hqF7 hr8 ha8
      go_wp2_with (go_at_call 11; refine T.out.mono ?_; rintro e w' ⟨rfl, hw⟩; obtain rfl := hw.symm)
      go_ret
      exact ⟨rfl, S7.out.2.1⟩

theorem jkeeps_any (A : Option Addr) (n c : Nat) (k : Int) (ss : List ByteArray) (w : World) (hr : RowIn w A n (ss.map Value.string)) (hz : (∀ s ∈ ss, s.size ≤ 140737488351232) ∧ n ≤ c ∧ c ≤ maxLen) (hk : -9223372036854775808 ≤ k ∧ k ≤ 9223372036854775807) : Calls Try.prog 5 #[.slice A n c, .int .i64 k] w fun e w' => e = .returned (.bool true) ∧ Below w.heap.size w w' := by
  have hl : n = ss.length := by have := hr.len; simpa using this
  subst hl
  by_cases h : 100 < ss.length ∨ k < 1
  · exact jkeeps_out A ss.length c k w hr.max h
  · exact jkeeps_in ss A c k w hz.2.1 hz.2.2 hr (by omega) (by omega)
end Go.Proofs.Ytegonafacbokeaa.Codec
