/-
  JournalCrash walked.
-/
import Derived.Test.YtegonafacbokeaaJr7
namespace Go.Proofs.Ytegonafacbokeaa.Codec
open Go.RowKit Go.Proofs.YtegonafacbokeaaBase Go.Proofs.YtegonafacbokeaaLex2 Go.Proofs.YtegonafacbokeaaNum
set_option linter.unusedVariables false
set_option linter.unusedSimpArgs false

/-- What holds at the loop's head. -/
def CrashRel (ss : List ByteArray) (w0 : World) (p q : Nat) (iv : Value) (wr : World) : Prop :=
  ∃ (k : Nat) (F : Nat → Prop), k ≤ ss.length ∧ iv = .int .i64 (k : Int) ∧ Disk.St w0 wr p F (fileOf ((dat ss).take k)) ∧ JAt wr q p ∧ ¬ F q ∧ ∀ t ∈ (dat ss).take k, t.length ≤ 500
theorem dat_len (ss : List ByteArray) : (dat ss).length = ss.length := by unfold dat; rw [List.length_map]
theorem dat_map (ss : List ByteArray) : (dat ss).map strV = ss.map Value.string := by
  have := dat_take ss ss.length
  rwa [List.take_of_length_le (Nat.le_of_eq (dat_len ss)), List.take_length] at this
theorem dat_snoc (ss : List ByteArray) (t : ByteArray) : dat (ss ++ [t]) = dat ss ++ [t.data.toList] := by unfold dat; simp
/-- The word that is added behind the crash. -/
def more : ByteArray := ⟨#[109, 111, 114, 101]⟩
theorem more_data : more.data.toList = [109, 111, 114, 101] := rfl
theorem frames_small {ts : List (List UInt8)} (h : ∀ t ∈ ts, t.length ≤ 500) (hl : ts.length ≤ 100) : (ts.flatMap frameS).length ≤ 200900 := by
  have := frames_len (ts := ts) (fun t ht => by have := h t ht; omega)
  omega

theorem List.take_left'' {α : Type} (l : List α) {x : α} : (l ++ [x]).take l.length = l := by simp
theorem snoc_take (ss : List ByteArray) (t : ByteArray) : ((ss ++ [t]).map Value.string).take ss.length = ss.map Value.string := by
  rw [← List.map_take, List.take_left'']
theorem snoc_flat (ss : List ByteArray) (t : ByteArray) : (dat (ss ++ [t])).flatMap frameS = (dat ss).flatMap frameS ++ frameS t.data.toList := by rw [dat_snoc]; simp


set_option maxHeartbeats 1600000 in
set_option maxRecDepth 100000 in
theorem jcrash_ok (ss : List ByteArray) (A : Option Addr) (c : Nat) (last : ByteArray) (op kp : Nat) (w : World) (hnc : ss.length ≤ c) (hcm : c ≤ maxLen) (hr : RowIn w A ss.length (ss.map Value.string)) (hn : ss.length ≤ 60) (hl : last.size ≤ 500) (h1 : 1 ≤ op) (h3 : op ≤ 3) (hk : kp ≤ 2) (ho : op = 3) : Calls Try.prog 6 #[.slice A ss.length c, .string last, .int .i64 op, .int .i64 kp] w fun e w' => e = .returned (.bool true) ∧ Below w.heap.size w w' := by
  have ADD := Lib.hid (show addJ (⟨(dat ss).flatMap frameS, [], op, kp, false⟩ : Disk.FD) (frameS last.data.toList) = (0, ⟨(dat ss).flatMap frameS ++ frameS last.data.toList, [], 1, kp, false⟩) by rw [ho]; exact addJ_crash3 _ _ _)
  have x1 : ((op : Int) == 3) = true := by simp [ho]
  have x2 : (op == 3) = true := by simp [ho]
  clear ho
  have q1 : ¬ (60 : Int) < ss.length := by omega
  have q2 : ¬ (500 : Int) < last.size := by omega
  have q3 : ¬ (op : Int) < 1 := by omega
  have q4 : ¬ (3 : Int) < op := by omega
  have q5 : ¬ (kp : Int) < 0 := by omega
  have q6 : ¬ (2 : Int) < kp := by omega
  have HR := Lib.hid hr
  have HN := Lib.hid hn
  have HNC := Lib.hid hnc
  have HL := Lib.hid hl
  have H1 := Lib.hid h1
  have H3 := Lib.hid h3
  have HKP := Lib.hid hk
  unfold maxLen at hcm
  have HCM := Lib.hid hcm
  clear hr hn hnc hcm hl h1 h3 hk
  go_enter Try.func6, Try.ntmps6
  go_wp2_with (fail)
  refine (janchor_any _).mono ?_
  rintro e w1 ⟨rfl, hk⟩
  have K1 := Lib.hid hk
  clear hk
  go_wp2_with (fail)
  refine (Disk.st_new (w0 := w) K1.out.nil_below).mono ?_
  rintro e w2 ⟨rfl, hs, _⟩
  obtain ⟨p, hp⟩ : ∃ p, w1.heap.size = p := ⟨_, rfl⟩
  rw [hp] at hs ⊢
  have S2 : Hid (Disk.St w w2 p (fun k => k = p) (fileOf [])) := Lib.hid hs
  clear hs hp
  go_wp2_with (fail)
  refine (jopen_any w w2 p _ (fileOf []) S2.out rfl rfl (by simp [fileOf])).mono ?_
  intro e w3 h
  unfold OpenRes at h
  rw [opened_file [] (fun t ht => by cases ht)] at h
  obtain ⟨q, A3, c3, rfl, hj, hq, _, _, F3, hs3, _, _, hqF, _⟩ := h
  have S3 := Lib.hid hs3
  have J3 := Lib.hid hj
  have QF3 := Lib.hid hqF
  clear hj hq hs3 hqF
  go_wp2
  go_loopw [68] (fun iv wr => CrashRel ss w p q iv wr) (fun iv _ => (ss.length - intOf iv).toNat)
  case atStart => exact ⟨0, F3, Nat.zero_le _, rfl, S3.out, J3.out, QF3.out, fun t ht => by simp at ht⟩
  case round =>
    obtain ⟨k, F, hk, rfl, hs, hj, hqF, hsm⟩ := hrel
    have S := Lib.hid hs
    have J := Lib.hid hj
    have QF := Lib.hid hqF
    have SM := Lib.hid hsm
    have HRW := Lib.hid (HR.out.below hs.2.1)
    have HDL := Lib.hid (dat_len ss)
    clear hs hj hqF hsm
    by_cases hlt : k < ss.length
    · obtain ⟨b, off, hA, hbl, hcell⟩ := HRW.out.cell (by omega)
      obtain ⟨s, hss⟩ : ∃ s, ss[k]? = some s := ⟨_, List.getElem?_eq_getElem hlt⟩
      have cx := hcell k (.string s) (by rw [List.getElem?_map, hss]; rfl)
      have z1 : (0 : Int) ≤ k := by omega
      have z2 : (k : Int) < ss.length := by omega
      have hdt : (dat ss)[k]? = some s.data.toList := by unfold dat; rw [List.getElem?_map, hss]; rfl
      have htk : (dat ss).take (k + 1) = (dat ss).take k ++ [s.data.toList] := by rw [List.take_add_one, hdt]; rfl
      have HTK := Lib.hid htk
      clear hcell hss hdt htk
      by_cases h5 : 500 < s.size
      · have z3 : (500 : Int) < s.size := by omega
        subst hA
        go_wp2
        go_ret
        exact ⟨rfl, S.out.2.1⟩
      · have z3 : ¬ (500 : Int) < s.size := by omega
        have hsm2 : ∀ t ∈ (dat ss).take (k + 1), t.length ≤ 500 := fun t ht => by
          rw [HTK.out] at ht
          rcases List.mem_append.1 ht with ht | ht
          · exact SM.out t ht
          · rw [List.mem_singleton.1 ht, len_data]; omega
        have SM2 := Lib.hid hsm2
        have hlen := frames_len (ts := (dat ss).take (k + 1)) (fun t ht => by have := hsm2 t ht; omega)
        rw [List.length_take] at hlen
        have hnn := HN.out
        have hadd := addJ_file ((dat ss).take k) s.data.toList
        rw [← HTK.out] at hadd
        have HADD := Lib.hid hadd
        have hroom : Disk.Room { fileOf ((dat ss).take k) with loose := (fileOf ((dat ss).take k)).loose ++ frameS s.data.toList } := by
          unfold Disk.Room fileOf
          simp only [List.nil_append]
          rw [HTK.out, List.flatMap_append] at hlen
          simp only [List.flatMap_cons, List.flatMap_nil, List.append_nil, List.length_append] at hlen
          omega
        have HROOM := Lib.hid hroom
        have HS5 := Lib.hid (show s.size ≤ 1048576 by omega)
        have HQL := Lib.hid (blk_lt J.out)
        clear h5 hsm2 hlen hadd hroom
        subst hA
        go_wp2_with (fail)
        refine (jadd_any w _ p q F _ S.out J.out QF.out s HS5.out HROOM.out).mono ?_
        rw [HADD.out]
        rintro e w5 ⟨rfl, F5, s5, b5, k5⟩
        have S5 := Lib.hid s5
        have J5 := Lib.hid (jat_keep J.out k5 QF.out)
        have QF5 : Hid (¬ F5 q) := Lib.hid fun h => (b5 q h).elim QF.out (fun h2 => by have := HQL.out; omega)
        clear s5 b5 k5
        go_wp2
        go_roundw
        case rel => exact ⟨k + 1, F5, by omega, by go_num, S5.out, J5.out, QF5.out, SM2.out⟩
        case measure => simp only [intOf]; omega
    · have hkl : k = ss.length := by omega
      subst hkl
      have htk : (dat ss).take ss.length = dat ss := by rw [← HDL.out, List.take_length]
      rw [htk] at S SM
      have hle := frames_small SM.out (by rw [HDL.out]; have := HN.out; omega)
      have hfl : (frameS last.data.toList).length ≤ 509 := by
        have := encN_le last.data.toList.length
        have := HL.out
        rw [frameS_length, len_data] at *
        omega
      have HLE := Lib.hid hle
      have HFL := Lib.hid hfl
      have HQL := Lib.hid (blk_lt J.out)
      have z2 : ¬ (ss.length : Int) < ss.length := by omega
      have hroom : Disk.Room (⟨(dat ss).flatMap frameS, [] ++ frameS last.data.toList, op, kp, false⟩ : Disk.FD) := by
        unfold Disk.Room
        simp only [List.nil_append]
        omega
      have HROOM := Lib.hid hroom
      have HS5 := Lib.hid (show last.size ≤ 1048576 by have := HL.out; omega)
      have HK2 := Lib.hid (show ∀ t ∈ dat ss, t.length ≤ 1048576 from fun t ht => by have := SM.out t ht; omega)
      have HLT := Lib.hid (show last.data.toList.length ≤ 1048576 by rw [len_data]; exact HS5.out)
      clear htk hle hfl hk hroom
      go_wp2_with (fail)
      refine (Disk.st_arm S.out (op : Int) (kp : Int) (arm_ok H1.out H3.out HKP.out)).mono ?_
      rintro e w5 ⟨rfl, F5, s5, b5, k5⟩
      have S5 := Lib.hid s5
      have J5 := Lib.hid (jat_keep J.out k5 QF.out)
      have QF5 : Hid (¬ F5 q) := Lib.hid fun h => (b5 q h).elim QF.out (fun h2 => by have := HQL.out; omega)
      have HQL5 := Lib.hid (blk_lt J5.out)
      clear s5 b5 k5
      go_wp2_with (fail)
      refine (jadd_any w _ p q F5 _ S5.out J5.out QF5.out last HS5.out HROOM.out).mono ?_
      rw [ADD.out]
      rintro e w6 ⟨rfl, F6, s6, b6, k6⟩
      have S6 := Lib.hid s6
      clear s6 b6 k6
      go_wp2_with (fail)
      refine (Disk.st_restart S6.out (restart_whole _ _ _)).mono ?_
      rintro e w7 ⟨rfl, F7, s7, b7, k7⟩
      have S7 := Lib.hid s7
      clear s7 b7 k7
      obtain ⟨y, hy⟩ : ∃ y : Disk.FD, ⟨(dat ss).flatMap frameS ++ frameS last.data.toList, [], 0, kp, false⟩ = y := ⟨_, rfl⟩
      obtain ⟨rs, hrs⟩ : ∃ rs, ss ++ [last] = rs := ⟨_, rfl⟩
      rw [hy] at S7
      have YL := Lib.hid (show y.safe ++ y.loose = (dat ss).flatMap frameS ++ frameS last.data.toList by rw [← hy]; simp)
      have YD := Lib.hid (show y.down = false by rw [← hy])
      have YB := Lib.hid (show y.burns = false by rw [← hy]; rfl)
      have OP := Lib.hid (show Opened y = (dat rs, fileK (dat rs) kp) by rw [← hy, ← hrs, dat_snoc]; exact opened_whole _ _ _ HK2.out HLT.out)
      have PL := Lib.hid (show (frameS last.data.toList).length ≤ 509 from HFL.out)
      have RSL := Lib.hid (show rs.length = ss.length + 1 by rw [← hrs]; simp)
      have RGE := Lib.hid (show ss.length ≤ rs.length by have := RSL.out; omega)
      have RTK := Lib.hid (show (rs.map Value.string).take ss.length = ss.map Value.string by rw [← hrs]; exact snoc_take ss last)
      have RSM := Lib.hid (show ∀ t ∈ dat rs, t.length ≤ 1048576 from fun t ht => by
        rw [← hrs, dat_snoc] at ht
        rcases List.mem_append.1 ht with ht | ht
        · exact HK2.out t ht
        · rw [List.mem_singleton.1 ht]; exact HLT.out)
      have RFL := Lib.hid (show ((dat rs).flatMap frameS).length ≤ ((dat ss).flatMap frameS).length + 509 by
        rw [← hrs, snoc_flat, List.length_append]; have := HFL.out; omega)
      have hlastv : (rs.map Value.string)[ss.length]? = some (.string last) := by rw [← hrs]; simp
      have HLV := Lib.hid hlastv
      clear hy hrs hlastv
      have HLR := Lib.hid (show (y.safe ++ y.loose).length ≤ 10000000000000 by rw [YL.out, List.length_append]; have := HLE.out; have := PL.out; omega)
      go_wp2_with (fail)
      refine (jopen_any w _ p F7 y S7.out YD.out YB.out HLR.out).mono ?_
      intro e w8 h
      unfold OpenRes at h
      rw [OP.out] at h
      obtain ⟨q8, A8, c8, rfl, hj8, _, hr8, hc8, F8, hs8, b8, k8, hqF8, hAF8⟩ := h
      rw [dat_map] at hr8
      simp only [dat_len] at hr8 hc8 ⊢
      have S8 := Lib.hid hs8
      have J8 := Lib.hid hj8
      have QF8 := Lib.hid hqF8
      have R8 := Lib.hid hr8
      have AF8 := Lib.hid hAF8
      have HQL8 := Lib.hid (blk_lt hj8)
      have ra := rowIn_take (m := ss.length) hr8 RGE.out
      rw [RTK.out] at ra
      have T := Lib.hid (texts_eq ss A8 A c8 c w8 ra (HR.out.below hs8.2.1))
      have hrm := hr8.max
      unfold maxLen at hrm
      have z3 : (0 : Int) ≤ ss.length := by omega
      have z4 : (ss.length : Int) ≤ c8 := by have := RGE.out; omega
      have z5 : ¬ (rs.length : Int) < ss.length := by have := RGE.out; omega
      have z6 : decide (rs.length < ss.length) = false := by have := RGE.out; simpa using this
      have hmore : (frameS more.data.toList).length ≤ 13 := by
        have := encN_le more.data.toList.length
        rw [frameS_length]
        have h4 : more.data.toList.length = 4 := rfl
        omega
      have hleR : ((dat rs).flatMap frameS).length ≤ 201409 := by
        have := HLE.out; have := HFL.out; have h := RFL.out; omega
      have HRL := Lib.hid (show ((fileK (dat rs ++ [more.data.toList]) kp).safe ++ (fileK (dat rs ++ [more.data.toList]) kp).loose).length ≤ 10000000000000 by
        unfold fileK
        simp only [List.append_nil, List.flatMap_append, List.flatMap_cons, List.flatMap_nil, List.length_append]
        omega)
      have HROOM2 := Lib.hid (show Disk.Room { fileK (dat rs) kp with loose := (fileK (dat rs) kp).loose ++ frameS more.data.toList } by
        unfold Disk.Room fileK
        simp only [List.nil_append]
        omega)
      have HOP2 := Lib.hid (opened_fileK (dat rs ++ [more.data.toList]) kp (fun t ht => by
        rcases List.mem_append.1 ht with ht | ht
        · exact RSM.out t ht
        · rw [List.mem_singleton.1 ht]; decide))
      have HRM := Lib.hid hrm
      clear hj8 hr8 hs8 hqF8 hAF8 b8 k8 ra hmore hleR hrm hc8
      obtain ⟨b8, off8, hA8, _, hx8⟩ := R8.out.cell (by have := RSL.out; omega)
      have cl := hx8 ss.length _ HLV.out
      have z7 : ((rs.length : Int) == (ss.length : Int) + 1) = true := by have := RSL.out; simp; omega
      have z8 : (rs.length == ss.length + 1) = true := by have := RSL.out; simp; omega
      have z9 : ¬ ((ss.length : Int) + 1 < rs.length) := by have := RSL.out; omega
      have z10 : decide (ss.length + 1 < rs.length) = false := by have := RSL.out; simp; omega
      have z11 : (ss.length : Int) < rs.length := by have := RSL.out; omega
      subst hA8
      clear hx8
      go_wp2_with (go_at_call 11; refine T.out.mono ?_; rintro e w' ⟨rfl, hw⟩; obtain rfl := hw.symm)
      refine (jadd_any w _ p q8 F8 _ S8.out J8.out QF8.out more (by decide) HROOM2.out).mono ?_
      rw [addJ_fileK]
      rintro e w9 ⟨rfl, F9, s9, b9, k9⟩
      have S9 := Lib.hid s9
      have N9 := Lib.hid (show Disk.Next w w8 w9 p F8 _ from ⟨F9, s9, b9, k9⟩)
      have B9 := Lib.hid b9
      have K9 := Lib.hid k9
      clear s9 b9 k9
      go_wp2_with (fail)
      refine (Disk.st_restart S9.out (restart_fileK _ _)).mono ?_
      rintro e w10 ⟨rfl, hn10⟩
      obtain ⟨F10, s10, b10, k10⟩ := next_trans B9.out K9.out hn10
      have S10 := Lib.hid s10
      have B10 := Lib.hid b10
      have K10 := Lib.hid k10
      clear s10 b10 k10 hn10
      go_wp2_with (fail)
      refine (jopen_any w _ p F10 _ S10.out rfl rfl HRL.out).mono ?_
      intro e w11 h
      unfold OpenRes at h
      rw [HOP2.out] at h
      obtain ⟨q11, A11, c11, rfl, hj11, _, hr11, hc11, F11, hs11, b11, k11, _, _⟩ := h
      have S11 := Lib.hid hs11
      have hdl2 : (dat rs ++ [more.data.toList]).length = rs.length + 1 := by rw [List.length_append, dat_len]; rfl
      rw [← dat_snoc, dat_map, dat_len, List.length_append, List.length_singleton] at hr11
      simp only [hdl2] at hc11 ⊢
      have r8 := elem_fst (w' := w11) R8.out (K10.out.trans k11 B10.out) AF8.out
      have ra := rowIn_take (m := rs.length) hr11 (by omega)
      rw [List.map_append, List.take_left' (by rw [List.length_map])] at ra
      have T2 := Lib.hid (texts_eq rs A11 _ c11 c8 w11 ra r8)
      obtain ⟨b12, off12, hA12, _, hx12⟩ := hr11.cell (by omega)
      have cm := hx12 rs.length (.string ⟨#[109, 111, 114, 101]⟩) (by rw [List.map_append, List.getElem?_append_right (by rw [List.length_map]; exact Nat.le_refl _), List.length_map, Nat.sub_self]; rfl)
      have y1 : (0 : Int) ≤ rs.length := by omega
      have y2 : (rs.length : Int) ≤ c11 := by omega
      have y3 : (rs.length : Int) < rs.length + 1 := by omega
      have y4 : rs.length + 1 ≤ 9223372036854775807 := by have := hr11.max; unfold maxLen at this; omega
      subst hA12
      clear hj11 hr11 hs11 b11 k11 r8 ra hx12 hdl2
      go_wp2_with (go_at_call 11; refine T2.out.mono ?_; rintro e w' ⟨rfl, hw⟩; obtain rfl := hw.symm)
      go_ret
      exact ⟨rfl, S11.out.2.1⟩

theorem addJ_crash (fr f : List UInt8) (op kp : Nat) (h1 : 1 ≤ op) (h2 : op ≤ 2) (hk : kp ≤ 2) : addJ ⟨fr, [], op, kp, false⟩ f = (140, ⟨fr ++ part kp f, [], 0, kp, true⟩) := by
  have : op = 1 ∨ op = 2 := by omega
  rcases this with rfl | rfl
  · exact addJ_crash1 fr f kp hk
  · exact addJ_crash2 fr f kp hk

set_option maxHeartbeats 1600000 in
set_option maxRecDepth 100000 in
theorem jcrash_whole (ss : List ByteArray) (A : Option Addr) (c : Nat) (last : ByteArray) (op kp : Nat) (w : World) (hnc : ss.length ≤ c) (hcm : c ≤ maxLen) (hr : RowIn w A ss.length (ss.map Value.string)) (hn : ss.length ≤ 60) (hl : last.size ≤ 500) (h1 : 1 ≤ op) (h3 : op ≤ 3) (hk : kp ≤ 2) (ho : op ≤ 2) (h2 : kp = 2) : Calls Try.prog 6 #[.slice A ss.length c, .string last, .int .i64 op, .int .i64 kp] w fun e w' => e = .returned (.bool true) ∧ Below w.heap.size w w' := by
  have ADD := Lib.hid (show addJ (⟨(dat ss).flatMap frameS, [], op, kp, false⟩ : Disk.FD) (frameS last.data.toList) = (140, ⟨(dat ss).flatMap frameS ++ frameS last.data.toList, [], 0, kp, true⟩) by rw [addJ_crash _ _ _ _ h1 ho hk, h2, part_whole])
  have x1 : ((op : Int) == 3) = false := by simp; omega
  have x2 : (op == 3) = false := by simp; omega
  have x3 : ((kp : Int) == 2) = true := by simp [h2]
  have x4 : (kp == 2) = true := by simp [h2]
  clear ho h2
  have q1 : ¬ (60 : Int) < ss.length := by omega
  have q2 : ¬ (500 : Int) < last.size := by omega
  have q3 : ¬ (op : Int) < 1 := by omega
  have q4 : ¬ (3 : Int) < op := by omega
  have q5 : ¬ (kp : Int) < 0 := by omega
  have q6 : ¬ (2 : Int) < kp := by omega
  have HR := Lib.hid hr
  have HN := Lib.hid hn
  have HNC := Lib.hid hnc
  have HL := Lib.hid hl
  have H1 := Lib.hid h1
  have H3 := Lib.hid h3
  have HKP := Lib.hid hk
  unfold maxLen at hcm
  have HCM := Lib.hid hcm
  clear hr hn hnc hcm hl h1 h3 hk
  go_enter Try.func6, Try.ntmps6
  go_wp2_with (fail)
  refine (janchor_any _).mono ?_
  rintro e w1 ⟨rfl, hk⟩
  have K1 := Lib.hid hk
  clear hk
  go_wp2_with (fail)
  refine (Disk.st_new (w0 := w) K1.out.nil_below).mono ?_
  rintro e w2 ⟨rfl, hs, _⟩
  obtain ⟨p, hp⟩ : ∃ p, w1.heap.size = p := ⟨_, rfl⟩
  rw [hp] at hs ⊢
  have S2 : Hid (Disk.St w w2 p (fun k => k = p) (fileOf [])) := Lib.hid hs
  clear hs hp
  go_wp2_with (fail)
  refine (jopen_any w w2 p _ (fileOf []) S2.out rfl rfl (by simp [fileOf])).mono ?_
  intro e w3 h
  unfold OpenRes at h
  rw [opened_file [] (fun t ht => by cases ht)] at h
  obtain ⟨q, A3, c3, rfl, hj, hq, _, _, F3, hs3, _, _, hqF, _⟩ := h
  have S3 := Lib.hid hs3
  have J3 := Lib.hid hj
  have QF3 := Lib.hid hqF
  clear hj hq hs3 hqF
  go_wp2
  go_loopw [68] (fun iv wr => CrashRel ss w p q iv wr) (fun iv _ => (ss.length - intOf iv).toNat)
  case atStart => exact ⟨0, F3, Nat.zero_le _, rfl, S3.out, J3.out, QF3.out, fun t ht => by simp at ht⟩
  case round =>
    obtain ⟨k, F, hk, rfl, hs, hj, hqF, hsm⟩ := hrel
    have S := Lib.hid hs
    have J := Lib.hid hj
    have QF := Lib.hid hqF
    have SM := Lib.hid hsm
    have HRW := Lib.hid (HR.out.below hs.2.1)
    have HDL := Lib.hid (dat_len ss)
    clear hs hj hqF hsm
    by_cases hlt : k < ss.length
    · obtain ⟨b, off, hA, hbl, hcell⟩ := HRW.out.cell (by omega)
      obtain ⟨s, hss⟩ : ∃ s, ss[k]? = some s := ⟨_, List.getElem?_eq_getElem hlt⟩
      have cx := hcell k (.string s) (by rw [List.getElem?_map, hss]; rfl)
      have z1 : (0 : Int) ≤ k := by omega
      have z2 : (k : Int) < ss.length := by omega
      have hdt : (dat ss)[k]? = some s.data.toList := by unfold dat; rw [List.getElem?_map, hss]; rfl
      have htk : (dat ss).take (k + 1) = (dat ss).take k ++ [s.data.toList] := by rw [List.take_add_one, hdt]; rfl
      have HTK := Lib.hid htk
      clear hcell hss hdt htk
      by_cases h5 : 500 < s.size
      · have z3 : (500 : Int) < s.size := by omega
        subst hA
        go_wp2
        go_ret
        exact ⟨rfl, S.out.2.1⟩
      · have z3 : ¬ (500 : Int) < s.size := by omega
        have hsm2 : ∀ t ∈ (dat ss).take (k + 1), t.length ≤ 500 := fun t ht => by
          rw [HTK.out] at ht
          rcases List.mem_append.1 ht with ht | ht
          · exact SM.out t ht
          · rw [List.mem_singleton.1 ht, len_data]; omega
        have SM2 := Lib.hid hsm2
        have hlen := frames_len (ts := (dat ss).take (k + 1)) (fun t ht => by have := hsm2 t ht; omega)
        rw [List.length_take] at hlen
        have hnn := HN.out
        have hadd := addJ_file ((dat ss).take k) s.data.toList
        rw [← HTK.out] at hadd
        have HADD := Lib.hid hadd
        have hroom : Disk.Room { fileOf ((dat ss).take k) with loose := (fileOf ((dat ss).take k)).loose ++ frameS s.data.toList } := by
          unfold Disk.Room fileOf
          simp only [List.nil_append]
          rw [HTK.out, List.flatMap_append] at hlen
          simp only [List.flatMap_cons, List.flatMap_nil, List.append_nil, List.length_append] at hlen
          omega
        have HROOM := Lib.hid hroom
        have HS5 := Lib.hid (show s.size ≤ 1048576 by omega)
        have HQL := Lib.hid (blk_lt J.out)
        clear h5 hsm2 hlen hadd hroom
        subst hA
        go_wp2_with (fail)
        refine (jadd_any w _ p q F _ S.out J.out QF.out s HS5.out HROOM.out).mono ?_
        rw [HADD.out]
        rintro e w5 ⟨rfl, F5, s5, b5, k5⟩
        have S5 := Lib.hid s5
        have J5 := Lib.hid (jat_keep J.out k5 QF.out)
        have QF5 : Hid (¬ F5 q) := Lib.hid fun h => (b5 q h).elim QF.out (fun h2 => by have := HQL.out; omega)
        clear s5 b5 k5
        go_wp2
        go_roundw
        case rel => exact ⟨k + 1, F5, by omega, by go_num, S5.out, J5.out, QF5.out, SM2.out⟩
        case measure => simp only [intOf]; omega
    · have hkl : k = ss.length := by omega
      subst hkl
      have htk : (dat ss).take ss.length = dat ss := by rw [← HDL.out, List.take_length]
      rw [htk] at S SM
      have hle := frames_small SM.out (by rw [HDL.out]; have := HN.out; omega)
      have hfl : (frameS last.data.toList).length ≤ 509 := by
        have := encN_le last.data.toList.length
        have := HL.out
        rw [frameS_length, len_data] at *
        omega
      have HLE := Lib.hid hle
      have HFL := Lib.hid hfl
      have HQL := Lib.hid (blk_lt J.out)
      have z2 : ¬ (ss.length : Int) < ss.length := by omega
      have hroom : Disk.Room (⟨(dat ss).flatMap frameS, [] ++ frameS last.data.toList, op, kp, false⟩ : Disk.FD) := by
        unfold Disk.Room
        simp only [List.nil_append]
        omega
      have HROOM := Lib.hid hroom
      have HS5 := Lib.hid (show last.size ≤ 1048576 by have := HL.out; omega)
      have HK2 := Lib.hid (show ∀ t ∈ dat ss, t.length ≤ 1048576 from fun t ht => by have := SM.out t ht; omega)
      have HLT := Lib.hid (show last.data.toList.length ≤ 1048576 by rw [len_data]; exact HS5.out)
      clear htk hle hfl hk hroom
      go_wp2_with (fail)
      refine (Disk.st_arm S.out (op : Int) (kp : Int) (arm_ok H1.out H3.out HKP.out)).mono ?_
      rintro e w5 ⟨rfl, F5, s5, b5, k5⟩
      have S5 := Lib.hid s5
      have J5 := Lib.hid (jat_keep J.out k5 QF.out)
      have QF5 : Hid (¬ F5 q) := Lib.hid fun h => (b5 q h).elim QF.out (fun h2 => by have := HQL.out; omega)
      have HQL5 := Lib.hid (blk_lt J5.out)
      clear s5 b5 k5
      go_wp2_with (fail)
      refine (jadd_any w _ p q F5 _ S5.out J5.out QF5.out last HS5.out HROOM.out).mono ?_
      rw [ADD.out]
      rintro e w6 ⟨rfl, F6, s6, b6, k6⟩
      have S6 := Lib.hid s6
      clear s6 b6 k6
      go_wp2_with (fail)
      refine (jopen_down w _ p F6 _ S6.out rfl).mono ?_
      rintro e w6b ⟨rfl, F6b, s6b, b6b, k6b⟩
      have S6b := Lib.hid s6b
      clear s6b b6b k6b
      go_wp2_with (fail)
      refine (Disk.st_restart S6b.out (restart_part _ _ _)).mono ?_
      rintro e w7 ⟨rfl, F7, s7, b7, k7⟩
      have S7 := Lib.hid s7
      clear s7 b7 k7
      obtain ⟨y, hy⟩ : ∃ y : Disk.FD, ⟨(dat ss).flatMap frameS ++ frameS last.data.toList, [], 0, kp, false⟩ = y := ⟨_, rfl⟩
      obtain ⟨rs, hrs⟩ : ∃ rs, ss ++ [last] = rs := ⟨_, rfl⟩
      rw [hy] at S7
      have YL := Lib.hid (show y.safe ++ y.loose = (dat ss).flatMap frameS ++ frameS last.data.toList by rw [← hy]; simp)
      have YD := Lib.hid (show y.down = false by rw [← hy])
      have YB := Lib.hid (show y.burns = false by rw [← hy]; rfl)
      have OP := Lib.hid (show Opened y = (dat rs, fileK (dat rs) kp) by rw [← hy, ← hrs, dat_snoc]; exact opened_whole _ _ _ HK2.out HLT.out)
      have PL := Lib.hid (show (frameS last.data.toList).length ≤ 509 from HFL.out)
      have RSL := Lib.hid (show rs.length = ss.length + 1 by rw [← hrs]; simp)
      have RGE := Lib.hid (show ss.length ≤ rs.length by have := RSL.out; omega)
      have RTK := Lib.hid (show (rs.map Value.string).take ss.length = ss.map Value.string by rw [← hrs]; exact snoc_take ss last)
      have RSM := Lib.hid (show ∀ t ∈ dat rs, t.length ≤ 1048576 from fun t ht => by
        rw [← hrs, dat_snoc] at ht
        rcases List.mem_append.1 ht with ht | ht
        · exact HK2.out t ht
        · rw [List.mem_singleton.1 ht]; exact HLT.out)
      have RFL := Lib.hid (show ((dat rs).flatMap frameS).length ≤ ((dat ss).flatMap frameS).length + 509 by
        rw [← hrs, snoc_flat, List.length_append]; have := HFL.out; omega)
      have hlastv : (rs.map Value.string)[ss.length]? = some (.string last) := by rw [← hrs]; simp
      have HLV := Lib.hid hlastv
      clear hy hrs hlastv
      have HLR := Lib.hid (show (y.safe ++ y.loose).length ≤ 10000000000000 by rw [YL.out, List.length_append]; have := HLE.out; have := PL.out; omega)
      go_wp2_with (fail)
      refine (jopen_any w _ p F7 y S7.out YD.out YB.out HLR.out).mono ?_
      intro e w8 h
      unfold OpenRes at h
      rw [OP.out] at h
      obtain ⟨q8, A8, c8, rfl, hj8, _, hr8, hc8, F8, hs8, b8, k8, hqF8, hAF8⟩ := h
      rw [dat_map] at hr8
      simp only [dat_len] at hr8 hc8 ⊢
      have S8 := Lib.hid hs8
      have J8 := Lib.hid hj8
      have QF8 := Lib.hid hqF8
      have R8 := Lib.hid hr8
      have AF8 := Lib.hid hAF8
      have HQL8 := Lib.hid (blk_lt hj8)
      have ra := rowIn_take (m := ss.length) hr8 RGE.out
      rw [RTK.out] at ra
      have T := Lib.hid (texts_eq ss A8 A c8 c w8 ra (HR.out.below hs8.2.1))
      have hrm := hr8.max
      unfold maxLen at hrm
      have z3 : (0 : Int) ≤ ss.length := by omega
      have z4 : (ss.length : Int) ≤ c8 := by have := RGE.out; omega
      have z5 : ¬ (rs.length : Int) < ss.length := by have := RGE.out; omega
      have z6 : decide (rs.length < ss.length) = false := by have := RGE.out; simpa using this
      have hmore : (frameS more.data.toList).length ≤ 13 := by
        have := encN_le more.data.toList.length
        rw [frameS_length]
        have h4 : more.data.toList.length = 4 := rfl
        omega
      have hleR : ((dat rs).flatMap frameS).length ≤ 201409 := by
        have := HLE.out; have := HFL.out; have h := RFL.out; omega
      have HRL := Lib.hid (show ((fileK (dat rs ++ [more.data.toList]) kp).safe ++ (fileK (dat rs ++ [more.data.toList]) kp).loose).length ≤ 10000000000000 by
        unfold fileK
        simp only [List.append_nil, List.flatMap_append, List.flatMap_cons, List.flatMap_nil, List.length_append]
        omega)
      have HROOM2 := Lib.hid (show Disk.Room { fileK (dat rs) kp with loose := (fileK (dat rs) kp).loose ++ frameS more.data.toList } by
        unfold Disk.Room fileK
        simp only [List.nil_append]
        omega)
      have HOP2 := Lib.hid (opened_fileK (dat rs ++ [more.data.toList]) kp (fun t ht => by
        rcases List.mem_append.1 ht with ht | ht
        · exact RSM.out t ht
        · rw [List.mem_singleton.1 ht]; decide))
      have HRM := Lib.hid hrm
      clear hj8 hr8 hs8 hqF8 hAF8 b8 k8 ra hmore hleR hrm hc8
      obtain ⟨b8, off8, hA8, _, hx8⟩ := R8.out.cell (by have := RSL.out; omega)
      have cl := hx8 ss.length _ HLV.out
      have z7 : ((rs.length : Int) == (ss.length : Int) + 1) = true := by have := RSL.out; simp; omega
      have z8 : (rs.length == ss.length + 1) = true := by have := RSL.out; simp; omega
      have z9 : ¬ ((ss.length : Int) + 1 < rs.length) := by have := RSL.out; omega
      have z10 : decide (ss.length + 1 < rs.length) = false := by have := RSL.out; simp; omega
      have z11 : (ss.length : Int) < rs.length := by have := RSL.out; omega
      subst hA8
      clear hx8
      go_wp2_with (go_at_call 11; refine T.out.mono ?_; rintro e w' ⟨rfl, hw⟩; obtain rfl := hw.symm)
      refine (jadd_any w _ p q8 F8 _ S8.out J8.out QF8.out more (by decide) HROOM2.out).mono ?_
      rw [addJ_fileK]
      rintro e w9 ⟨rfl, F9, s9, b9, k9⟩
      have S9 := Lib.hid s9
      have N9 := Lib.hid (show Disk.Next w w8 w9 p F8 _ from ⟨F9, s9, b9, k9⟩)
      have B9 := Lib.hid b9
      have K9 := Lib.hid k9
      clear s9 b9 k9
      go_wp2_with (fail)
      refine (Disk.st_restart S9.out (restart_fileK _ _)).mono ?_
      rintro e w10 ⟨rfl, hn10⟩
      obtain ⟨F10, s10, b10, k10⟩ := next_trans B9.out K9.out hn10
      have S10 := Lib.hid s10
      have B10 := Lib.hid b10
      have K10 := Lib.hid k10
      clear s10 b10 k10 hn10
      go_wp2_with (fail)
      refine (jopen_any w _ p F10 _ S10.out rfl rfl HRL.out).mono ?_
      intro e w11 h
      unfold OpenRes at h
      rw [HOP2.out] at h
      obtain ⟨q11, A11, c11, rfl, hj11, _, hr11, hc11, F11, hs11, b11, k11, _, _⟩ := h
      have S11 := Lib.hid hs11
      have hdl2 : (dat rs ++ [more.data.toList]).length = rs.length + 1 := by rw [List.length_append, dat_len]; rfl
      rw [← dat_snoc, dat_map, dat_len, List.length_append, List.length_singleton] at hr11
      simp only [hdl2] at hc11 ⊢
      have r8 := elem_fst (w' := w11) R8.out (K10.out.trans k11 B10.out) AF8.out
      have ra := rowIn_take (m := rs.length) hr11 (by omega)
      rw [List.map_append, List.take_left' (by rw [List.length_map])] at ra
      have T2 := Lib.hid (texts_eq rs A11 _ c11 c8 w11 ra r8)
      obtain ⟨b12, off12, hA12, _, hx12⟩ := hr11.cell (by omega)
      have cm := hx12 rs.length (.string ⟨#[109, 111, 114, 101]⟩) (by rw [List.map_append, List.getElem?_append_right (by rw [List.length_map]; exact Nat.le_refl _), List.length_map, Nat.sub_self]; rfl)
      have y1 : (0 : Int) ≤ rs.length := by omega
      have y2 : (rs.length : Int) ≤ c11 := by omega
      have y3 : (rs.length : Int) < rs.length + 1 := by omega
      have y4 : rs.length + 1 ≤ 9223372036854775807 := by have := hr11.max; unfold maxLen at this; omega
      subst hA12
      clear hj11 hr11 hs11 b11 k11 r8 ra hx12 hdl2
      go_wp2_with (go_at_call 11; refine T2.out.mono ?_; rintro e w' ⟨rfl, hw⟩; obtain rfl := hw.symm)
      go_ret
      exact ⟨rfl, S11.out.2.1⟩

set_option maxHeartbeats 1600000 in
set_option maxRecDepth 100000 in
theorem jcrash_torn (ss : List ByteArray) (A : Option Addr) (c : Nat) (last : ByteArray) (op kp : Nat) (w : World) (hnc : ss.length ≤ c) (hcm : c ≤ maxLen) (hr : RowIn w A ss.length (ss.map Value.string)) (hn : ss.length ≤ 60) (hl : last.size ≤ 500) (h1 : 1 ≤ op) (h3 : op ≤ 3) (hk : kp ≤ 2) (ho : op ≤ 2) (h2 : kp ≤ 1) : Calls Try.prog 6 #[.slice A ss.length c, .string last, .int .i64 op, .int .i64 kp] w fun e w' => e = .returned (.bool true) ∧ Below w.heap.size w w' := by
  have ADD := Lib.hid (addJ_crash ((dat ss).flatMap frameS) (frameS last.data.toList) op kp h1 ho hk)
  have HPT := Lib.hid (part_torn (frameS last.data.toList) kp h2 (by rw [frameS_length]; have := encN_pos last.data.toList.length; omega))
  have x1 : ((op : Int) == 3) = false := by simp; omega
  have x2 : (op == 3) = false := by simp; omega
  have x3 : ((kp : Int) == 2) = false := by simp; omega
  have x4 : (kp == 2) = false := by simp; omega
  clear ho h2
  have q1 : ¬ (60 : Int) < ss.length := by omega
  have q2 : ¬ (500 : Int) < last.size := by omega
  have q3 : ¬ (op : Int) < 1 := by omega
  have q4 : ¬ (3 : Int) < op := by omega
  have q5 : ¬ (kp : Int) < 0 := by omega
  have q6 : ¬ (2 : Int) < kp := by omega
  have HR := Lib.hid hr
  have HN := Lib.hid hn
  have HNC := Lib.hid hnc
  have HL := Lib.hid hl
  have H1 := Lib.hid h1
  have H3 := Lib.hid h3
  have HKP := Lib.hid hk
  unfold maxLen at hcm
  have HCM := Lib.hid hcm
  clear hr hn hnc hcm hl h1 h3 hk
  go_enter Try.func6, Try.ntmps6
  go_wp2_with (fail)
  refine (janchor_any _).mono ?_
  rintro e w1 ⟨rfl, hk⟩
  have K1 := Lib.hid hk
  clear hk
  go_wp2_with (fail)
  refine (Disk.st_new (w0 := w) K1.out.nil_below).mono ?_
  rintro e w2 ⟨rfl, hs, _⟩
  obtain ⟨p, hp⟩ : ∃ p, w1.heap.size = p := ⟨_, rfl⟩
  rw [hp] at hs ⊢
  have S2 : Hid (Disk.St w w2 p (fun k => k = p) (fileOf [])) := Lib.hid hs
  clear hs hp
  go_wp2_with (fail)
  refine (jopen_any w w2 p _ (fileOf []) S2.out rfl rfl (by simp [fileOf])).mono ?_
  intro e w3 h
  unfold OpenRes at h
  rw [opened_file [] (fun t ht => by cases ht)] at h
  obtain ⟨q, A3, c3, rfl, hj, hq, _, _, F3, hs3, _, _, hqF, _⟩ := h
  have S3 := Lib.hid hs3
  have J3 := Lib.hid hj
  have QF3 := Lib.hid hqF
  clear hj hq hs3 hqF
  go_wp2
  go_loopw [68] (fun iv wr => CrashRel ss w p q iv wr) (fun iv _ => (ss.length - intOf iv).toNat)
  case atStart => exact ⟨0, F3, Nat.zero_le _, rfl, S3.out, J3.out, QF3.out, fun t ht => by simp at ht⟩
  case round =>
    obtain ⟨k, F, hk, rfl, hs, hj, hqF, hsm⟩ := hrel
    have S := Lib.hid hs
    have J := Lib.hid hj
    have QF := Lib.hid hqF
    have SM := Lib.hid hsm
    have HRW := Lib.hid (HR.out.below hs.2.1)
    have HDL := Lib.hid (dat_len ss)
    clear hs hj hqF hsm
    by_cases hlt : k < ss.length
    · obtain ⟨b, off, hA, hbl, hcell⟩ := HRW.out.cell (by omega)
      obtain ⟨s, hss⟩ : ∃ s, ss[k]? = some s := ⟨_, List.getElem?_eq_getElem hlt⟩
      have cx := hcell k (.string s) (by rw [List.getElem?_map, hss]; rfl)
      have z1 : (0 : Int) ≤ k := by omega
      have z2 : (k : Int) < ss.length := by omega
      have hdt : (dat ss)[k]? = some s.data.toList := by unfold dat; rw [List.getElem?_map, hss]; rfl
      have htk : (dat ss).take (k + 1) = (dat ss).take k ++ [s.data.toList] := by rw [List.take_add_one, hdt]; rfl
      have HTK := Lib.hid htk
      clear hcell hss hdt htk
      by_cases h5 : 500 < s.size
      · have z3 : (500 : Int) < s.size := by omega
        subst hA
        go_wp2
        go_ret
        exact ⟨rfl, S.out.2.1⟩
      · have z3 : ¬ (500 : Int) < s.size := by omega
        have hsm2 : ∀ t ∈ (dat ss).take (k + 1), t.length ≤ 500 := fun t ht => by
          rw [HTK.out] at ht
          rcases List.mem_append.1 ht with ht | ht
          · exact SM.out t ht
          · rw [List.mem_singleton.1 ht, len_data]; omega
        have SM2 := Lib.hid hsm2
        have hlen := frames_len (ts := (dat ss).take (k + 1)) (fun t ht => by have := hsm2 t ht; omega)
        rw [List.length_take] at hlen
        have hnn := HN.out
        have hadd := addJ_file ((dat ss).take k) s.data.toList
        rw [← HTK.out] at hadd
        have HADD := Lib.hid hadd
        have hroom : Disk.Room { fileOf ((dat ss).take k) with loose := (fileOf ((dat ss).take k)).loose ++ frameS s.data.toList } := by
          unfold Disk.Room fileOf
          simp only [List.nil_append]
          rw [HTK.out, List.flatMap_append] at hlen
          simp only [List.flatMap_cons, List.flatMap_nil, List.append_nil, List.length_append] at hlen
          omega
        have HROOM := Lib.hid hroom
        have HS5 := Lib.hid (show s.size ≤ 1048576 by omega)
        have HQL := Lib.hid (blk_lt J.out)
        clear h5 hsm2 hlen hadd hroom
        subst hA
        go_wp2_with (fail)
        refine (jadd_any w _ p q F _ S.out J.out QF.out s HS5.out HROOM.out).mono ?_
        rw [HADD.out]
        rintro e w5 ⟨rfl, F5, s5, b5, k5⟩
        have S5 := Lib.hid s5
        have J5 := Lib.hid (jat_keep J.out k5 QF.out)
        have QF5 : Hid (¬ F5 q) := Lib.hid fun h => (b5 q h).elim QF.out (fun h2 => by have := HQL.out; omega)
        clear s5 b5 k5
        go_wp2
        go_roundw
        case rel => exact ⟨k + 1, F5, by omega, by go_num, S5.out, J5.out, QF5.out, SM2.out⟩
        case measure => simp only [intOf]; omega
    · have hkl : k = ss.length := by omega
      subst hkl
      have htk : (dat ss).take ss.length = dat ss := by rw [← HDL.out, List.take_length]
      rw [htk] at S SM
      have hle := frames_small SM.out (by rw [HDL.out]; have := HN.out; omega)
      have hfl : (frameS last.data.toList).length ≤ 509 := by
        have := encN_le last.data.toList.length
        have := HL.out
        rw [frameS_length, len_data] at *
        omega
      have HLE := Lib.hid hle
      have HFL := Lib.hid hfl
      have HQL := Lib.hid (blk_lt J.out)
      have z2 : ¬ (ss.length : Int) < ss.length := by omega
      have hroom : Disk.Room (⟨(dat ss).flatMap frameS, [] ++ frameS last.data.toList, op, kp, false⟩ : Disk.FD) := by
        unfold Disk.Room
        simp only [List.nil_append]
        omega
      have HROOM := Lib.hid hroom
      have HS5 := Lib.hid (show last.size ≤ 1048576 by have := HL.out; omega)
      have HK2 := Lib.hid (show ∀ t ∈ dat ss, t.length ≤ 1048576 from fun t ht => by have := SM.out t ht; omega)
      have HLT := Lib.hid (show last.data.toList.length ≤ 1048576 by rw [len_data]; exact HS5.out)
      clear htk hle hfl hk hroom
      go_wp2_with (fail)
      refine (Disk.st_arm S.out (op : Int) (kp : Int) (arm_ok H1.out H3.out HKP.out)).mono ?_
      rintro e w5 ⟨rfl, F5, s5, b5, k5⟩
      have S5 := Lib.hid s5
      have J5 := Lib.hid (jat_keep J.out k5 QF.out)
      have QF5 : Hid (¬ F5 q) := Lib.hid fun h => (b5 q h).elim QF.out (fun h2 => by have := HQL.out; omega)
      have HQL5 := Lib.hid (blk_lt J5.out)
      clear s5 b5 k5
      go_wp2_with (fail)
      refine (jadd_any w _ p q F5 _ S5.out J5.out QF5.out last HS5.out HROOM.out).mono ?_
      rw [ADD.out]
      rintro e w6 ⟨rfl, F6, s6, b6, k6⟩
      have S6 := Lib.hid s6
      clear s6 b6 k6
      go_wp2_with (fail)
      refine (jopen_down w _ p F6 _ S6.out rfl).mono ?_
      rintro e w6b ⟨rfl, F6b, s6b, b6b, k6b⟩
      have S6b := Lib.hid s6b
      clear s6b b6b k6b
      go_wp2_with (fail)
      refine (Disk.st_restart S6b.out (restart_part _ _ _)).mono ?_
      rintro e w7 ⟨rfl, F7, s7, b7, k7⟩
      have S7 := Lib.hid s7
      clear s7 b7 k7
      obtain ⟨y, hy⟩ : ∃ y : Disk.FD, ⟨(dat ss).flatMap frameS ++ part kp (frameS last.data.toList), [], 0, kp, false⟩ = y := ⟨_, rfl⟩
      obtain ⟨rs, hrs⟩ : ∃ rs, ss = rs := ⟨_, rfl⟩
      rw [hy] at S7
      have YL := Lib.hid (show y.safe ++ y.loose = (dat ss).flatMap frameS ++ part kp (frameS last.data.toList) by rw [← hy]; simp)
      have YD := Lib.hid (show y.down = false by rw [← hy])
      have YB := Lib.hid (show y.burns = false by rw [← hy]; rfl)
      have OP := Lib.hid (show Opened y = (dat rs, fileK (dat rs) kp) by rw [← hy, ← hrs]; exact opened_torn _ _ _ kp HK2.out HLT.out HPT.out.1 HPT.out.2)
      have PL := Lib.hid (show (part kp (frameS last.data.toList)).length ≤ 509 by have := HFL.out; have := HPT.out.2; omega)
      have RSL := Lib.hid (show rs.length = ss.length by rw [← hrs])
      have RGE := Lib.hid (show ss.length ≤ rs.length by have := RSL.out; omega)
      have RTK := Lib.hid (show (rs.map Value.string).take ss.length = ss.map Value.string by rw [← hrs, ← List.map_take, List.take_length])
      have RSM := Lib.hid (show ∀ t ∈ dat rs, t.length ≤ 1048576 by rw [← hrs]; exact HK2.out)
      have RFL := Lib.hid (show ((dat rs).flatMap frameS).length ≤ ((dat ss).flatMap frameS).length + 509 by rw [← hrs]; omega)
      clear hy hrs
      have HLR := Lib.hid (show (y.safe ++ y.loose).length ≤ 10000000000000 by rw [YL.out, List.length_append]; have := HLE.out; have := PL.out; omega)
      go_wp2_with (fail)
      refine (jopen_any w _ p F7 y S7.out YD.out YB.out HLR.out).mono ?_
      intro e w8 h
      unfold OpenRes at h
      rw [OP.out] at h
      obtain ⟨q8, A8, c8, rfl, hj8, _, hr8, hc8, F8, hs8, b8, k8, hqF8, hAF8⟩ := h
      rw [dat_map] at hr8
      simp only [dat_len] at hr8 hc8 ⊢
      have S8 := Lib.hid hs8
      have J8 := Lib.hid hj8
      have QF8 := Lib.hid hqF8
      have R8 := Lib.hid hr8
      have AF8 := Lib.hid hAF8
      have HQL8 := Lib.hid (blk_lt hj8)
      have ra := rowIn_take (m := ss.length) hr8 RGE.out
      rw [RTK.out] at ra
      have T := Lib.hid (texts_eq ss A8 A c8 c w8 ra (HR.out.below hs8.2.1))
      have hrm := hr8.max
      unfold maxLen at hrm
      have z3 : (0 : Int) ≤ ss.length := by omega
      have z4 : (ss.length : Int) ≤ c8 := by have := RGE.out; omega
      have z5 : ¬ (rs.length : Int) < ss.length := by have := RGE.out; omega
      have z6 : decide (rs.length < ss.length) = false := by have := RGE.out; simpa using this
      have hmore : (frameS more.data.toList).length ≤ 13 := by
        have := encN_le more.data.toList.length
        rw [frameS_length]
        have h4 : more.data.toList.length = 4 := rfl
        omega
      have hleR : ((dat rs).flatMap frameS).length ≤ 201409 := by
        have := HLE.out; have := HFL.out; have h := RFL.out; omega
      have HRL := Lib.hid (show ((fileK (dat rs ++ [more.data.toList]) kp).safe ++ (fileK (dat rs ++ [more.data.toList]) kp).loose).length ≤ 10000000000000 by
        unfold fileK
        simp only [List.append_nil, List.flatMap_append, List.flatMap_cons, List.flatMap_nil, List.length_append]
        omega)
      have HROOM2 := Lib.hid (show Disk.Room { fileK (dat rs) kp with loose := (fileK (dat rs) kp).loose ++ frameS more.data.toList } by
        unfold Disk.Room fileK
        simp only [List.nil_append]
        omega)
      have HOP2 := Lib.hid (opened_fileK (dat rs ++ [more.data.toList]) kp (fun t ht => by
        rcases List.mem_append.1 ht with ht | ht
        · exact RSM.out t ht
        · rw [List.mem_singleton.1 ht]; decide))
      have HRM := Lib.hid hrm
      clear hj8 hr8 hs8 hqF8 hAF8 b8 k8 ra hmore hleR hrm hc8
      have z7 : ((rs.length : Int) == (ss.length : Int) + 1) = false := by have := RSL.out; simp; omega
      have z8 : (rs.length == ss.length + 1) = false := by have := RSL.out; simp; omega
      have z9 : ¬ ((ss.length : Int) + 1 < rs.length) := by have := RSL.out; omega
      have z10 : decide (ss.length + 1 < rs.length) = false := by have := RSL.out; simp; omega
      go_wp2_with (go_at_call 11; refine T.out.mono ?_; rintro e w' ⟨rfl, hw⟩; obtain rfl := hw.symm)
      refine (jadd_any w _ p q8 F8 _ S8.out J8.out QF8.out more (by decide) HROOM2.out).mono ?_
      rw [addJ_fileK]
      rintro e w9 ⟨rfl, F9, s9, b9, k9⟩
      have S9 := Lib.hid s9
      have N9 := Lib.hid (show Disk.Next w w8 w9 p F8 _ from ⟨F9, s9, b9, k9⟩)
      have B9 := Lib.hid b9
      have K9 := Lib.hid k9
      clear s9 b9 k9
      go_wp2_with (fail)
      refine (Disk.st_restart S9.out (restart_fileK _ _)).mono ?_
      rintro e w10 ⟨rfl, hn10⟩
      obtain ⟨F10, s10, b10, k10⟩ := next_trans B9.out K9.out hn10
      have S10 := Lib.hid s10
      have B10 := Lib.hid b10
      have K10 := Lib.hid k10
      clear s10 b10 k10 hn10
      go_wp2_with (fail)
      refine (jopen_any w _ p F10 _ S10.out rfl rfl HRL.out).mono ?_
      intro e w11 h
      unfold OpenRes at h
      rw [HOP2.out] at h
      obtain ⟨q11, A11, c11, rfl, hj11, _, hr11, hc11, F11, hs11, b11, k11, _, _⟩ := h
      have S11 := Lib.hid hs11
      have hdl2 : (dat rs ++ [more.data.toList]).length = rs.length + 1 := by rw [List.length_append, dat_len]; rfl
      rw [← dat_snoc, dat_map, dat_len, List.length_append, List.length_singleton] at hr11
      simp only [hdl2] at hc11 ⊢
      have r8 := elem_fst (w' := w11) R8.out (K10.out.trans k11 B10.out) AF8.out
      have ra := rowIn_take (m := rs.length) hr11 (by omega)
      rw [List.map_append, List.take_left' (by rw [List.length_map])] at ra
      have T2 := Lib.hid (texts_eq rs A11 _ c11 c8 w11 ra r8)
      obtain ⟨b12, off12, hA12, _, hx12⟩ := hr11.cell (by omega)
      have cm := hx12 rs.length (.string ⟨#[109, 111, 114, 101]⟩) (by rw [List.map_append, List.getElem?_append_right (by rw [List.length_map]; exact Nat.le_refl _), List.length_map, Nat.sub_self]; rfl)
      have y1 : (0 : Int) ≤ rs.length := by omega
      have y2 : (rs.length : Int) ≤ c11 := by omega
      have y3 : (rs.length : Int) < rs.length + 1 := by omega
      have y4 : rs.length + 1 ≤ 9223372036854775807 := by have := hr11.max; unfold maxLen at this; omega
      subst hA12
      clear hj11 hr11 hs11 b11 k11 r8 ra hx12 hdl2
      go_wp2_with (go_at_call 11; refine T2.out.mono ?_; rintro e w' ⟨rfl, hw⟩; obtain rfl := hw.symm)
      go_ret
      exact ⟨rfl, S11.out.2.1⟩

theorem jcrash_any (A : Option Addr) (n c : Nat) (last : ByteArray) (op kp : Int) (ss : List ByteArray) (w : World) (hr : RowIn w A n (ss.map Value.string)) (hz : (∀ s ∈ ss, s.size ≤ 140737488351232) ∧ n ≤ c ∧ c ≤ maxLen) (hs : last.size ≤ 140737488351232) : Calls Try.prog 6 #[.slice A n c, .string last, .int .i64 op, .int .i64 kp] w fun e w' => e = .returned (.bool true) ∧ Below w.heap.size w w' := by
  have hl : n = ss.length := by have := hr.len; simpa using this
  subst hl
  by_cases h : 60 < ss.length ∨ 500 < last.size ∨ op < 1 ∨ 3 < op ∨ kp < 0 ∨ 2 < kp
  · exact jcrash_out A ss.length c last op kp w hr.max hs h
  · obtain ⟨o, rfl⟩ : ∃ o : Nat, op = o := ⟨op.toNat, by omega⟩
    obtain ⟨k, rfl⟩ : ∃ k : Nat, kp = k := ⟨kp.toNat, by omega⟩
    by_cases h3 : o = 3
    · exact jcrash_ok ss A c last o k w hz.2.1 hz.2.2 hr (by omega) (by omega) (by omega) (by omega) (by omega) h3
    · by_cases h2 : k = 2
      · exact jcrash_whole ss A c last o k w hz.2.1 hz.2.2 hr (by omega) (by omega) (by omega) (by omega) (by omega) (by omega) h2
      · exact jcrash_torn ss A c last o k w hz.2.1 hz.2.2 hr (by omega) (by omega) (by omega) (by omega) (by omega) (by omega) (by omega)
end Go.Proofs.Ytegonafacbokeaa.Codec
