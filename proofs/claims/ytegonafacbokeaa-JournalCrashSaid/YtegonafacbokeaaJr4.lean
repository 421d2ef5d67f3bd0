/-
  JournalTorn walked.
-/
import Derived.Test.YtegonafacbokeaaJr3
namespace Go.Proofs.Ytegonafacbokeaa.Codec
open Go.RowKit Go.Proofs.YtegonafacbokeaaBase Go.Proofs.YtegonafacbokeaaLex2 Go.Proofs.YtegonafacbokeaaNum
set_option linter.unusedVariables false
set_option linter.unusedSimpArgs false

/-- How many bytes the first so many records have. -/
def endOf (ts : List (List UInt8)) (j : Nat) : Nat := ((ts.take j).flatMap frameS).length
theorem endOf_succ {ts : List (List UInt8)} {j : Nat} {t : List UInt8} (h : ts[j]? = some t) : endOf ts (j + 1) = endOf ts j + (frameS t).length := by
  unfold endOf
  rw [List.take_add_one, h]
  simp
theorem endOf_mono (ts : List (List UInt8)) : ∀ {i j : Nat}, i ≤ j → endOf ts i ≤ endOf ts j
  | i, 0, h => by rw [Nat.le_zero.1 h]; exact Nat.le_refl _
  | i, j + 1, h => by
    rcases Nat.lt_or_ge i (j + 1) with h1 | h1
    · have := endOf_mono ts (i := i) (j := j) (by omega)
      cases ht : ts[j]? with
      | none => unfold endOf at *; rw [List.take_add_one, ht]; simpa using this
      | some t => rw [endOf_succ ht]; omega
    · rw [show i = j + 1 by omega]; exact Nat.le_refl _
/-- What is whole of torn records. -/
def Whole (ts : List (List UInt8)) (c i m : Nat) : Prop := m ≤ i ∧ endOf ts m ≤ c ∧ (m < i → c < endOf ts (m + 1))
theorem whole_in {ts : List (List UInt8)} {c i m : Nat} (h : Whole ts c i m) (hc : endOf ts (i + 1) ≤ c) : Whole ts c (i + 1) (i + 1) := ⟨Nat.le_refl _, hc, fun h => by omega⟩
theorem whole_out {ts : List (List UInt8)} {c i m : Nat} (h : Whole ts c i m) (hc : ¬ endOf ts (i + 1) ≤ c) : Whole ts c (i + 1) m := by
  obtain ⟨h1, h2, h3⟩ := h
  refine ⟨by omega, h2, fun _ => ?_⟩
  rcases Nat.lt_or_ge m i with h4 | h4
  · exact h3 h4
  · rw [show m = i by omega]; omega
theorem torn {ts : List (List UInt8)} {c m : Nat} (hs : ∀ t ∈ ts, t.length ≤ 1048576) (hc : c ≤ endOf ts ts.length) (h : Whole ts c ts.length m) : scanL ((ts.flatMap frameS).take c) = (ts.take m, endOf ts m) := by
  obtain ⟨h1, h2, h3⟩ := h
  have e1 : ts.flatMap frameS = (ts.take m).flatMap frameS ++ (ts.drop m).flatMap frameS := by rw [← List.flatMap_append, List.take_append_drop]
  have e2 : (ts.flatMap frameS).take c = (ts.take m).flatMap frameS ++ ((ts.drop m).flatMap frameS).take (c - endOf ts m) := by
    rw [e1, List.take_append]
    unfold endOf at *
    rw [List.take_of_length_le h2]
  rw [e2]
  refine scanL_frames (ts.take m) _ (fun t ht => hs t (List.mem_of_mem_take ht)) ?_
  rcases Nat.lt_or_ge m ts.length with h4 | h4
  · have h5 := h3 h4
    have h6 : ts[m]? = some ts[m] := List.getElem?_eq_getElem h4
    rw [endOf_succ h6] at h5
    rw [List.drop_eq_getElem_cons h4, List.flatMap_cons, List.take_append_of_le_length (by omega)]
    exact nextS_cut (t := ts[m]) (hs _ (List.getElem_mem h4)) (List.take_prefix _ _) (by rw [List.length_take]; omega)
  · rw [List.drop_eq_nil_of_le h4]
    simp [nextS_nil]
theorem endOf_le {ts : List (List UInt8)} (h : ∀ t ∈ ts, t.length ≤ 500) : ∀ j, endOf ts j ≤ 509 * j
  | 0 => by simp [endOf]
  | j + 1 => by
    have := endOf_le h j
    cases ht : ts[j]? with
    | none => unfold endOf at *; rw [List.take_add_one, ht]; simp at this ⊢; omega
    | some t =>
      rw [endOf_succ ht, frameS_length]
      have h1 := h t (List.mem_of_getElem? ht)
      have h2 := encN_le t.length
      omega

theorem torn_out (A : Option Addr) (n c : Nat) (k : Int) (w : World) (hn : n ≤ maxLen) (h : 200 < n ∨ k < 0) : Calls Try.prog 4 #[.slice A n c, .int .i64 k] w fun e w' => e = .returned (.bool true) ∧ Below w.heap.size w w' := by
  unfold maxLen at hn
  have HH := Lib.hid h
  clear h
  go_enter Try.func4, Try.ntmps4
  go_wp2_with (fail)
  refine (janchor_any _).mono ?_
  rintro e w1 ⟨rfl, hk⟩
  have K1 := Lib.hid hk
  clear hk
  by_cases h1 : 200 < n
  · have q : (200 : Int) < n := by omega
    go_wp2
    go_ret
    exact ⟨rfl, K1.out.nil_below⟩
  · have q : ¬ (200 : Int) < n := by omega
    have h2 := HH.out.resolve_left h1
    go_wp2
    go_ret
    exact ⟨rfl, K1.out.nil_below⟩

theorem elemI : Elem Try.prog 32 3 (.int .i64 0) 1 8 := ⟨by kernel_rfl, by obtain ⟨i, h1, h2, h3, h4⟩ := info_parts (show (Try.prog.info? 3).map (fun i => (i.zero, i.size, i.bytes)) = some (some (.int .i64 0), 1, 8) by kernel_rfl); exact ⟨i, h1, h2, h3, h4⟩, rfl, by decide, by decide⟩
def dat (ss : List ByteArray) : List (List UInt8) := ss.map fun s => s.data.toList
def intsOf (ts : List (List UInt8)) (k : Nat) : List Value := (List.range k).map fun j => Value.int .i64 (endOf ts (j + 1) : Nat)
/-- What holds at the head of the first loop. -/
def TornRel (ss : List ByteArray) (w : World) (av ev iv : Value) (wr : World) : Prop :=
  ∃ (k : Nat) (a : ByteArray), k ≤ ss.length ∧ iv = .int .i64 (k : Int) ∧ av = .string a ∧ a.data.toList = ((dat ss).take k).flatMap frameS ∧ (∀ s ∈ ss.take k, s.size ≤ 500) ∧ a.size ≤ 509 * k ∧
    Kept w wr (fun _ => False) ∧ wr.ownsRow w.heap.size 3 1 ev k (intsOf (dat ss) k)

set_option maxHeartbeats 3200000 in
set_option maxRecDepth 100000 in
theorem torn_in (ss : List ByteArray) (A : Option Addr) (c : Nat) (cut : Nat) (w : World) (hnc : ss.length ≤ c) (hcm : c ≤ maxLen) (hr : RowIn w A ss.length (ss.map Value.string)) (hn : ss.length ≤ 200) : Calls Try.prog 4 #[.slice A ss.length c, .int .i64 cut] w fun e w' => e = .returned (.bool true) ∧ Below w.heap.size w w' := by
  have q1 : ¬ (200 : Int) < ss.length := by omega
  have HR := Lib.hid hr
  have HN := Lib.hid hn
  have HNC := Lib.hid hnc
  unfold maxLen at hcm
  have HCM := Lib.hid hcm
  obtain ⟨x, hx⟩ : ∃ x : Int, (cut : Int) = x := ⟨_, rfl⟩
  have q2 : ¬ x < 0 := by omega
  have HX := Lib.hid hx
  rw [hx]
  clear hr hn hx hnc hcm
  go_enter Try.func4, Try.ntmps4
  go_wp2_with (fail)
  refine (janchor_any _).mono ?_
  rintro e w1 ⟨rfl, hk⟩
  have K1 := Lib.hid hk
  have HR1 := Lib.hid (HR.out.kept hk)
  clear hk
  go_wp2
  go_loopw [5, 8, 26] (fun av ev iv wr => TornRel ss w1 av ev iv wr) (fun _ _ iv _ => (ss.length - intOf iv).toNat)
  case atStart => exact ⟨0, ⟨#[]⟩, Nat.zero_le _, rfl, rfl, by simp, fun s hs => by simp at hs, Nat.le_refl _, Kept.refl _ _, World.ownsRow_nil _ _ _ _⟩
  case round =>
    obtain ⟨k, a, hk, rfl, rfl, had, hsm, hal, hkp, ho⟩ := hrel
    have HKP := Lib.hid hkp
    have HO := Lib.hid ho
    have HAD := Lib.hid had
    have HSM := Lib.hid hsm
    have HAL := Lib.hid hal
    clear hkp ho had hsm
    by_cases hlt : k < ss.length
    · obtain ⟨b, off, hA, hbl, hcell⟩ := (HR1.out.kept HKP.out).cell (by omega)
      subst hA
      obtain ⟨s, hs⟩ : ∃ s, ss[k]? = some s := ⟨_, List.getElem?_eq_getElem hlt⟩
      have cx := hcell k (.string s) (by rw [List.getElem?_map, hs]; rfl)
      have z1 : (0 : Int) ≤ k := by omega
      have z2 : (k : Int) < ss.length := by omega
      have HS := Lib.hid hs
      clear hcell hs hal
      by_cases h5 : 500 < s.size
      · have z3 : (500 : Int) < s.size := by omega
        go_wp2
        go_ret
        exact ⟨rfl, (K1.out.nil_trans HKP.out).nil_below⟩
      · have z3 : ¬ (500 : Int) < s.size := by omega
        have H5 := Lib.hid h5
        have hdt : (dat ss)[k]? = some s.data.toList := by unfold dat; rw [List.getElem?_map, HS.out]; rfl
        obtain ⟨f, hf⟩ : ∃ f, frameB s = f := ⟨_, rfl⟩
        have hfs := frameB_size s
        rw [hf] at hfs
        have hfd : f.data.toList = frameS s.data.toList := by rw [← hf]; unfold frameB mkB; simp
        obtain ⟨a2, ha2⟩ : ∃ a2 : ByteArray, ⟨(a.data.toList ++ f.data.toList).toArray⟩ = a2 := ⟨_, rfl⟩
        have ha2d : a2.data.toList = a.data.toList ++ f.data.toList := by rw [← ha2]
        have hnew : a2.data.toList = ((dat ss).take (k + 1)).flatMap frameS := by
          rw [ha2d, HAD.out, hfd, List.take_add_one, hdt]; simp
        have ha2s : a2.size = endOf (dat ss) (k + 1) := by rw [← len_data, hnew]; rfl
        have hle : a2.size ≤ 509 * (k + 1) := by
          have h1 := congrArg List.length ha2d
          rw [List.length_append, len_data, len_data, len_data] at h1
          have := HAL.out
          omega
        have hkn := HN.out
        have QA := Lib.hid (run_add (P := Try.prog) a f a2 (by have := HAL.out; omega) ha2d)
        have HF := Lib.hid hf
        have HNEW := Lib.hid hnew
        have HA2S := Lib.hid ha2s
        have HLE := Lib.hid hle
        clear h5 hdt hf hfs hfd ha2 ha2d hnew ha2s hle
        obtain ⟨sa, sc, hse, _, _⟩ := own_slice HO.out
        subst hse
        go_wp2_with (fail)
        refine (rframe_any s wr (by have := H5.out; omega)).mono ?_
        rw [HF.out]
        rintro e w2 ⟨rfl, hk2⟩
        have K2 := Lib.hid (HKP.out.nil_trans hk2)
        have O2 := Lib.hid (own_keptF HO.out hk2 (fun g _ h => h))
        have qa := QA.out
        clear hk2
        go_wp2_with (at_builtin; apply hold)
        unfold Hold
        clear qa
        have SRC : Src Try.prog 1 32 (.slice (some ⟨w2.heap.size, 0, none⟩) 1 1) 1 [Value.int .i64 (a2.size : Int)] (w2.alloc (.cells #[Value.int .i64 (a2.size : Int)] 3)) := by
          refine Src.ofSlice _ (e' := 3) (by kernel_rfl) _ 1 1 _ rfl (fun j u hj => ?_) (by intro z hz; rw [List.mem_singleton.1 hz]; rfl)
          match j, hj with
          | 0, hj =>
            simp at hj
            subst hj
            simp [Addr.add]
        refine wpList_append_ownS _ rfl (.tmp 37) (.tmp 40) 32 32 rfl w1.heap.size 3 (.int .i64 0) 1 8 elemI (.slice sa k sc) k (intsOf (dat ss) k) rfl (O2.out.alloc _) (.slice (some ⟨w2.heap.size, 0, none⟩) 1 1) 1 [Value.int .i64 (a2.size : Int)] rfl SRC (by omega) ?ba (fun v' w3 o1 g1 b1 => ?go)
        case ba =>
          have h2 := K2.out.size
          simp
          omega
        case go =>
          have KK := Lib.hid (Kept.grown (Kept.alloc K2.out (.cells #[Value.int .i64 (a2.size : Int)] 3)) g1 (fun k hk => .inr (O2.out.lt k hk).1))
          have O3 : Hid (w3.ownsRow w1.heap.size 3 1 v' (k + 1) (intsOf (dat ss) (k + 1))) := by
            have e : intsOf (dat ss) (k + 1) = intsOf (dat ss) k ++ [Value.int .i64 (a2.size : Int)] := by unfold intsOf; rw [List.range_succ, List.map_append, HA2S.out]; rfl
            rw [e]
            exact Lib.hid o1
          have HSM2 : Hid (∀ t ∈ ss.take (k + 1), t.size ≤ 500) := Lib.hid fun t ht => by
            rw [List.take_add_one, HS.out] at ht
            rcases List.mem_append.1 ht with ht | ht
            · exact HSM.out t ht
            · have := List.mem_singleton.1 (by simpa using ht)
              rw [this]
              have := H5.out
              omega
          clear o1 g1 b1 SRC hkn
          go_wp2
          go_roundw
          case rel => exact ⟨k + 1, a2, by omega, by go_num, rfl, HNEW.out, HSM2.out, HLE.out, KK.out, O3.out⟩
          case measure => simp only [intOf]; omega
    · have hkl : k = ss.length := by omega
      subst hkl
      have hsz : a.size = endOf (dat ss) (dat ss).length := by
        rw [← len_data, HAD.out]
        unfold endOf dat
        rw [List.length_map]
      have hall : a.data.toList = (dat ss).flatMap frameS := by
        rw [HAD.out, List.take_of_length_le (by unfold dat; rw [List.length_map]; exact Nat.le_refl _)]
      have hdl : (dat ss).length = ss.length := by unfold dat; rw [List.length_map]
      obtain ⟨ct, hct⟩ : ∃ ct : Nat, (ct : Int) = min x (a.size : Int) := ⟨(min x (a.size : Int)).toNat, by have := HX.out; omega⟩
      have hcs : ct ≤ a.size := by omega
      have hs500 : ∀ t ∈ dat ss, t.length ≤ 1048576 := fun t ht => by
        unfold dat at ht
        obtain ⟨s, hs, rfl⟩ := List.mem_map.1 ht
        have := HSM.out s (by rw [List.take_of_length_le (Nat.le_refl _)]; exact hs)
        rw [len_data]
        omega
      obtain ⟨sa, sc, hse, hsc, _⟩ := own_slice HO.out
      subst hse
      obtain ⟨A8, c8, hA8, _, hr8⟩ := row_own HO.out
      obtain ⟨rfl, _, rfl⟩ := Value.slice.inj hA8
      have R8 := Lib.hid hr8.cell
      have HSZ := Lib.hid hsz
      have HALL := Lib.hid hall
      have HDL := Lib.hid hdl
      have HCS := Lib.hid hcs
      have H500 := Lib.hid hs500
      have hbnd := hal
      have hnn := HN.out
      have hmin : min x (a.size : Int) = (ct : Int) := hct.symm
      clear hsz hall hdl hcs hs500 hA8 hr8 hsc hct hk
      go_wp2
      go_loop [6, 7, 49] (fun wv av iv => ∃ i m : Nat, i ≤ ss.length ∧ iv = .int .i64 (i : Int) ∧ wv = .int .i64 (m : Int) ∧ av = .int .i64 ((endOf (dat ss) m : Nat) : Int) ∧ Whole (dat ss) ct i m) (fun _ _ iv => (ss.length - intOf iv).toNat)
      case atStart => exact ⟨0, 0, Nat.zero_le _, rfl, rfl, rfl, Nat.le_refl _, by simp [endOf], fun h => absurd h (Nat.lt_irrefl 0)⟩
      case round =>
        obtain ⟨i, m, hi, rfl, rfl, rfl, hw⟩ := hrel
        have HW := Lib.hid hw
        by_cases hlt : i < ss.length
        · obtain ⟨b, off, hA, hbl, hcell⟩ := R8.out (by omega)
          subst hA
          have cx := hcell i (.int .i64 ((endOf (dat ss) (i + 1) : Nat) : Int)) (by unfold intsOf; rw [List.getElem?_map, List.getElem?_range hlt]; rfl)
          obtain ⟨en, hen⟩ : ∃ en, endOf (dat ss) (i + 1) = en := ⟨_, rfl⟩
          rw [hen] at cx
          have z1 : (0 : Int) ≤ i := by omega
          have z2 : (i : Int) < ss.length := by omega
          have HEN := Lib.hid hen
          by_cases hin : en ≤ ct
          · have hmi : m = i := by
              obtain ⟨h1, h2, h3⟩ := hw
              rcases Nat.lt_or_ge m i with h4 | h4
              · have h5 := h3 h4
                have h6 := endOf_mono (dat ss) (i := m + 1) (j := i + 1) (by omega)
                omega
              · omega
            subst hmi
            have z3 : (en : Int) ≤ ct := by omega
            have HW2 := Lib.hid (whole_in hw (by rw [hen]; exact hin))
            clear hcell hen hw hin
            go_wp2
            go_round
            case rel => exact ⟨m + 1, m + 1, by omega, by go_num, by go_num, by rw [HEN.out], HW2.out⟩
            case measure => simp only [intOf]; omega
          · have z3 : ¬ (en : Int) ≤ ct := by omega
            have HW2 := Lib.hid (whole_out hw (by rw [hen]; exact hin))
            clear hcell hen hw hin
            go_wp2
            go_round
            case rel => exact ⟨i + 1, m, by omega, by go_num, rfl, rfl, HW2.out⟩
            case measure => simp only [intOf]; omega
        · have hil : i = ss.length := by omega
          subst hil
          have hcs := HCS.out
          have z1 : (0 : Int) ≤ ct := by omega
          have z2 : (ct : Int) ≤ a.size := by omega
          obtain ⟨y, hy⟩ : ∃ y, a.extract 0 ct = y := ⟨_, rfl⟩
          have hyd : y.data.toList = ((dat ss).flatMap frameS).take ct := by rw [← hy, extract_take, HALL.out]
          have hyz : y.size ≤ a.size := by rw [← hy, ByteArray.size_extract]; omega
          have hsc := torn (ts := dat ss) (c := ct) (m := m) H500.out (by rw [← HSZ.out]; exact hcs) (by rw [HDL.out]; exact hw)
          rw [← hyd] at hsc
          have hm : m ≤ ss.length := hw.1
          have D1 := Lib.hid (show DSize y by unfold DSize; omega)
          have D2 := Lib.hid (show y.size ≤ 10000000000000 by omega)
          have HSC := Lib.hid hsc
          have HM := Lib.hid hm
          clear hcs hyd hyz hsc hw hi
          go_wp2_with (fail)
          refine (jscan_any y _ D1.out D2.out).mono ?_
          intro e w5 h
          unfold ScanRes at h
          rw [HSC.out] at h
          obtain ⟨hk, B, c5, rfl, hr, _⟩ := h
          have K5 := Lib.hid (HKP.out.nil_trans hk)
          have hl2 : ((dat ss).take m).length = (ss.take m).length := by unfold dat; rw [List.length_take, List.length_take, List.length_map]
          have hml : (ss.take m).length = m := by rw [List.length_take]; omega
          have hmap : ((dat ss).take m).map strV = (ss.take m).map Value.string := by
            unfold dat
            rw [← List.map_take, List.map_map]
            apply List.map_congr_left
            intro s hs
            show Value.string (mkB s.data.toList) = _
            unfold mkB
            rw [mk_data]
          have RB : Hid (RowIn w5 B (ss.take m).length ((ss.take m).map Value.string)) := by
            have h1 := hr
            rw [hmap] at h1
            simp only [hl2] at h1
            exact Lib.hid h1
          have RA : Hid (RowIn w5 A (ss.take m).length ((ss.take m).map Value.string)) := by
            have h1 := HR1.out.kept K5.out
            refine Lib.hid ⟨by simp, by have := h1.max; rw [hml]; omega, fun h0 => ?_⟩
            obtain ⟨b, off, hA, hbl, hx⟩ := h1.cell (by omega)
            refine ⟨b, off, hA, hbl, fun k u hk => hx k u ?_⟩
            rw [List.map_take] at hk
            rw [List.getElem?_take] at hk
            split at hk
            · exact hk
            · cases hk
          have T := Lib.hid (texts_eq (ss.take m) B A c5 c w5 RB.out RA.out)
          rw [hml] at T
          simp only [hl2, hml]
          have z3 : (0 : Int) ≤ m := by omega
          have z4 : (m : Int) ≤ c := by have := HNC.out; omega
          clear hk hr hl2 hml hmap hm
          go_wp2_with (fail)
          refine T.out.mono ?_
          rintro e w' ⟨rfl, hw⟩
          obtain rfl := hw.symm
          clear hw
          go_wp2
          go_ret
          exact ⟨rfl, (K1.out.nil_trans K5.out).nil_below⟩

theorem torn_any (A : Option Addr) (n c : Nat) (k : Int) (ss : List ByteArray) (w : World) (hr : RowIn w A n (ss.map Value.string)) (hz : (∀ s ∈ ss, s.size ≤ 140737488351232) ∧ n ≤ c ∧ c ≤ maxLen) (hk : -9223372036854775808 ≤ k ∧ k ≤ 9223372036854775807) : Calls Try.prog 4 #[.slice A n c, .int .i64 k] w fun e w' => e = .returned (.bool true) ∧ Below w.heap.size w w' := by
  have hl : n = ss.length := by have := hr.len; simpa using this
  subst hl
  by_cases h : 200 < ss.length ∨ k < 0
  · exact torn_out A ss.length c k w hr.max h
  · obtain ⟨j, rfl⟩ : ∃ j : Nat, k = j := ⟨k.toNat, by omega⟩
    exact torn_in ss A c j w hz.2.1 hz.2.2 hr (by omega)
end Go.Proofs.Ytegonafacbokeaa.Codec
