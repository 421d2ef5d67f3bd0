/-
  What the reference reads as a number, walked.
-/
import Derived.Test.YtaifjojfmkcmjaaDoorRt7
import Derived.Test.YtaifjojfmkcmjaaDoorDec2
import Derived.Test.YtaifjojfmkcmjaaDoorFr2
namespace Go.Proofs.YtaifjojfmkcmjaaDoor.Term
open Go.RowKit Go.Sort Go.Proofs.YtaifjojfmkcmjaaDoorBase Go.Proofs.YtaifjojfmkcmjaaDoorLex2 Go.Proofs.YtaifjojfmkcmjaaDoor.Dec
set_option linter.unusedVariables false
set_option linter.unusedSimpArgs false

theorem decFrom_none {r : List UInt8} {j : Nat} {v : Nat} {c : UInt8} (hv : Lib.decFrom 0 (r.take j) = some v) (hc : r[j]? = some c) (hd : Lib.digitVal c = none) : Lib.decFrom 0 r = none := by
  have key : ∀ (l : List UInt8) (acc : Nat) (j : Nat), l[j]? = some c → Lib.decFrom acc l = none := by
    intro l
    induction l with
    | nil => intro acc j h; cases h
    | cons b l ih =>
      intro acc j h
      simp only [Lib.decFrom]
      cases hb : Lib.digitVal b with
      | none => rfl
      | some d =>
        cases j with
        | zero =>
          simp only [List.getElem?_cons_zero, Option.some.injEq] at h
          subst h
          rw [hd] at hb
          cases hb
        | succ j => exact ih _ j h
  exact key r 0 j hc
set_option maxHeartbeats 1600000 in
set_option maxRecDepth 100000 in
theorem rplain_any (base : Nat) (w : World) (q : Nat) (G : Nat → Prop) (s : TS) (t : Int) (h : RAt base w q G s) :
    Calls Tryd.prog 16 #[.pointer (some ⟨q, 0, none⟩), .int .i64 t] w fun e w' => e = .returned (.tuple #[.int .i64 (plainT s.nodes t).1, .bool (plainT s.nodes t).2]) ∧ Kept w w' (fun _ => False) := by
  have H := Lib.hid h
  have C := fun w1 h1 => rget_any base w1 q G s t h1
  unfold plainT
  obtain ⟨x, hx⟩ : ∃ x, getN s.nodes t = x := ⟨_, rfl⟩
  rw [hx] at C ⊢
  have HC := Lib.hid C
  clear C hx h
  obtain ⟨xk, xl, xa, xb⟩ := x
  have e0 : plainX ⟨xk, xl, xa, xb⟩ = if xk = 2 then refB xl.data.toList else (0, false) := by unfold plainX; rw [refB_eq]
  rw [e0]
  clear e0
  by_cases h2 : xk = 2
  · rw [if_pos h2]
    subst h2
    obtain ⟨res, hres⟩ : ∃ r, refB xl.data.toList = r := ⟨_, rfl⟩
    rw [hres]
    by_cases hnil : xl.data.toList = []
    · have hl : xl.toList = [] := by rw [toList_data]; exact hnil
      have RE : Hid (res = (0, false)) := Lib.hid (by rw [← hres, hnil]; rfl)
      clear hres hnil
      go_enter Tryd.func16, Tryd.ntmps16
      go_wp2_with (fail)
      refine (HC.out w H.out).mono ?_
      rintro e w1 ⟨rfl, hk⟩
      have K1 := Lib.hid (hk.alloc (.cells #[.int .i64 2, .string xl, .int .i64 xa, .int .i64 xb] 37))
      clear hk
      unfold nodeV
      go_wp2
      all_goals go_ret2
      all_goals rw [RE.out]
      all_goals exact ⟨rfl, K1.out⟩
    · have ql : ¬ xl.toList = [] := by rw [toList_data]; exact hnil
      have ql2 : (xl.toList == []) = false := by rw [beq_eq_false_iff_ne]; exact ql
      obtain ⟨c, r, hcr⟩ : ∃ c r, xl.data.toList = c :: r := by
        cases h : xl.data.toList with
        | nil => exact absurd h hnil
        | cons c r => exact ⟨c, r, rfl⟩
      have hxs : xl.size = r.length + 1 := by rw [← len_data, hcr]; rfl
      have hx0 : ∀ h : 0 < xl.size, xl[0]'h = c := by
        intro h
        have : xl.data.toList[0]? = some c := by rw [hcr]; rfl
        have h2 := List.getElem?_eq_some_iff.1 this
        obtain ⟨h3, h4⟩ := h2
        rw [← h4]
        rfl
      clear hnil
      by_cases hneg : c = 45
      · subst hneg
        have hrm : magOf xl.data.toList = r := by rw [hcr]; rfl
        have hrn : negOf xl.data.toList = true := by rw [hcr]; rfl
        obtain ⟨m, hm⟩ : ∃ m : ByteArray, xl.extract 1 (r.length + 1) = m := ⟨_, rfl⟩
        have hmd : m.data.toList = r := by
          rw [← hm, ByteArray.data_extract, Array.toList_extract, hcr]
          simp
        have hms : m.size = r.length := by rw [← len_data, hmd]
        obtain ⟨k, hk⟩ : ∃ k, r.length = k := ⟨_, rfl⟩
        rw [hk] at hm hms hxs
        have MD := Lib.hid hk
        have MR := Lib.hid hmd
        have RES : Hid (res = if magOk true r = true then (match Lib.decFrom 0 r with | some v => (-(v : Int), true) | none => (0, false)) else (0, false)) := Lib.hid (by rw [← hres]; unfold refB; rw [hrm, hrn]; rfl)
        clear hk hmd hres hrm hrn hcr
        by_cases l1 : k < 1
        · have RE : Hid (res = (0, false)) := Lib.hid (by rw [RES.out, if_neg]; unfold magOk; rw [MD.out]; simp; omega)
          go_enter Tryd.func16, Tryd.ntmps16
          go_wp2_with (fail)
          refine (HC.out w H.out).mono ?_
          rintro e w1 ⟨rfl, hk⟩
          have K1 := Lib.hid (hk.alloc (.cells #[.int .i64 2, .string xl, .int .i64 xa, .int .i64 xb] 37))
          clear hk
          unfold nodeV
          go_wp2
          all_goals go_ret2
          all_goals rw [RE.out]
          all_goals exact ⟨rfl, K1.out⟩
        by_cases l9 : 9 < k
        · have RE : Hid (res = (0, false)) := Lib.hid (by rw [RES.out, if_neg]; unfold magOk; rw [MD.out]; simp; omega)
          go_enter Tryd.func16, Tryd.ntmps16
          go_wp2_with (fail)
          refine (HC.out w H.out).mono ?_
          rintro e w1 ⟨rfl, hk⟩
          have K1 := Lib.hid (hk.alloc (.cells #[.int .i64 2, .string xl, .int .i64 xa, .int .i64 xb] 37))
          clear hk
          unfold nodeV
          go_wp2
          all_goals go_ret2
          all_goals rw [RE.out]
          all_goals exact ⟨rfl, K1.out⟩
        obtain ⟨d, r2, hdr⟩ : ∃ d r2, r = d :: r2 := by
          cases r with
          | nil => have := MD.out; simp at this; omega
          | cons d r2 => exact ⟨d, r2, rfl⟩
        have hm0 : ∀ h : 0 < m.size, m[0]'h = d := by
          intro h
          have : m.data.toList[0]? = some d := by rw [MR.out, hdr]; rfl
          obtain ⟨h3, h4⟩ := List.getElem?_eq_some_iff.1 this
          rw [← h4]
          rfl
        by_cases d48 : d = 48
        ·
          have RE : Hid (res = (0, false)) := Lib.hid (by rw [RES.out, if_neg]; rw [hdr, d48]; simp [magOk])
          subst d48
          go_enter Tryd.func16, Tryd.ntmps16
          go_wp2_with (fail)
          refine (HC.out w H.out).mono ?_
          rintro e w1 ⟨rfl, hk⟩
          have K1 := Lib.hid (hk.alloc (.cells #[.int .i64 2, .string xl, .int .i64 xa, .int .i64 xb] 37))
          clear hk
          unfold nodeV
          go_wp2
          all_goals go_ret2
          all_goals rw [RE.out]
          all_goals exact ⟨rfl, K1.out⟩
        have q48 : ((d.toNat : Int) == 48) = false := by
          have : ¬ d.toNat = (48 : UInt8).toNat := fun e => d48 (UInt8.toNat_inj.1 e)
          simp at this ⊢
          omega
        have OK : Hid (magOk true r = true) := Lib.hid (by
          have l9' : r.length ≤ 9 := by rw [MD.out]; omega
          have l1' : 1 ≤ r.length := by rw [MD.out]; omega
          have hh : r.head? ≠ some 48 := by rw [hdr]; simpa using d48
          simp [magOk, l9', l1', hh])
        go_enter Tryd.func16, Tryd.ntmps16
        go_wp2_with (fail)
        refine (HC.out w H.out).mono ?_
        rintro e w1 ⟨rfl, hk⟩
        have K1 := Lib.hid (hk.alloc (.cells #[.int .i64 2, .string xl, .int .i64 xa, .int .i64 xb] 37))
        clear hk
        unfold nodeV
        go_wp2
        obtain ⟨w2, hw2⟩ : ∃ w2, w1.alloc (.cells #[.int .i64 2, .string xl, .int .i64 xa, .int .i64 xb] 37) = w2 := ⟨_, rfl⟩
        rw [hw2] at K1 ⊢
        clear hw2
        go_loopw [9, 10] (fun vv iv wr => wr = w2 ∧ ∃ j v : Nat, j ≤ k ∧ iv = .int .i64 j ∧ vv = .int .i64 v ∧ Lib.decFrom 0 (r.take j) = some v ∧ v < 10 ^ j) (fun _ iv _ => (k - intOf iv).toNat)
        case atStart => exact ⟨rfl, 0, 0, Nat.zero_le _, rfl, rfl, rfl, by decide⟩
        case round =>
          obtain ⟨hw0, j, v, hj, rfl, rfl, hv, hb⟩ := hrel
          obtain rfl := hw0.symm
          clear hw0
          have hbk : v < 1000000000 := Nat.lt_of_lt_of_le hb (Nat.le_trans (Nat.pow_le_pow_right (by decide) (show j ≤ 9 by omega)) (by decide))
          have HV := Lib.hid hv
          have HBV := Lib.hid hb
          by_cases hlt : j < k
          · obtain ⟨c, hc⟩ : ∃ c, r[j]? = some c := ⟨_, List.getElem?_eq_getElem (by rw [MD.out]; exact hlt)⟩
            have hmj : ∀ h : j < m.size, m[j]'h = c := by
              intro h
              have : m.data.toList[j]? = some c := by rw [MR.out, hc]
              obtain ⟨h3, h4⟩ := List.getElem?_eq_some_iff.1 this
              rw [← h4]
              rfl
            have HCJ := Lib.hid hc
            have qi0 : (0 : Int) ≤ j := by omega
            have qi1 : (j : Int) < k := by omega
            clear hc hv hb
            by_cases dg : 48 ≤ c.toNat ∧ c.toNat ≤ 57
            · have g1 : ¬ (c.toNat : Int) < 48 := by omega
              have g2 : ¬ (57 : Int) < c.toNat := by omega
              have hdv : Lib.digitVal c = some (c.toNat - 48) := by unfold Lib.digitVal; rw [if_pos dg]
              have hst := Lib.decFrom_take r j 0 v c _ HV.out HCJ.out hdv
              have HST := Lib.hid hst
              have hpw : v * 10 + (c.toNat - 48) < 10 ^ (j + 1) := by have := HBV.out; rw [Nat.pow_succ]; omega
              have HPW := Lib.hid hpw
              have DG := Lib.hid dg
              clear hst hpw hdv
              go_wp2
              exact ⟨⟨trivial, j + 1, v * 10 + (c.toNat - 48), by omega, by go_num, by have := DG.out; congr 1; omega, HST.out, HPW.out⟩, by simp only [intOf]; omega⟩
            · have hdv : Lib.digitVal c = none := by unfold Lib.digitVal; rw [if_neg dg]
              have RE : Hid (res = (0, false)) := Lib.hid (by rw [RES.out, decFrom_none HV.out HCJ.out hdv]; split <;> rfl)
              by_cases g1 : c.toNat < 48
              · have g1' : (c.toNat : Int) < 48 := by omega
                go_wp2
                all_goals go_ret2
                all_goals rw [RE.out]
                all_goals exact ⟨rfl, K1.out⟩
              · have g1' : ¬ (c.toNat : Int) < 48 := by omega
                have g2' : (57 : Int) < c.toNat := by omega
                go_wp2
                all_goals go_ret2
                all_goals rw [RE.out]
                all_goals exact ⟨rfl, K1.out⟩
          · have hjk : j = k := by omega
            subst hjk
            have hrk : r.take j = r := by rw [← MD.out, List.take_length]
            have RE : Hid (res = (-(v : Int), true)) := Lib.hid (by
              have hv := HV.out
              rw [hrk] at hv
              rw [RES.out, hv, if_pos OK.out])
            clear hrk
            go_wp2
            all_goals go_ret2
            all_goals rw [RE.out]
            all_goals exact ⟨by simp, K1.out⟩
      · have hc45 : ((c.toNat : Int) == 45) = false := by
          have : ¬ c.toNat = (45 : UInt8).toNat := fun e => hneg (UInt8.toNat_inj.1 e)
          simp at this ⊢
          omega
        have hrm : magOf xl.data.toList = xl.data.toList := by unfold magOf; rw [if_neg]; rw [hcr]; simpa using hneg
        have hrn : negOf xl.data.toList = false := by unfold negOf; rw [hcr]; simpa using hneg
        have RES0 : res = if magOk false xl.data.toList = true then (match Lib.decFrom 0 xl.data.toList with | some v => ((v : Int), true) | none => (0, false)) else (0, false) := by rw [← hres]; unfold refB; rw [hrm, hrn]; rfl
        clear hres hrm hrn
        obtain ⟨d, hd⟩ : ∃ d, c = d := ⟨_, rfl⟩
        rw [hd] at hcr hx0 hc45
        clear hneg hd c
        obtain ⟨r2, hr2⟩ : ∃ r2, r = r2 := ⟨_, rfl⟩
        rw [hr2] at hcr hxs
        clear hr2 r
        obtain ⟨k, hk⟩ : ∃ k, r2.length + 1 = k := ⟨_, rfl⟩
        have hk' : xl.data.toList.length = k := by rw [hcr, List.length_cons, hk]
        rw [hk] at hxs
        have l1 : ¬ k < 1 := by omega
        obtain ⟨r, hr⟩ : ∃ r, xl.data.toList = r := ⟨_, rfl⟩
        rw [hr] at hk' RES0 hcr
        have MD := Lib.hid hk'
        have MR : Hid (xl.data.toList = r) := Lib.hid hr
        have RES := Lib.hid RES0
        have hdr := hcr
        clear hk hk' RES0 hr hcr
        by_cases l9 : 9 < k
        · have RE : Hid (res = (0, false)) := Lib.hid (by rw [RES.out, if_neg]; unfold magOk; rw [MD.out]; simp; omega)
          go_enter Tryd.func16, Tryd.ntmps16
          go_wp2_with (fail)
          refine (HC.out w H.out).mono ?_
          rintro e w1 ⟨rfl, hk⟩
          have K1 := Lib.hid (hk.alloc (.cells #[.int .i64 2, .string xl, .int .i64 xa, .int .i64 xb] 37))
          clear hk
          unfold nodeV
          go_wp2
          all_goals go_ret2
          all_goals rw [RE.out]
          all_goals exact ⟨rfl, K1.out⟩
        have HDR := Lib.hid hdr
        by_cases d48 : d = 48
        ·
          by_cases k1 : 1 < k
          ·
            have hz : magOk false r = false := by
              rw [hdr, d48]
              cases r2 with
              | nil =>
                have := MD.out
                rw [hdr] at this
                simp at this
                omega
              | cons a l => simp [magOk]
            have RE : Hid (res = (0, false)) := Lib.hid (by rw [RES.out, hz]; rfl)
            clear hz
            subst d48
            go_enter Tryd.func16, Tryd.ntmps16
            go_wp2_with (fail)
            refine (HC.out w H.out).mono ?_
            rintro e w1 ⟨rfl, hk⟩
            have K1 := Lib.hid (hk.alloc (.cells #[.int .i64 2, .string xl, .int .i64 xa, .int .i64 xb] 37))
            clear hk
            unfold nodeV
            go_wp2
            all_goals go_ret2
            all_goals rw [RE.out]
            all_goals exact ⟨rfl, K1.out⟩
          have OK : Hid (magOk false r = true) := Lib.hid (by have := MD.out; rw [hdr, List.length_cons] at this; have : r2 = [] := List.eq_nil_of_length_eq_zero (by omega); rw [hdr, d48, this]; decide)
          subst d48
          go_enter Tryd.func16, Tryd.ntmps16
          go_wp2_with (fail)
          refine (HC.out w H.out).mono ?_
          rintro e w1 ⟨rfl, hk⟩
          have K1 := Lib.hid (hk.alloc (.cells #[.int .i64 2, .string xl, .int .i64 xa, .int .i64 xb] 37))
          clear hk
          unfold nodeV
          go_wp2
          obtain ⟨w2, hw2⟩ : ∃ w2, w1.alloc (.cells #[.int .i64 2, .string xl, .int .i64 xa, .int .i64 xb] 37) = w2 := ⟨_, rfl⟩
          rw [hw2] at K1 ⊢
          clear hw2
          go_loopw [9, 10] (fun vv iv wr => wr = w2 ∧ ∃ j v : Nat, j ≤ k ∧ iv = .int .i64 j ∧ vv = .int .i64 v ∧ Lib.decFrom 0 (r.take j) = some v ∧ v < 10 ^ j) (fun _ iv _ => (k - intOf iv).toNat)
          case atStart => exact ⟨rfl, 0, 0, Nat.zero_le _, rfl, rfl, rfl, by decide⟩
          case round =>
            obtain ⟨hw0, j, v, hj, rfl, rfl, hv, hb⟩ := hrel
            obtain rfl := hw0.symm
            clear hw0
            have hbk : v < 1000000000 := Nat.lt_of_lt_of_le hb (Nat.le_trans (Nat.pow_le_pow_right (by decide) (show j ≤ 9 by omega)) (by decide))
            have HV := Lib.hid hv
            have HBV := Lib.hid hb
            by_cases hlt : j < k
            · obtain ⟨c, hc⟩ : ∃ c, r[j]? = some c := ⟨_, List.getElem?_eq_getElem (by rw [MD.out]; exact hlt)⟩
              have hmj : ∀ h : j < xl.size, xl[j]'h = c := by
                intro h
                have : xl.data.toList[j]? = some c := by rw [MR.out, hc]
                obtain ⟨h3, h4⟩ := List.getElem?_eq_some_iff.1 this
                rw [← h4]
                rfl
              have HCJ := Lib.hid hc
              have qi0 : (0 : Int) ≤ j := by omega
              have qi1 : (j : Int) < k := by omega
              clear hc hv hb
              by_cases dg : 48 ≤ c.toNat ∧ c.toNat ≤ 57
              · have g1 : ¬ (c.toNat : Int) < 48 := by omega
                have g2 : ¬ (57 : Int) < c.toNat := by omega
                have hdv : Lib.digitVal c = some (c.toNat - 48) := by unfold Lib.digitVal; rw [if_pos dg]
                have hst := Lib.decFrom_take r j 0 v c _ HV.out HCJ.out hdv
                have HST := Lib.hid hst
                have hpw : v * 10 + (c.toNat - 48) < 10 ^ (j + 1) := by have := HBV.out; rw [Nat.pow_succ]; omega
                have HPW := Lib.hid hpw
                have DG := Lib.hid dg
                clear hst hpw hdv
                go_wp2
                exact ⟨⟨trivial, j + 1, v * 10 + (c.toNat - 48), by omega, by go_num, by have := DG.out; congr 1; omega, HST.out, HPW.out⟩, by simp only [intOf]; omega⟩
              · have hdv : Lib.digitVal c = none := by unfold Lib.digitVal; rw [if_neg dg]
                have RE : Hid (res = (0, false)) := Lib.hid (by rw [RES.out, decFrom_none HV.out HCJ.out hdv]; split <;> rfl)
                by_cases g1 : c.toNat < 48
                · have g1' : (c.toNat : Int) < 48 := by omega
                  go_wp2
                  all_goals go_ret2
                  all_goals rw [RE.out]
                  all_goals exact ⟨rfl, K1.out⟩
                · have g1' : ¬ (c.toNat : Int) < 48 := by omega
                  have g2' : (57 : Int) < c.toNat := by omega
                  go_wp2
                  all_goals go_ret2
                  all_goals rw [RE.out]
                  all_goals exact ⟨rfl, K1.out⟩
            · have hjk : j = k := by omega
              subst hjk
              have hrk : r.take j = r := by rw [← MD.out, List.take_length]
              have RE : Hid (res = ((v : Int), true)) := Lib.hid (by
                have hv := HV.out
                rw [hrk] at hv
                rw [RES.out, hv, if_pos OK.out])
              clear hrk
              go_wp2
              all_goals go_ret2
              all_goals rw [RE.out]
              all_goals exact ⟨by simp, K1.out⟩
        have q48 : ((d.toNat : Int) == 48) = false := by
          have : ¬ d.toNat = (48 : UInt8).toNat := fun e => d48 (UInt8.toNat_inj.1 e)
          simp at this ⊢
          omega
        have OK : Hid (magOk false r = true) := Lib.hid (by
          have l9' : r.length ≤ 9 := by rw [MD.out]; omega
          have l1' : 1 ≤ r.length := by rw [MD.out]; omega
          have hh : r.head? ≠ some 48 := by rw [hdr]; simpa using d48
          simp [magOk, l9', l1', hh])
        go_enter Tryd.func16, Tryd.ntmps16
        go_wp2_with (fail)
        refine (HC.out w H.out).mono ?_
        rintro e w1 ⟨rfl, hk⟩
        have K1 := Lib.hid (hk.alloc (.cells #[.int .i64 2, .string xl, .int .i64 xa, .int .i64 xb] 37))
        clear hk
        unfold nodeV
        go_wp2
        obtain ⟨w2, hw2⟩ : ∃ w2, w1.alloc (.cells #[.int .i64 2, .string xl, .int .i64 xa, .int .i64 xb] 37) = w2 := ⟨_, rfl⟩
        rw [hw2] at K1 ⊢
        clear hw2
        go_loopw [9, 10] (fun vv iv wr => wr = w2 ∧ ∃ j v : Nat, j ≤ k ∧ iv = .int .i64 j ∧ vv = .int .i64 v ∧ Lib.decFrom 0 (r.take j) = some v ∧ v < 10 ^ j) (fun _ iv _ => (k - intOf iv).toNat)
        case atStart => exact ⟨rfl, 0, 0, Nat.zero_le _, rfl, rfl, rfl, by decide⟩
        case round =>
          obtain ⟨hw0, j, v, hj, rfl, rfl, hv, hb⟩ := hrel
          obtain rfl := hw0.symm
          clear hw0
          have hbk : v < 1000000000 := Nat.lt_of_lt_of_le hb (Nat.le_trans (Nat.pow_le_pow_right (by decide) (show j ≤ 9 by omega)) (by decide))
          have HV := Lib.hid hv
          have HBV := Lib.hid hb
          by_cases hlt : j < k
          · obtain ⟨c, hc⟩ : ∃ c, r[j]? = some c := ⟨_, List.getElem?_eq_getElem (by rw [MD.out]; exact hlt)⟩
            have hmj : ∀ h : j < xl.size, xl[j]'h = c := by
              intro h
              have : xl.data.toList[j]? = some c := by rw [MR.out, hc]
              obtain ⟨h3, h4⟩ := List.getElem?_eq_some_iff.1 this
              rw [← h4]
              rfl
            have HCJ := Lib.hid hc
            have qi0 : (0 : Int) ≤ j := by omega
            have qi1 : (j : Int) < k := by omega
            clear hc hv hb
            by_cases dg : 48 ≤ c.toNat ∧ c.toNat ≤ 57
            · have g1 : ¬ (c.toNat : Int) < 48 := by omega
              have g2 : ¬ (57 : Int) < c.toNat := by omega
              have hdv : Lib.digitVal c = some (c.toNat - 48) := by unfold Lib.digitVal; rw [if_pos dg]
              have hst := Lib.decFrom_take r j 0 v c _ HV.out HCJ.out hdv
              have HST := Lib.hid hst
              have hpw : v * 10 + (c.toNat - 48) < 10 ^ (j + 1) := by have := HBV.out; rw [Nat.pow_succ]; omega
              have HPW := Lib.hid hpw
              have DG := Lib.hid dg
              clear hst hpw hdv
              go_wp2
              exact ⟨⟨trivial, j + 1, v * 10 + (c.toNat - 48), by omega, by go_num, by have := DG.out; congr 1; omega, HST.out, HPW.out⟩, by simp only [intOf]; omega⟩
            · have hdv : Lib.digitVal c = none := by unfold Lib.digitVal; rw [if_neg dg]
              have RE : Hid (res = (0, false)) := Lib.hid (by rw [RES.out, decFrom_none HV.out HCJ.out hdv]; split <;> rfl)
              by_cases g1 : c.toNat < 48
              · have g1' : (c.toNat : Int) < 48 := by omega
                go_wp2
                all_goals go_ret2
                all_goals rw [RE.out]
                all_goals exact ⟨rfl, K1.out⟩
              · have g1' : ¬ (c.toNat : Int) < 48 := by omega
                have g2' : (57 : Int) < c.toNat := by omega
                go_wp2
                all_goals go_ret2
                all_goals rw [RE.out]
                all_goals exact ⟨rfl, K1.out⟩
          · have hjk : j = k := by omega
            subst hjk
            have hrk : r.take j = r := by rw [← MD.out, List.take_length]
            have RE : Hid (res = ((v : Int), true)) := Lib.hid (by
              have hv := HV.out
              rw [hrk] at hv
              rw [RES.out, hv, if_pos OK.out])
            clear hrk
            go_wp2
            all_goals go_ret2
            all_goals rw [RE.out]
            all_goals exact ⟨by simp, K1.out⟩
  · rw [if_neg h2]
    have q : (xk == 2) = false := by simpa using h2
    go_enter Tryd.func16, Tryd.ntmps16
    go_wp2_with (fail)
    refine (HC.out w H.out).mono ?_
    rintro e w1 ⟨rfl, hk⟩
    have K1 := Lib.hid (hk.alloc (.cells #[.int .i64 xk, .string xl, .int .i64 xa, .int .i64 xb] 37))
    clear hk
    unfold nodeV
    go_wp2
    go_ret2
    exact ⟨rfl, K1.out⟩
end Go.Proofs.YtaifjojfmkcmjaaDoor.Term
