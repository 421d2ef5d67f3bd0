/-
  The codec of lists, written, walked.
-/
import Derived.Test.YtcnikobmepjgcaaCodec7
import Derived.Test.YtcnikobmepjgcaaCodec8
namespace Go.Proofs.Ytcnikobmepjgcaa.Codec
open Go.RowKit Go.Proofs.YtcnikobmepjgcaaBase Go.Proofs.YtcnikobmepjgcaaLex2 Go.Proofs.YtcnikobmepjgcaaNum
set_option linter.unusedVariables false
set_option linter.unusedSimpArgs false

def getL {α : Type} (get : RS → α × RS) : Nat → RS → List α × RS
  | 0, s => ([], s)
  | n + 1, s => if s.err ≠ 0 then ([], s) else ((get s).1 :: (getL get n (get s).2).1, (getL get n (get s).2).2)
/-- A row of one-cell elements. -/
def RowRep {α : Type} (c : Cod α) (G : Nat → Prop) (w : World) (l : List α) (v : Value) : Prop :=
  ∃ A n cp, v = .slice A n cp ∧ n = l.length ∧ n ≤ maxLen ∧ (0 < n → ∃ b off, A = some ⟨b, off, none⟩ ∧ G b ∧ b < w.heap.size ∧ ∀ k x, l[k]? = some x → ∃ u, w.cell? ⟨b, off + k, none⟩ = some u ∧ c.rep G w x u)
def costs {α : Type} (c : Cod α) (l : List α) : Nat := (l.map c.cost).sum
def puts {α : Type} (c : Cod α) (l : List α) (s : WS) : WS := l.foldl (fun s x => c.put x s) s
def listC {α : Type} (c : Cod α) (m : Nat) : Cod (List α) where
  rep := RowRep c
  put := fun l s => if m < l.length then s.fail 22 else puts c l (putN l.length s)
  cost := fun l => 8 + costs c l
  get := fun s => getL c.get (countN m s).1 (countN m s).2
section
variable {α : Type} {c : Cod α}
theorem puts_len (hf : Fair c) : ∀ (l : List α) (s : WS), (puts c l s).out.length ≤ s.out.length + costs c l
  | [], s => by simp [puts, costs]
  | x :: l, s => by
    have h1 := puts_len hf l (c.put x s)
    have h2 := hf.len x s
    simp only [puts, List.foldl_cons, costs, List.map_cons, List.sum_cons] at h1 ⊢
    omega
theorem puts_take {l : List α} {k : Nat} {x : α} (h : l[k]? = some x) (s : WS) : puts c (l.take (k + 1)) s = c.put x (puts c (l.take k) s) := by
  rw [List.take_add_one, h]
  simp [puts, List.foldl_append]
theorem costs_take {l : List α} {k : Nat} {x : α} (h : l[k]? = some x) : costs c (l.take k) + c.cost x ≤ costs c l := by
  have hk : k < l.length := (List.getElem?_eq_some_iff.1 h).1
  have e : l = l.take k ++ x :: l.drop (k + 1) := by
    conv => lhs; rw [← List.take_append_drop k l]
    rw [List.drop_eq_getElem_cons hk, (List.getElem?_eq_some_iff.1 h).2]
  conv => rhs; rw [e]
  simp only [costs, List.map_append, List.map_cons, List.sum_append, List.sum_cons]
  omega
theorem listC_fair (hf : Fair c) (m : Nat) : Fair (listC c m) := by
  refine ⟨?_, ?_, ?_⟩
  · rintro G G' w x v hG ⟨A, n, cp, rfl, hn, hm, hc⟩
    refine ⟨A, n, cp, rfl, hn, hm, fun h0 => ?_⟩
    obtain ⟨b, off, hA, hb, hl, hx⟩ := hc h0
    refine ⟨b, off, hA, hG b hb, hl, fun k x hk => ?_⟩
    obtain ⟨u, hu, hr⟩ := hx k x hk
    exact ⟨u, hu, hf.mono hG hr⟩
  · rintro G w w' x v ⟨A, n, cp, rfl, hn, hm, hc⟩ hk
    refine ⟨A, n, cp, rfl, hn, hm, fun h0 => ?_⟩
    obtain ⟨b, off, hA, hb, hl, hx⟩ := hc h0
    have hbb := hk b hl hb
    refine ⟨b, off, hA, hb, ?_, fun k x hk2 => ?_⟩
    · have : w'.heap[b]? = some w.heap[b] := by rw [hbb]; exact Array.getElem?_eq_getElem hl
      exact blk_lt this
    · obtain ⟨u, hu, hr⟩ := hx k x hk2
      refine ⟨u, ?_, hf.keep hr hk⟩
      rw [← hu]; simp only [World.cell?, hbb]
  · intro x s
    simp only [listC]
    split
    · rw [wfail_len]; omega
    · have h1 := puts_len hf x (putN x.length s)
      have h2 := putN_len x.length s
      omega
end

theorem list_put_over_int {α : Type} (c : Cod α) (B p b m cb : Nat) (F : Nat → Prop) (s : WS) (w : World) (l : List α) (v : Value) (h : WriterAt B w p F s) (hv : RowRep c (fun k => k < B) w l v) (hb : w.cell? ⟨b, 0, none⟩ = some (.int .i64 m)) (ho : m < l.length) :
    Calls Try.prog 56 #[.pointer (some ⟨p, 0, none⟩), v, .pointer (some ⟨b, 0, none⟩), .pointer (some ⟨cb, 0, none⟩)] w fun r w' => r = .returned (.tuple #[]) ∧ WMoved B w w' p F (s.fail 22) := by
  obtain ⟨A, n, cp, rfl, rfl, hm, _⟩ := hv
  have q : (m : Int) < l.length := by omega
  have HW := Lib.hid h
  clear h ho
  go_enter Try.func56, Try.ntmps56
  go_wp2_with (fail)
  refine (wfail_any B p F s 22 _ HW.out).mono ?_
  rintro e w1 ⟨rfl, hm⟩
  have HM := Lib.hid hm
  clear hm
  go_wp2
  go_returns
  exact ⟨rfl, HM.out⟩

set_option maxHeartbeats 1600000 in
theorem list_put_fits_int {α : Type} (c : Cod α) (hf : Fair c) (W : World) (pv gv : Value) (T : TypeId) (hp : PutOk W pv c) (B p b m cb : Nat) (F : Nat → Prop) (s : WS) (w : World) (l : List α) (v : Value) (hB : W.heap.size ≤ B) (hw : Same W w) (h : WriterAt B w p F s) (hv : RowRep c (fun k => k < B) w l v)
    (hb : W.cell? ⟨b, 0, none⟩ = some (.int .i64 m)) (hbl : b < W.heap.size) (hcb : W.heap[cb]? = some (.cells #[pv, gv] T (0, 0))) (ho : ¬ m < l.length) (hm : m ≤ 1048576) (hr : WRoom s (8 + costs c l)) :
    Calls Try.prog 56 #[.pointer (some ⟨p, 0, none⟩), v, .pointer (some ⟨b, 0, none⟩), .pointer (some ⟨cb, 0, none⟩)] w fun r w' => r = .returned (.tuple #[]) ∧ WMoved B w w' p F (puts c l (putN l.length s)) := by
  obtain ⟨f, caps, rfl, he, hp⟩ := hp
  unfold Proofs.Enters at he
  have HV := Lib.hid hv
  obtain ⟨A, n, cp, rfl, rfl, hmx, hc⟩ := hv
  have q : ¬ (m : Int) < l.length := by omega
  have hll : l.length ≤ 1048576 := by omega
  have c0 : w.cell? ⟨b, 0, none⟩ = some (.int .i64 m) := by rw [← hb]; simp only [World.cell?, hw.2 b hbl]
  unfold WRoom at hr
  have P := Lib.hid (put_any B p F s l.length w h (by omega) (by unfold WRoom; omega))
  have HWA := Lib.hid h
  have HW := Lib.hid hw
  have HR := Lib.hid hr
  have HC := Lib.hid hc
  have HP := Lib.hid hp
  have HCB := Lib.hid hcb
  have HF := Lib.hid hf
  have HBB := Lib.hid hB
  clear h ho hr hp hcb hc hb hbl hw hm hf hB
  go_enter Try.func56, Try.ntmps56
  go_wp2_with (fail)
  refine P.out.mono ?_
  rintro e w1 ⟨rfl, hm⟩
  have HM : Hid (WMoved B w w1 p F (putN l.length s)) := Lib.hid hm
  clear hm
  go_wp2
  go_loopw [20] (fun iv wr => ∃ k : Nat, k ≤ l.length ∧ iv = .int .i64 k ∧ WMoved B w wr p F (puts c (l.take k) (putN l.length s))) (fun iv _ => (l.length - intOf iv).toNat)
  case atStart => exact ⟨0, Nat.zero_le _, rfl, HM.out⟩
  case round =>
    obtain ⟨k, hk, rfl, hm⟩ := hrel
    by_cases hlast : k = l.length
    · subst hlast
      rw [List.take_length] at hm
      have HM2 := Lib.hid hm
      clear hm
      go_wp2
      go_end0
      exact ⟨rfl, HM2.out⟩
    · have hkl : k < l.length := by omega
      have q1 : (k : Int) < l.length := by omega
      obtain ⟨x, hx⟩ : ∃ x, l[k]? = some x := ⟨_, List.getElem?_eq_getElem hkl⟩
      obtain ⟨B0, off, rfl, hB0, hBl, hxs⟩ := HC.out (by omega)
      obtain ⟨u, hu, hru⟩ := hxs k x hx
      obtain ⟨F1, hf1, hF1, hk1⟩ := hm
      have hsm : Same W wr := HW.out.kept hk1 (fun j hj => Nat.le_trans HBB.out (by first | exact WriterAt.base_le HWA.out j hj))
      have hFB : ∀ j, j < B → ¬ F j := fun j hj hf => by have := WriterAt.base_le HWA.out j hf; omega
      have hur : wr.cell? ⟨B0, off + k, none⟩ = some u := by
        rw [← hu]; simp only [World.cell?, hk1.block B0 hBl (hFB B0 hB0)]
      have hrr : c.rep (fun k => k < B) wr x u := HF.out.keep hru (fun j hj hjB => hk1.block j hj (hFB j hjB))
      have c5 := cellOf (j := 0) (hsm.blk HCB.out)
      simp at c5
      have room : WRoom (puts c (l.take k) (putN l.length s)) (c.cost x) := by
        unfold WRoom
        have h1 := puts_len HF.out (l.take k) (putN l.length s)
        have h2 := putN_len l.length s
        have h3 := costs_take (c := c) hx
        have h4 := HR.out
        omega
      have P2 := Lib.hid (HP.out B p F1 _ wr x u HBB.out hsm hrr hf1 room)
      have e2 := puts_take (c := c) hx (putN l.length s)
      have E2 := Lib.hid e2
      have H5 := Lib.hid hF1
      have H6 := Lib.hid hk1
      clear hxs hu hru hf1 hF1 hk1 hsm hFB hrr room e2 hx
      go_wp2_with (fail)
      refine P2.out.mono ?_
      rintro e w2 ⟨rfl, hm2⟩
      have HM3 := Lib.hid hm2
      clear hm2
      go_wp2
      go_roundw
      case rel =>
        refine ⟨k + 1, by omega, by go_num, ?_⟩
        rw [E2.out]
        exact WMoved.trans H5.out H6.out HM3.out
      case measure => simp [intOf]; omega

theorem list_put_over_str {α : Type} (c : Cod α) (B p b m cb : Nat) (F : Nat → Prop) (s : WS) (w : World) (l : List α) (v : Value) (h : WriterAt B w p F s) (hv : RowRep c (fun k => k < B) w l v) (hb : w.cell? ⟨b, 0, none⟩ = some (.int .i64 m)) (ho : m < l.length) :
    Calls Try.prog 63 #[.pointer (some ⟨p, 0, none⟩), v, .pointer (some ⟨b, 0, none⟩), .pointer (some ⟨cb, 0, none⟩)] w fun r w' => r = .returned (.tuple #[]) ∧ WMoved B w w' p F (s.fail 22) := by
  obtain ⟨A, n, cp, rfl, rfl, hm, _⟩ := hv
  have q : (m : Int) < l.length := by omega
  have HW := Lib.hid h
  clear h ho
  go_enter Try.func63, Try.ntmps63
  go_wp2_with (fail)
  refine (wfail_any B p F s 22 _ HW.out).mono ?_
  rintro e w1 ⟨rfl, hm⟩
  have HM := Lib.hid hm
  clear hm
  go_wp2
  go_returns
  exact ⟨rfl, HM.out⟩

set_option maxHeartbeats 1600000 in
theorem list_put_fits_str {α : Type} (c : Cod α) (hf : Fair c) (W : World) (pv gv : Value) (T : TypeId) (hp : PutOk W pv c) (B p b m cb : Nat) (F : Nat → Prop) (s : WS) (w : World) (l : List α) (v : Value) (hB : W.heap.size ≤ B) (hw : Same W w) (h : WriterAt B w p F s) (hv : RowRep c (fun k => k < B) w l v)
    (hb : W.cell? ⟨b, 0, none⟩ = some (.int .i64 m)) (hbl : b < W.heap.size) (hcb : W.heap[cb]? = some (.cells #[pv, gv] T (0, 0))) (ho : ¬ m < l.length) (hm : m ≤ 1048576) (hr : WRoom s (8 + costs c l)) :
    Calls Try.prog 63 #[.pointer (some ⟨p, 0, none⟩), v, .pointer (some ⟨b, 0, none⟩), .pointer (some ⟨cb, 0, none⟩)] w fun r w' => r = .returned (.tuple #[]) ∧ WMoved B w w' p F (puts c l (putN l.length s)) := by
  obtain ⟨f, caps, rfl, he, hp⟩ := hp
  unfold Proofs.Enters at he
  have HV := Lib.hid hv
  obtain ⟨A, n, cp, rfl, rfl, hmx, hc⟩ := hv
  have q : ¬ (m : Int) < l.length := by omega
  have hll : l.length ≤ 1048576 := by omega
  have c0 : w.cell? ⟨b, 0, none⟩ = some (.int .i64 m) := by rw [← hb]; simp only [World.cell?, hw.2 b hbl]
  unfold WRoom at hr
  have P := Lib.hid (put_any B p F s l.length w h (by omega) (by unfold WRoom; omega))
  have HWA := Lib.hid h
  have HW := Lib.hid hw
  have HR := Lib.hid hr
  have HC := Lib.hid hc
  have HP := Lib.hid hp
  have HCB := Lib.hid hcb
  have HF := Lib.hid hf
  have HBB := Lib.hid hB
  clear h ho hr hp hcb hc hb hbl hw hm hf hB
  go_enter Try.func63, Try.ntmps63
  go_wp2_with (fail)
  refine P.out.mono ?_
  rintro e w1 ⟨rfl, hm⟩
  have HM : Hid (WMoved B w w1 p F (putN l.length s)) := Lib.hid hm
  clear hm
  go_wp2
  go_loopw [20] (fun iv wr => ∃ k : Nat, k ≤ l.length ∧ iv = .int .i64 k ∧ WMoved B w wr p F (puts c (l.take k) (putN l.length s))) (fun iv _ => (l.length - intOf iv).toNat)
  case atStart => exact ⟨0, Nat.zero_le _, rfl, HM.out⟩
  case round =>
    obtain ⟨k, hk, rfl, hm⟩ := hrel
    by_cases hlast : k = l.length
    · subst hlast
      rw [List.take_length] at hm
      have HM2 := Lib.hid hm
      clear hm
      go_wp2
      go_end0
      exact ⟨rfl, HM2.out⟩
    · have hkl : k < l.length := by omega
      have q1 : (k : Int) < l.length := by omega
      obtain ⟨x, hx⟩ : ∃ x, l[k]? = some x := ⟨_, List.getElem?_eq_getElem hkl⟩
      obtain ⟨B0, off, rfl, hB0, hBl, hxs⟩ := HC.out (by omega)
      obtain ⟨u, hu, hru⟩ := hxs k x hx
      obtain ⟨F1, hf1, hF1, hk1⟩ := hm
      have hsm : Same W wr := HW.out.kept hk1 (fun j hj => Nat.le_trans HBB.out (by first | exact WriterAt.base_le HWA.out j hj))
      have hFB : ∀ j, j < B → ¬ F j := fun j hj hf => by have := WriterAt.base_le HWA.out j hf; omega
      have hur : wr.cell? ⟨B0, off + k, none⟩ = some u := by
        rw [← hu]; simp only [World.cell?, hk1.block B0 hBl (hFB B0 hB0)]
      have hrr : c.rep (fun k => k < B) wr x u := HF.out.keep hru (fun j hj hjB => hk1.block j hj (hFB j hjB))
      have c5 := cellOf (j := 0) (hsm.blk HCB.out)
      simp at c5
      have room : WRoom (puts c (l.take k) (putN l.length s)) (c.cost x) := by
        unfold WRoom
        have h1 := puts_len HF.out (l.take k) (putN l.length s)
        have h2 := putN_len l.length s
        have h3 := costs_take (c := c) hx
        have h4 := HR.out
        omega
      have P2 := Lib.hid (HP.out B p F1 _ wr x u HBB.out hsm hrr hf1 room)
      have e2 := puts_take (c := c) hx (putN l.length s)
      have E2 := Lib.hid e2
      have H5 := Lib.hid hF1
      have H6 := Lib.hid hk1
      clear hxs hu hru hf1 hF1 hk1 hsm hFB hrr room e2 hx
      go_wp2_with (fail)
      refine P2.out.mono ?_
      rintro e w2 ⟨rfl, hm2⟩
      have HM3 := Lib.hid hm2
      clear hm2
      go_wp2
      go_roundw
      case rel =>
        refine ⟨k + 1, by omega, by go_num, ?_⟩
        rw [E2.out]
        exact WMoved.trans H5.out H6.out HM3.out
      case measure => simp [intOf]; omega

theorem list_put_over_strs {α : Type} (c : Cod α) (B p b m cb : Nat) (F : Nat → Prop) (s : WS) (w : World) (l : List α) (v : Value) (h : WriterAt B w p F s) (hv : RowRep c (fun k => k < B) w l v) (hb : w.cell? ⟨b, 0, none⟩ = some (.int .i64 m)) (ho : m < l.length) :
    Calls Try.prog 61 #[.pointer (some ⟨p, 0, none⟩), v, .pointer (some ⟨b, 0, none⟩), .pointer (some ⟨cb, 0, none⟩)] w fun r w' => r = .returned (.tuple #[]) ∧ WMoved B w w' p F (s.fail 22) := by
  obtain ⟨A, n, cp, rfl, rfl, hm, _⟩ := hv
  have q : (m : Int) < l.length := by omega
  have HW := Lib.hid h
  clear h ho
  go_enter Try.func61, Try.ntmps61
  go_wp2_with (fail)
  refine (wfail_any B p F s 22 _ HW.out).mono ?_
  rintro e w1 ⟨rfl, hm⟩
  have HM := Lib.hid hm
  clear hm
  go_wp2
  go_returns
  exact ⟨rfl, HM.out⟩

set_option maxHeartbeats 1600000 in
theorem list_put_fits_strs {α : Type} (c : Cod α) (hf : Fair c) (W : World) (pv gv : Value) (T : TypeId) (hp : PutOk W pv c) (B p b m cb : Nat) (F : Nat → Prop) (s : WS) (w : World) (l : List α) (v : Value) (hB : W.heap.size ≤ B) (hw : Same W w) (h : WriterAt B w p F s) (hv : RowRep c (fun k => k < B) w l v)
    (hb : W.cell? ⟨b, 0, none⟩ = some (.int .i64 m)) (hbl : b < W.heap.size) (hcb : W.heap[cb]? = some (.cells #[pv, gv] T (0, 0))) (ho : ¬ m < l.length) (hm : m ≤ 1048576) (hr : WRoom s (8 + costs c l)) :
    Calls Try.prog 61 #[.pointer (some ⟨p, 0, none⟩), v, .pointer (some ⟨b, 0, none⟩), .pointer (some ⟨cb, 0, none⟩)] w fun r w' => r = .returned (.tuple #[]) ∧ WMoved B w w' p F (puts c l (putN l.length s)) := by
  obtain ⟨f, caps, rfl, he, hp⟩ := hp
  unfold Proofs.Enters at he
  have HV := Lib.hid hv
  obtain ⟨A, n, cp, rfl, rfl, hmx, hc⟩ := hv
  have q : ¬ (m : Int) < l.length := by omega
  have hll : l.length ≤ 1048576 := by omega
  have c0 : w.cell? ⟨b, 0, none⟩ = some (.int .i64 m) := by rw [← hb]; simp only [World.cell?, hw.2 b hbl]
  unfold WRoom at hr
  have P := Lib.hid (put_any B p F s l.length w h (by omega) (by unfold WRoom; omega))
  have HWA := Lib.hid h
  have HW := Lib.hid hw
  have HR := Lib.hid hr
  have HC := Lib.hid hc
  have HP := Lib.hid hp
  have HCB := Lib.hid hcb
  have HF := Lib.hid hf
  have HBB := Lib.hid hB
  clear h ho hr hp hcb hc hb hbl hw hm hf hB
  go_enter Try.func61, Try.ntmps61
  go_wp2_with (fail)
  refine P.out.mono ?_
  rintro e w1 ⟨rfl, hm⟩
  have HM : Hid (WMoved B w w1 p F (putN l.length s)) := Lib.hid hm
  clear hm
  go_wp2
  go_loopw [20] (fun iv wr => ∃ k : Nat, k ≤ l.length ∧ iv = .int .i64 k ∧ WMoved B w wr p F (puts c (l.take k) (putN l.length s))) (fun iv _ => (l.length - intOf iv).toNat)
  case atStart => exact ⟨0, Nat.zero_le _, rfl, HM.out⟩
  case round =>
    obtain ⟨k, hk, rfl, hm⟩ := hrel
    by_cases hlast : k = l.length
    · subst hlast
      rw [List.take_length] at hm
      have HM2 := Lib.hid hm
      clear hm
      go_wp2
      go_end0
      exact ⟨rfl, HM2.out⟩
    · have hkl : k < l.length := by omega
      have q1 : (k : Int) < l.length := by omega
      obtain ⟨x, hx⟩ : ∃ x, l[k]? = some x := ⟨_, List.getElem?_eq_getElem hkl⟩
      obtain ⟨B0, off, rfl, hB0, hBl, hxs⟩ := HC.out (by omega)
      obtain ⟨u, hu, hru⟩ := hxs k x hx
      obtain ⟨F1, hf1, hF1, hk1⟩ := hm
      have hsm : Same W wr := HW.out.kept hk1 (fun j hj => Nat.le_trans HBB.out (by first | exact WriterAt.base_le HWA.out j hj))
      have hFB : ∀ j, j < B → ¬ F j := fun j hj hf => by have := WriterAt.base_le HWA.out j hf; omega
      have hur : wr.cell? ⟨B0, off + k, none⟩ = some u := by
        rw [← hu]; simp only [World.cell?, hk1.block B0 hBl (hFB B0 hB0)]
      have hrr : c.rep (fun k => k < B) wr x u := HF.out.keep hru (fun j hj hjB => hk1.block j hj (hFB j hjB))
      have c5 := cellOf (j := 0) (hsm.blk HCB.out)
      simp at c5
      have room : WRoom (puts c (l.take k) (putN l.length s)) (c.cost x) := by
        unfold WRoom
        have h1 := puts_len HF.out (l.take k) (putN l.length s)
        have h2 := putN_len l.length s
        have h3 := costs_take (c := c) hx
        have h4 := HR.out
        omega
      have P2 := Lib.hid (HP.out B p F1 _ wr x u HBB.out hsm hrr hf1 room)
      have e2 := puts_take (c := c) hx (putN l.length s)
      have E2 := Lib.hid e2
      have H5 := Lib.hid hF1
      have H6 := Lib.hid hk1
      clear hxs hu hru hf1 hF1 hk1 hsm hFB hrr room e2 hx
      go_wp2_with (fail)
      refine P2.out.mono ?_
      rintro e w2 ⟨rfl, hm2⟩
      have HM3 := Lib.hid hm2
      clear hm2
      go_wp2
      go_roundw
      case rel =>
        refine ⟨k + 1, by omega, by go_num, ?_⟩
        rw [E2.out]
        exact WMoved.trans H5.out H6.out HM3.out
      case measure => simp [intOf]; omega

theorem list_put_over_bool {α : Type} (c : Cod α) (B p b m cb : Nat) (F : Nat → Prop) (s : WS) (w : World) (l : List α) (v : Value) (h : WriterAt B w p F s) (hv : RowRep c (fun k => k < B) w l v) (hb : w.cell? ⟨b, 0, none⟩ = some (.int .i64 m)) (ho : m < l.length) :
    Calls Try.prog 70 #[.pointer (some ⟨p, 0, none⟩), v, .pointer (some ⟨b, 0, none⟩), .pointer (some ⟨cb, 0, none⟩)] w fun r w' => r = .returned (.tuple #[]) ∧ WMoved B w w' p F (s.fail 22) := by
  obtain ⟨A, n, cp, rfl, rfl, hm, _⟩ := hv
  have q : (m : Int) < l.length := by omega
  have HW := Lib.hid h
  clear h ho
  go_enter Try.func70, Try.ntmps70
  go_wp2_with (fail)
  refine (wfail_any B p F s 22 _ HW.out).mono ?_
  rintro e w1 ⟨rfl, hm⟩
  have HM := Lib.hid hm
  clear hm
  go_wp2
  go_returns
  exact ⟨rfl, HM.out⟩

set_option maxHeartbeats 1600000 in
theorem list_put_fits_bool {α : Type} (c : Cod α) (hf : Fair c) (W : World) (pv gv : Value) (T : TypeId) (hp : PutOk W pv c) (B p b m cb : Nat) (F : Nat → Prop) (s : WS) (w : World) (l : List α) (v : Value) (hB : W.heap.size ≤ B) (hw : Same W w) (h : WriterAt B w p F s) (hv : RowRep c (fun k => k < B) w l v)
    (hb : W.cell? ⟨b, 0, none⟩ = some (.int .i64 m)) (hbl : b < W.heap.size) (hcb : W.heap[cb]? = some (.cells #[pv, gv] T (0, 0))) (ho : ¬ m < l.length) (hm : m ≤ 1048576) (hr : WRoom s (8 + costs c l)) :
    Calls Try.prog 70 #[.pointer (some ⟨p, 0, none⟩), v, .pointer (some ⟨b, 0, none⟩), .pointer (some ⟨cb, 0, none⟩)] w fun r w' => r = .returned (.tuple #[]) ∧ WMoved B w w' p F (puts c l (putN l.length s)) := by
  obtain ⟨f, caps, rfl, he, hp⟩ := hp
  unfold Proofs.Enters at he
  have HV := Lib.hid hv
  obtain ⟨A, n, cp, rfl, rfl, hmx, hc⟩ := hv
  have q : ¬ (m : Int) < l.length := by omega
  have hll : l.length ≤ 1048576 := by omega
  have c0 : w.cell? ⟨b, 0, none⟩ = some (.int .i64 m) := by rw [← hb]; simp only [World.cell?, hw.2 b hbl]
  unfold WRoom at hr
  have P := Lib.hid (put_any B p F s l.length w h (by omega) (by unfold WRoom; omega))
  have HWA := Lib.hid h
  have HW := Lib.hid hw
  have HR := Lib.hid hr
  have HC := Lib.hid hc
  have HP := Lib.hid hp
  have HCB := Lib.hid hcb
  have HF := Lib.hid hf
  have HBB := Lib.hid hB
  clear h ho hr hp hcb hc hb hbl hw hm hf hB
  go_enter Try.func70, Try.ntmps70
  go_wp2_with (fail)
  refine P.out.mono ?_
  rintro e w1 ⟨rfl, hm⟩
  have HM : Hid (WMoved B w w1 p F (putN l.length s)) := Lib.hid hm
  clear hm
  go_wp2
  go_loopw [20] (fun iv wr => ∃ k : Nat, k ≤ l.length ∧ iv = .int .i64 k ∧ WMoved B w wr p F (puts c (l.take k) (putN l.length s))) (fun iv _ => (l.length - intOf iv).toNat)
  case atStart => exact ⟨0, Nat.zero_le _, rfl, HM.out⟩
  case round =>
    obtain ⟨k, hk, rfl, hm⟩ := hrel
    by_cases hlast : k = l.length
    · subst hlast
      rw [List.take_length] at hm
      have HM2 := Lib.hid hm
      clear hm
      go_wp2
      go_end0
      exact ⟨rfl, HM2.out⟩
    · have hkl : k < l.length := by omega
      have q1 : (k : Int) < l.length := by omega
      obtain ⟨x, hx⟩ : ∃ x, l[k]? = some x := ⟨_, List.getElem?_eq_getElem hkl⟩
      obtain ⟨B0, off, rfl, hB0, hBl, hxs⟩ := HC.out (by omega)
      obtain ⟨u, hu, hru⟩ := hxs k x hx
      obtain ⟨F1, hf1, hF1, hk1⟩ := hm
      have hsm : Same W wr := HW.out.kept hk1 (fun j hj => Nat.le_trans HBB.out (by first | exact WriterAt.base_le HWA.out j hj))
      have hFB : ∀ j, j < B → ¬ F j := fun j hj hf => by have := WriterAt.base_le HWA.out j hf; omega
      have hur : wr.cell? ⟨B0, off + k, none⟩ = some u := by
        rw [← hu]; simp only [World.cell?, hk1.block B0 hBl (hFB B0 hB0)]
      have hrr : c.rep (fun k => k < B) wr x u := HF.out.keep hru (fun j hj hjB => hk1.block j hj (hFB j hjB))
      have c5 := cellOf (j := 0) (hsm.blk HCB.out)
      simp at c5
      have room : WRoom (puts c (l.take k) (putN l.length s)) (c.cost x) := by
        unfold WRoom
        have h1 := puts_len HF.out (l.take k) (putN l.length s)
        have h2 := putN_len l.length s
        have h3 := costs_take (c := c) hx
        have h4 := HR.out
        omega
      have P2 := Lib.hid (HP.out B p F1 _ wr x u HBB.out hsm hrr hf1 room)
      have e2 := puts_take (c := c) hx (putN l.length s)
      have E2 := Lib.hid e2
      have H5 := Lib.hid hF1
      have H6 := Lib.hid hk1
      clear hxs hu hru hf1 hF1 hk1 hsm hFB hrr room e2 hx
      go_wp2_with (fail)
      refine P2.out.mono ?_
      rintro e w2 ⟨rfl, hm2⟩
      have HM3 := Lib.hid hm2
      clear hm2
      go_wp2
      go_roundw
      case rel =>
        refine ⟨k + 1, by omega, by go_num, ?_⟩
        rw [E2.out]
        exact WMoved.trans H5.out H6.out HM3.out
      case measure => simp [intOf]; omega

end Go.Proofs.Ytcnikobmepjgcaa.Codec
