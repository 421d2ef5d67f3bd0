/-
  Journals on a file: opened, added to, walked.
-/
import Derived.Test.YtegonafacbokeaaJr3
import Derived.Test.YtegonafacbokeaaDiskSt
namespace Go.Proofs.Ytegonafacbokeaa.Codec
open Go.RowKit Go.Proofs.YtegonafacbokeaaBase Go.Proofs.YtegonafacbokeaaLex2 Go.Proofs.YtegonafacbokeaaNum
set_option linter.unusedVariables false
set_option linter.unusedSimpArgs false

section
variable {w0 w w' : World} {p : Nat} {F : Nat → Prop} {x x' : Disk.FD}
theorem st_kept (h : Disk.St w0 w p F x) (hk : Kept w w' (fun _ => False)) : Disk.St w0 w' p F x := by
  obtain ⟨⟨sv, lv, hb, hp, hbs, hs, hl, hne, hF⟩, hbel, hg, hr⟩ := h
  exact ⟨⟨sv, lv, hk.blk hb (fun h => h), hp, Nat.le_trans hbs hk.size, own_keptF hs hk (fun _ _ h => h), own_keptF hl hk (fun _ _ h => h), hne, hF⟩, hbel.trans (hk.below (fun _ h => h.elim) hbs), hg, hr⟩
theorem next_kept (h : Disk.St w0 w p F x) (hk : Kept w w' (fun _ => False)) : Disk.Next w0 w w' p F x := ⟨F, st_kept h hk, fun k hk => .inl hk, hk.mono fun _ h => h.elim⟩
theorem st_lt (h : Disk.St w0 w p F x) : ∀ k, F k → k < w.heap.size := by
  obtain ⟨⟨sv, lv, hb, hp, hbs, hs, hl, hne, hF⟩, _⟩ := h
  intro k hk
  rcases (hF k).1 hk with rfl | h | h
  · exact blk_lt hb
  · exact (hs.lt k h).2
  · exact (hl.lt k h).2
theorem next_trans {w1 w2 : World} {F1 : Nat → Prop} {x2 : Disk.FD} (hF : ∀ k, F1 k → F k ∨ w.heap.size ≤ k) (hk : Kept w w1 F) (h2 : Disk.Next w0 w1 w2 p F1 x2) : Disk.Next w0 w w2 p F x2 := by
  obtain ⟨F2, f2, b2, k2⟩ := h2
  exact ⟨F2, f2, fun k hk2 => (b2 k hk2).elim (hF k) (fun h => .inr (Nat.le_trans hk.size h)), hk.trans k2 hF⟩
end
/-- A journal's block: it has the file. -/
def JAt (w : World) (q p : Nat) : Prop := w.heap[q]? = some (.cells #[.pointer (some ⟨p, 0, none⟩)] 60 (0, 0))
theorem elem_fst {A : Option Addr} {n : Nat} {xs : List Value} {w w' : World} {F : Nat → Prop} (h : RowIn w A n xs) (hk : Kept w w' F) (hA : ∀ b, (Value.slice A 0 0).ownBlock = some b → ¬ F b) : RowIn w' A n xs := by
  refine ⟨h.len, h.max, fun h0 => ?_⟩
  obtain ⟨b, off, rfl, hb, hx⟩ := h.cell h0
  have e := hk.block b hb (hA b rfl)
  exact ⟨b, off, rfl, Nat.lt_of_lt_of_le hb hk.size, fun k u hu => (cell_same e).trans (hx k u hu)⟩
/-- What a journal has that is opened: its records, and it goes on behind them. -/
def Opened (x : Disk.FD) : List (List UInt8) × Disk.FD :=
  let l := x.safe ++ x.loose
  ((scanL l).1, if (scanL l).2 < l.length then ⟨l.take (scanL l).2, [], x.fuse - 1, x.keep, x.down⟩ else x)
def OpenRes (w0 w : World) (p : Nat) (F : Nat → Prop) (x : Disk.FD) (e : Ending) (w' : World) : Prop :=
  ∃ q A c, e = .returned (.tuple #[.pointer (some ⟨q, 0, none⟩), .slice A (Opened x).1.length c, .int .i64 0]) ∧ JAt w' q p ∧ w.heap.size ≤ q ∧ RowIn w' A (Opened x).1.length ((Opened x).1.map strV) ∧ (Opened x).1.length ≤ c ∧
    ∃ F', Disk.St w0 w' p F' (Opened x).2 ∧ (∀ k, F' k → F k ∨ w.heap.size ≤ k) ∧ Kept w w' F ∧ ¬ F' q ∧ ∀ b, (Value.slice A 0 0).ownBlock = some b → ¬ F' b

set_option maxHeartbeats 1600000 in
set_option maxRecDepth 100000 in
theorem jopen_any (w0 w : World) (p : Nat) (F : Nat → Prop) (x : Disk.FD) (h : Disk.St w0 w p F x) (hd : x.down = false) (hb : x.burns = false) (hl : (x.safe ++ x.loose).length ≤ 10000000000000) : Calls Try.prog 14 #[.pointer (some ⟨p, 0, none⟩)] w (OpenRes w0 w p F x) := by
  have hrd : x.read = (x.safe ++ x.loose, 0) := by unfold Disk.FD.read; rw [hd]; rfl
  obtain ⟨l, hll⟩ : ∃ l, x.safe ++ x.loose = l := ⟨_, rfl⟩
  rw [hll] at hrd hl
  obtain ⟨ts, n, hsc⟩ : ∃ ts n, scanL l = (ts, n) := ⟨_, _, rfl⟩
  have hnl := scanL_le l
  rw [hsc] at hnl
  have hop : Opened x = (ts, if n < l.length then ⟨l.take n, [], x.fuse - 1, x.keep, x.down⟩ else x) := by unfold Opened; rw [hll]; simp only [hsc]
  obtain ⟨y, hy⟩ : ∃ y : ByteArray, ⟨l.toArray⟩ = y := ⟨_, rfl⟩
  have hyd : y.data.toList = l := by rw [← hy]
  have hys : y.size = l.length := by rw [← len_data, hyd]
  have HH := Lib.hid h
  have HRD := Lib.hid hrd
  have HY := Lib.hid hy
  have HYD := Lib.hid hyd
  have HSC := Lib.hid hsc
  have HOP := Lib.hid hop
  have D1 := Lib.hid (show DSize y by unfold DSize; omega)
  have D2 := Lib.hid (show y.size ≤ 10000000000000 by omega)
  by_cases hcut : n < l.length
  · have q1 : (n : Int) < y.size := by omega
    have hcc : x.cut (n : Int) = (0, ⟨l.take n, [], x.fuse - 1, x.keep, x.down⟩) := by
      have hlen : x.safe.length + x.loose.length = l.length := by rw [← hll, List.length_append]
      rw [Disk.cut_eq_ok hd (by simp only at hnl; omega) hb, hll]
      rfl
    have HCC := Lib.hid hcc
    have HCUT := Lib.hid hcut
    clear h hd hb hl hrd hll hsc hnl hop hy hyd hys hcc hcut
    go_enter Try.func14, Try.ntmps14
    go_wp2_with (fail)
    refine (Disk.st_read HH.out HRD.out).mono ?_
    rw [HY.out]
    rintro e w1 ⟨rfl, F1, s1, b1, k1⟩
    have S1 := Lib.hid s1
    have B1 := Lib.hid b1
    have K1 := Lib.hid k1
    clear s1 b1 k1
    go_wp2_with (fail)
    refine (jscan_any y w1 D1.out D2.out).mono ?_
    intro e w2 h
    unfold ScanRes at h
    rw [HYD.out, HSC.out] at h
    obtain ⟨hk, A, c, rfl, hr, hcap, hnew⟩ := h
    have S2 := Lib.hid (st_kept S1.out hk)
    have K2 := Lib.hid hk
    have R2 := Lib.hid hr
    have CAP := Lib.hid hcap
    have NEW := Lib.hid hnew
    clear hk hr hcap hnew
    go_wp2_with (fail)
    refine (Disk.st_cut S2.out (n : Int) HCC.out).mono ?_
    rintro e w3 ⟨rfl, F3, s3, b3, k3⟩
    have S3 := Lib.hid s3
    have B3 := Lib.hid b3
    have K3 := Lib.hid k3
    clear s3 b3 k3
    go_wp2
    go_ret3
    unfold OpenRes
    rw [HOP.out]
    simp only [if_pos HCUT.out]
    have ka := (Kept.refl w3 (fun _ => False)).alloc (.cells #[.pointer (some ⟨p, 0, none⟩)] 60)
    have hAF : ∀ b, (Value.slice A 0 0).ownBlock = some b → ¬ F1 b := fun b hb hf => by
      have h1 := NEW.out b hb
      have := st_lt S1.out b hf
      omega
    have hAF3 : ∀ b, (Value.slice A 0 0).ownBlock = some b → ¬ F3 b := fun b hb hf => by
      have h1 := NEW.out b hb
      rcases B3.out b hf with h2 | h2
      · exact hAF b hb h2
      · omega
    have s1 := K1.out.size
    have s2 := K2.out.size
    have s3 := K3.out.size
    have hq := st_lt S3.out
    refine ⟨w3.heap.size, A, c, rfl, heap_alloc_new _ _, by omega, ?_, CAP.out, F3, st_kept S3.out ka, ?_, ?_, fun hf => Nat.lt_irrefl _ (hq _ hf), hAF3⟩
    · exact (elem_fst R2.out K3.out hAF).kept ka
    · intro k hk
      rcases B3.out k hk with h2 | h2
      · exact B1.out k h2
      · exact .inr (by omega)
    · have k13 := (K1.out.trans K2.out (fun k h => h.elim)).trans K3.out B1.out
      exact (k13.trans ka (fun k h => h.elim))
  · have q1 : ¬ (n : Int) < y.size := by omega
    have HCUT := Lib.hid hcut
    clear h hd hb hl hrd hll hsc hnl hop hy hyd hys hcut
    go_enter Try.func14, Try.ntmps14
    go_wp2_with (fail)
    refine (Disk.st_read HH.out HRD.out).mono ?_
    rw [HY.out]
    rintro e w1 ⟨rfl, F1, s1, b1, k1⟩
    have S1 := Lib.hid s1
    have B1 := Lib.hid b1
    have K1 := Lib.hid k1
    clear s1 b1 k1
    go_wp2_with (fail)
    refine (jscan_any y w1 D1.out D2.out).mono ?_
    intro e w2 h
    unfold ScanRes at h
    rw [HYD.out, HSC.out] at h
    obtain ⟨hk, A, c, rfl, hr, hcap, hnew⟩ := h
    have S2 := Lib.hid (st_kept S1.out hk)
    have K2 := Lib.hid hk
    have R2 := Lib.hid hr
    have CAP := Lib.hid hcap
    have NEW := Lib.hid hnew
    clear hk hr hcap hnew
    go_wp2
    go_ret3
    unfold OpenRes
    rw [HOP.out]
    simp only [if_neg HCUT.out]
    have ka := (Kept.refl w2 (fun _ => False)).alloc (.cells #[.pointer (some ⟨p, 0, none⟩)] 60)
    have hAF : ∀ b, (Value.slice A 0 0).ownBlock = some b → ¬ F1 b := fun b hb hf => by
      have h1 := NEW.out b hb
      have := st_lt S1.out b hf
      omega
    have s1 := K1.out.size
    have s2 := K2.out.size
    have hq := st_lt S2.out
    refine ⟨w2.heap.size, A, c, rfl, heap_alloc_new _ _, by omega, R2.out.kept ka, CAP.out, F1, st_kept S2.out ka, B1.out, ?_, fun hf => Nat.lt_irrefl _ (hq _ hf), hAF⟩
    exact (K1.out.trans K2.out (fun k h => h.elim)).trans ka (fun k h => h.elim)

/-- What adding a record answers and makes of the file. -/
def addJ (x : Disk.FD) (d : List UInt8) : Int × Disk.FD := if (x.add d).1 ≠ 0 then x.add d else (x.add d).2.sync
theorem jat_keep {w w' : World} {F : Nat → Prop} {q p : Nat} (h : JAt w q p) (hk : Kept w w' F) (hq : ¬ F q) : JAt w' q p := hk.blk h hq

set_option maxHeartbeats 1600000 in
set_option maxRecDepth 100000 in
theorem jadd_any (w0 w : World) (p q : Nat) (F : Nat → Prop) (x : Disk.FD) (h : Disk.St w0 w p F x) (hj : JAt w q p) (hq : ¬ F q) (r : ByteArray) (hr : r.size ≤ 1048576) (hroom : Disk.Room { x with loose := x.loose ++ frameS r.data.toList }) :
    Calls Try.prog 15 #[.pointer (some ⟨q, 0, none⟩), .string r] w fun e w' => e = .returned (.int .i64 (addJ x (frameS r.data.toList)).1) ∧ Disk.Next w0 w w' p F (addJ x (frameS r.data.toList)).2 := by
  obtain ⟨f, hf⟩ : ∃ f, frameB r = f := ⟨_, rfl⟩
  have hfd : f.data.toList = frameS r.data.toList := by rw [← hf]; unfold frameB mkB; simp
  rw [← hfd] at hroom ⊢
  obtain ⟨c1, x1, hx1⟩ : ∃ c1 x1, x.add f.data.toList = (c1, x1) := ⟨_, _, rfl⟩
  have ha : addJ x f.data.toList = if c1 ≠ 0 then (c1, x1) else x1.sync := by unfold addJ; rw [hx1]
  rw [ha]
  have P := Lib.hid (jframe_any r w hr)
  rw [hf] at P
  have HH := Lib.hid h
  have HJ := Lib.hid hj
  have HQ := Lib.hid hq
  have HROOM := Lib.hid hroom
  have HX1 := Lib.hid hx1
  by_cases hc : c1 = 0
  · subst hc
    rw [if_neg (by simp)]
    obtain ⟨c2, x2, hx2⟩ : ∃ c2 x2, x1.sync = (c2, x2) := ⟨_, _, rfl⟩
    rw [hx2]
    have HX2 := Lib.hid hx2
    clear h hj hq hroom hx1 hf hfd ha hx2 hr
    go_enter Try.func15, Try.ntmps15
    go_wp2_with (fail)
    refine P.out.mono ?_
    rintro e w1 ⟨rfl, hk⟩
    have S1 := Lib.hid (st_kept HH.out hk)
    have K1 := Lib.hid hk
    have cj := cellOf (j := 0) (jat_keep HJ.out hk (fun h => h))
    simp at cj
    have J1 := Lib.hid (jat_keep HJ.out hk (fun h => h))
    clear hk
    go_wp2_with (fail)
    clear cj
    refine (Disk.st_add S1.out f HROOM.out HX1.out).mono ?_
    rintro e w2 ⟨rfl, F2, s2, b2, k2⟩
    have S2 := Lib.hid s2
    have B2 := Lib.hid b2
    have K2 := Lib.hid k2
    have cj := cellOf (j := 0) (jat_keep J1.out k2 HQ.out)
    simp at cj
    clear s2 b2 k2
    go_wp2_with (fail)
    refine (Disk.st_sync S2.out HX2.out).mono ?_
    rintro e w3 ⟨rfl, hn⟩
    have N3 := Lib.hid hn
    clear hn
    go_wp2
    go_ret
    refine ⟨rfl, ?_⟩
    have h1 := next_trans (w := w1) B2.out K2.out N3.out
    obtain ⟨F3, s3, b3, k3⟩ := h1
    exact ⟨F3, s3, fun k hk => (b3 k hk).elim .inl (fun h => .inr (Nat.le_trans K1.out.size h)), ((K1.out.mono (fun _ h => h.elim)).trans k3 (fun k h => .inl h))⟩
  · rw [if_pos hc]
    have z1 : (c1 == 0) = false := by simpa using hc
    have z2 : decide (c1 = 0) = false := by simpa using hc
    have z3 : (c1 != 0) = true := by simpa using hc
    clear h hj hq hroom hx1 hf hfd ha hc hr
    go_enter Try.func15, Try.ntmps15
    go_wp2_with (fail)
    refine P.out.mono ?_
    rintro e w1 ⟨rfl, hk⟩
    have S1 := Lib.hid (st_kept HH.out hk)
    have K1 := Lib.hid hk
    have cj := cellOf (j := 0) (jat_keep HJ.out hk (fun h => h))
    simp at cj
    clear hk
    go_wp2_with (fail)
    clear cj
    refine (Disk.st_add S1.out f HROOM.out HX1.out).mono ?_
    rintro e w2 ⟨rfl, F2, s2, b2, k2⟩
    have S2 := Lib.hid s2
    have B2 := Lib.hid b2
    have K2 := Lib.hid k2
    clear s2 b2 k2
    go_wp2
    go_ret
    exact ⟨rfl, F2, S2.out, fun k hk => (B2.out k hk).elim .inl (fun h => .inr (Nat.le_trans K1.out.size h)), ((K1.out.mono (fun _ h => h.elim)).trans K2.out (fun k h => .inl h))⟩
end Go.Proofs.Ytegonafacbokeaa.Codec
