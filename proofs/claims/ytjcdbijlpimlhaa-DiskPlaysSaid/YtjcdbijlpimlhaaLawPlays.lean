/-
  DiskPlays walked: for whatever script it returns true and leaves what was there as it was.
-/
import Derived.Test.YtjcdbijlpimlhaaDiskRef2
namespace Go.Proofs.Ytjcdbijlpimlhaa.Disk
open Go.RowKit Go.Proofs.YtjcdbijlpimlhaaBase Go.Proofs.YtjcdbijlpimlhaaLex
set_option linter.unusedVariables false

theorem keep3 {x : FD} (h : Good x) : x.keep = 0 ∨ x.keep = 1 ∨ x.keep = 2 := by have := h.2; omega

section
variable {w : World} {r : Nat} {x x' : FD} {c : Int}
theorem rs_add (h : RefAt w r x) (hg : Good x) (d : ByteArray) (hr : Room { x with loose := x.loose ++ d.data.toList }) (hc : x.add d.data.toList = (c, x')) :
    Calls Try.prog 17 #[.pointer (some ⟨r, 0, none⟩), .int .i64 1, .string d, .int .i64 0] w fun e w' => e = .returned (.int .i64 c) ∧ RMoved w w' r x' := by
  unfold FD.add at hc
  cases hd : x.down
  · rw [hd] at hc
    simp only [Bool.false_eq_true, if_false] at hc
    by_cases hf : x.fuse = 1
    · have hb : x.burns = true := by simp [FD.burns, hf]
      rw [hb] at hc
      simp only [if_true, Prod.mk.injEq] at hc
      obtain ⟨rfl, rfl⟩ := hc
      rcases keep3 hg with hk | hk | hk
      · have := ref_crash1_0 r x d 0 w h hd hf hk hr trivial _ rfl
        simpa [FD.burn, FD.kept, hf, hk] using this
      · have := ref_crash1_1 r x d 0 w h hd hf hk hr trivial _ rfl
        simpa [FD.burn, FD.kept, hf, hk] using this
      · have := ref_crash1_2 r x d 0 w h hd hf hk hr trivial _ rfl
        simpa [FD.burn, FD.kept, hf, hk] using this
    · have hb : x.burns = false := by simp [FD.burns, hf]
      rw [hb] at hc
      simp only [Bool.false_eq_true, if_false, Prod.mk.injEq] at hc
      obtain ⟨rfl, rfl⟩ := hc
      have e : FD.burn ⟨x.safe, x.loose ++ d.data.toList, x.fuse, x.keep, false⟩ = ⟨x.safe, x.loose ++ d.data.toList, x.fuse - 1, x.keep, x.down⟩ := by simp [FD.burn, hf, hd]
      rw [e]
      by_cases h0 : x.fuse = 0
      · exact ref_none1 r x d 0 w h hd h0 hr
      · exact ref_more1 r x d 0 w h hd ⟨by omega, hg.1⟩ hr
  · rw [hd] at hc
    simp only [if_true, Prod.mk.injEq] at hc
    obtain ⟨rfl, rfl⟩ := hc
    refine (ref_down r x 1 d 0 w h hd).mono ?_
    rintro e w' ⟨rfl, rfl⟩
    exact ⟨rfl, h, Kept.refl _ _⟩

theorem rs_sync (h : RefAt w r x) (hg : Good x) (hr : Room x) (d : ByteArray) (hc : x.sync = (c, x')) :
    Calls Try.prog 17 #[.pointer (some ⟨r, 0, none⟩), .int .i64 2, .string d, .int .i64 0] w fun e w' => e = .returned (.int .i64 c) ∧ RMoved w w' r x' := by
  unfold FD.sync at hc
  cases hd : x.down
  · rw [hd] at hc
    simp only [Bool.false_eq_true, if_false] at hc
    by_cases hf : x.fuse = 1
    · have hb : x.burns = true := by simp [FD.burns, hf]
      rw [hb] at hc
      simp only [if_true, Prod.mk.injEq] at hc
      obtain ⟨rfl, rfl⟩ := hc
      rcases keep3 hg with hk | hk | hk
      · have := ref_crash2_0 r x d 0 w h hd hf hk hr trivial _ rfl
        simpa [FD.burn, FD.kept, hf, hk] using this
      · have := ref_crash2_1 r x d 0 w h hd hf hk hr trivial _ rfl
        simpa [FD.burn, FD.kept, hf, hk] using this
      · have := ref_crash2_2 r x d 0 w h hd hf hk hr trivial _ rfl
        simpa [FD.burn, FD.kept, hf, hk] using this
    · have hb : x.burns = false := by simp [FD.burns, hf]
      rw [hb] at hc
      simp only [Bool.false_eq_true, if_false, Prod.mk.injEq] at hc
      obtain ⟨rfl, rfl⟩ := hc
      rw [← hd]
      by_cases h0 : x.fuse = 0
      · exact ref_none2 r x d 0 w h hd h0 hr
      · exact ref_more2 r x d 0 w h hd ⟨by omega, hg.1⟩ hr
  · rw [hd] at hc
    simp only [if_true, Prod.mk.injEq] at hc
    obtain ⟨rfl, rfl⟩ := hc
    refine (ref_down r x 2 d 0 w h hd).mono ?_
    rintro e w' ⟨rfl, rfl⟩
    exact ⟨rfl, h, Kept.refl _ _⟩

theorem rs_cut (h : RefAt w r x) (hg : Good x) (hr : Room x) (d : ByteArray) (n : Int) (hc : x.cut n = (c, x')) :
    Calls Try.prog 17 #[.pointer (some ⟨r, 0, none⟩), .int .i64 3, .string d, .int .i64 n] w fun e w' => e = .returned (.int .i64 c) ∧ RMoved w w' r x' := by
  unfold FD.cut at hc
  cases hd : x.down
  · rw [hd] at hc
    simp only [Bool.false_eq_true, if_false] at hc
    by_cases hbad : n < 0 ∨ (x.safe.length : Int) + x.loose.length < n
    · rw [if_pos hbad] at hc
      simp only [Prod.mk.injEq] at hc
      obtain ⟨rfl, rfl⟩ := hc
      refine (ref_bad r x d n w h hd hbad).mono ?_
      rintro e w' ⟨rfl, rfl⟩
      exact ⟨rfl, h, Kept.refl _ _⟩
    rw [if_neg hbad] at hc
    have hin : 0 ≤ n ∧ n ≤ (x.safe.length : Int) + x.loose.length := by omega
    by_cases hf : x.fuse = 1
    · have hb : x.burns = true := by simp [FD.burns, hf]
      rw [hb] at hc
      simp only [if_true, Prod.mk.injEq] at hc
      obtain ⟨rfl, rfl⟩ := hc
      rcases keep3 hg with hk | hk | hk
      · have := ref_crash3_0 r x d n w h hd hf hk hr hin _ rfl
        simpa [FD.burn, FD.kept, hf, hk] using this
      · have := ref_crash3_1 r x d n w h hd hf hk hr hin _ rfl
        simpa [FD.burn, FD.kept, hf, hk] using this
      · have := ref_crash3_2 r x d n w h hd hf hk hr hin _ rfl
        simpa [FD.burn, FD.kept, hf, hk] using this
    · have hb : x.burns = false := by simp [FD.burns, hf]
      rw [hb] at hc
      simp only [Bool.false_eq_true, if_false, Prod.mk.injEq] at hc
      obtain ⟨rfl, rfl⟩ := hc
      rw [← hd]
      by_cases h0 : x.fuse = 0
      · exact ref_none3 r x d n w h hd h0 ⟨hin.1, hin.2, hr⟩
      · exact ref_more3 r x d n w h hd ⟨by omega, hg.1⟩ ⟨hin.1, hin.2, hr⟩
  · rw [hd] at hc
    simp only [if_true, Prod.mk.injEq] at hc
    obtain ⟨rfl, rfl⟩ := hc
    refine (ref_down r x 3 d n w h hd).mono ?_
    rintro e w' ⟨rfl, rfl⟩
    exact ⟨rfl, h, Kept.refl _ _⟩

theorem rs_arm (h : RefAt w r x) (o k : Int) (hc : x.arm o k = (c, x')) :
    Calls Try.prog 18 #[.pointer (some ⟨r, 0, none⟩), .int .i64 o, .int .i64 k] w fun e w' => e = .returned (.int .i64 c) ∧ RMoved w w' r x' := by
  unfold FD.arm at hc
  by_cases hb : o < 1 ∨ 65536 < o ∨ k < 0 ∨ 2 < k
  · rw [if_pos hb] at hc
    simp only [Prod.mk.injEq] at hc
    obtain ⟨rfl, rfl⟩ := hc
    refine (ref_arm_bad r o k w hb).mono ?_
    rintro e w' ⟨rfl, rfl⟩
    exact ⟨rfl, h, Kept.refl _ _⟩
  · rw [if_neg hb] at hc
    obtain ⟨o', rfl⟩ : ∃ m : Nat, o = m := ⟨o.toNat, by omega⟩
    obtain ⟨k', rfl⟩ : ∃ m : Nat, k = m := ⟨k.toNat, by omega⟩
    simp only [Prod.mk.injEq, Int.toNat_natCast] at hc
    obtain ⟨rfl, rfl⟩ := hc
    exact ref_arm_ok r x o' k' w h (by omega) (by omega) (by omega)
end

/-- The two files of the law, and the copy of the operation at block b. -/
structure Duo (w0 w : World) (p : Nat) (F : Nat → Prop) (r b : Nat) (cs : Array Value) (x y : FD) : Prop where
  st : St w0 w p F x
  rf : RefAt w r y
  out : ¬ F r
  base : w0.heap.size ≤ r
  blk : w.heap[b]? = some (.cells cs 39 (0, 0))
  bout : ¬ F b
  ne : b ≠ r

theorem St.keptR {w0 w w' : World} {p r : Nat} {F : Nat → Prop} {x : FD} (h : St w0 w p F x) (hk : Kept w w' (fun k => k = r)) (hr : ¬ F r) (hb : w0.heap.size ≤ r) : St w0 w' p F x :=
  ⟨h.1.kept hk (fun k hk hkr => hr (hkr ▸ hk)), h.2.1.trans (hk.below (fun k hk => by rw [hk]; exact hb) h.2.1.size), h.2.2⟩

theorem Duo.file {w0 w w' : World} {p r b : Nat} {F : Nat → Prop} {cs : Array Value} {x y x' : FD} (h : Duo w0 w p F r b cs x y) (hn : Next w0 w w' p F x') : ∃ F', Duo w0 w' p F' r b cs x' y := by
  obtain ⟨F', st, hF, hk⟩ := hn
  exact ⟨F', st, h.rf.kept hk h.out, fun hr => (hF r hr).elim h.out (fun hl => by have := h.rf.lt; omega), h.base, hk.blk h.blk h.bout,
    fun hr => (hF b hr).elim h.bout (fun hl => by have := blk_lt h.blk; omega), h.ne⟩
theorem Duo.ref {w0 w w' : World} {p r b : Nat} {F : Nat → Prop} {cs : Array Value} {x y y' : FD} (h : Duo w0 w p F r b cs x y) (hn : RMoved w w' r y') : Duo w0 w' p F r b cs x y' :=
  ⟨h.st.keptR hn.2 h.out h.base, hn.1, h.out, h.base, hn.2.blk h.blk (fun e => h.ne e), h.bout, h.ne⟩
theorem Duo.drew {w0 w : World} {p r b : Nat} {F : Nat → Prop} {cs : Array Value} {x y : FD} (h : Duo w0 w p F r b cs x y) : Duo w0 w.drew p F r b cs x y :=
  ⟨h.st.drewN 1, h.rf, h.out, h.base, h.blk, h.bout, h.ne⟩
def FD.size (x : FD) : Nat := x.safe.length + x.loose.length
theorem burn_size (x : FD) : x.burn.size ≤ x.size := by
  unfold FD.burn FD.size
  split
  · simp; have := List.length_take_le x.kept x.loose; omega
  · exact Nat.le_refl _
theorem add_size {x x' : FD} {d : List UInt8} {c : Int} (h : x.add d = (c, x')) : x'.size ≤ x.size + d.length := by
  unfold FD.add at h
  split at h
  · simp only [Prod.mk.injEq] at h; rw [← h.2]; omega
  · simp only [Prod.mk.injEq] at h; rw [← h.2]
    refine Nat.le_trans (burn_size _) ?_
    unfold FD.size; simp; omega
theorem sync_size {x x' : FD} {c : Int} (h : x.sync = (c, x')) : x'.size ≤ x.size := by
  unfold FD.sync at h
  split at h
  · simp only [Prod.mk.injEq] at h; rw [← h.2]; exact Nat.le_refl _
  · split at h
    · simp only [Prod.mk.injEq] at h; rw [← h.2]; exact burn_size x
    · simp only [Prod.mk.injEq] at h; rw [← h.2]; unfold FD.size; simp
theorem cut_size {x x' : FD} {c n : Int} (h : x.cut n = (c, x')) : x'.size ≤ x.size := by
  unfold FD.cut at h
  split at h
  · simp only [Prod.mk.injEq] at h; rw [← h.2]; exact Nat.le_refl _
  · split at h
    · simp only [Prod.mk.injEq] at h; rw [← h.2]; exact Nat.le_refl _
    · split at h
      · simp only [Prod.mk.injEq] at h; rw [← h.2]; exact burn_size x
      · simp only [Prod.mk.injEq] at h; rw [← h.2]; unfold FD.size; simp; omega
theorem arm_size {x x' : FD} {c o k : Int} (h : x.arm o k = (c, x')) : x'.size ≤ x.size := by
  unfold FD.arm at h
  split at h
  · simp only [Prod.mk.injEq] at h; rw [← h.2]; exact Nat.le_refl _
  · simp only [Prod.mk.injEq] at h; rw [← h.2]; exact Nat.le_refl _
theorem restart_size (x : FD) : x.restart.size ≤ x.size := by
  unfold FD.restart FD.size
  cases x.down <;> simp
theorem read_of {w : World} {r : Nat} {x : FD} (h : RefAt w r x) (hd : x.down = false) : ∃ Al : ByteArray, x.read = (Al.data.toList, 0) ∧ w.cell? ⟨r, 0, none⟩ = some (.string Al) ∧ w.cell? ⟨r, 4, none⟩ = some (.bool false) := by
  obtain ⟨Al, h1, h2, hb⟩ := h
  refine ⟨Al, by simp [FD.read, hd, h1], ?_, ?_⟩
  · have := cellOf (j := 0) hb; simpa using this
  · have := cellOf (j := 4) hb; simpa [hd] using this
theorem down_of {w : World} {r : Nat} {x : FD} (h : RefAt w r x) (hd : x.down = true) : x.read = ([], 170) ∧ w.cell? ⟨r, 4, none⟩ = some (.bool true) := by
  obtain ⟨Al, h1, h2, hb⟩ := h
  refine ⟨by simp [FD.read, hd], ?_⟩
  have := cellOf (j := 4) hb; simpa [hd] using this

/-- What a step of the law leaves. -/
def After (w0 w' : World) (p r : Nat) (m : Nat) : Prop := ∃ F' x', St w0 w' p F' x' ∧ RefAt w' r x' ∧ ¬ F' r ∧ x'.size ≤ m

set_option maxHeartbeats 3200000 in
theorem step_1 (w0 w : World) (p r : Nat) (F : Nat → Prop) (x : FD) (kd n kp : Int) (d : ByteArray)  (hs : St w0 w p F x) (hr : RefAt w r x) (ho : ¬ F r) (hb : w0.heap.size ≤ r) (hz : x.size + d.size ≤ 100000) :
    Calls Try.prog 14 #[.pointer (some ⟨p, 0, none⟩), .pointer (some ⟨r, 0, none⟩), .agg #[.int .i64 1, .int .i64 n, .int .i64 kp, .string d]] w fun e w' => e = .returned (.bool true) ∧ After w0 w' p r (x.size + d.size) := by
  obtain ⟨B, hB⟩ : ∃ B, w.heap.size = B := ⟨_, rfl⟩
  have D1 : Hid (Duo w0 (w.alloc (.cells #[.int .i64 1, .int .i64 n, .int .i64 kp, .string d] 39)) p F r B #[.int .i64 1, .int .i64 n, .int .i64 kp, .string d] x x) := by
    refine Lib.hid ?_
    have hk := (Kept.refl w (fun _ => False)).alloc (.cells #[.int .i64 1, .int .i64 n, .int .i64 kp, .string d] 39)
    subst hB
    exact ⟨⟨hs.1.kept hk (fun _ _ h => h), hs.2.1.trans (hk.below (fun _ h => h.elim) hs.2.1.size), hs.2.2⟩, hr.kept hk (fun h => h), ho, hb, heap_alloc_new w _, fun h => by have := hs.1.lt _ h; omega, by have := hr.lt; omega⟩
  have RM := Lib.hid (show Room { x with loose := x.loose ++ d.data.toList } by unfold Room; unfold FD.size at hz; simp only [List.length_append, len_data]; omega)
  have HR := Lib.hid hs.2.2.2
  have HG := Lib.hid hs.2.2.1
  obtain ⟨c, x', hc⟩ : ∃ c x', x.add d.data.toList = (c, x') := ⟨_, _, rfl⟩
  have HC := Lib.hid hc
  clear hc
  have hc0 := cellOf (j := 0) D1.out.blk
  simp at hc0
  clear hs hr ho hb hz
  go_enter Try.func14, Try.ntmps14
  go_wp2_with (fail)
  refine wp_region_lex (fun w' => w'.cell? ⟨B, 3, none⟩ = some (.string d)) [0, 0, 0, 2, 0, 0, 0, 2, 0, 0] (by kernel_rfl) (by kernel_rfl) (by kernel_rfl) (by have E0 := D1.out.blk; have E1 := cellOf (j := 1) E0; have E2 := cellOf (j := 2) E0; have E3 := cellOf (j := 3) E0; simp at E1 E2 E3; simp [E1, E2, E3]) (fun Q' hQ' => ?_)
  simp only [List.zip_cons_cons, List.zip_nil_right]
  repeat (first
    | (refine wpX_light rfl (fun K hK => ?_)
       apply Exists.intro
       refine ⟨fun w' hw' => ?_, ?_⟩
       · try dsimp only at hw'
         go_simp
         exact ⟨rfl, rfl⟩
       go_simp
       refine hK _ _ ?_
       clear hK K)
    | (refine wpX_read rfl (fun K hK => ?_)
       apply Exists.intro
       refine ⟨?_, ?_⟩
       · go_simp
         exact ⟨rfl, rfl⟩
       go_simp
       refine hK _ _ ?_
       clear hK K)
    | (refine wpX_not rfl (fun K hK => ?_)
       go_simp
       refine hK _ _ ?_
       clear hK K)
    | (refine wpX_light_g rfl (fun K hK => ?_)
       apply Exists.intro
       refine ⟨fun w' hw' => ?_, ?_⟩
       · try dsimp only at hw'
         go_simp
         exact ⟨rfl, rfl⟩
       go_simp
       refine hK _ _ ?_
       clear hK K)
    | (refine wpX_read_g rfl (fun K hK => ?_)
       apply Exists.intro
       refine ⟨?_, ?_⟩
       · go_simp
         exact ⟨rfl, rfl⟩
       go_simp
       refine hK _ _ ?_
       clear hK K))
  refine wpX_heavy rfl (fun K hK => ?_)
  go_wp2_with (fail)
  refine (st_add D1.out.drew.st d RM.out HC.out).mono ?_
  rintro e w2 ⟨rfl, hn⟩
  obtain ⟨F2, d2⟩ := D1.out.drew.file hn
  have D2 := Lib.hid d2
  clear hn d2
  go_simp
  refine hK _ _ ⟨rfl, by have E0 := D2.out.blk; have E1 := cellOf (j := 1) E0; have E2 := cellOf (j := 2) E0; have E3 := cellOf (j := 3) E0; simp at E1 E2 E3; simp [E1, E2, E3], ?_⟩
  clear hK K
  repeat (first
    | (refine wpX_light rfl (fun K hK => ?_)
       apply Exists.intro
       refine ⟨fun w' hw' => ?_, ?_⟩
       · try dsimp only at hw'
         go_simp
         exact ⟨rfl, rfl⟩
       go_simp
       refine hK _ _ ?_
       clear hK K)
    | (refine wpX_read rfl (fun K hK => ?_)
       apply Exists.intro
       refine ⟨?_, ?_⟩
       · go_simp
         exact ⟨rfl, rfl⟩
       go_simp
       refine hK _ _ ?_
       clear hK K)
    | (refine wpX_not rfl (fun K hK => ?_)
       go_simp
       refine hK _ _ ?_
       clear hK K)
    | (refine wpX_light_g rfl (fun K hK => ?_)
       apply Exists.intro
       refine ⟨fun w' hw' => ?_, ?_⟩
       · try dsimp only at hw'
         go_simp
         exact ⟨rfl, rfl⟩
       go_simp
       refine hK _ _ ?_
       clear hK K)
    | (refine wpX_read_g rfl (fun K hK => ?_)
       apply Exists.intro
       refine ⟨?_, ?_⟩
       · go_simp
         exact ⟨rfl, rfl⟩
       go_simp
       refine hK _ _ ?_
       clear hK K))
  refine wpX_heavy rfl (fun K hK => ?_)
  go_wp2_with (fail)
  refine (rs_add D2.out.rf HG.out d RM.out HC.out).mono ?_
  rintro e w3 ⟨rfl, hn⟩
  have D3 := Lib.hid (D2.out.ref hn)
  clear hn
  go_simp
  refine hK _ _ ⟨rfl, by have E0 := D3.out.blk; have E1 := cellOf (j := 1) E0; have E2 := cellOf (j := 2) E0; have E3 := cellOf (j := 3) E0; simp at E1 E2 E3; simp [E1, E2, E3], ?_⟩
  clear hK K
  repeat (first
    | (refine wpX_light rfl (fun K hK => ?_)
       apply Exists.intro
       refine ⟨fun w' hw' => ?_, ?_⟩
       · try dsimp only at hw'
         go_simp
         exact ⟨rfl, rfl⟩
       go_simp
       refine hK _ _ ?_
       clear hK K)
    | (refine wpX_read rfl (fun K hK => ?_)
       apply Exists.intro
       refine ⟨?_, ?_⟩
       · go_simp
         exact ⟨rfl, rfl⟩
       go_simp
       refine hK _ _ ?_
       clear hK K)
    | (refine wpX_not rfl (fun K hK => ?_)
       go_simp
       refine hK _ _ ?_
       clear hK K)
    | (refine wpX_light_g rfl (fun K hK => ?_)
       apply Exists.intro
       refine ⟨fun w' hw' => ?_, ?_⟩
       · try dsimp only at hw'
         go_simp
         exact ⟨rfl, rfl⟩
       go_simp
       refine hK _ _ ?_
       clear hK K)
    | (refine wpX_read_g rfl (fun K hK => ?_)
       apply Exists.intro
       refine ⟨?_, ?_⟩
       · go_simp
         exact ⟨rfl, rfl⟩
       go_simp
       refine hK _ _ ?_
       clear hK K))
  refine wpX_nil (hQ' _ _ ?_)
  go_wp2_with (fail)
  cases hd : x'.down
  · obtain ⟨Al, r1, r2, r3⟩ := read_of D3.out.rf hd
    have R1 := Lib.hid r1
    have R2 := Lib.hid r2
    have R3 := Lib.hid r3
    clear r1 r2 r3 hd
    refine (st_read D3.out.st R1.out).mono ?_
    rw [mk_data]
    rintro e w4 ⟨rfl, F4, s4, hF4, k4⟩
    have S4 := Lib.hid s4
    have c0 := (World.cell?_of_block (a := ⟨r, 0, none⟩) (k4.block r D3.out.rf.lt D3.out.out)).trans R2.out
    have c4 := (World.cell?_of_block (a := ⟨r, 4, none⟩) (k4.block r D3.out.rf.lt D3.out.out)).trans R3.out
    have rf4 := Lib.hid (D3.out.rf.kept k4 D3.out.out)
    have out4 := Lib.hid (show ¬ F4 r from fun h => (hF4 r h).elim D3.out.out (fun hl => by have := D3.out.rf.lt; omega))
    clear s4 hF4 k4
    go_wp2
    go_ret
    exact ⟨rfl, F4, x', S4.out, rf4.out, out4.out, (by have := add_size HC.out; rw [len_data] at this; omega)⟩
  · obtain ⟨r1, r3⟩ := down_of D3.out.rf hd
    have R1 := Lib.hid r1
    have R3 := Lib.hid r3
    clear r1 r3 hd
    refine (st_read D3.out.st R1.out).mono ?_
    rintro e w4 ⟨rfl, F4, s4, hF4, k4⟩
    have S4 := Lib.hid s4
    have c4 := (World.cell?_of_block (a := ⟨r, 4, none⟩) (k4.block r D3.out.rf.lt D3.out.out)).trans R3.out
    have rf4 := Lib.hid (D3.out.rf.kept k4 D3.out.out)
    have out4 := Lib.hid (show ¬ F4 r from fun h => (hF4 r h).elim D3.out.out (fun hl => by have := D3.out.rf.lt; omega))
    clear s4 hF4 k4
    go_wp2
    go_ret
    exact ⟨rfl, F4, x', S4.out, rf4.out, out4.out, (by have := add_size HC.out; rw [len_data] at this; omega)⟩

set_option maxHeartbeats 3200000 in
theorem step_2 (w0 w : World) (p r : Nat) (F : Nat → Prop) (x : FD) (kd n kp : Int) (d : ByteArray)  (hs : St w0 w p F x) (hr : RefAt w r x) (ho : ¬ F r) (hb : w0.heap.size ≤ r) (hz : x.size + d.size ≤ 100000) :
    Calls Try.prog 14 #[.pointer (some ⟨p, 0, none⟩), .pointer (some ⟨r, 0, none⟩), .agg #[.int .i64 2, .int .i64 n, .int .i64 kp, .string d]] w fun e w' => e = .returned (.bool true) ∧ After w0 w' p r (x.size + d.size) := by
  obtain ⟨B, hB⟩ : ∃ B, w.heap.size = B := ⟨_, rfl⟩
  have D1 : Hid (Duo w0 (w.alloc (.cells #[.int .i64 2, .int .i64 n, .int .i64 kp, .string d] 39)) p F r B #[.int .i64 2, .int .i64 n, .int .i64 kp, .string d] x x) := by
    refine Lib.hid ?_
    have hk := (Kept.refl w (fun _ => False)).alloc (.cells #[.int .i64 2, .int .i64 n, .int .i64 kp, .string d] 39)
    subst hB
    exact ⟨⟨hs.1.kept hk (fun _ _ h => h), hs.2.1.trans (hk.below (fun _ h => h.elim) hs.2.1.size), hs.2.2⟩, hr.kept hk (fun h => h), ho, hb, heap_alloc_new w _, fun h => by have := hs.1.lt _ h; omega, by have := hr.lt; omega⟩
  have RM := Lib.hid (show Room { x with loose := x.loose ++ d.data.toList } by unfold Room; unfold FD.size at hz; simp only [List.length_append, len_data]; omega)
  have HR := Lib.hid hs.2.2.2
  have HG := Lib.hid hs.2.2.1
  obtain ⟨c, x', hc⟩ : ∃ c x', x.sync = (c, x') := ⟨_, _, rfl⟩
  have HC := Lib.hid hc
  clear hc
  have hc0 := cellOf (j := 0) D1.out.blk
  simp at hc0
  clear hs hr ho hb hz
  go_enter Try.func14, Try.ntmps14
  go_wp2_with (fail)
  refine (st_sync D1.out.st HC.out).mono ?_
  rintro e w2 ⟨rfl, hn⟩
  obtain ⟨F2, d2⟩ := D1.out.file hn
  have D2 := Lib.hid d2
  clear hn d2
  go_wp2_with (fail)
  refine (rs_sync D2.out.rf HG.out HR.out _ HC.out).mono ?_
  rintro e w3 ⟨rfl, hn⟩
  have D3 := Lib.hid (D2.out.ref hn)
  clear hn
  go_wp2_with (fail)
  cases hd : x'.down
  · obtain ⟨Al, r1, r2, r3⟩ := read_of D3.out.rf hd
    have R1 := Lib.hid r1
    have R2 := Lib.hid r2
    have R3 := Lib.hid r3
    clear r1 r2 r3 hd
    refine (st_read D3.out.st R1.out).mono ?_
    rw [mk_data]
    rintro e w4 ⟨rfl, F4, s4, hF4, k4⟩
    have S4 := Lib.hid s4
    have c0 := (World.cell?_of_block (a := ⟨r, 0, none⟩) (k4.block r D3.out.rf.lt D3.out.out)).trans R2.out
    have c4 := (World.cell?_of_block (a := ⟨r, 4, none⟩) (k4.block r D3.out.rf.lt D3.out.out)).trans R3.out
    have rf4 := Lib.hid (D3.out.rf.kept k4 D3.out.out)
    have out4 := Lib.hid (show ¬ F4 r from fun h => (hF4 r h).elim D3.out.out (fun hl => by have := D3.out.rf.lt; omega))
    clear s4 hF4 k4
    go_wp2
    go_ret
    exact ⟨rfl, F4, x', S4.out, rf4.out, out4.out, (by have := sync_size HC.out; omega)⟩
  · obtain ⟨r1, r3⟩ := down_of D3.out.rf hd
    have R1 := Lib.hid r1
    have R3 := Lib.hid r3
    clear r1 r3 hd
    refine (st_read D3.out.st R1.out).mono ?_
    rintro e w4 ⟨rfl, F4, s4, hF4, k4⟩
    have S4 := Lib.hid s4
    have c4 := (World.cell?_of_block (a := ⟨r, 4, none⟩) (k4.block r D3.out.rf.lt D3.out.out)).trans R3.out
    have rf4 := Lib.hid (D3.out.rf.kept k4 D3.out.out)
    have out4 := Lib.hid (show ¬ F4 r from fun h => (hF4 r h).elim D3.out.out (fun hl => by have := D3.out.rf.lt; omega))
    clear s4 hF4 k4
    go_wp2
    go_ret
    exact ⟨rfl, F4, x', S4.out, rf4.out, out4.out, (by have := sync_size HC.out; omega)⟩

set_option maxHeartbeats 3200000 in
theorem step_3 (w0 w : World) (p r : Nat) (F : Nat → Prop) (x : FD) (kd n kp : Int) (d : ByteArray)  (hs : St w0 w p F x) (hr : RefAt w r x) (ho : ¬ F r) (hb : w0.heap.size ≤ r) (hz : x.size + d.size ≤ 100000) :
    Calls Try.prog 14 #[.pointer (some ⟨p, 0, none⟩), .pointer (some ⟨r, 0, none⟩), .agg #[.int .i64 3, .int .i64 n, .int .i64 kp, .string d]] w fun e w' => e = .returned (.bool true) ∧ After w0 w' p r (x.size + d.size) := by
  obtain ⟨B, hB⟩ : ∃ B, w.heap.size = B := ⟨_, rfl⟩
  have D1 : Hid (Duo w0 (w.alloc (.cells #[.int .i64 3, .int .i64 n, .int .i64 kp, .string d] 39)) p F r B #[.int .i64 3, .int .i64 n, .int .i64 kp, .string d] x x) := by
    refine Lib.hid ?_
    have hk := (Kept.refl w (fun _ => False)).alloc (.cells #[.int .i64 3, .int .i64 n, .int .i64 kp, .string d] 39)
    subst hB
    exact ⟨⟨hs.1.kept hk (fun _ _ h => h), hs.2.1.trans (hk.below (fun _ h => h.elim) hs.2.1.size), hs.2.2⟩, hr.kept hk (fun h => h), ho, hb, heap_alloc_new w _, fun h => by have := hs.1.lt _ h; omega, by have := hr.lt; omega⟩
  have RM := Lib.hid (show Room { x with loose := x.loose ++ d.data.toList } by unfold Room; unfold FD.size at hz; simp only [List.length_append, len_data]; omega)
  have HR := Lib.hid hs.2.2.2
  have HG := Lib.hid hs.2.2.1
  obtain ⟨c, x', hc⟩ : ∃ c x', x.cut n = (c, x') := ⟨_, _, rfl⟩
  have HC := Lib.hid hc
  clear hc
  have hc0 := cellOf (j := 0) D1.out.blk
  simp at hc0
  clear hs hr ho hb hz
  go_enter Try.func14, Try.ntmps14
  go_wp2_with (fail)
  refine wp_region_lex (fun w' => w'.cell? ⟨B, 1, none⟩ = some (.int .i64 n)) [0, 0, 0, 2, 0, 0, 0, 2, 0, 0] (by kernel_rfl) (by kernel_rfl) (by kernel_rfl) (by have E0 := D1.out.blk; have E1 := cellOf (j := 1) E0; have E2 := cellOf (j := 2) E0; have E3 := cellOf (j := 3) E0; simp at E1 E2 E3; simp [E1, E2, E3]) (fun Q' hQ' => ?_)
  simp only [List.zip_cons_cons, List.zip_nil_right]
  repeat (first
    | (refine wpX_light rfl (fun K hK => ?_)
       apply Exists.intro
       refine ⟨fun w' hw' => ?_, ?_⟩
       · try dsimp only at hw'
         go_simp
         exact ⟨rfl, rfl⟩
       go_simp
       refine hK _ _ ?_
       clear hK K)
    | (refine wpX_read rfl (fun K hK => ?_)
       apply Exists.intro
       refine ⟨?_, ?_⟩
       · go_simp
         exact ⟨rfl, rfl⟩
       go_simp
       refine hK _ _ ?_
       clear hK K)
    | (refine wpX_not rfl (fun K hK => ?_)
       go_simp
       refine hK _ _ ?_
       clear hK K)
    | (refine wpX_light_g rfl (fun K hK => ?_)
       apply Exists.intro
       refine ⟨fun w' hw' => ?_, ?_⟩
       · try dsimp only at hw'
         go_simp
         exact ⟨rfl, rfl⟩
       go_simp
       refine hK _ _ ?_
       clear hK K)
    | (refine wpX_read_g rfl (fun K hK => ?_)
       apply Exists.intro
       refine ⟨?_, ?_⟩
       · go_simp
         exact ⟨rfl, rfl⟩
       go_simp
       refine hK _ _ ?_
       clear hK K))
  refine wpX_heavy rfl (fun K hK => ?_)
  go_wp2_with (fail)
  refine (st_cut D1.out.drew.st n HC.out).mono ?_
  rintro e w2 ⟨rfl, hn⟩
  obtain ⟨F2, d2⟩ := D1.out.drew.file hn
  have D2 := Lib.hid d2
  clear hn d2
  go_simp
  refine hK _ _ ⟨rfl, by have E0 := D2.out.blk; have E1 := cellOf (j := 1) E0; have E2 := cellOf (j := 2) E0; have E3 := cellOf (j := 3) E0; simp at E1 E2 E3; simp [E1, E2, E3], ?_⟩
  clear hK K
  repeat (first
    | (refine wpX_light rfl (fun K hK => ?_)
       apply Exists.intro
       refine ⟨fun w' hw' => ?_, ?_⟩
       · try dsimp only at hw'
         go_simp
         exact ⟨rfl, rfl⟩
       go_simp
       refine hK _ _ ?_
       clear hK K)
    | (refine wpX_read rfl (fun K hK => ?_)
       apply Exists.intro
       refine ⟨?_, ?_⟩
       · go_simp
         exact ⟨rfl, rfl⟩
       go_simp
       refine hK _ _ ?_
       clear hK K)
    | (refine wpX_not rfl (fun K hK => ?_)
       go_simp
       refine hK _ _ ?_
       clear hK K)
    | (refine wpX_light_g rfl (fun K hK => ?_)
       apply Exists.intro
       refine ⟨fun w' hw' => ?_, ?_⟩
       · try dsimp only at hw'
         go_simp
         exact ⟨rfl, rfl⟩
       go_simp
       refine hK _ _ ?_
       clear hK K)
    | (refine wpX_read_g rfl (fun K hK => ?_)
       apply Exists.intro
       refine ⟨?_, ?_⟩
       · go_simp
         exact ⟨rfl, rfl⟩
       go_simp
       refine hK _ _ ?_
       clear hK K))
  refine wpX_heavy rfl (fun K hK => ?_)
  go_wp2_with (fail)
  refine (rs_cut D2.out.rf HG.out HR.out _ n HC.out).mono ?_
  rintro e w3 ⟨rfl, hn⟩
  have D3 := Lib.hid (D2.out.ref hn)
  clear hn
  go_simp
  refine hK _ _ ⟨rfl, by have E0 := D3.out.blk; have E1 := cellOf (j := 1) E0; have E2 := cellOf (j := 2) E0; have E3 := cellOf (j := 3) E0; simp at E1 E2 E3; simp [E1, E2, E3], ?_⟩
  clear hK K
  repeat (first
    | (refine wpX_light rfl (fun K hK => ?_)
       apply Exists.intro
       refine ⟨fun w' hw' => ?_, ?_⟩
       · try dsimp only at hw'
         go_simp
         exact ⟨rfl, rfl⟩
       go_simp
       refine hK _ _ ?_
       clear hK K)
    | (refine wpX_read rfl (fun K hK => ?_)
       apply Exists.intro
       refine ⟨?_, ?_⟩
       · go_simp
         exact ⟨rfl, rfl⟩
       go_simp
       refine hK _ _ ?_
       clear hK K)
    | (refine wpX_not rfl (fun K hK => ?_)
       go_simp
       refine hK _ _ ?_
       clear hK K)
    | (refine wpX_light_g rfl (fun K hK => ?_)
       apply Exists.intro
       refine ⟨fun w' hw' => ?_, ?_⟩
       · try dsimp only at hw'
         go_simp
         exact ⟨rfl, rfl⟩
       go_simp
       refine hK _ _ ?_
       clear hK K)
    | (refine wpX_read_g rfl (fun K hK => ?_)
       apply Exists.intro
       refine ⟨?_, ?_⟩
       · go_simp
         exact ⟨rfl, rfl⟩
       go_simp
       refine hK _ _ ?_
       clear hK K))
  refine wpX_nil (hQ' _ _ ?_)
  go_wp2_with (fail)
  cases hd : x'.down
  · obtain ⟨Al, r1, r2, r3⟩ := read_of D3.out.rf hd
    have R1 := Lib.hid r1
    have R2 := Lib.hid r2
    have R3 := Lib.hid r3
    clear r1 r2 r3 hd
    refine (st_read D3.out.st R1.out).mono ?_
    rw [mk_data]
    rintro e w4 ⟨rfl, F4, s4, hF4, k4⟩
    have S4 := Lib.hid s4
    have c0 := (World.cell?_of_block (a := ⟨r, 0, none⟩) (k4.block r D3.out.rf.lt D3.out.out)).trans R2.out
    have c4 := (World.cell?_of_block (a := ⟨r, 4, none⟩) (k4.block r D3.out.rf.lt D3.out.out)).trans R3.out
    have rf4 := Lib.hid (D3.out.rf.kept k4 D3.out.out)
    have out4 := Lib.hid (show ¬ F4 r from fun h => (hF4 r h).elim D3.out.out (fun hl => by have := D3.out.rf.lt; omega))
    clear s4 hF4 k4
    go_wp2
    go_ret
    exact ⟨rfl, F4, x', S4.out, rf4.out, out4.out, (by have := cut_size HC.out; omega)⟩
  · obtain ⟨r1, r3⟩ := down_of D3.out.rf hd
    have R1 := Lib.hid r1
    have R3 := Lib.hid r3
    clear r1 r3 hd
    refine (st_read D3.out.st R1.out).mono ?_
    rintro e w4 ⟨rfl, F4, s4, hF4, k4⟩
    have S4 := Lib.hid s4
    have c4 := (World.cell?_of_block (a := ⟨r, 4, none⟩) (k4.block r D3.out.rf.lt D3.out.out)).trans R3.out
    have rf4 := Lib.hid (D3.out.rf.kept k4 D3.out.out)
    have out4 := Lib.hid (show ¬ F4 r from fun h => (hF4 r h).elim D3.out.out (fun hl => by have := D3.out.rf.lt; omega))
    clear s4 hF4 k4
    go_wp2
    go_ret
    exact ⟨rfl, F4, x', S4.out, rf4.out, out4.out, (by have := cut_size HC.out; omega)⟩

set_option maxHeartbeats 3200000 in
theorem step_4 (w0 w : World) (p r : Nat) (F : Nat → Prop) (x : FD) (kd n kp : Int) (d : ByteArray)  (hs : St w0 w p F x) (hr : RefAt w r x) (ho : ¬ F r) (hb : w0.heap.size ≤ r) (hz : x.size + d.size ≤ 100000) :
    Calls Try.prog 14 #[.pointer (some ⟨p, 0, none⟩), .pointer (some ⟨r, 0, none⟩), .agg #[.int .i64 4, .int .i64 n, .int .i64 kp, .string d]] w fun e w' => e = .returned (.bool true) ∧ After w0 w' p r (x.size + d.size) := by
  obtain ⟨B, hB⟩ : ∃ B, w.heap.size = B := ⟨_, rfl⟩
  have D1 : Hid (Duo w0 (w.alloc (.cells #[.int .i64 4, .int .i64 n, .int .i64 kp, .string d] 39)) p F r B #[.int .i64 4, .int .i64 n, .int .i64 kp, .string d] x x) := by
    refine Lib.hid ?_
    have hk := (Kept.refl w (fun _ => False)).alloc (.cells #[.int .i64 4, .int .i64 n, .int .i64 kp, .string d] 39)
    subst hB
    exact ⟨⟨hs.1.kept hk (fun _ _ h => h), hs.2.1.trans (hk.below (fun _ h => h.elim) hs.2.1.size), hs.2.2⟩, hr.kept hk (fun h => h), ho, hb, heap_alloc_new w _, fun h => by have := hs.1.lt _ h; omega, by have := hr.lt; omega⟩
  have RM := Lib.hid (show Room { x with loose := x.loose ++ d.data.toList } by unfold Room; unfold FD.size at hz; simp only [List.length_append, len_data]; omega)
  have HR := Lib.hid hs.2.2.2
  have HG := Lib.hid hs.2.2.1
  obtain ⟨c, x', hc⟩ : ∃ c x', x.arm n kp = (c, x') := ⟨_, _, rfl⟩
  have HC := Lib.hid hc
  clear hc
  have hc0 := cellOf (j := 0) D1.out.blk
  simp at hc0
  clear hs hr ho hb hz
  go_enter Try.func14, Try.ntmps14
  go_wp2_with (fail)
  refine wp_region_lex (fun w' => w'.cell? ⟨B, 1, none⟩ = some (.int .i64 n) ∧ w'.cell? ⟨B, 2, none⟩ = some (.int .i64 kp)) [0, 0, 0, 0, 0, 2, 0, 0, 0, 0, 0, 2, 0, 0] (by kernel_rfl) (by kernel_rfl) (by kernel_rfl) (by have E0 := D1.out.blk; have E1 := cellOf (j := 1) E0; have E2 := cellOf (j := 2) E0; have E3 := cellOf (j := 3) E0; simp at E1 E2 E3; simp [E1, E2, E3]) (fun Q' hQ' => ?_)
  simp only [List.zip_cons_cons, List.zip_nil_right]
  repeat (first
    | (refine wpX_light rfl (fun K hK => ?_)
       apply Exists.intro
       refine ⟨fun w' hw' => ?_, ?_⟩
       · try dsimp only at hw'
         go_simp
         exact ⟨rfl, rfl⟩
       go_simp
       refine hK _ _ ?_
       clear hK K)
    | (refine wpX_read rfl (fun K hK => ?_)
       apply Exists.intro
       refine ⟨?_, ?_⟩
       · go_simp
         exact ⟨rfl, rfl⟩
       go_simp
       refine hK _ _ ?_
       clear hK K)
    | (refine wpX_not rfl (fun K hK => ?_)
       go_simp
       refine hK _ _ ?_
       clear hK K)
    | (refine wpX_light_g rfl (fun K hK => ?_)
       apply Exists.intro
       refine ⟨fun w' hw' => ?_, ?_⟩
       · try dsimp only at hw'
         go_simp
         exact ⟨rfl, rfl⟩
       go_simp
       refine hK _ _ ?_
       clear hK K)
    | (refine wpX_read_g rfl (fun K hK => ?_)
       apply Exists.intro
       refine ⟨?_, ?_⟩
       · go_simp
         exact ⟨rfl, rfl⟩
       go_simp
       refine hK _ _ ?_
       clear hK K))
  refine wpX_heavy rfl (fun K hK => ?_)
  go_wp2_with (fail)
  refine (st_arm D1.out.drew.st n kp HC.out).mono ?_
  rintro e w2 ⟨rfl, hn⟩
  obtain ⟨F2, d2⟩ := D1.out.drew.file hn
  have D2 := Lib.hid d2
  clear hn d2
  go_simp
  refine hK _ _ ⟨rfl, by have E0 := D2.out.blk; have E1 := cellOf (j := 1) E0; have E2 := cellOf (j := 2) E0; have E3 := cellOf (j := 3) E0; simp at E1 E2 E3; simp [E1, E2, E3], ?_⟩
  clear hK K
  repeat (first
    | (refine wpX_light rfl (fun K hK => ?_)
       apply Exists.intro
       refine ⟨fun w' hw' => ?_, ?_⟩
       · try dsimp only at hw'
         go_simp
         exact ⟨rfl, rfl⟩
       go_simp
       refine hK _ _ ?_
       clear hK K)
    | (refine wpX_read rfl (fun K hK => ?_)
       apply Exists.intro
       refine ⟨?_, ?_⟩
       · go_simp
         exact ⟨rfl, rfl⟩
       go_simp
       refine hK _ _ ?_
       clear hK K)
    | (refine wpX_not rfl (fun K hK => ?_)
       go_simp
       refine hK _ _ ?_
       clear hK K)
    | (refine wpX_light_g rfl (fun K hK => ?_)
       apply Exists.intro
       refine ⟨fun w' hw' => ?_, ?_⟩
       · try dsimp only at hw'
         go_simp
         exact ⟨rfl, rfl⟩
       go_simp
       refine hK _ _ ?_
       clear hK K)
    | (refine wpX_read_g rfl (fun K hK => ?_)
       apply Exists.intro
       refine ⟨?_, ?_⟩
       · go_simp
         exact ⟨rfl, rfl⟩
       go_simp
       refine hK _ _ ?_
       clear hK K))
  refine wpX_heavy rfl (fun K hK => ?_)
  go_wp2_with (fail)
  refine (rs_arm D2.out.rf n kp HC.out).mono ?_
  rintro e w3 ⟨rfl, hn⟩
  have D3 := Lib.hid (D2.out.ref hn)
  clear hn
  go_simp
  refine hK _ _ ⟨rfl, by have E0 := D3.out.blk; have E1 := cellOf (j := 1) E0; have E2 := cellOf (j := 2) E0; have E3 := cellOf (j := 3) E0; simp at E1 E2 E3; simp [E1, E2, E3], ?_⟩
  clear hK K
  repeat (first
    | (refine wpX_light rfl (fun K hK => ?_)
       apply Exists.intro
       refine ⟨fun w' hw' => ?_, ?_⟩
       · try dsimp only at hw'
         go_simp
         exact ⟨rfl, rfl⟩
       go_simp
       refine hK _ _ ?_
       clear hK K)
    | (refine wpX_read rfl (fun K hK => ?_)
       apply Exists.intro
       refine ⟨?_, ?_⟩
       · go_simp
         exact ⟨rfl, rfl⟩
       go_simp
       refine hK _ _ ?_
       clear hK K)
    | (refine wpX_not rfl (fun K hK => ?_)
       go_simp
       refine hK _ _ ?_
       clear hK K)
    | (refine wpX_light_g rfl (fun K hK => ?_)
       apply Exists.intro
       refine ⟨fun w' hw' => ?_, ?_⟩
       · try dsimp only at hw'
         go_simp
         exact ⟨rfl, rfl⟩
       go_simp
       refine hK _ _ ?_
       clear hK K)
    | (refine wpX_read_g rfl (fun K hK => ?_)
       apply Exists.intro
       refine ⟨?_, ?_⟩
       · go_simp
         exact ⟨rfl, rfl⟩
       go_simp
       refine hK _ _ ?_
       clear hK K))
  refine wpX_nil (hQ' _ _ ?_)
  go_wp2_with (fail)
  cases hd : x'.down
  · obtain ⟨Al, r1, r2, r3⟩ := read_of D3.out.rf hd
    have R1 := Lib.hid r1
    have R2 := Lib.hid r2
    have R3 := Lib.hid r3
    clear r1 r2 r3 hd
    refine (st_read D3.out.st R1.out).mono ?_
    rw [mk_data]
    rintro e w4 ⟨rfl, F4, s4, hF4, k4⟩
    have S4 := Lib.hid s4
    have c0 := (World.cell?_of_block (a := ⟨r, 0, none⟩) (k4.block r D3.out.rf.lt D3.out.out)).trans R2.out
    have c4 := (World.cell?_of_block (a := ⟨r, 4, none⟩) (k4.block r D3.out.rf.lt D3.out.out)).trans R3.out
    have rf4 := Lib.hid (D3.out.rf.kept k4 D3.out.out)
    have out4 := Lib.hid (show ¬ F4 r from fun h => (hF4 r h).elim D3.out.out (fun hl => by have := D3.out.rf.lt; omega))
    clear s4 hF4 k4
    go_wp2
    go_ret
    exact ⟨rfl, F4, x', S4.out, rf4.out, out4.out, (by have := arm_size HC.out; omega)⟩
  · obtain ⟨r1, r3⟩ := down_of D3.out.rf hd
    have R1 := Lib.hid r1
    have R3 := Lib.hid r3
    clear r1 r3 hd
    refine (st_read D3.out.st R1.out).mono ?_
    rintro e w4 ⟨rfl, F4, s4, hF4, k4⟩
    have S4 := Lib.hid s4
    have c4 := (World.cell?_of_block (a := ⟨r, 4, none⟩) (k4.block r D3.out.rf.lt D3.out.out)).trans R3.out
    have rf4 := Lib.hid (D3.out.rf.kept k4 D3.out.out)
    have out4 := Lib.hid (show ¬ F4 r from fun h => (hF4 r h).elim D3.out.out (fun hl => by have := D3.out.rf.lt; omega))
    clear s4 hF4 k4
    go_wp2
    go_ret
    exact ⟨rfl, F4, x', S4.out, rf4.out, out4.out, (by have := arm_size HC.out; omega)⟩

set_option maxHeartbeats 3200000 in
theorem step_5 (w0 w : World) (p r : Nat) (F : Nat → Prop) (x : FD) (kd n kp : Int) (d : ByteArray)  (hs : St w0 w p F x) (hr : RefAt w r x) (ho : ¬ F r) (hb : w0.heap.size ≤ r) (hz : x.size + d.size ≤ 100000) :
    Calls Try.prog 14 #[.pointer (some ⟨p, 0, none⟩), .pointer (some ⟨r, 0, none⟩), .agg #[.int .i64 5, .int .i64 n, .int .i64 kp, .string d]] w fun e w' => e = .returned (.bool true) ∧ After w0 w' p r (x.size + d.size) := by
  obtain ⟨B, hB⟩ : ∃ B, w.heap.size = B := ⟨_, rfl⟩
  have D1 : Hid (Duo w0 (w.alloc (.cells #[.int .i64 5, .int .i64 n, .int .i64 kp, .string d] 39)) p F r B #[.int .i64 5, .int .i64 n, .int .i64 kp, .string d] x x) := by
    refine Lib.hid ?_
    have hk := (Kept.refl w (fun _ => False)).alloc (.cells #[.int .i64 5, .int .i64 n, .int .i64 kp, .string d] 39)
    subst hB
    exact ⟨⟨hs.1.kept hk (fun _ _ h => h), hs.2.1.trans (hk.below (fun _ h => h.elim) hs.2.1.size), hs.2.2⟩, hr.kept hk (fun h => h), ho, hb, heap_alloc_new w _, fun h => by have := hs.1.lt _ h; omega, by have := hr.lt; omega⟩
  have RM := Lib.hid (show Room { x with loose := x.loose ++ d.data.toList } by unfold Room; unfold FD.size at hz; simp only [List.length_append, len_data]; omega)
  have HR := Lib.hid hs.2.2.2
  have HG := Lib.hid hs.2.2.1
  obtain ⟨x', hx⟩ : ∃ x', x.restart = x' := ⟨_, rfl⟩
  have HC := Lib.hid hx
  clear hx
  have hc0 := cellOf (j := 0) D1.out.blk
  simp at hc0
  clear hs hr ho hb hz
  go_enter Try.func14, Try.ntmps14
  go_wp2_with (fail)
  refine (st_restart D1.out.st HC.out).mono ?_
  rintro e w2 ⟨rfl, hn⟩
  obtain ⟨F2, d2⟩ := D1.out.file hn
  have D2 := Lib.hid d2
  clear hn d2
  go_wp2_with (fail)
  refine (ref_restart r x _ D2.out.rf HR.out).mono ?_
  rw [HC.out]
  rintro e w3 ⟨rfl, hn⟩
  have D3 := Lib.hid (D2.out.ref hn)
  clear hn
  go_wp2_with (fail)
  cases hd : x'.down
  · obtain ⟨Al, r1, r2, r3⟩ := read_of D3.out.rf hd
    have R1 := Lib.hid r1
    have R2 := Lib.hid r2
    have R3 := Lib.hid r3
    clear r1 r2 r3 hd
    refine (st_read D3.out.st R1.out).mono ?_
    rw [mk_data]
    rintro e w4 ⟨rfl, F4, s4, hF4, k4⟩
    have S4 := Lib.hid s4
    have c0 := (World.cell?_of_block (a := ⟨r, 0, none⟩) (k4.block r D3.out.rf.lt D3.out.out)).trans R2.out
    have c4 := (World.cell?_of_block (a := ⟨r, 4, none⟩) (k4.block r D3.out.rf.lt D3.out.out)).trans R3.out
    have rf4 := Lib.hid (D3.out.rf.kept k4 D3.out.out)
    have out4 := Lib.hid (show ¬ F4 r from fun h => (hF4 r h).elim D3.out.out (fun hl => by have := D3.out.rf.lt; omega))
    clear s4 hF4 k4
    go_wp2
    go_ret
    exact ⟨rfl, F4, x', S4.out, rf4.out, out4.out, (by have := restart_size x; rw [HC.out] at this; omega)⟩
  · obtain ⟨r1, r3⟩ := down_of D3.out.rf hd
    have R1 := Lib.hid r1
    have R3 := Lib.hid r3
    clear r1 r3 hd
    refine (st_read D3.out.st R1.out).mono ?_
    rintro e w4 ⟨rfl, F4, s4, hF4, k4⟩
    have S4 := Lib.hid s4
    have c4 := (World.cell?_of_block (a := ⟨r, 4, none⟩) (k4.block r D3.out.rf.lt D3.out.out)).trans R3.out
    have rf4 := Lib.hid (D3.out.rf.kept k4 D3.out.out)
    have out4 := Lib.hid (show ¬ F4 r from fun h => (hF4 r h).elim D3.out.out (fun hl => by have := D3.out.rf.lt; omega))
    clear s4 hF4 k4
    go_wp2
    go_ret
    exact ⟨rfl, F4, x', S4.out, rf4.out, out4.out, (by have := restart_size x; rw [HC.out] at this; omega)⟩

set_option maxHeartbeats 3200000 in
theorem step_0 (w0 w : World) (p r : Nat) (F : Nat → Prop) (x : FD) (kd n kp : Int) (d : ByteArray) (hk1 : (kd == 1) = false) (hk2 : (kd == 2) = false) (hk3 : (kd == 3) = false) (hk4 : (kd == 4) = false) (hk5 : (kd == 5) = false) (hs : St w0 w p F x) (hr : RefAt w r x) (ho : ¬ F r) (hb : w0.heap.size ≤ r) (hz : x.size + d.size ≤ 100000) :
    Calls Try.prog 14 #[.pointer (some ⟨p, 0, none⟩), .pointer (some ⟨r, 0, none⟩), .agg #[.int .i64 kd, .int .i64 n, .int .i64 kp, .string d]] w fun e w' => e = .returned (.bool true) ∧ After w0 w' p r (x.size + d.size) := by
  obtain ⟨B, hB⟩ : ∃ B, w.heap.size = B := ⟨_, rfl⟩
  have D1 : Hid (Duo w0 (w.alloc (.cells #[.int .i64 kd, .int .i64 n, .int .i64 kp, .string d] 39)) p F r B #[.int .i64 kd, .int .i64 n, .int .i64 kp, .string d] x x) := by
    refine Lib.hid ?_
    have hk := (Kept.refl w (fun _ => False)).alloc (.cells #[.int .i64 kd, .int .i64 n, .int .i64 kp, .string d] 39)
    subst hB
    exact ⟨⟨hs.1.kept hk (fun _ _ h => h), hs.2.1.trans (hk.below (fun _ h => h.elim) hs.2.1.size), hs.2.2⟩, hr.kept hk (fun h => h), ho, hb, heap_alloc_new w _, fun h => by have := hs.1.lt _ h; omega, by have := hr.lt; omega⟩
  have RM := Lib.hid (show Room { x with loose := x.loose ++ d.data.toList } by unfold Room; unfold FD.size at hz; simp only [List.length_append, len_data]; omega)
  have HR := Lib.hid hs.2.2.2
  have HG := Lib.hid hs.2.2.1
  have _tt := trivial
  have hc0 := cellOf (j := 0) D1.out.blk
  simp at hc0
  clear hs hr ho hb hz
  go_enter Try.func14, Try.ntmps14
  go_wp2_with (fail)
  have D3 := D1
  cases hd : x.down
  · obtain ⟨Al, r1, r2, r3⟩ := read_of D3.out.rf hd
    have R1 := Lib.hid r1
    have R2 := Lib.hid r2
    have R3 := Lib.hid r3
    clear r1 r2 r3 hd
    refine (st_read D3.out.st R1.out).mono ?_
    rw [mk_data]
    rintro e w4 ⟨rfl, F4, s4, hF4, k4⟩
    have S4 := Lib.hid s4
    have c0 := (World.cell?_of_block (a := ⟨r, 0, none⟩) (k4.block r D3.out.rf.lt D3.out.out)).trans R2.out
    have c4 := (World.cell?_of_block (a := ⟨r, 4, none⟩) (k4.block r D3.out.rf.lt D3.out.out)).trans R3.out
    have rf4 := Lib.hid (D3.out.rf.kept k4 D3.out.out)
    have out4 := Lib.hid (show ¬ F4 r from fun h => (hF4 r h).elim D3.out.out (fun hl => by have := D3.out.rf.lt; omega))
    clear s4 hF4 k4
    go_wp2
    go_ret
    exact ⟨rfl, F4, x, S4.out, rf4.out, out4.out, (by omega)⟩
  · obtain ⟨r1, r3⟩ := down_of D3.out.rf hd
    have R1 := Lib.hid r1
    have R3 := Lib.hid r3
    clear r1 r3 hd
    refine (st_read D3.out.st R1.out).mono ?_
    rintro e w4 ⟨rfl, F4, s4, hF4, k4⟩
    have S4 := Lib.hid s4
    have c4 := (World.cell?_of_block (a := ⟨r, 4, none⟩) (k4.block r D3.out.rf.lt D3.out.out)).trans R3.out
    have rf4 := Lib.hid (D3.out.rf.kept k4 D3.out.out)
    have out4 := Lib.hid (show ¬ F4 r from fun h => (hF4 r h).elim D3.out.out (fun hl => by have := D3.out.rf.lt; omega))
    clear s4 hF4 k4
    go_wp2
    go_ret
    exact ⟨rfl, F4, x, S4.out, rf4.out, out4.out, (by omega)⟩

theorem step_any (w0 w : World) (p r : Nat) (F : Nat → Prop) (x : FD) (kd n kp : Int) (d : ByteArray) (hs : St w0 w p F x) (hr : RefAt w r x) (ho : ¬ F r) (hb : w0.heap.size ≤ r) (hz : x.size + d.size ≤ 100000) :
    Calls Try.prog 14 #[.pointer (some ⟨p, 0, none⟩), .pointer (some ⟨r, 0, none⟩), .agg #[.int .i64 kd, .int .i64 n, .int .i64 kp, .string d]] w fun e w' => e = .returned (.bool true) ∧ After w0 w' p r (x.size + d.size) := by
  by_cases h1 : kd = 1
  · subst h1; exact step_1 w0 w p r F x 0 n kp d hs hr ho hb hz
  by_cases h2 : kd = 2
  · subst h2; exact step_2 w0 w p r F x 0 n kp d hs hr ho hb hz
  by_cases h3 : kd = 3
  · subst h3; exact step_3 w0 w p r F x 0 n kp d hs hr ho hb hz
  by_cases h4 : kd = 4
  · subst h4; exact step_4 w0 w p r F x 0 n kp d hs hr ho hb hz
  by_cases h5 : kd = 5
  · subst h5; exact step_5 w0 w p r F x 0 n kp d hs hr ho hb hz
  exact step_0 w0 w p r F x kd n kp d (by simpa using h1) (by simpa using h2) (by simpa using h3) (by simpa using h4) (by simpa using h5) hs hr ho hb hz

/-- An operation of the script, as it lies in memory. -/
structure OpD where
  kd : Int
  n : Int
  kp : Int
  d : ByteArray
/-- The script that came in: at 'A', so many operations, four cells each. -/
structure OpsIn (w : World) (A : Option Addr) (n : Nat) (os : List OpD) : Prop where
  len : n = os.length
  max : n ≤ maxLen
  cell : 0 < n → ∃ b off, A = some ⟨b, off, none⟩ ∧ b < w.heap.size ∧ ∀ k o, os[k]? = some o → w.cell? ⟨b, off + k * 4, none⟩ = some (.int .i64 o.kd) ∧ w.cell? ⟨b, off + k * 4 + 1, none⟩ = some (.int .i64 o.n) ∧ w.cell? ⟨b, off + k * 4 + 2, none⟩ = some (.int .i64 o.kp) ∧ w.cell? ⟨b, off + k * 4 + 3, none⟩ = some (.string o.d)

/-- At the head of a round. -/
structure PlayRel (w0 : World) (p r n : Nat) (nv iv : Value) (wr : World) : Prop where
  it : ∃ (k m : Nat) (F : Nat → Prop) (x : FD), k ≤ n ∧ iv = .int .i64 k ∧ nv = .int .i64 m ∧ m ≤ 100000 ∧ x.size ≤ m ∧ St w0 wr p F x ∧ RefAt wr r x ∧ ¬ F r

set_option maxHeartbeats 3200000 in
set_option maxRecDepth 100000 in
theorem plays_any (A : Option Addr) (n c : Nat) (os : List OpD) (w : World) (hr : OpsIn w A n os) (hz : ∀ o ∈ os, o.d.size ≤ 140737488351232) :
    Calls Try.prog 5 #[.slice A n c] w fun e w' => e = .returned (.bool true) ∧ Below w.heap.size w w' := by
  have hn := hr.max
  unfold maxLen at hn
  have HS := Lib.hid hz
  clear hz
  obtain ⟨w0, hw0⟩ : ∃ w0 : World, w0 = w := ⟨_, rfl⟩
  have B0 : Hid (Below w0.heap.size w0 w) := by rw [← hw0]; exact Lib.hid (Below.refl w0.heap.size w0)
  have HR : Hid (OpsIn w0 A n os) := by rw [hw0]; exact Lib.hid hr
  suffices h : Calls Try.prog 5 #[.slice A n c] w fun e w' => e = .returned (.bool true) ∧ Below w0.heap.size w0 w' by
    rw [hw0] at h; exact h
  clear hw0 hr
  go_enter Try.func5, Try.ntmps5
  go_wp2_with (go_at_call 7; refine (anchor_any _).mono ?_; rintro e w1 ⟨rfl, hb1⟩; have HB := Lib.hid hb1; clear hb1)
  refine (st_new (B0.out.trans (HB.out.mono B0.out.size))).mono ?_
  rintro e w2 ⟨rfl, h, _⟩
  have H1 := Lib.hid h
  obtain ⟨p, hp⟩ : ∃ p, w1.heap.size = p := ⟨_, rfl⟩
  rw [hp] at H1
  rw [hp]
  clear h hp
  obtain ⟨r, hrr⟩ : ∃ r, w2.heap.size = r := ⟨_, rfl⟩
  go_wp2
  have D0 : Hid (St w0 (w2.alloc (.cells #[.string ⟨#[]⟩, .int .i64 0, .int .i64 0, .int .i64 0, .bool false] 37)) p (fun k => k = p) FD.new ∧ RefAt (w2.alloc (.cells #[.string ⟨#[]⟩, .int .i64 0, .int .i64 0, .int .i64 0, .bool false] 37)) r FD.new ∧ ¬ (fun k => k = p) r ∧ w0.heap.size ≤ r) := by
    refine Lib.hid ?_
    have hk := (Kept.refl w2 (fun _ => False)).alloc (.cells #[.string ⟨#[]⟩, .int .i64 0, .int .i64 0, .int .i64 0, .bool false] 37)
    have hs := H1.out
    refine ⟨⟨hs.1.kept hk (fun _ _ h => h), hs.2.1.trans (hk.below (fun _ h => h.elim) hs.2.1.size), hs.2.2⟩, ⟨⟨#[]⟩, rfl, fun _ => rfl, by rw [← hrr]; exact heap_alloc_new w2 _⟩, fun h => ?_, by rw [← hrr]; exact hs.2.1.size⟩
    have := hs.1.lt p hs.1.own
    have h' : r = p := h
    omega
  clear hrr
  go_loopw [5, 17] (fun nv iv wr => PlayRel w0 p r n nv iv wr) (fun _ iv _ => n - (intOf iv).toNat)
  case atStart => exact ⟨⟨0, 0, _, FD.new, Nat.zero_le _, rfl, rfl, Nat.zero_le _, Nat.zero_le _, D0.out.1, D0.out.2.1, D0.out.2.2.1⟩⟩
  case round =>
    obtain ⟨⟨k, m, F, x, hk, rfl, rfl, hm, hx, hst, hrf, hout⟩⟩ := hrel
    have HST := Lib.hid hst
    have HRF := Lib.hid hrf
    have HO := Lib.hid hout
    have HX := Lib.hid hx
    clear hst hrf hout hx
    by_cases hlt : k < n
    · obtain ⟨b, off, rfl, hb, hc⟩ := HR.out.cell (by omega)
      have hlen' : k < os.length := by have := HR.out.len; omega
      obtain ⟨o, hs⟩ : ∃ o, o = os[k] := ⟨_, rfl⟩
      obtain ⟨e0, e1, e2, e3⟩ := hc k o (by rw [hs]; exact List.getElem?_eq_getElem hlen')
      have g0 := (HST.out.2.1.cell (p := ⟨b, off + k * 4, none⟩) hb).trans e0
      have g1 := (HST.out.2.1.cell (p := ⟨b, off + k * 4 + 1, none⟩) hb).trans e1
      have g2 := (HST.out.2.1.cell (p := ⟨b, off + k * 4 + 2, none⟩) hb).trans e2
      have g3 := (HST.out.2.1.cell (p := ⟨b, off + k * 4 + 3, none⟩) hb).trans e3
      have hsz : o.d.size ≤ 140737488351232 := by rw [hs]; exact HS.out os[k] (List.getElem_mem hlen')
      obtain ⟨kd, on, kp, d⟩ := o
      simp only at g0 g1 g2 g3 hsz
      clear hb hc hs e0 e1 e2 e3
      have hkept := (Kept.refl wr (fun _ => False)).alloc (.cells #[.int .i64 kd, .int .i64 on, .int .i64 kp, .string d] 39)
      have S1 : Hid (St w0 (wr.alloc (.cells #[.int .i64 kd, .int .i64 on, .int .i64 kp, .string d] 39)) p F x) :=
        Lib.hid ⟨HST.out.1.kept hkept (fun _ _ h => h), HST.out.2.1.trans (hkept.below (fun _ h => h.elim) HST.out.2.1.size), HST.out.2.2⟩
      have R1 := Lib.hid (HRF.out.kept hkept (fun h => h))
      clear hkept
      by_cases hk1 : 1000 ≤ k
      · have q5 : (1000 : Int) ≤ k := by omega
        go_wp2
        go_ret
        exact ⟨rfl, S1.out.2.1⟩
      have q5 : ¬ (1000 : Int) ≤ k := by omega
      by_cases hk2 : 100000 < m + d.size
      · have q6 : (100000 : Int) < (m : Int) + d.size := by omega
        go_wp2
        go_ret
        exact ⟨rfl, S1.out.2.1⟩
      have q6 : ¬ (100000 : Int) < (m : Int) + d.size := by omega
      have HZ := Lib.hid (show x.size + d.size ≤ 100000 by have := HX.out; omega)
      go_wp2_with (go_at_call 14; refine (step_any w0 _ p r F x kd on kp d S1.out R1.out HO.out D0.out.2.2.2 HZ.out).mono ?_; rintro e w4 ⟨rfl, ha⟩; have HA := Lib.hid ha; clear ha)
      obtain ⟨F', x', a1, a2, a3, a4⟩ := HA.out
      go_roundw
      case rel => exact ⟨⟨k + 1, m + d.size, F', x', by omega, by go_num, by go_num, by omega, by have := HX.out; omega, a1, a2, a3⟩⟩
      case measure => simp [intOf]; omega
    · have q4 : ¬ (k : Int) < n := by omega
      go_wp2
      go_ret
      exact ⟨rfl, HST.out.2.1⟩
end Go.Proofs.Ytjcdbijlpimlhaa.Disk
