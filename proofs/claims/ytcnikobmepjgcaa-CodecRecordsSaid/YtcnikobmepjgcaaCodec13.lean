/-
  Records, written and read, walked.
-/
import Derived.Test.YtcnikobmepjgcaaCodec12
import Derived.Laws.Tables
namespace Go.Proofs.Ytcnikobmepjgcaa.Codec
open Go.RowKit Go.Proofs.YtcnikobmepjgcaaBase Go.Proofs.YtcnikobmepjgcaaLex2 Go.Proofs.YtcnikobmepjgcaaNum
set_option linter.unusedVariables false
set_option linter.unusedSimpArgs false

/-- The parts of a record in a block. -/
structure PartsAt {α : Type} (W : World) (T : TypeId) (N : Nat) (pa : Nat) (ps : List (Prt α)) : Prop where
  lt : pa < W.heap.size
  at_ : ∀ (k : Nat) (p : Prt α), ps[k]? = some p → ∃ u v, W.cell? ⟨pa, k * 2, none⟩ = some u ∧ W.cell? ⟨pa, k * 2 + 1, none⟩ = some v ∧ PPut W T N u p ∧ PGet W T N v p
theorem WriterAt.lt {B q : Nat} {w : World} {F : Nat → Prop} {s : WS} (h : WriterAt B w q F s) : ∀ k, F k → k < w.heap.size := by
  obtain ⟨sv, hb, hp, hbs, hs, hF⟩ := h
  intro k hk
  rcases (hF k).1 hk with rfl | h
  · exact blk_lt hb
  · exact (hs.lt k h).2
theorem WriterAt.alloc {B q : Nat} {w : World} {F : Nat → Prop} {s : WS} (h : WriterAt B w q F s) (o : Obj) : WriterAt B (w.alloc o) q F s := by
  obtain ⟨sv, hb, hp, hbs, hs, hF⟩ := h
  exact ⟨sv, (Below.heap_alloc _ _ _ (blk_lt hb)).trans hb, hp, by simp; omega, hs.alloc o, hF⟩
theorem ReaderAt.alloc {q : Nat} {d : ByteArray} {w : World} {s : RS} (h : ReaderAt w q d s) (o : Obj) : ReaderAt (w.alloc o) q d s := by
  obtain ⟨a, hb, h1, h2⟩ := h
  exact ⟨a, (Below.heap_alloc _ _ _ (blk_lt hb)).trans hb, h1, h2⟩

set_option maxHeartbeats 3200000 in
set_option maxRecDepth 100000 in
theorem rec_put_thing {α : Type} (ps : List (Prt α)) (N : Nat) (hf : ∀ p ∈ ps, Fair p.c) (x0 : α) (W : World) (pb pa : Nat) (T' : TypeId) (hN : (Try.prog.info? 103).map (·.size) = some N) (hlen : ps.length ≤ 1000) (hpa : PartsAt W 103 N pa ps) (hpb : W.heap[pb]? = some (.cells #[.slice (some ⟨pa, 0, none⟩) ps.length ps.length] T' (0, 0))) :
    PutOk W (.func (.func 72) #[] #[.pointer (some ⟨pb, 0, none⟩)]) (recC N ps x0) := by
  refine ⟨_, _, rfl, Proofs.enters_of Try.func72 (by kernel_rfl) rfl, ?_⟩
  rintro B q F s w x v hB hw ⟨cs, rfl, hs, ha, hrep⟩ h hr
  have c0 := cellOf (j := 0) (hw.blk hpb)
  simp at c0
  have hpb2 : pb < w.heap.size := blk_lt (hw.blk hpb)
  have HPA := Lib.hid hpa
  have HF := Lib.hid hf
  have HW := Lib.hid hw
  have HREP := Lib.hid hrep
  have HS := Lib.hid hs
  have HR := Lib.hid hr
  have HBB := Lib.hid hB
  have HLEN := Lib.hid hlen
  have HWA := Lib.hid h
  clear hpa hf hw hrep hs ha hr hB hlen h hpb hN
  show Calls Try.prog _ #[.pointer (some ⟨q, 0, none⟩), .agg cs, .pointer (some ⟨pb, 0, none⟩)] w _
  go_enter Try.func72, Try.ntmps72
  go_wp2
  have hb0 : ¬ F w.heap.size := fun hf => Nat.lt_irrefl _ (HWA.out.lt _ hf)
  have hk1 : Kept w (w.alloc (.cells cs 103)) (fun _ => False) := (Kept.refl _ _).alloc _
  have hba := heap_alloc_new w (.cells cs 103)
  have hwa := HWA.out.alloc (.cells cs 103)
  have hsz : (w.alloc (.cells cs 103)).heap.size = w.heap.size + 1 := by simp
  obtain ⟨w1, hw1⟩ : ∃ w1, w.alloc (.cells cs 103) = w1 := ⟨_, rfl⟩
  rw [hw1] at hk1 hba hwa hsz ⊢
  have HB0 := Lib.hid hb0
  have HK1 := Lib.hid hk1
  have HBA := Lib.hid hba
  have HWA1 := Lib.hid hwa
  have HSZ := Lib.hid hsz
  clear hb0 hk1 hba hwa hsz hw1 c0
  go_loopw [9] (fun iv wr => ∃ k : Nat, k ≤ ps.length ∧ iv = .int .i64 k ∧ WMoved B w1 wr q F (putP (ps.take k) x s)) (fun iv _ => (ps.length - intOf iv).toNat)
  case atStart => exact ⟨0, Nat.zero_le _, rfl, WMoved.refl HWA1.out⟩
  case round =>
    obtain ⟨k, hk, rfl, hm⟩ := hrel
    by_cases hlast : k = ps.length
    · subst hlast
      rw [List.take_length] at hm
      have HM := Lib.hid hm
      clear hm
      go_wp2
      go_end0
      obtain ⟨F1, h1, h2, h3⟩ := HM.out
      exact ⟨rfl, F1, h1, fun k hk => (h2 k hk).elim .inl (fun h => .inr (Nat.le_trans HK1.out.size h)), (HK1.out.mono (fun _ h => h.elim)).trans h3 (fun k h => .inl h)⟩
    · have hkl : k < ps.length := by omega
      have hl1 := HLEN.out
      have q1 : (k : Int) < ps.length := by omega
      have q2 : (0 : Int) ≤ k := by omega
      obtain ⟨p, hp⟩ : ∃ p, ps[k]? = some p := ⟨_, List.getElem?_eq_getElem hkl⟩
      have hpm : p ∈ ps := List.mem_of_getElem? hp
      obtain ⟨F1, hf1, hF1, hk2⟩ := hm
      have hFB : ∀ j, j < B → ¬ F j := fun j hj hf => by have := HWA.out.base_le j hf; omega
      have hk3 : Kept w wr F := (HK1.out.mono (fun _ h => h.elim)).trans hk2 (fun k h => .inl h)
      have hsm : Same W wr := HW.out.kept hk3 (fun j hj => Nat.le_trans HBB.out (HWA.out.base_le j hj))
      obtain ⟨u, v, hu, hv, hpp, hpg⟩ := HPA.out.at_ k p hp
      have hc1 : wr.cell? ⟨pa, k * 2, none⟩ = some u := by rw [← hu]; simp only [World.cell?, hsm.2 pa HPA.out.lt]
      have hc2 : wr.cell? ⟨pa, k * 2 + 1, none⟩ = some v := by rw [← hv]; simp only [World.cell?, hsm.2 pa HPA.out.lt]
      obtain ⟨f, caps, rfl, he, hpp⟩ := hpp
      obtain ⟨g, caps', rfl, he', _⟩ := hpg
      unfold Proofs.Enters at he
      have room : WRoom (putP (ps.take k) x s) (p.c.cost (p.fld x)) := by
        unfold WRoom
        have h1 := putP_len (ps := ps.take k) (fun p hp => HF.out p (List.mem_of_mem_take hp)) x s
        have h3 := costP_take hp x
        have h4 := HR.out
        unfold WRoom at h4
        show _
        have h5 : (recC N ps x0).cost x = costP ps x := rfl
        omega
      have hrr : p.c.rep (fun k => k < B) wr (p.fld x) (p.rd cs) := (HF.out p hpm).keep (HREP.out p hpm) (fun j hj hjB => hk3.block j hj (hFB j hjB))
      have ka := (Kept.refl wr (fun _ => False)).alloc (.cells #[.func (.func f) #[] caps, .func (.func g) #[] caps'] 112)
      have P2 := Lib.hid (hpp B q F1 _ (wr.alloc (.cells #[.func (.func f) #[] caps, .func (.func g) #[] caps'] 112)) w.heap.size cs x HBB.out (hsm.kept ka (fun _ h => h.elim))
        ((ka.blk (hk2.blk HBA.out HB0.out) (fun h => h))) HS.out ((HF.out p hpm).keep hrr (fun j hj _ => ka.block j hj (fun h => h))) (hf1.alloc _) room)
      have E2 := Lib.hid (putP_take hp x s)
      have H5 := Lib.hid hF1
      have H6 := Lib.hid (hk2.alloc (.cells #[.func (.func f) #[] caps, .func (.func g) #[] caps'] 112))
      clear hf1 hF1 hk2 hk3 hsm hFB hrr room hp hpp hpm ka hu hv hlast
      go_wp2_with (fail)
      refine P2.out.mono ?_
      rintro e w2 ⟨rfl, hm2⟩
      have HM3 := Lib.hid hm2
      clear hm2
      go_wp2
      go_roundw
      case rel =>
        refine ⟨k + 1, by omega, by go_num, ?_⟩
        rw [E2.out]
        exact WMoved.trans H5.out H6.out HM3.out
      case measure => simp [intOf]; omega

/-- What the loop has read. -/
def RecRel {α : Type} (ps : List (Prt α)) (T : TypeId) (N : Nat) (x0 : α) (q b : Nat) (d : ByteArray) (s : RS) (w1 : World) (iv : Value) (wr : World) : Prop :=
  ∃ (k : Nat) (cs : Array Value), k ≤ ps.length ∧ iv = .int .i64 k ∧ wr.heap[b]? = some (.cells cs T (0, 0)) ∧ cs.size = N ∧ cs.all (·.oneCell') = true ∧ ReaderAt wr q d (getP (ps.take k) (x0, s)).2 ∧ Kept w1 wr (fun j => j = q ∨ j = b) ∧
    ∀ p ∈ ps.take k, p.c.rep (fun j => w1.heap.size ≤ j ∧ j < wr.heap.size) wr (p.fld (getP (ps.take k) (x0, s)).1) (p.rd cs)
theorem recRel_step {α : Type} {ps : List (Prt α)} {T : TypeId} {N : Nat} {x0 : α} {q b : Nat} {d : ByteArray} {s : RS} {w1 wr w2 w3 : World} {k : Nat} {cs : Array Value} {p : Prt α} {v : Value} (hf : ∀ p ∈ ps, PFair N p) (hoff : ps.Pairwise (fun p p' => Off N p p')) (hp : ps[k]? = some p)
    (hq : q < w1.heap.size) (hb : b < w1.heap.size) (hs : cs.size = N) (ha : cs.all (·.oneCell') = true) (hk : Kept w1 wr (fun j => j = q ∨ j = b)) (hreps : ∀ p ∈ ps.take k, p.c.rep (fun j => w1.heap.size ≤ j ∧ j < wr.heap.size) wr (p.fld (getP (ps.take k) (x0, s)).1) (p.rd cs))
    (ka : Kept wr w2 (fun _ => False)) (hr : ReaderAt w3 q d (p.c.get (getP (ps.take k) (x0, s)).2).2) (h3 : Kept w2 w3 (fun j => j = q ∨ j = b)) (hb3 : w3.heap[b]? = some (.cells (p.wr cs v) T (0, 0))) (hv : p.c.rep (fun j => w2.heap.size ≤ j ∧ j < w3.heap.size) w3 (p.c.get (getP (ps.take k) (x0, s)).2).1 v) :
    RecRel ps T N x0 q b d s w1 (.int .i64 ((k : Int) + 1)) w3 := by
  have hkl : k < ps.length := (List.getElem?_eq_some_iff.1 hp).1
  have hpm : p ∈ ps := List.mem_of_getElem? hp
  have hfp := hf p hpm
  have e := getP_take hp (x0, s)
  have s1 := hk.size
  have s2 := ka.size
  have s3 := h3.size
  have k3 : Kept wr w3 (fun j => j = q ∨ j = b) := (ka.mono (fun _ h => h.elim)).trans h3 (fun k h => .inl h)
  refine ⟨k + 1, p.wr cs v, by omega, by simp, hb3, hfp.size hv hs, hfp.all hv hs ha, by rw [e]; exact hr, hk.trans k3 (fun k h => .inl h), ?_⟩
  intro p' hp'
  rw [e]
  simp only
  rw [List.take_add_one, hp] at hp'
  rcases List.mem_append.1 hp' with hp' | hp'
  · have ho : Off N p' p := by
      obtain ⟨i, hi, hie⟩ := List.mem_iff_getElem.1 hp'
      rw [List.length_take] at hi
      rw [List.getElem_take] at hie
      have := List.pairwise_iff_getElem.1 hoff i k (by omega) hkl (by omega)
      rw [hie, (List.getElem?_eq_some_iff.1 hp).2] at this
      exact this
    rw [ho.rd hv hs, ho.fld]
    refine (hf p' (List.mem_of_mem_take hp')).fair.mono (fun j hj => ⟨hj.1, by omega⟩) ((hf p' (List.mem_of_mem_take hp')).fair.keep (hreps p' hp') (fun j h1 h2 => k3.block j h1 ?_))
    rintro (rfl | rfl) <;> omega
  · simp only [Option.toList_some, List.mem_singleton] at hp'
    subst hp'
    rw [hfp.rdwr hv hs, hfp.fldset]
    exact hfp.fair.mono (fun j hj => ⟨by omega, hj.2⟩) hv

set_option maxHeartbeats 3200000 in
set_option maxRecDepth 100000 in
theorem rec_get_thing {α : Type} (ps : List (Prt α)) (hf : ∀ p ∈ ps, PFair 4 p) (hoff : ps.Pairwise (fun p p' => Off 4 p p')) (x0 : α) (W : World) (pb pa : Nat) (T' : TypeId) (hlen : ps.length ≤ 1000) (hpa : PartsAt W 103 4 pa ps) (hpb : W.heap[pb]? = some (.cells #[.slice (some ⟨pa, 0, none⟩) ps.length ps.length] T' (0, 0))) :
    GetOk W (.func (.func 73) #[] #[.pointer (some ⟨pb, 0, none⟩)]) (recC 4 ps x0) := by
  refine ⟨_, _, rfl, Proofs.enters_of Try.func73 (by kernel_rfl) rfl, ?_⟩
  intro q d s w hq hw h hd
  have c0 := cellOf (j := 0) (hw.blk hpb)
  simp at c0
  have hpb2 : pb < w.heap.size := blk_lt (hw.blk hpb)
  have hql : q < w.heap.size := by obtain ⟨a, hb, _⟩ := h; exact blk_lt hb
  have HPA := Lib.hid hpa
  have HF := Lib.hid hf
  have HOFF := Lib.hid hoff
  have HW := Lib.hid hw
  have HQ := Lib.hid hq
  have HLEN := Lib.hid hlen
  have HD := Lib.hid hd
  have HR := Lib.hid h
  clear hpa hf hoff hw hq hlen hd h hpb
  show Calls Try.prog _ #[.pointer (some ⟨q, 0, none⟩), .pointer (some ⟨pb, 0, none⟩)] w _
  go_enter Try.func73, Try.ntmps73
  go_wp2
  have hk1 : Kept w ((w.alloc (.cells #[.int .i64 0, .string ⟨#[]⟩, .slice none 0 0, .bool false] 103)).alloc (.cells #[.int .i64 0, .string ⟨#[]⟩, .slice none 0 0, .bool false] 103)) (fun _ => False) := ((Kept.refl _ _).alloc _).alloc _
  have hb4 : ((w.alloc (.cells #[.int .i64 0, .string ⟨#[]⟩, .slice none 0 0, .bool false] 103)).alloc (.cells #[.int .i64 0, .string ⟨#[]⟩, .slice none 0 0, .bool false] 103)).heap[w.heap.size + 1]? = some (.cells #[.int .i64 0, .string ⟨#[]⟩, .slice none 0 0, .bool false] 103 (0, 0)) := heap_alloc2_new _ _ _
  have hb3 : ((w.alloc (.cells #[.int .i64 0, .string ⟨#[]⟩, .slice none 0 0, .bool false] 103)).alloc (.cells #[.int .i64 0, .string ⟨#[]⟩, .slice none 0 0, .bool false] 103)).heap[w.heap.size]? = some (.cells #[.int .i64 0, .string ⟨#[]⟩, .slice none 0 0, .bool false] 103 (0, 0)) := heap_alloc2_old _ _ _
  have hr1 : ReaderAt ((w.alloc (.cells #[.int .i64 0, .string ⟨#[]⟩, .slice none 0 0, .bool false] 103)).alloc (.cells #[.int .i64 0, .string ⟨#[]⟩, .slice none 0 0, .bool false] 103)) q d s := (HR.out.alloc _).alloc _
  have hsz : ((w.alloc (.cells #[.int .i64 0, .string ⟨#[]⟩, .slice none 0 0, .bool false] 103)).alloc (.cells #[.int .i64 0, .string ⟨#[]⟩, .slice none 0 0, .bool false] 103)).heap.size = w.heap.size + 2 := by simp
  obtain ⟨w1, hw1⟩ : ∃ w1, ((w.alloc (.cells #[.int .i64 0, .string ⟨#[]⟩, .slice none 0 0, .bool false] 103)).alloc (.cells #[.int .i64 0, .string ⟨#[]⟩, .slice none 0 0, .bool false] 103)) = w1 := ⟨_, rfl⟩
  rw [hw1] at hk1 hb4 hb3 hr1 hsz ⊢
  have HK1 := Lib.hid hk1
  have HB4 := Lib.hid hb4
  have HB3 := Lib.hid hb3
  have HR1 := Lib.hid hr1
  have HSZ := Lib.hid hsz
  clear hk1 hb4 hb3 hr1 hsz hw1 c0
  go_loopw [9] (fun iv wr => RecRel ps 103 4 x0 q (w.heap.size + 1) d s w1 iv wr) (fun iv _ => (ps.length - intOf iv).toNat)
  case atStart => exact ⟨0, _, Nat.zero_le _, rfl, HB4.out, rfl, by simp [Value.oneCell'], HR1.out, Kept.refl _ _, fun p hp => by simp at hp⟩
  case round =>
    obtain ⟨k, cs, hk, rfl, hb, hs, ha, hrd, hkp, hreps⟩ := hrel
    have hl1 := HLEN.out
    by_cases hlast : k = ps.length
    · subst hlast
      rw [List.take_length] at hrd hreps
      have HB := Lib.hid hb
      have HS := Lib.hid hs
      have HA := Lib.hid ha
      have HRD := Lib.hid hrd
      have HKP := Lib.hid hkp
      have HREPS := Lib.hid hreps
      have hsz := HSZ.out
      have HZ3 := Lib.hid (hkp.blk HB3.out (by rintro (h | h) <;> omega))
      have HI := Lib.hid (show (Try.prog.info? 103).map (·.size) = some cs.size by rw [hs]; kernel_rfl)
      clear hb hs ha hrd hkp hreps hsz
      go_wp2_with (first | refine wpList_load_row rfl 103 (.tmp 4) rfl (w.heap.size + 1) rfl _ cs _ _ HB.out Try.underlying103 rfl HI.out ?_ | refine wpList_store_row rfl 103 (.tmp 3) (.tmp 18) rfl w.heap.size cs rfl rfl _ _ HZ3.out HI.out (by rw [HS.out]; rfl) HA.out ?_)
      have hsr := setRow_heap wr w.heap.size _ cs 103 (0, 0) HZ3.out
      refine bodyPost_ret (results_cell_row rfl _ _ _ _ _ _ _ rfl hsr Try.underlying103 rfl HI.out) rfl ?_
      have kr : Kept wr (wr.setRow w.heap.size cs) (fun j => j = w.heap.size) := ⟨rfl, rfl, rfl, by simp, fun j _ hj => setRow_other wr w.heap.size j cs hj⟩
      have hsz := HSZ.out
      refine ⟨_, rfl, ⟨?_, ?_⟩, cs, rfl, HS.out, HA.out, fun p hp => ?_⟩
      · obtain ⟨a, h1, h2, h3⟩ := HRD.out
        exact ⟨a, kr.blk h1 (by omega), h2, h3⟩
      · have k1 : Kept w wr (fun j => j = q) := (HK1.out.mono (fun _ h => h.elim)).trans HKP.out (fun k h => h.elim .inl (fun h => .inr (by omega)))
        exact k1.trans kr (fun k h => .inr (by omega))
      · refine (HF.out p hp).fair.mono ?_ ((HF.out p hp).fair.keep (HREPS.out p hp) ?_)
        · intro j hj
          exact ⟨by omega, by simpa using hj.2⟩
        · intro j h1 h2
          exact kr.block j h1 (by omega)
    · have hkl : k < ps.length := by omega
      have q1 : (k : Int) < ps.length := by omega
      have q2 : (0 : Int) ≤ k := by omega
      obtain ⟨p, hp⟩ : ∃ p, ps[k]? = some p := ⟨_, List.getElem?_eq_getElem hkl⟩
      have hsz := HSZ.out
      have hsm : Same W wr := by
        refine ⟨Nat.le_trans HW.out.1 (Nat.le_trans HK1.out.size hkp.size), fun j hj => ?_⟩
        have hj2 : j < w.heap.size := Nat.lt_of_lt_of_le hj HW.out.1
        rw [hkp.block j (by omega) (by have := HQ.out; rintro (rfl | rfl) <;> omega), HK1.out.block j hj2 (fun h => h)]
        exact HW.out.2 j hj
      obtain ⟨u, v, hu, hv, hpp, hpg⟩ := HPA.out.at_ k p hp
      have hc1 : wr.cell? ⟨pa, k * 2, none⟩ = some u := by rw [← hu]; simp only [World.cell?, hsm.2 pa HPA.out.lt]
      have hc2 : wr.cell? ⟨pa, k * 2 + 1, none⟩ = some v := by rw [← hv]; simp only [World.cell?, hsm.2 pa HPA.out.lt]
      obtain ⟨f, caps, rfl, he, _⟩ := hpp
      obtain ⟨g, caps', rfl, he', hpg⟩ := hpg
      unfold Proofs.Enters at he'
      have hpz := HPA.out.lt
      have hW0 := HW.out.1
      have ka := (Kept.refl wr (fun _ => False)).alloc (.cells #[.func (.func f) #[] caps, .func (.func g) #[] caps'] 112)
      have P2 := Lib.hid (hpg q d _ (wr.alloc (.cells #[.func (.func f) #[] caps, .func (.func g) #[] caps'] 112)) (w.heap.size + 1) cs HQ.out (by omega) (by omega) (hsm.kept ka (fun _ h => h.elim)) (ka.blk hb (fun h => h)) hs (hrd.alloc _) HD.out)
      have HP := Lib.hid hp
      have HS := Lib.hid hs
      have HA := Lib.hid ha
      have HKP := Lib.hid hkp
      have HREPS := Lib.hid hreps
      have KA := Lib.hid ka
      clear hb hs ha hrd hkp hreps hsz hsm hp hpg ka hu hv hlast hpz hW0
      go_wp2_with (fail)
      refine P2.out.mono ?_
      rintro e w3 ⟨rfl, v, h1, h2, h3, h4⟩
      have hsz := HSZ.out
      have ST := Lib.hid (recRel_step (x0 := x0) (s := s) HF.out HOFF.out HP.out (by omega) (by omega) HS.out HA.out HKP.out HREPS.out KA.out h1 h2 h3 h4)
      clear h1 h2 h3 h4 hsz
      go_wp2
      go_roundw
      case rel =>
        exact ST.out
      case measure => simp [intOf]; omega

theorem heap_alloc2_fst (w : World) (A B : Obj) : ((w.alloc A).alloc B).heap[w.heap.size]? = some A := heap_alloc2_old w A B
theorem record_thing {α : Type} (ps : List (Prt α)) (hf : ∀ p ∈ ps, PFair 4 p) (hoff : ps.Pairwise (fun p p' => Off 4 p p')) (x0 : α) (pa : Nat) (w : World) (hlen : ps.length ≤ 1000) (hpa : PartsAt w 103 4 pa ps) :
    Calls Try.prog 41 #[.slice (some ⟨pa, 0, none⟩) ps.length ps.length] w fun r w' => ∃ cv, r = .returned cv ∧ IsCodec w' cv (recC 4 ps x0) ∧ Kept w w' (fun _ => False) := by
  have HPA := Lib.hid hpa
  have HF := Lib.hid hf
  have HOFF := Lib.hid hoff
  have HLEN := Lib.hid hlen
  clear hpa hf hoff hlen
  go_enter Try.func41, Try.ntmps41
  go_wp2
  refine bodyPost_ret (results_cell_row rfl _ _ _ _ _ _ _ rfl (heap_alloc2_new _ _ _) Try.underlying107 rfl (by kernel_rfl)) rfl ?_
  have hk : Kept w ((w.alloc (.cells #[.slice (some ⟨pa, 0, none⟩) ps.length ps.length] 135)).alloc (.cells #[.func (.func 72) #[] #[.pointer (some ⟨w.heap.size, 0, none⟩)], .func (.func 73) #[] #[.pointer (some ⟨w.heap.size, 0, none⟩)]] 107)) (fun _ => False) := ((Kept.refl _ _).alloc _).alloc _
  have hs := (Same.refl w).kept hk (fun _ h => h.elim)
  have hpa' : PartsAt ((w.alloc (.cells #[.slice (some ⟨pa, 0, none⟩) ps.length ps.length] 135)).alloc (.cells #[.func (.func 72) #[] #[.pointer (some ⟨w.heap.size, 0, none⟩)], .func (.func 73) #[] #[.pointer (some ⟨w.heap.size, 0, none⟩)]] 107)) 103 4 pa ps := by
    refine ⟨Nat.lt_of_lt_of_le HPA.out.lt hk.size, fun k p hp => ?_⟩
    obtain ⟨u, v, h1, h2, h3, h4⟩ := HPA.out.at_ k p hp
    have hb := hs.2 pa HPA.out.lt
    exact ⟨u, v, by rw [← h1]; simp only [World.cell?, hb], by rw [← h2]; simp only [World.cell?, hb], h3.later hs, h4.later hs⟩
  have hl := HLEN.out
  exact ⟨_, rfl, ⟨_, _, rfl, rec_put_thing ps 4 (fun p hp => (HF.out p hp).fair) x0 _ _ pa _ (by kernel_rfl) hl hpa' (heap_alloc2_fst _ _ _), rec_get_thing ps HF.out HOFF.out x0 _ _ pa _ hl hpa' (heap_alloc2_fst _ _ _)⟩, hk⟩

end Go.Proofs.Ytcnikobmepjgcaa.Codec
